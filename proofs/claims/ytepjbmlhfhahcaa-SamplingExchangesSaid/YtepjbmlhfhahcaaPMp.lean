/- The pure machine: a call, the operation. -/
import Derived.Test.YtepjbmlhfhahcaaPMo
set_option linter.unusedVariables false
set_option linter.unusedSimpArgs false
namespace Go.PM
open Go

variable {P : Program}

section
variable {A : Fr} {E : Env} {l : Loc} {pend : Nat → Prop} {R : Type} {r : R}

theorem locOf_out (objs : List Obj) (lg : Option Log) (k : Nat) : locOf objs lg (OUT + k) = (objs[k]?).getD .dead := by
  simp only [locOf]
  have : Nat.ble OUT (OUT + k) = true := Nat.ble_eq_true_of_le (by omega)
  rw [this]; simp

theorem locOf_low (objs : List Obj) (lg : Option Log) {s : Nat} (h : s < OUT) : locOf objs lg s = .dead := by
  simp only [locOf]
  have : Nat.ble OUT s = false := by
    cases hb : Nat.ble OUT s
    · rfl
    · have := Nat.le_of_ble_eq_true hb; omega
  rw [this]; rfl

theorem locOf_ge {objs : List Obj} {lg : Option Log} {s : Nat} (h : locOf objs lg s ≠ .dead) : ∃ k, s = OUT + k ∧ k < objs.length ∧ objs[k]? = some (locOf objs lg s) := by
  by_cases hs : s < OUT
  · exact absurd (locOf_low objs lg hs) h
  · obtain ⟨k, rfl⟩ : ∃ k, s = OUT + k := ⟨s - OUT, by omega⟩
    rw [locOf_out] at h ⊢
    cases hk : objs[k]? with
    | none => rw [hk] at h; simp at h
    | some o => exact ⟨k, rfl, (List.getElem?_eq_some_iff.1 hk).1, by simp [hk]⟩

theorem nodup_inj : ∀ {ss : List Nat} (_ : ss.Nodup) {i j x : Nat} (_ : ss[i]? = some x) (_ : ss[j]? = some x), i = j
  | [], _, i, j, x, h, _ => by simp at h
  | s :: ss, hn, i, j, x, hi, hj => by
    obtain ⟨h1, h2⟩ := List.nodup_cons.1 hn
    cases i <;> cases j
    · rfl
    · simp at hi hj; subst hi; exact absurd (List.mem_of_getElem? hj) h1
    · simp at hi hj; subst hj; exact absurd (List.mem_of_getElem? hi) h1
    · simp at hi hj; rw [nodup_inj h2 hi hj]

/-- What a callee sees of its caller's objects. -/
def Env.callee (E : Env) (ss : List Nat) : Env :=
  { w := E.w, Pr := E.Pr, rho := fun s => if OUT ≤ s then (ss[s - OUT]?).bind E.rho else none, bs := fun s => if OUT ≤ s then ((ss[s - OUT]?).map E.bs).getD 0 else 0, Y := fun b => b < E.w.heap.size ∧ ∀ s ∈ ss, E.rho s ≠ some b, D := [] }

/-- What a callee's surroundings are. -/
abbrev Env.calleeJ (E : Env) (ss : List Nat) : JT := frJ E.w (E.callee ss).Y

theorem callee_rho {E : Env} {ss : List Nat} {i s : Nat} (h : ss[i]? = some s) : (E.callee ss).rho (OUT + i) = E.rho s := by
  simp [Env.callee, h]
theorem callee_bs {E : Env} {ss : List Nat} {i s : Nat} (h : ss[i]? = some s) : (E.callee ss).bs (OUT + i) = E.bs s := by
  simp [Env.callee, h]
theorem callee_some {E : Env} {ss : List Nat} {s g : Nat} (h : (E.callee ss).rho s = some g) : ∃ i a, s = OUT + i ∧ ss[i]? = some a ∧ E.rho a = some g := by
  simp only [Env.callee] at h
  split at h
  · rename_i hs
    cases ha : ss[s - OUT]? with
    | none => rw [ha] at h; cases h
    | some a => rw [ha] at h; exact ⟨s - OUT, a, by omega, ha, h⟩
  · cases h

theorem ObjOk.ren {E E' : Env} {l l' : Loc} {a s' : Nat} {o : Obj} (hw : E'.w = E.w) (hPr : E'.Pr = E.Pr) (hr : E'.rho s' = E.rho a) (hb : E'.bs s' = E.bs a) (hn : ∃ q, objTC o = some q) (h : ObjOk P E l a o) : ObjOk P E' l' s' o := by
  have hblk : ∀ {g : Nat} {t : TypeId} {cs : List C}, Blk E a g t cs → Blk E' s' g t cs := by
    rintro g t cs ⟨cur, c1, c2, c3, c4⟩
    exact ⟨cur, by rw [hw]; exact c1, c2.trans hb.symm, c3, by rw [hw, hPr]; exact c4⟩
  cases h with
  | dead h => obtain ⟨q, e⟩ := hn; cases e
  | ob h1 h2 h3 => exact .ob (hr.trans h1) (hblk h2) h3
  | sbNil h => exact .sbNil (hr.trans h)
  | sb h1 h2 h3 => exact .sb (hr.trans h1) (hblk h2) h3
  | rf _ _ _ _ _ _ => obtain ⟨q, e⟩ := hn; cases e

theorem good_callee (hG : Good P A E l pend) {ss : List Nat} (hn : ss.Nodup) (hob : ∀ s ∈ ss, ∃ q, objTC (l s) = some q) (hnp : ∀ s ∈ ss, ¬ pend s) (pt : Nat → TypeId) :
    Good P (startFr pt (E.callee ss) (E.calleeJ ss)) (E.callee ss) (locOf (ss.map l) none) (fun _ => False) := by
  have hcases : ∀ s, (locOf (ss.map l) none s = .dead ∧ (E.callee ss).rho s = none) ∨ ∃ i a, s = OUT + i ∧ ss[i]? = some a ∧ locOf (ss.map l) none s = l a := by
    intro s
    by_cases hd : locOf (ss.map l) none s = .dead
    · left
      refine ⟨hd, ?_⟩
      cases hr : (E.callee ss).rho s with
      | none => rfl
      | some g =>
        obtain ⟨i, a, rfl, ha, hg⟩ := callee_some hr
        rw [locOf_out, List.getElem?_map, ha] at hd
        obtain ⟨q, e⟩ := hob a (List.mem_of_getElem? ha)
        have hd' : l a = .dead := by simpa using hd
        rw [hd'] at e; cases e
    · obtain ⟨k, rfl, hk, hk2⟩ := locOf_ge hd
      right
      have hk' : k < ss.length := by simpa using hk
      refine ⟨k, ss[k], rfl, List.getElem?_eq_getElem hk', ?_⟩
      rw [locOf_out, List.getElem?_map, List.getElem?_eq_getElem hk']; rfl
  refine ⟨fun s _ => ?_, fun s h => h.elim, fun a b g ha hb => ?_, fun s g h => .inr ⟨s, h⟩, fun b k hp => ⟨(hG.prot b k hp).1, fun s hs => ?_⟩, ⟨rfl, fun _ h => ⟨h, rfl⟩⟩, .refl _ _, fun b k hp => .inl hp, Nat.le_refl _, rfl, rfl, rfl, frJ_yok _ _, fun s g hs hy => ?_, fun b hb => hb.1, fun r hr => by cases hr⟩
  · rcases hcases s with ⟨h1, h2⟩ | ⟨i, a, rfl, ha, h1⟩
    · rw [h1]; exact .dead h2
    · rw [h1]
      have hm := List.mem_of_getElem? ha
      exact ObjOk.ren (E := E) (E' := E.callee ss) (a := a) (s' := OUT + i) rfl rfl (callee_rho ha) (callee_bs ha) (hob a hm) (hG.obj a (hnp a hm))
  · obtain ⟨i, x, rfl, hx, h1⟩ := callee_some ha
    obtain ⟨j, y, rfl, hy, h2⟩ := callee_some hb
    have hxy := hG.inj x y g h1 h2
    subst hxy
    rw [nodup_inj hn hx hy]
  · obtain ⟨i, a, rfl, ha, h1⟩ := callee_some hs
    rw [locOf_out, List.getElem?_map, ha]
    exact (hG.prot b k hp).2 a h1
  · obtain ⟨i, a, rfl, ha, h1⟩ := callee_some hs
    exact hy.2 a (List.mem_of_getElem? ha) h1

/-- The caller's world behind a call. -/
def Env.back (E E' : Env) : Env := { E with w := E'.w, Pr := E'.Pr }

theorem good_back (hG : Good P A E l pend) {ss : List Nat} (hn : ss.Nodup) (hnp : ∀ s ∈ ss, ¬ pend s) {pt : Nat → TypeId} {E' : Env} {os : List Obj} {lg : Option Log} (hG' : Good P (startFr pt (E.callee ss) (E.calleeJ ss)) E' (locOf os lg) (fun _ => False))
    (hrho : ∀ k, k < ss.length → ∀ g, (E.callee ss).rho (OUT + k) = some g → E'.rho (OUT + k) = some g ∧ E'.bs (OUT + k) = (E.callee ss).bs (OUT + k)) {l' : Loc} (hlog : l'.log = l.log) (hother : ∀ s, s ∉ ss → l' s = l s)
    (hthese : ∀ (i : Nat) (s : Nat), ss[i]? = some s → Same (l s) (l' s) ∧ os[i]? = some (l' s)) :
    Good P A (E.back E') l' pend ∧ Held E.w E.Pr (E.back E').w (E.back E').Pr ∧ ∀ s, Keeps1 E (E.back E') l l' s := by
  have hx : Held E.w E.Pr (E.back E').w (E.back E').Pr := hG'.pr0
  have hk : ∀ s, Keeps1 E (E.back E') l l' s := by
    intro s
    by_cases hm : s ∈ ss
    · obtain ⟨i, hi, e⟩ := List.mem_iff_getElem.1 hm
      obtain ⟨h1, h2⟩ := hthese i s (by rw [List.getElem?_eq_getElem hi, e])
      exact .inr ⟨fun hd => (by rw [hd] at h1; cases h1), rfl, rfl, h1.sh⟩
    · by_cases hd : l s = .dead
      · exact .inl ((hother s hm).trans hd)
      · exact .inr ⟨hd, rfl, rfl, .same (hother s hm)⟩
  have hM : ∀ b, (startFr pt (E.callee ss) (E.calleeJ ss)).M b ↔ ∃ s ∈ ss, E.rho s = some b := by
    intro b
    constructor
    · rintro ⟨s, hs⟩
      obtain ⟨i, a, rfl, ha, hg⟩ := callee_some hs
      exact ⟨a, List.mem_of_getElem? ha, hg⟩
    · rintro ⟨s, hs, hg⟩
      obtain ⟨i, hi, e⟩ := List.mem_iff_getElem.1 hs
      exact ⟨OUT + i, by rw [callee_rho (s := s) (by rw [List.getElem?_eq_getElem hi, e])]; exact hg⟩
  have hold : ∀ b, b < E.w.heap.size → (∀ s ∈ ss, E.rho s ≠ some b) → E'.w.heap[b]? = E.w.heap[b]? := by
    intro b hb hno
    exact (hG'.jf.2 b ⟨hb, hno⟩).2
  refine ⟨⟨fun s hp => ?_, fun s hp => ?_, hG.inj, hG.base, fun b k hp => ⟨(hG'.prot b k hp).1, fun s hs => ?_⟩, hG.jstep rfl hlog hx (fun b k hp => ?_) (fun b hb => hold b (hG.ylt b hb) fun s _ hg => hG.yown s b hg hb) hG'.size hG'.os hG'.tape hG'.output, hG.pr0.trans hx, fun b k hp => ?_, Nat.le_trans hG.size hG'.size, hG'.os.trans hG.os, hG'.tape.trans hG.tape, hG'.output.trans hG.output, hG.yok, hG.yown, fun b hb => Nat.lt_of_lt_of_le (hG.ylt b hb) hG'.size, fun r hr => ⟨(hold r (Array.getElem?_eq_some_iff.1 (hG.dm r hr).1).1 fun s _ => hG.dmno hr s).trans (hG.dm r hr).1, (hG.dm r hr).2⟩⟩, hx, hk⟩
  · by_cases hm : s ∈ ss
    · obtain ⟨i, hi, e⟩ := List.mem_iff_getElem.1 hm
      have hi' : ss[i]? = some s := by rw [List.getElem?_eq_getElem hi, e]
      obtain ⟨h1, h2⟩ := hthese i s hi'
      have h0 := hG'.obj (OUT + i) (fun h => h)
      rw [locOf_out, h2] at h0
      obtain ⟨_, _, _, _, q0, q⟩ := h1.tc
      cases hg : E.rho s with
      | none =>
        have h3 := hG.obj s hp
        generalize l s = o at h1 h3 q0
        generalize l' s = o' at h1
        cases h3 with
        | dead h => cases q0
        | ob h _ _ => rw [hg] at h; cases h
        | sbNil h =>
          cases h1 with
          | @sb _ _ _ cs2 hl =>
            obtain rfl : cs2 = [] := List.eq_nil_of_length_eq_zero (by simpa using hl)
            exact .sbNil hg
        | sb h _ _ => rw [hg] at h; cases h
        | rf h _ _ _ _ _ => rw [hg] at h; cases h
      | some g =>
      obtain ⟨e1, e2⟩ := hrho i hi g (by rw [callee_rho hi']; exact hg)
      rw [← hg] at e1
      rw [callee_bs hi'] at e2
      exact ObjOk.ren (E := E') (E' := E.back E') (a := OUT + i) (s' := s) rfl rfl e1.symm e2.symm ⟨_, q⟩ h0
    · rw [hother s hm]
      refine (hG.obj s hp).keep hx rfl rfl (fun g hg => hold g (hG.lt hg) fun a ha hga => hm (hG.inj s a g hg hga ▸ ha)) fun _ _ _ _ hu => hu.mono0 hx hk
  · obtain ⟨h1, cs, hz, ho⟩ := hG.pnd s hp
    exact ⟨h1, cs, hz, (hother s fun hm => hnp s hm hp).trans ho⟩
  · by_cases hm : s ∈ ss
    · obtain ⟨i, hi, e⟩ := List.mem_iff_getElem.1 hm
      have hi' : ss[i]? = some s := by rw [List.getElem?_eq_getElem hi, e]
      obtain ⟨h1, h2⟩ := hthese i s hi'
      have e1 := (hrho i hi b (by rw [callee_rho hi']; exact hs)).1
      have h4 := (hG'.prot b k hp).2 (OUT + i) e1
      rw [locOf_out, h2] at h4
      exact h4
    · rw [hother s hm]
      rcases hG'.prN b k hp with h | h | h
      · exact (hG.prot b k h).2 s hs
      · have h1 : E.w.heap.size ≤ b := h
        have h2 := hG.lt (s := s) hs
        omega
      · obtain ⟨a, ha, hga⟩ := (hM b).1 h
        exact absurd (hG.inj s a b hs hga ▸ ha) hm
  · rcases hG'.prN b k hp with h | h | h
    · exact .inl h
    · exact .inr fun hy => Nat.lt_irrefl _ (Nat.lt_of_lt_of_le (hG.ylt b hy) h)
    · obtain ⟨a, _, hga⟩ := (hM b).1 h
      exact .inr (hG.yown a b hga)
  · rcases hG'.prN b k hp with h | h | h
    · exact hG.prN b k h
    · exact .inr (.inl (Nat.le_trans hG.size h))
    · obtain ⟨a, ha, hga⟩ := (hM b).1 h
      exact .inr (hG.base a b hga)

theorem log0_none {ys : List V} (h : noYl ys = true) : log0 ys = none := by
  cases ys with
  | nil => rfl
  | cons y ys =>
    cases y with
    | c c => cases c <;> first | rfl | (cases h; done)
    | _ => rfl

/-- New blocks alone: what was stays as it was. -/
theorem good_grow (hG : Good P A E l pend) {w' : World} (hx : Held E.w E.Pr w' E.Pr) (hh : ∀ b, b < E.w.heap.size → w'.heap[b]? = E.w.heap[b]?) (hs : E.w.heap.size ≤ w'.heap.size) (ho : w'.os = E.w.os) (ht : w'.tape = E.w.tape) (hu : w'.output = E.w.output) :
    Good P A { E with w := w' } l pend ∧ ∀ s, Keeps1 E { E with w := w' } l l s := by
  have hk : ∀ s, Keeps1 E { E with w := w' } l l s := fun s => by
    by_cases hd : l s = .dead
    · exact .inl hd
    · exact .inr ⟨hd, rfl, rfl, .same rfl⟩
  refine ⟨⟨fun s hp => ?_, hG.pnd, hG.inj, hG.base, fun b k hp => ⟨?_, (hG.prot b k hp).2⟩, hG.jstep rfl rfl hx (fun _ _ h => .inl h) (fun b hb => hh b (hG.ylt b hb)) hs ho ht hu, hG.pr0.trans hx, hG.prN, Nat.le_trans hG.size hs, ho.trans hG.os, ht.trans hG.tape, hu.trans hG.output, hG.yok, hG.yown, fun b hb => Nat.lt_of_lt_of_le (hG.ylt b hb) hs, fun r hr => ⟨(hh r (Array.getElem?_eq_some_iff.1 (hG.dm r hr).1).1).trans (hG.dm r hr).1, (hG.dm r hr).2⟩⟩, hk⟩
  · exact (hG.obj s hp).keep hx rfl rfl (fun g hg => hh g (hG.lt hg)) fun _ _ _ _ hu => hu.mono0 hx hk
  · exact Nat.lt_of_lt_of_le (hG.prot b k hp).1 hs

/-- No references. -/
def FlatC (c : C) : Prop := ∃ x, c = .v x
inductive FlatV : V → Prop
  | c {c : C} (h : FlatC c) : FlatV (.c c)
  | agg {cs : List C} (h : ∀ c ∈ cs, FlatC c) : FlatV (.agg cs)
  | tup {vs : List V} (h : ∀ x ∈ vs, (∃ c, x = .c c ∧ FlatC c) ∨ ∃ cs, x = .agg cs ∧ ∀ c ∈ cs, FlatC c) : FlatV (.tup vs)
  | und : FlatV .und

theorem FlatC.rc {w w' : World} {Pr Pr' : Nat → Nat → Prop} {c : C} {u : Value} (hc : FlatC c) (h : RC w Pr c u) : RC w' Pr' c u := by
  obtain ⟨x, rfl⟩ := hc
  cases h with | v h => exact .v h
theorem FlatV.rv {E E' : Env} {l l' : Loc} {y : V} (hp : FlatV y) {u : Value} (h : RV P E l y u) : RV P E' l' y u := by
  cases hp with
  | c hc => cases h with | c h => exact .c (hc.rc h)
  | agg hc => cases h with | agg h => exact .agg ⟨h.1, fun j c u hj hu => (hc c (List.mem_of_getElem? hj)).rc (h.2 j c u hj hu)⟩
  | tup hv =>
    cases h with
    | tup hs h =>
      refine .tup hs fun j x u hx' hu => ?_
      have h1 := h j x u hx' hu
      rcases hv x (List.mem_of_getElem? hx') with ⟨c, rfl, hc⟩ | ⟨cs, rfl, hc⟩
      · cases h1 with | c h => exact .c (hc.rc h)
      · cases h1 with | agg h => exact .agg ⟨h.1, fun j c u hj hu => (hc c (List.mem_of_getElem? hj)).rc (h.2 j c u hj hu)⟩
  | und => exact .und

theorem getLf_flat {lf : Lf} (hf : lf.isO = false) {c : C} {k : C → Option R} (h : getLf lf c k = some r) : FlatC c := by
  cases lf with
  | o => cases hf
  | i kd =>
    simp only [getLf, asI] at h
    split at h
    · exact ⟨_, rfl⟩
    · cases h
  | b =>
    simp only [getLf, asB] at h
    split at h
    · exact ⟨_, rfl⟩
    · cases h
  | s =>
    simp only [getLf, asS] at h
    split at h
    · exact ⟨_, rfl⟩
    · cases h
theorem getLfs_flat : ∀ {ls : List Lf} {cs : List C} {k : List C → Option R} (_ : (ls.all fun l => !l.isO) = true) (_ : getLfs ls cs k = some r), ∀ c ∈ cs.take ls.length, FlatC c
  | [], cs, k, _, h => by simp
  | lf :: ls, [], k, _, h => by cases h
  | lf :: ls, c :: cs, k, hf, h => by
    simp only [List.all_cons, Bool.and_eq_true, Bool.not_eq_true'] at hf
    have h1 : getLf lf c (fun c' => getLfs ls cs fun cs' => k (c' :: cs')) = some r := h
    have h2 := getLfs_flat (ls := ls) (by simpa using hf.2) (getLf_eq h1)
    intro x hx
    simp only [List.length_cons, List.take_succ_cons, List.mem_cons] at hx
    rcases hx with rfl | hx
    · exact getLf_flat hf.1 h1
    · exact h2 x hx

theorem retV_flat {t : TypeId} (hf : flatT P t = true) {x : V} {k : V → Option R} (h : retV P t x k = some r) : (∃ c, x = .c c ∧ FlatC c) ∨ ∃ cs, x = .agg cs ∧ ∀ c ∈ cs, FlatC c := by
  unfold flatT at hf
  unfold retV at h
  split at h
  · unfold rA at h
    split at h
    · rename_i cs
      refine .inr ⟨cs, rfl, ?_⟩
      split at h
      · rename_i ls hls
        rw [hls] at hf
        obtain ⟨hb, h⟩ := need_some h
        have h2 := Nat.eq_of_beq_eq_true hb
        have h1 := getLfs_flat hf h
        rw [← h2, List.take_length] at h1
        exact h1
      · rename_i hls; rw [hls] at hf; cases hf
    · cases h
  · split at h
    · rename_i lf hls
      rw [hls] at hf
      unfold rC at h
      split at h
      · rename_i c
        exact .inl ⟨c, rfl, getLf_flat (by simpa using hf) (k := fun c' => k (.c c')) h⟩
      · cases h
    · cases h
theorem retL_flat : ∀ {ts : List TypeId} (_ : ts.all (flatT P) = true) {xs : List V} {k : List V → Option R} (_ : retL P ts xs k = some r), ∀ x ∈ xs, (∃ c, x = .c c ∧ FlatC c) ∨ ∃ cs, x = .agg cs ∧ ∀ c ∈ cs, FlatC c
  | [], _, xs, k, h => by
    unfold retL at h
    split at h
    · simp
    · cases h
  | t :: ts, hf, xs, k, h => by
    simp only [List.all_cons, Bool.and_eq_true] at hf
    unfold retL uncV at h
    split at h
    · cases h
    · rename_i x ys
      have h1 := retV_flat hf.1 h
      obtain ⟨_, h2⟩ := retV_eq h
      have h3 := retL_flat (ts := ts) hf.2 h2
      intro z hz
      rcases List.mem_cons.1 hz with rfl | hz
      · exact h1
      · exact h3 z hz
theorem retK_flat {t : TypeId} (hf : flatR P t = true) {x : V} {k : V → Option R} (h : retK P t x k = some r) : ∃ y, FlatV y ∧ k y = some r ∧ (y = x ∨ y = .und) := by
  unfold flatR at hf
  unfold retK at h
  split at h
  · rename_i ts hts
    rw [hts] at hf
    split at h
    · exact ⟨.und, .und, h, .inr rfl⟩
    · unfold rT at h
      split at h
      · rename_i vs
        have h1 := retL_flat hf h
        exact ⟨_, .tup h1, (retL_eq h).2, .inl rfl⟩
      · cases h
  · rename_i hne
    have hf' : flatT P t = true := by
      split at hf
      · rename_i ts hts; exact absurd hts (hne ts)
      · exact hf
    have h1 := retV_flat hf' h
    have h2 := (retV_eq h).2
    rcases h1 with ⟨c, rfl, hc⟩ | ⟨cs, rfl, hc⟩
    · exact ⟨_, .c hc, h2, .inl rfl⟩
    · exact ⟨_, .agg hc, h2, .inl rfl⟩

/-- How far the taking of a call's new objects has come: 'E1': the caller's world ahead of the call, 'E2': the callee's behind it. -/
structure Tk (A : Fr) (pend : Nat → Prop) (E1 E2 : Env) (m : Nat) (objs : List Obj) (Ec : Env) (lc : Loc) (os : List Obj) (i : Nat) : Prop where
  good : Good P A Ec lc pend
  w : Ec.w = E2.w
  Pr : Ec.Pr = E2.Pr
  D : Ec.D = E1.D
  Y : Ec.Y = E1.Y
  os : os = objs.drop (m + i)
  no : ∀ i', i ≤ i' → ∀ g, E2.rho (OUT + (m + i')) = some g → ∀ a, Ec.rho a ≠ some g

/-- What is kept of the callee. -/
structure Cal (A : Fr) (E1 E2 : Env) (m : Nat) (objs : List Obj) (lg : Option Log) : Prop where
  obj : ∀ s, ObjOk P E2 (locOf objs lg) s (locOf objs lg s)
  inj : ∀ s s' g, E2.rho s = some g → E2.rho s' = some g → s = s'
  prot : ∀ b k, E2.Pr b k → ∀ s, E2.rho s = some b → k < (locOf objs lg s).fz
  base : ∀ i g, E2.rho (OUT + (m + i)) = some g → A.w0.heap.size ≤ g ∨ A.M g
  ny : ∀ i g, E2.rho (OUT + (m + i)) = some g → ¬ E1.Y g

theorem Tk.adopt {E1 E2 : Env} {m : Nat} {objs : List Obj} {lg : Option Log} (hC : Cal (P := P) A E1 E2 m objs lg) {Ec : Env} {lc : Loc} {o : Obj} {os : List Obj} {i : Nat} (hT : Tk (P := P) A pend E1 E2 m objs Ec lc (o :: os) i) {site g : Nat} (hp : ¬ pend site)
    (hr : E2.rho (OUT + (m + i)) = some g) {te : TypeId} {cs : List C} (ho : o = .ob te 0 cs ∨ o = .sb te 0 cs) :
    ∃ Ec2, Tk (P := P) A pend E1 E2 m objs Ec2 ((lc.kill site).put site o) os (i + 1) ∧ Ec2.rho site = some g ∧ Ec2.bs site = E2.bs (OUT + (m + i)) ∧ ∀ z v, RV P Ec lc z v → z.at site = false → RV P Ec2 ((lc.kill site).put site o) z v := by
  have hox : objs[m + i]? = some o := by
    have : (objs.drop (m + i))[0]? = some o := by rw [← hT.os]; rfl
    rwa [List.getElem?_drop, Nat.add_zero] at this
  have hlx : locOf objs lg (OUT + (m + i)) = o := by rw [locOf_out, hox]; rfl
  have h0 := hC.obj (OUT + (m + i))
  rw [hlx] at h0
  have hblk : Blk E2 (OUT + (m + i)) g te cs := by
    rcases ho with rfl | rfl
    · cases h0 with | ob h1 h2 _ => rw [hr] at h1; injection h1 with h1; subst h1; exact h2
    · cases h0 with
      | sbNil h1 => rw [h1] at hr; cases hr
      | sb h1 h2 _ => rw [hr] at h1; injection h1 with h1; subst h1; exact h2
  obtain ⟨cur, c1, c2, c3, c4⟩ := hblk
  have hofz : o.fz = 0 := by rcases ho with rfl | rfl <;> rfl
  have hq := hT.good.kill hp
  have hsame := setRow_self E2.w g cur te (0, 0) c1
  have hw' : (Ec.kill lc site).w = E2.w := hT.w
  have hPr' : (Ec.kill lc site).Pr = E2.Pr := hT.Pr
  obtain ⟨a1, a2, a3⟩ := good_adopt (P := P) (A := A) hq (d := site) (g := g) (kill_at site lc) hp (fun a ha => hT.no i (Nat.le_refl _) g hr a (kill_rho ha)) (by show ¬ Ec.Y g; rw [hT.Y]; exact hC.ny i g hr) (hC.base i g hr) (cur := cur) (cur' := cur) (t := te) (by rw [hw']; exact c1) rfl (fz := 0) (fun k hk => by
      rw [hPr'] at hk
      have := hC.prot g k hk _ hr
      rw [hlx, hofz] at this; exact this) (fun _ _ => rfl) (cs := cs) (ob := o) ho (Nat.zero_le _) c3 (by rw [hw', hPr']; exact c4) (kill_ref site lc)
  refine ⟨(Ec.kill lc site).adopt site g cur, ⟨a1, ?_, hPr', hT.D, hT.Y, ?_, fun i' hi g' hg' a ha => ?_⟩, by simp [Env.adopt], by simp [Env.adopt]; exact c2, fun z v hz hk => ?_⟩
  · show (Ec.kill lc site).w.setRow g cur = E2.w
    rw [hw', hsame]
  · have h1 := hT.os
    have h2 : os = (objs.drop (m + i)).drop 1 := by rw [← h1]; rfl
    rw [h2, List.drop_drop]; congr 1
  · by_cases e : a = site
    · subst e
      have e1 : g = g' := by simpa [Env.adopt] using ha
      subst e1
      have := hC.inj _ _ g hr hg'
      omega
    · have h1 : (Ec.kill lc site).rho a = some g' := by simpa [Env.adopt, e] using ha
      exact hT.no i' (by omega) g' hg' a (kill_rho h1)
  · exact (rv_kill site hz).mono (fun s => s = site) a2 (fun s hs => a3 s hs) (fun s hs => by subst hs; exact hk)

/-- An empty slice that is handed out. -/
theorem Tk.nil {E1 E2 : Env} {m : Nat} {objs : List Obj} {Ec : Env} {lc : Loc} {o : Obj} {os : List Obj} {i : Nat} (hT : Tk (P := P) A pend E1 E2 m objs Ec lc (o :: os) i) {site : Nat} (hp : ¬ pend site) (te : TypeId) :
    ∃ Ec2, Tk (P := P) A pend E1 E2 m objs Ec2 ((lc.kill site).put site (.sb te 0 [])) os (i + 1) ∧ Ec2.rho site = none ∧ ∀ z v, RV P Ec lc z v → z.at site = false → RV P Ec2 ((lc.kill site).put site (.sb te 0 [])) z v := by
  have hq := hT.good.kill hp
  obtain ⟨q1, q2⟩ := good_nil hq (kill_at site lc) hp te (kill_ref site lc)
  refine ⟨Ec.kill lc site, ⟨q1, hT.w, hT.Pr, hT.D, hT.Y, ?_, fun i' hi g' hg' a ha => hT.no i' (by omega) g' hg' a (kill_rho ha)⟩, kill_rho_self Ec lc site, fun z v hz hk => ?_⟩
  · have h1 := hT.os
    have h2 : os = (objs.drop (m + i)).drop 1 := by rw [← h1]; rfl
    rw [h2, List.drop_drop]; congr 1
  · exact (rv_kill site hz).mono (fun s => s = site) (.refl _ _) (fun s hs => q2 s hs) (fun s hs => by subst hs; exact hk)

/-- What one result may lead to. -/
def Only (y : V) (site : Nat) : Prop := (∃ off, y = .ptr site off) ∨ (∃ off n, y = .own site off n) ∨ (∃ c, y = .c c) ∨ ∃ cs, y = .agg cs
theorem Only.at {y : V} {site s : Nat} (h : Only y site) (hs : s ≠ site) : y.at s = false := by
  have hb : Nat.beq site s = false := by
    cases e : Nat.beq site s
    · rfl
    · exact absurd (Nat.eq_of_beq_eq_true e).symm hs
  rcases h with ⟨off, rfl⟩ | ⟨off, n, rfl⟩ | ⟨c, rfl⟩ | ⟨cs, rfl⟩ <;> simp [V.at, hb]

theorem take1_sound {E1 E2 : Env} {m : Nat} {objs : List Obj} {lg : Option Log} (hC : Cal (P := P) A E1 E2 m objs lg) {Ec : Env} {lc : Loc} {os : List Obj} {i : Nat} (hT : Tk (P := P) A pend E1 E2 m objs Ec lc os i) {site : Nat} (hp : ¬ pend site)
    {x : Option TypeId} {ty : TypeId} {v : V} {u : Value} (hv : RV P E2 (locOf objs lg) v u) {k : V → Nat → List Obj → Loc → List Nat → Option R} (h : take1 P m site i x ty v os lc k = some r) :
    ∃ y i2 os2 l2 ks Ec2, k y i2 os2 l2 ks = some r ∧ Tk (P := P) A pend E1 E2 m objs Ec2 l2 os2 i2 ∧ RV P Ec2 l2 y u ∧ Only y site ∧ (∀ s ∈ ks, s = site) ∧ ∀ z w, RV P Ec lc z w → (∀ s ∈ ks, z.at s = false) → RV P Ec2 l2 z w := by
  unfold take1 at h
  split at h
  · obtain ⟨h1, h2⟩ := retV_eq h
    refine ⟨v, i, os, lc, [], Ec, h2, hT, ?_, ?_, by simp, fun z w hz _ => hz⟩
    · have hw : Held E2.w E2.Pr Ec.w Ec.Pr := by rw [hT.w, hT.Pr]; exact .refl _ _
      rcases h1 with ⟨c, rfl⟩ | ⟨cs, rfl⟩
      · cases hv with | c h => exact .c (h.held hw)
      · cases hv with | agg h => exact .agg (h.held hw)
    · rcases h1 with ⟨c, rfl⟩ | ⟨cs, rfl⟩
      · exact .inr (.inr (.inl ⟨c, rfl⟩))
      · exact .inr (.inr (.inr ⟨cs, rfl⟩))
  · rename_i te
    obtain ⟨_, h⟩ := need_some h
    split at h
    · obtain ⟨rfl, h1⟩ := rP_eq h
      obtain ⟨o, os', rfl, h2⟩ := uncO_eq h1
      obtain ⟨cs, rfl, h3⟩ := rO_eq h2
      have h4 : k (.ptr site 0) (i + 1) os' ((lc.kill site).put site (.ob te 0 cs)) [site] = some r := by
        split at h3
        · obtain ⟨hb, h7⟩ := need_some h3
          have h8 := getLfs_eq h7
          rw [← Nat.eq_of_beq_eq_true hb, List.take_length] at h8
          exact h8.2
        · exact h3
      have hox : objs[m + i]? = some (.ob te 0 cs) := by
        have : (objs.drop (m + i))[0]? = some (.ob te 0 cs) := by rw [← hT.os]; rfl
        rwa [List.getElem?_drop, Nat.add_zero] at this
      have hlx : locOf objs lg (OUT + (m + i)) = .ob te 0 cs := by rw [locOf_out, hox]; rfl
      cases hv with
      | ptrDead hd => rw [hlx] at hd; cases hd
      | @ptr _ _ g hr =>
        obtain ⟨Ec2, t1, t2, t3, t4⟩ := hT.adopt hC hp hr (.inl rfl)
        exact ⟨_, _, _, _, _, Ec2, h4, t1, .ptr t2, .inl ⟨0, rfl⟩, by simp, fun z w hz hk => t4 z w hz (hk site (by simp))⟩
    · obtain ⟨n, rfl, h1⟩ := rW_eq h
      obtain ⟨o, os', rfl, h2⟩ := uncO_eq h1
      obtain ⟨cs, rfl, h3⟩ := rS_eq h2
      obtain ⟨hb, h4⟩ := need_some h3
      rw [Bool.and_eq_true] at hb
      have hn := Nat.eq_of_beq_eq_true hb.1
      have hox : objs[m + i]? = some (.sb te 0 cs) := by
        have : (objs.drop (m + i))[0]? = some (.sb te 0 cs) := by rw [← hT.os]; rfl
        rwa [List.getElem?_drop, Nat.add_zero] at this
      have hlx : locOf objs lg (OUT + (m + i)) = .sb te 0 cs := by rw [locOf_out, hox]; rfl
      cases hv with
      | ownDead hd => rw [hlx] at hd; cases hd
      | ownRf hd => rw [hlx] at hd; cases hd
      | own0 _ _ hoff => exact absurd rfl hoff
      | ownNil hr hl =>
        rw [hlx] at hl
        injection hl with e1 e2 e3
        subst e1 e3
        obtain ⟨Ec2, t1, t2, t3⟩ := hT.nil hp te
        exact ⟨_, _, _, _, _, Ec2, h4, t1, .ownNil (fz := 0) t2 (put_same _ _ _), .inr (.inl ⟨0, 0, rfl⟩), by simp, fun z w hz hk => t3 z w hz (hk site (by simp))⟩
      | @own _ _ _ g cap t' fz' cs' hr hl hn' hc hs =>
        rw [hlx] at hl
        injection hl with hl; injection hl with e1 e2; injection e2 with e2 e3
        subst e1 e2 e3
        obtain ⟨Ec2, t1, t2, t3, t4⟩ := hT.adopt hC hp hr (.inr rfl)
        exact ⟨_, _, _, _, _, Ec2, h4, t1, .own (t := te) (fz := 0) (cs := cs) t2 (by rw [put_same]; rfl) hn' hc (hs.trans t3.symm), .inr (.inl ⟨0, n, rfl⟩), by simp, fun z w hz hk => t4 z w hz (hk site (by simp))⟩
    · cases h

theorem nsite_inj {d i j : Nat} (h : nsite d i = nsite d j) : i = j := by unfold nsite at h; omega

theorem takeL_sound {E1 E2 : Env} {m d : Nat} {objs : List Obj} {lg : Option Log} (hC : Cal (P := P) A E1 E2 m objs lg) : ∀ {ts : List TypeId} {j i : Nat} {xo : List (Option TypeId)} {xs : List V} {us : List Value} {os : List Obj} {Ec : Env} {lc : Loc}
    (_ : Tk (P := P) A pend E1 E2 m objs Ec lc os i) (_ : us.length = xs.length) (_ : ∀ (j : Nat) (x : V) (u : Value), xs[j]? = some x → us[j]? = some u → RV P E2 (locOf objs lg) x u)
    {k : List V → Loc → List Nat → Option R} (_ : takeL P m d j i xo ts xs os lc k = some r),
    ∃ ys l2 ks Ec2, k ys l2 ks = some r ∧ (Good P A Ec2 l2 pend ∧ Ec2.w = E2.w ∧ Ec2.Pr = E2.Pr ∧ Ec2.D = E1.D) ∧ ys.length = us.length ∧ (∀ (q : Nat) (y : V) (u : Value), ys[q]? = some y → us[q]? = some u → RV P Ec2 l2 y u) ∧ (∀ s ∈ ks, ∃ q, j ≤ q ∧ s = nsite d q) ∧
      ∀ z w, RV P Ec lc z w → (∀ s ∈ ks, z.at s = false) → RV P Ec2 l2 z w
  | [], j, i, xo, xs, us, os, Ec, lc, hT, hl, hx, k, h => by
    unfold takeL at h
    split at h
    · exact ⟨[], lc, [], Ec, h, ⟨hT.good, hT.w, hT.Pr, hT.D⟩, by simpa using hl.symm, by simp, by simp, fun z w hz _ => hz⟩
    · cases h
  | t :: ts, j, i, xo, xs, us, os, Ec, lc, hT, hl, hx, k, h => by
    unfold takeL uncV at h
    split at h
    · cases h
    · rename_i x ys
      cases us with
      | nil => simp at hl
      | cons u us =>
        obtain ⟨hlv, h⟩ := need_some h
        have hpj : ¬ pend (nsite d j) := fun hp => by
          obtain ⟨_, cs, _, e⟩ := hT.good.pnd _ hp
          rw [e] at hlv; cases hlv
        obtain ⟨y, i2, os2, l2, ks, Ec2, h1, hT2, hy, hon, hks, hpres⟩ := take1_sound hC hT hpj (hx 0 x u rfl rfl) h
        obtain ⟨ys2, l3, ks3, Ec3, h3, g3, hl3, hx3, hks3, hpres3⟩ := takeL_sound hC (ts := ts) hT2 (us := us) (by simpa using hl) (fun q x u hx' hu => hx (q + 1) x u (by simpa using hx') (by simpa using hu)) h1
        refine ⟨y :: ys2, l3, ks ++ ks3, Ec3, h3, g3, by simp [hl3], fun q y' u' hy' hu' => ?_, fun s hs => ?_, fun z w hz hk => ?_⟩
        · cases q with
          | zero =>
            simp at hy' hu'; subst hy' hu'
            refine hpres3 _ _ hy fun s hs => hon.at fun e => ?_
            obtain ⟨q, hq, e2⟩ := hks3 s hs
            have := nsite_inj (e.symm.trans e2)
            omega
          | succ q => exact hx3 q y' u' (by simpa using hy') (by simpa using hu')
        · rcases List.mem_append.1 hs with hs | hs
          · exact ⟨j, Nat.le_refl _, hks s hs⟩
          · obtain ⟨q, hq, e⟩ := hks3 s hs
            exact ⟨q, by omega, e⟩
        · exact hpres3 z w (hpres z w hz fun s hs => hk s (by simp [hs])) fun s hs => hk s (by simp [hs])

theorem callK_sound (hG : Good P A E l pend) {cf : Cfg} (hP : cf.P = P) (hcon : ∀ f args objs out, cf.call f args objs = some out → ConAt P f args objs out) {strict : Bool} {hds : List Nat} {xo : List (Option TypeId)} {f : FuncId} {xs : List V} {us : List Value}
    (hl : us.length = xs.length) (hx : ∀ (j : Nat) (x : V) (u : Value), xs[j]? = some x → us[j]? = some u → RV P E l x u) {ty : TypeId} {dst : Option Nat} (hd : ∀ d, dst = some d → ¬ pend d) {k : V → Loc → List Nat → Option R}
    (h : callK cf strict hds xo f xs ty dst l k = some r) :
    ∃ x l' ks, k x l' ks = some r ∧ Calls P f us.toArray E.w fun e w' => ∃ u, e = .returned u ∧ Up P A E l pend x l' ks u w' := by
  unfold callK at h
  simp only [hP] at h
  obtain ⟨ys, l1, ss, E1, h1, hG1, hM, hyl, ⟨rest, hrest⟩, hnd, hy, hst, hpt⟩ := marsh_sound hG hl hx (List.nodup_nil) h
  obtain ⟨hob, h2⟩ := need_some h1
  rw [Bool.and_eq_true] at hob
  have hlg : log0 ys = none := log0_none hob.2
  have hob := hob.1
  have hobs := allOb_eq hob
  rw [Option.bind_eq_some_iff] at h2
  obtain ⟨out, hcall, h3⟩ := h2
  obtain ⟨l2, ro, h4, hro, hle, hother, hlog, hthese⟩ := backK_eq hnd h3
  have hobs' : ∀ s ∈ ss, ∃ q, objTC (l1 s) = some q := fun s hs => hobs s hs
  -- a handed site is not one that is yet to be made: something leads to it
  have hnp : ∀ s ∈ ss, ¬ pend s := fun s hs => by
    rcases hpt s hs with h | h
    · cases h
    · exact h.npend hG1
  have hGc := good_callee hG1 hnd hobs' hnp A.pt
  have hargs : ∀ (j : Nat) (y : V) (u : Value), ys[j]? = some y → us[j]? = some u → RV P (E1.callee ss) (locOf (ss.map l1) (log0 ys)) y u := by
    intro j y u hy' hu'
    rcases hy j y u hy' hu' with ⟨c, rfl, hc⟩ | ⟨cs, vs, rfl, rfl, hc⟩ | ⟨i, off, s, rfl, hs, hr⟩ | ⟨i, off, n, s, rfl, hs, hr⟩
    · exact .c hc
    · exact .agg hc
    · obtain ⟨q, e⟩ := hobs s (List.mem_of_getElem? hs)
      cases hr with
      | ptrDead hd => rw [hd] at e; cases e
      | ptr hr => exact .ptr ((callee_rho hs).trans hr)
    · obtain ⟨q, e⟩ := hobs s (List.mem_of_getElem? hs)
      have hloc : locOf (ss.map l1) (log0 ys) (OUT + i) = l1 s := by rw [locOf_out, List.getElem?_map, hs]; rfl
      cases hr with
      | ownDead hd => rw [hd] at e; cases e
      | ownRf hd => rw [hd] at e; cases e
      | ownNil h1 h2 => exact .ownNil ((callee_rho hs).trans h1) (hloc.trans h2)
      | own h1 h2 h3 h4 h5 => exact .own ((callee_rho hs).trans h1) (by rw [hloc]; exact h2) h3 h4 (h5.trans (callee_bs hs).symm)
      | own0 h1 h2 h3 => exact .own0 ((callee_rho hs).trans h1) (by rw [hloc]; exact h2) h3
  have hC := hcon f ys (ss.map l1) out hcall A.pt (E1.callee ss) us (E1.calleeJ ss) hyl.symm rfl (by rw [hlg]; exact hGc) hargs
  have hback : ∀ E', Good P (startFr A.pt (E1.callee ss) (E1.calleeJ ss)) E' (locOf out.objs out.log) (fun _ => False) → (∀ k, k < (ss.map l1).length → ∀ g, (E1.callee ss).rho (OUT + k) = some g → E'.rho (OUT + k) = some g ∧ E'.bs (OUT + k) = (E1.callee ss).bs (OUT + k)) →
      Good P A (E1.back E') l2 pend ∧ Held E1.w E1.Pr (E1.back E').w (E1.back E').Pr ∧ ∀ s, Keeps1 E1 (E1.back E') l1 l2 s := by
    intro E' hG' hrho
    exact good_back hG1 hnd hnp hG' (fun k hk => hrho k (by simpa using hk)) hlog hother hthese
  have hplain : ∀ (y : V), PureV y → (y = out.r ∨ y = .und) → k y l2 [] = some r → ∃ x l' ks, k x l' ks = some r ∧ Calls P f us.toArray E.w fun e w' => ∃ u, e = .returned u ∧ Up P A E l pend x l' ks u w' := by
    intro y hpy hyo hk
    refine ⟨y, l2, [], hk, ?_⟩
    rw [← hM.w]
    refine hC.mono fun e w' => ?_
    rintro ⟨u, E', he, hw, hG', hr, hrho⟩
    obtain ⟨q1, q2, q3⟩ := hback E' hG' hrho
    refine ⟨u, he, E1.back E', hw, ⟨q1, hM.D⟩, ?_, fun z v hz _ => (hM.rv hz).mono0 q2 q3⟩
    rcases hyo with rfl | rfl
    · exact hpy.rv (E := E') (E' := E1.back E') (.refl _ _) hr
    · exact .und
  split at h4
  · -- new objects are taken over
    rename_i d
    have hdp := hd _ rfl
    have hCal : ∀ E', Good P (startFr A.pt (E1.callee ss) (E1.calleeJ ss)) E' (locOf out.objs out.log) (fun _ => False) → (∀ k, k < (ss.map l1).length → ∀ g, (E1.callee ss).rho (OUT + k) = some g → E'.rho (OUT + k) = some g ∧ E'.bs (OUT + k) = (E1.callee ss).bs (OUT + k)) →
        Cal (P := P) A E1 E' ss.length out.objs out.log ∧ Tk (P := P) A pend E1 E' ss.length out.objs (E1.back E') l2 ro 0 := by
      intro E' hG' hrho
      obtain ⟨q1, q2, q3⟩ := hback E' hG' hrho
      have hfresh : ∀ i g, E'.rho (OUT + (ss.length + i)) = some g → E1.w.heap.size ≤ g ∨ ((∃ s ∈ ss, E1.rho s = some g) ∧ False) := by
        intro i g hg
        rcases hG'.base _ g hg with h | ⟨s, h⟩
        · exact .inl h
        · obtain ⟨i', x, rfl, hx', hgx⟩ := callee_some h
          have hi : i' < ss.length := (List.getElem?_eq_some_iff.1 hx').1
          have e1 := (hrho i' (by simpa using hi) g h).1
          have := hG'.inj _ _ g e1 hg
          omega
      have hnew : ∀ i g, E'.rho (OUT + (ss.length + i)) = some g → E1.w.heap.size ≤ g := fun i g hg => by
        rcases hfresh i g hg with h | ⟨_, h⟩
        · exact h
        · exact h.elim
      refine ⟨⟨fun s => hG'.obj s (fun h => h), hG'.inj, fun b k hp s hs => (hG'.prot b k hp).2 s hs, fun i g hg => .inl (Nat.le_trans hG1.size (hnew i g hg)), fun i g hg hy => ?_⟩, ⟨q1, rfl, rfl, rfl, rfl, by simpa using hro, fun i' _ g hg a ha => ?_⟩⟩
      · have := hG1.ylt g hy; have := hnew i g hg; omega
      · have h1 : E1.rho a = some g := ha
        have := hG1.lt h1; have := hnew i' g hg; omega
    unfold takeK at h4
    split at h4
    · rename_i ts hts
      unfold rT at h4
      split at h4
      · rename_i xs hr0
        -- the continuation is found at some run; the worlds vary
        have hnat := takeL_nat h4
        obtain ⟨ys', l3, ks, hnat, hk⟩ := hnat
        refine ⟨_, _, _, hk, ?_⟩
        rw [← hM.w]
        refine hC.mono fun e w' => ?_
        rintro ⟨u, E', he, hw, hG', hr, hrho⟩
        obtain ⟨hCc, hTk⟩ := hCal E' hG' hrho
        obtain ⟨q1, q2, q3⟩ := hback E' hG' hrho
        rw [hr0] at hr
        cases hr with
        | @tup _ us hs hxs =>
          obtain ⟨ys2, l4, ks4, Ec2, e4, ⟨g1, g2, g3, g4⟩, hl4, hx4, _, hpres⟩ := takeL_sound (P := P) hCc hTk hs hxs (k := fun a b c => some (a, b, c)) (hnat _)
          injection e4 with e4
          injection e4 with e5 e4
          injection e4 with e6 e7
          subst e5 e6 e7
          exact ⟨_, he, Ec2, g2.trans hw, ⟨g1, g4.trans hM.D⟩, .tup hl4.symm hx4, fun z v hz hks => hpres z v ((hM.rv hz).mono0 q2 q3) hks⟩
      · cases h4
    · have hnat := take1_nat h4
      obtain ⟨y, i2, os2, l3, ks, hnat, hk⟩ := hnat
      refine ⟨_, _, _, hk, ?_⟩
      rw [← hM.w]
      refine hC.mono fun e w' => ?_
      rintro ⟨u, E', he, hw, hG', hr, hrho⟩
      obtain ⟨hCc, hTk⟩ := hCal E' hG' hrho
      obtain ⟨q1, q2, q3⟩ := hback E' hG' hrho
      obtain ⟨y2, i3, os3, l4, ks4, Ec2, e4, hT2, hy2, _, _, hpres⟩ := take1_sound (P := P) hCc hTk hdp hr (k := fun a b c d e => some (a, b, c, d, e)) (hnat _)
      injection e4 with e4
      injection e4 with e5 e4
      injection e4 with e6 e4
      injection e4 with e7 e4
      injection e4 with e8 e9
      subst e5 e6 e7 e8 e9
      exact ⟨_, he, Ec2, hT2.w.trans hw, ⟨hT2.good, hT2.D.trans hM.D⟩, hy2, fun z v hz hks => hpres z v ((hM.rv hz).mono0 q2 q3) hks⟩
  · by_cases hfl : ss = [] ∧ flatR P ty = true
    · -- what was read may be written again
      obtain ⟨hss, hfl⟩ := hfl
      have e : thaw ss (flatR P ty) l l2 = l := by rw [hss, hfl]; rfl
      rw [e] at h4
      have hthaw : ∀ (y : V), FlatV y → (y = out.r ∨ y = .und) → k y l [] = some r → ∃ x l' ks, k x l' ks = some r ∧ Calls P f us.toArray E.w fun e w' => ∃ u, e = .returned u ∧ Up P A E l pend x l' ks u w' := by
        intro y hfy hyo hk
        refine ⟨y, l, [], hk, ?_⟩
        rw [← hM.w]
        refine hC.mono fun e w' => ?_
        rintro ⟨u, E', he, hw, hG', hr, hrho⟩
        have hx1 : Held E.w E.Pr E'.w E.Pr := fun b k hp => ⟨hp, (hG'.pr0 b k (hM.held b k hp).1).2.trans (hM.held b k hp).2⟩
        have hold : ∀ b, b < E.w.heap.size → E'.w.heap[b]? = E.w.heap[b]? := fun b hb => by
          have h1 := (hG'.jf.2 b ⟨by rw [hM.w]; exact hb, by rw [hss]; simp⟩).2
          rw [hM.w] at h1; exact h1
        have hsz : E.w.heap.size ≤ E'.w.heap.size := by
          have h1 : E1.w.heap.size ≤ E'.w.heap.size := hG'.size
          rw [hM.w] at h1; exact h1
        have ho : E'.w.os = E.w.os := by have h1 : E'.w.os = E1.w.os := hG'.os; rw [hM.w] at h1; exact h1
        have ht : E'.w.tape = E.w.tape := by have h1 : E'.w.tape = E1.w.tape := hG'.tape; rw [hM.w] at h1; exact h1
        have hu : E'.w.output = E.w.output := by have h1 : E'.w.output = E1.w.output := hG'.output; rw [hM.w] at h1; exact h1
        obtain ⟨q1, q2⟩ := good_grow hG hx1 hold hsz ho ht hu
        refine ⟨u, he, { E with w := E'.w }, hw, ⟨q1, rfl⟩, ?_, fun z v hz _ => hz.mono0 hx1 q2⟩
        rcases hyo with rfl | rfl
        · exact hfy.rv hr
        · exact .und
      obtain ⟨y, hfy, hk, hyo⟩ := retK_flat hfl h4
      exact hthaw y hfy hyo hk
    · have e : thaw ss (flatR P ty) l l2 = l2 := thaw_eq hfl
      rw [e] at h4
      obtain ⟨y, hpy, hk, hyo⟩ := retK_eq h4
      exact hplain y hpy hyo hk

end
end Go.PM
