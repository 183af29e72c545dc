/- The pure machine: the steps that the objects and the world take together. -/
import Derived.Test.YtepjbmlhfhahcaaPMb
set_option linter.unusedVariables false
set_option linter.unusedSimpArgs false
namespace Go.PM
open Go

variable {P : Program}

/-- A site's object is still of the make that a reference asks. -/
def Sh (l l' : Loc) (s : Nat) : Prop :=
  (∀ t fz, l s = .sb t fz [] → ∃ fz', l' s = .sb t fz' []) ∧
  (∀ t fz cs, objTC (l s) = some (t, fz, cs) → (∃ fz' cs', objTC (l' s) = some (t, fz', cs')) ∨ ∃ t' y, l' s = .rf t' y) ∧
  (∀ t y, l s = .rf t y → ∃ t' y', l' s = .rf t' y')

theorem Sh.same {l l' : Loc} {s : Nat} (h : l' s = l s) : Sh l l' s :=
  ⟨fun t fz e => ⟨fz, h.trans e⟩, fun t fz cs e => .inl ⟨fz, cs, by rw [h]; exact e⟩, fun t y e => ⟨t, y, h.trans e⟩⟩

def Keeps1 (E E' : Env) (l l' : Loc) (s : Nat) : Prop :=
  l' s = .dead ∨ (l s ≠ .dead ∧ E'.rho s = E.rho s ∧ E'.bs s = E.bs s ∧ Sh l l' s)

/-- ... or a variable that is yet to be made: nothing leads to it. -/
def Keeps2 (E E' : Env) (l l' : Loc) (s : Nat) : Prop :=
  Keeps1 E E' l l' s ∨ (E.rho s = none ∧ ∃ t fz cs, l s = .ob t fz cs)

theorem RV.mono2 {E E' : Env} {l l' : Loc} (K : Nat → Prop) (hx : Held E.w E.Pr E'.w E'.Pr) (hs : ∀ s, ¬ K s → Keeps2 E E' l l' s) {x : V} {u : Value}
    (h : RV P E l x u) : (∀ s, K s → x.at s = false) → RV P E' l' x u := by
  induction h with
  | c h => exact fun _ => .c (h.held hx)
  | agg h => exact fun _ => .agg (h.held hx)
  | tup hl _ ih =>
    intro hK
    have hn : ∀ s, ¬ K s := fun s hk => by have := hK s hk; simp [V.at] at this
    exact .tup hl fun j x u hx hu => ih j x u hx hu fun s hk => absurd hk (hn s)
  | @ptrDead s off u h =>
    intro hK
    by_cases hk : K s
    · have := hK s hk; simp [V.at] at this
    · rcases hs s hk with (hd | ⟨hd, _⟩) | ⟨_, _, _, _, hv⟩
      · exact .ptrDead hd
      · exact absurd h hd
      · rw [h] at hv; cases hv
  | @ptr s off g h =>
    intro hK
    by_cases hk : K s
    · have := hK s hk; simp [V.at] at this
    · rcases hs s hk with (hd | ⟨_, hr, _⟩) | ⟨hv, _⟩
      · exact .ptrDead hd
      · exact .ptr (hr.trans h)
      · rw [h] at hv; cases hv
  | @ownDead s off n u h =>
    intro hK
    by_cases hk : K s
    · have := hK s hk; simp [V.at] at this
    · rcases hs s hk with (hd | ⟨hd, _⟩) | ⟨_, _, _, _, hv⟩
      · exact .ownDead hd
      · exact absurd h hd
      · rw [h] at hv; cases hv
  | @ownNil s t fz h hl =>
    intro hK
    by_cases hk : K s
    · have := hK s hk; simp [V.at] at this
    · rcases hs s hk with (hd | ⟨_, hr, _, hsh⟩) | ⟨_, _, _, _, hv⟩
      · exact .ownDead hd
      · obtain ⟨fz', e⟩ := hsh.1 t fz hl
        exact .ownNil (hr.trans h) e
      · rw [hl] at hv; cases hv
  | @own s off n g cap t fz cs h hl hn hc hb =>
    intro hK
    by_cases hk : K s
    · have := hK s hk; simp [V.at] at this
    · rcases hs s hk with (hd | ⟨_, hr, hbs, hsh⟩) | ⟨hv, _⟩
      · exact .ownDead hd
      · rcases hsh.2.1 t fz cs hl with ⟨fz', cs', e⟩ | ⟨t', y, e⟩
        · exact .own (hr.trans h) e hn hc (by rw [hbs]; exact hb)
        · exact .ownRf e
      · rw [h] at hv; cases hv
  | @own0 s off g o' t fz cs h hl ho =>
    intro hK
    by_cases hk : K s
    · have := hK s hk; simp [V.at] at this
    · rcases hs s hk with (hd | ⟨_, hr, hbs, hsh⟩) | ⟨hv, _⟩
      · exact .ownDead hd
      · rcases hsh.2.1 t fz cs hl with ⟨fz', cs', e⟩ | ⟨t', y, e⟩
        · exact .own0 (hr.trans h) e ho
        · exact .ownRf e
      · rw [h] at hv; cases hv
  | @ownRf s off n u t y h =>
    intro hK
    by_cases hk : K s
    · have := hK s hk; simp [V.at] at this
    · rcases hs s hk with (hd | ⟨_, _, _, hsh⟩) | ⟨_, _, _, _, hv⟩
      · exact .ownDead hd
      · obtain ⟨t', y', e⟩ := hsh.2.2 t y h
        exact .ownRf e
      · rw [h] at hv; cases hv
  | @ghDead s u h =>
    intro hK
    by_cases hk : K s
    · have := hK s hk; simp [V.at] at this
    · rcases hs s hk with (hd | ⟨hd, _⟩) | ⟨_, _, _, _, hv⟩
      · exact .ghDead hd
      · exact absurd h hd
      · rw [h] at hv; cases hv
  | @gh s g n h hb =>
    intro hK
    by_cases hk : K s
    · have := hK s hk; simp [V.at] at this
    · rcases hs s hk with (hd | ⟨_, hr, hbs, _⟩) | ⟨hv, _⟩
      · exact .ghDead hd
      · exact .gh (hr.trans h) (hbs.trans hb)
      · rw [h] at hv; cases hv
  | un => exact fun _ => .un
  | und => exact fun _ => .und

theorem RV.mono {E E' : Env} {l l' : Loc} (K : Nat → Prop) (hx : Held E.w E.Pr E'.w E'.Pr) (hs : ∀ s, ¬ K s → Keeps1 E E' l l' s) {x : V} {u : Value}
    (h : RV P E l x u) : (∀ s, K s → x.at s = false) → RV P E' l' x u := h.mono2 K hx fun s hk => .inl (hs s hk)

theorem RV.mono0 {E E' : Env} {l l' : Loc} (hx : Held E.w E.Pr E'.w E'.Pr) (hs : ∀ s, Keeps1 E E' l l' s) {x : V} {u : Value} (h : RV P E l x u) : RV P E' l' x u :=
  h.mono (fun _ => False) hx (fun s _ => hs s) (fun _ h => h.elim)

theorem RV.kill {E : Env} {l : Loc} {x : V} {u : Value} (s : Nat) (h : RV P E l x u) : RV P E l (x.kill s) u := by
  unfold V.kill
  cases x.at s
  · exact h
  · exact .und

theorem at_kill (s : Nat) (x : V) : (x.kill s).at s = false := by
  unfold V.kill
  cases h : x.at s
  · exact h
  · rfl

/-- Blocks are kept where the heap is and the protected cells are. -/
theorem Blk.keep {E E' : Env} {s g : Nat} {t : TypeId} {cs : List C} (hx : Held E.w E.Pr E'.w E'.Pr) (hg : E'.w.heap[g]? = E.w.heap[g]?) (hb : E'.bs s = E.bs s) (h : Blk E s g t cs) : Blk E' s g t cs := by
  obtain ⟨cur, h1, h2, h3, h4⟩ := h
  exact ⟨cur, hg.trans h1, h2.trans hb.symm, h3, h4.held hx⟩

theorem ObjOk.keep {E E' : Env} {l l' : Loc} {s : Nat} {o : Obj} (hx : Held E.w E.Pr E'.w E'.Pr) (hr : E'.rho s = E.rho s) (hb : E'.bs s = E.bs s)
    (hg : ∀ g, E.rho s = some g → E'.w.heap[g]? = E.w.heap[g]?) (hv : ∀ t x u, o = .rf t x → RV P E l x u → RV P E' l' x u) (h : ObjOk P E l s o) : ObjOk P E' l' s o := by
  cases h with
  | dead h => exact .dead (hr.trans h)
  | ob h hk hf => exact .ob (hr.trans h) (hk.keep hx (hg _ h) hb) hf
  | sbNil h => exact .sbNil (hr.trans h)
  | sb h hk hf => exact .sb (hr.trans h) (hk.keep hx (hg _ h) hb) hf
  | rf h hk h0 hu h1 h2 => exact .rf (hr.trans h) ((hg _ h).trans hk) h0 (hv _ _ _ rfl hu) h1 (hb.trans h2)

theorem Good.lt {A : Fr} {E : Env} {l : Loc} {pend : Nat → Prop} (h : Good P A E l pend) {s g : Nat} (hr : E.rho s = some g) : g < E.w.heap.size := by
  by_cases hp : pend s
  · rw [(h.pnd s hp).1] at hr; cases hr
  · have h0 := h.obj s hp
    generalize l s = o at h0
    cases h0 with
    | dead h => rw [h] at hr; cases hr
    | ob h hb _ => rw [h] at hr; cases hr; obtain ⟨cur, h1, _⟩ := hb; exact (Array.getElem?_eq_some_iff.1 h1).1
    | sbNil h => rw [h] at hr; cases hr
    | sb h hb _ => rw [h] at hr; cases hr; obtain ⟨cur, h1, _⟩ := hb; exact (Array.getElem?_eq_some_iff.1 h1).1
    | rf h hg _ _ _ _ => rw [h] at hr; cases hr; exact (Array.getElem?_eq_some_iff.1 hg).1

theorem Good.ne_dead {A : Fr} {E : Env} {l : Loc} {pend : Nat → Prop} (h : Good P A E l pend) {s g : Nat} (hr : E.rho s = some g) : l s ≠ .dead := by
  intro hd
  by_cases hp : pend s
  · rw [(h.pnd s hp).1] at hr; cases hr
  · have := h.obj s hp
    rw [hd] at this
    cases this with
    | dead h => rw [h] at hr; cases hr

/-- A site is struck, and the objects that lead to it. -/
def Env.kill (E : Env) (l : Loc) (s : Nat) : Env := { E with rho := fun s' => match Loc.kill s l s' with | .dead => none | _ => E.rho s' }

theorem kill_cases (s : Nat) (l : Loc) (s' : Nat) : Loc.kill s l s' = .dead ∨ (Loc.kill s l s' = l s' ∧ s' ≠ s ∧ ∀ t x, l s' = .rf t x → x.at s = false) := by
  simp only [Loc.kill]
  cases h : Nat.beq s' s
  · have hne : s' ≠ s := fun e => by rw [e, Nat.beq_refl] at h; cases h
    cases ho : l s' with
    | rf t x =>
      cases hx : x.at s
      · exact .inr ⟨by simp [Obj.kill, hx], hne, fun t' x' e => by injection e with _ e; rw [← e]; exact hx⟩
      · exact .inl (by simp [Obj.kill, hx])
    | _ => exact .inr ⟨by simp [Obj.kill], hne, fun t x e => by cases e⟩
  · exact .inl (by simp)

theorem Keeps1.kill (E : Env) (l : Loc) (s s' : Nat) : Keeps1 E (E.kill l s) l (Loc.kill s l) s' := by
  rcases kill_cases s l s' with h | ⟨h, _, _⟩
  · exact .inl h
  · by_cases hd : l s' = .dead
    · exact .inl (h.trans hd)
    · refine .inr ⟨hd, ?_, rfl, .same h⟩
      simp only [Env.kill, h]

theorem Good.kill {A : Fr} {E : Env} {l : Loc} {pend : Nat → Prop} (h : Good P A E l pend) {s : Nat} (hs : ¬ pend s) : Good P A (E.kill l s) (Loc.kill s l) pend := by
  have hx : Held E.w E.Pr (E.kill l s).w (E.kill l s).Pr := .refl _ _
  have hrho : ∀ s' g, (E.kill l s).rho s' = some g → E.rho s' = some g ∧ Loc.kill s l s' = l s' := by
    intro s' g hg
    rcases kill_cases s l s' with hk | ⟨hk, _, _⟩
    · simp [Env.kill, hk] at hg
    · refine ⟨?_, hk⟩
      simp only [Env.kill] at hg
      split at hg
      · cases hg
      · exact hg
  refine ⟨fun s' hp => ?_, fun s' hp => ?_, fun a b g ha hb => h.inj a b g (hrho _ _ ha).1 (hrho _ _ hb).1, fun a g ha => h.base a g (hrho _ _ ha).1, fun b k hp => ⟨(h.prot b k hp).1, fun a ha => ?_⟩, h.jf, h.pr0, h.prN, h.size, h.os, h.tape, h.output, h.yok, fun a g ha => h.yown a g (hrho _ _ ha).1, h.ylt, h.dm⟩
  · rcases kill_cases s l s' with hk | ⟨hk, hne, hrf⟩
    · rw [hk]; exact .dead (by simp [Env.kill, hk])
    · rw [hk]
      by_cases hd : l s' = .dead
      · rw [hd]; exact .dead (by simp [Env.kill, hk, hd])
      · have hr : (E.kill l s).rho s' = E.rho s' := by
          simp only [Env.kill, hk]
        exact (h.obj s' hp).keep hx hr rfl (fun _ _ => rfl) fun t x u e hu => hu.mono (fun a => a = s) hx (fun a _ => Keeps1.kill E l s a) (fun a ha => by subst ha; exact hrf t x e)
  · obtain ⟨h1, cs, hz, ho⟩ := h.pnd s' hp
    have hne : s' ≠ s := fun e => hs (e ▸ hp)
    have hk : Loc.kill s l s' = l s' := by
      rcases kill_cases s l s' with hk | ⟨hk, _⟩
      · simp only [Loc.kill] at hk ⊢
        have hb : Nat.beq s' s = false := by
          cases hb : Nat.beq s' s
          · rfl
          · exact absurd (Nat.eq_of_beq_eq_true hb) hne
        simp [hb, ho, Obj.kill]
      · exact hk
    exact ⟨by simp only [Env.kill, hk, ho]; exact h1, cs, hz, hk.trans ho⟩
  · have := (hrho _ _ ha)
    rw [this.2]
    exact (h.prot b k hp).2 a this.1

theorem put_same (l : Loc) (s : Nat) (o : Obj) : l.put s o s = o := by simp [Loc.put]
theorem put_other (l : Loc) {s s' : Nat} (o : Obj) (h : s' ≠ s) : l.put s o s' = l s' := by
  have hb : Nat.beq s' s = false := by
    cases hb : Nat.beq s' s
    · rfl
    · exact absurd (Nat.eq_of_beq_eq_true hb) h
  simp [Loc.put, hb]

theorem held_alloc (w : World) (Pr : Nat → Nat → Prop) (o : Go.Obj) (h : ∀ b k, Pr b k → b < w.heap.size) : Held w Pr (w.alloc o) Pr :=
  fun b k hp => ⟨hp, World.cell?_alloc_lt w o ⟨b, k, none⟩ (h b k hp)⟩

/-- A new block, a new site. -/
def Env.new (E : Env) (s : Nat) (cur : Array Value) (t : TypeId) : Env :=
  { E with w := E.w.alloc (.cells cur t), rho := fun s' => if s' = s then some E.w.heap.size else E.rho s', bs := fun s' => if s' = s then cur.size else E.bs s' }

theorem Keeps1.new {A : Fr} {E : Env} {l : Loc} {pend : Nat → Prop} (h : Good P A E l pend) (s : Nat) (cur : Array Value) (t : TypeId) (o : Obj) {s' : Nat} (hne : s' ≠ s) :
    Keeps1 E (E.new s cur t) l (l.put s o) s' := by
  by_cases hd : l s' = .dead
  · exact .inl ((put_other l o hne).trans hd)
  · exact .inr ⟨hd, by simp [Env.new, hne], by simp [Env.new, hne], .same (put_other l o hne)⟩

theorem Good.new {A : Fr} {E : Env} {l : Loc} {pend pend' : Nat → Prop} (h : Good P A E l pend) {s : Nat} (hd : (l s = .dead ∧ ∀ x, pend' x ↔ pend x) ∨ (pend s ∧ ∀ x, pend' x ↔ pend x ∧ x ≠ s))
    {cur : Array Value} {t : TypeId} {cs : List C} {fz : Nat} {o : Obj} (ho : o = .ob t fz cs ∨ o = .sb t fz cs) (hfz : fz ≤ cs.length)
    (hc : cs.length ≤ cur.size) (hr : RCs E.w E.Pr cs (cur.toList.take cs.length)) (href : ∀ s' t x, l s' = .rf t x → x.at s = false) : Good P A (E.new s cur t) (l.put s o) pend' := by
  have hx : Held E.w E.Pr (E.new s cur t).w (E.new s cur t).Pr := held_alloc _ _ _ fun b k hp => (h.prot b k hp).1
  have hrs : E.rho s = none := by
    rcases hd with ⟨hd, _⟩ | ⟨hd, _⟩
    · by_cases hp : pend s
      · exact (h.pnd s hp).1
      · have := h.obj s hp; rw [hd] at this; cases this with | dead h => exact h
    · exact (h.pnd s hd).1
  have hblk : Blk (E.new s cur t) s E.w.heap.size t cs := ⟨cur, heap_alloc_new _ _, by simp [Env.new], hc, hr.held hx⟩
  have hrn : (E.new s cur t).rho s = some E.w.heap.size := by simp [Env.new]
  have hro : ∀ s', s' ≠ s → (E.new s cur t).rho s' = E.rho s' := fun s' hne => by simp [Env.new, hne]
  refine ⟨fun s' hp => ?_, fun s' hp => ?_, fun a b g ha hb => ?_, fun a g ha => ?_, fun b k hp => ⟨?_, fun a ha => ?_⟩, h.jstep rfl rfl hx (fun _ _ h => .inl h) (fun b hb => Go.RowKit.Below.heap_alloc _ _ _ (h.ylt b hb)) ?_ rfl rfl rfl, h.pr0.trans hx, h.prN, ?_, h.os, h.tape, h.output, h.yok, fun a g ha hy => ?_, fun b hb => ?_, fun r hr => ⟨(Go.RowKit.Below.heap_alloc _ _ _ (Array.getElem?_eq_some_iff.1 (h.dm r hr).1).1).trans (h.dm r hr).1, (h.dm r hr).2⟩⟩
  · by_cases hne : s' = s
    · subst hne
      rw [put_same]
      rcases ho with rfl | rfl
      · exact .ob hrn hblk hfz
      · exact .sb hrn hblk hfz
    · rw [put_other l o hne]
      have hp' : ¬ pend s' := by
        rcases hd with ⟨_, hd⟩ | ⟨_, hd⟩
        · exact fun e => hp ((hd s').2 e)
        · exact fun e => hp ((hd s').2 ⟨e, hne⟩)
      exact (h.obj s' hp').keep hx (hro s' hne) (by simp [Env.new, hne]) (fun g hg => Go.RowKit.Below.heap_alloc _ _ _ (h.lt hg)) fun t' x u e hu =>
        hu.mono (fun a => a = s) hx (fun a ha => Keeps1.new h s cur t o ha) (fun a ha => by subst ha; exact href s' t' x e)
  · have hp' : pend s' ∧ s' ≠ s := by
      rcases hd with ⟨hdd, hd⟩ | ⟨_, hd⟩
      · refine ⟨(hd s').1 hp, fun e => ?_⟩
        obtain ⟨_, cs', _, ho'⟩ := h.pnd s' ((hd s').1 hp)
        rw [e, hdd] at ho'; cases ho'
      · exact (hd s').1 hp
    obtain ⟨h1, cs', hz, ho'⟩ := h.pnd s' hp'.1
    exact ⟨(hro s' hp'.2).trans h1, cs', hz, (put_other l o hp'.2).trans ho'⟩
  · by_cases ea : a = s <;> by_cases eb : b = s
    · rw [ea, eb]
    · subst ea; rw [hrn] at ha; rw [hro b eb] at hb; have := h.lt hb; cases ha; omega
    · subst eb; rw [hrn] at hb; rw [hro a ea] at ha; have := h.lt ha; cases hb; omega
    · rw [hro a ea] at ha; rw [hro b eb] at hb; exact h.inj a b g ha hb
  · by_cases ea : a = s
    · subst ea; rw [hrn] at ha; cases ha; exact .inl h.size
    · rw [hro a ea] at ha; exact h.base a g ha
  · have := (h.prot b k hp).1; simp [Env.new]; omega
  · by_cases ea : a = s
    · subst ea; rw [hrn] at ha; have := (h.prot b k hp).1; cases ha; omega
    · rw [hro a ea] at ha; rw [put_other l o ea]; exact (h.prot b k hp).2 a ha
  · simp [Env.new]
  · have := h.size; simp [Env.new]; omega
  · by_cases ea : a = s
    · subst ea; rw [hrn] at ha; cases ha; have := h.ylt _ hy; omega
    · rw [hro a ea] at ha; exact h.yown a g ha hy
  · have := h.ylt b hb; simp [Env.new]; omega

/-- A new block that is never written. -/
def Env.fix (E : Env) (cur : Array Value) (t : TypeId) : Env :=
  { E with w := E.w.alloc (.cells cur t), Pr := fun b k => E.Pr b k ∨ b = E.w.heap.size }

theorem held_fix {A : Fr} {E : Env} {l : Loc} {pend : Nat → Prop} (h : Good P A E l pend) (cur : Array Value) (t : TypeId) : Held E.w E.Pr (E.fix cur t).w (E.fix cur t).Pr :=
  fun b k hp => ⟨.inl hp, World.cell?_alloc_lt _ _ ⟨b, k, none⟩ (h.prot b k hp).1⟩

theorem Keeps1.fix (E : Env) (l : Loc) (cur : Array Value) (t : TypeId) (s : Nat) : Keeps1 E (E.fix cur t) l l s := by
  by_cases hd : l s = .dead
  · exact .inl hd
  · exact .inr ⟨hd, rfl, rfl, .same rfl⟩

theorem Good.fix {A : Fr} {E : Env} {l : Loc} {pend : Nat → Prop} (h : Good P A E l pend) (cur : Array Value) (t : TypeId) : Good P A (E.fix cur t) l pend := by
  have hx := held_fix h cur t
  refine ⟨fun s hp => ?_, h.pnd, h.inj, h.base, fun b k hp => ⟨?_, fun a ha => ?_⟩, h.jstep rfl rfl hx (fun b k hp => by
    rcases hp with hp | rfl
    · exact .inl hp
    · exact .inr fun hy => Nat.lt_irrefl _ (h.ylt _ hy)) (fun b hb => Go.RowKit.Below.heap_alloc _ _ _ (h.ylt b hb)) ?_ rfl rfl rfl, h.pr0.trans hx, fun b k hp => by
    rcases hp with hp | rfl
    · exact h.prN b k hp
    · exact .inr (.inl h.size), ?_, h.os, h.tape, h.output, h.yok, h.yown, fun b hb => ?_, fun r hr => ⟨(Go.RowKit.Below.heap_alloc _ _ _ (Array.getElem?_eq_some_iff.1 (h.dm r hr).1).1).trans (h.dm r hr).1, (h.dm r hr).2⟩⟩
  · exact (h.obj s hp).keep hx rfl rfl (fun g hg => Go.RowKit.Below.heap_alloc _ _ _ (h.lt hg)) fun _ _ _ _ hu => hu.mono0 hx fun a => Keeps1.fix E l cur t a
  · rcases hp with hp | rfl
    · have := (h.prot b k hp).1; simp [Env.fix]; omega
    · simp [Env.fix]
  · rcases hp with hp | rfl
    · exact (h.prot b k hp).2 a ha
    · have := h.lt ha; omega
  · simp [Env.fix]
  · have := h.size; simp [Env.fix]; omega
  · have := h.ylt b hb; simp [Env.fix]; omega

end Go.PM
