/- The pure machine: append. -/
import Derived.Test.YtepjbmlhfhahcaaPMl
set_option linter.unusedVariables false
set_option linter.unusedSimpArgs false
namespace Go.PM
open Go

variable {P : Program}

section
variable {A : Fr} {E : Env} {l : Loc} {pend : Nat → Prop} {R : Type} {k : V → Loc → List Nat → Option R} {r : R} {o : Oper} {ρ : Operand → Value}

theorem kill_rho {E : Env} {l : Loc} {s a g : Nat} (h : (E.kill l s).rho a = some g) : E.rho a = some g := by
  simp only [Env.kill] at h
  split at h
  · cases h
  · exact h
theorem kill_rho_self (E : Env) (l : Loc) (s : Nat) : (E.kill l s).rho s = none := by simp [Env.kill, kill_at]

theorem rv_kill {E : Env} {l : Loc} (s : Nat) {y : V} {v : Value} (hy : RV P E l y v) : RV P (E.kill l s) (Loc.kill s l) y v :=
  hy.mono0 (E' := E.kill l s) (Held.refl E.w E.Pr) fun a => Keeps1.kill E l s a

/-- A block that no site leads to any more is taken over by a new one, and written. -/
def Env.adopt (E : Env) (d g : Nat) (cur : Array Value) : Env :=
  { E with w := E.w.setRow g cur, rho := fun s' => if s' = d then some g else E.rho s', bs := fun s' => if s' = d then cur.size else E.bs s' }

theorem good_adopt (hG : Good P A E l pend) {d g : Nat} (hd : l d = .dead) (hpd : ¬ pend d) (hno : ∀ a, E.rho a ≠ some g) (hyg : ¬ E.Y g) (hb : A.w0.heap.size ≤ g ∨ A.M g) {cur cur' : Array Value} {t : TypeId} (hg : E.w.heap[g]? = some (.cells cur t (0, 0)))
    (hsz : cur'.size = cur.size) {fz : Nat} (hp : ∀ k, E.Pr g k → k < fz) (hsame : ∀ j, j < fz → cur'[j]? = cur[j]?) {cs : List C} {ob : Obj} (ho : ob = .ob t fz cs ∨ ob = .sb t fz cs) (hf : fz ≤ cs.length) (hcl : cs.length ≤ cur'.size)
    (hc : RCs E.w E.Pr cs (cur'.toList.take cs.length)) (href : ∀ s' t x, l s' = .rf t x → x.at d = false) :
    Good P A (E.adopt d g cur') (l.put d ob) pend ∧ Held E.w E.Pr (E.adopt d g cur').w (E.adopt d g cur').Pr ∧ ∀ s', s' ≠ d → Keeps1 E (E.adopt d g cur') l (l.put d ob) s' := by
  have hgn : (E.adopt d g cur').w.heap[g]? = some (.cells cur' t (0, 0)) := setRow_heap E.w g cur cur' t (0, 0) hg
  have hx : Held E.w E.Pr (E.adopt d g cur').w (E.adopt d g cur').Pr := by
    intro b k hp'
    refine ⟨hp', ?_⟩
    by_cases hb : b = g
    · subst hb
      rw [cell_of_row _ b k cur' t (0, 0) hgn, cell_of_row _ b k cur t (0, 0) hg]
      exact hsame k (hp k hp')
    · exact World.cell?_of_block (w := E.w) (setRow_other E.w g b cur' hb)
  have hrn : (E.adopt d g cur').rho d = some g := by simp [Env.adopt]
  have hro : ∀ s', s' ≠ d → (E.adopt d g cur').rho s' = E.rho s' := fun s' hne => by simp [Env.adopt, hne]
  have hk : ∀ s', s' ≠ d → Keeps1 E (E.adopt d g cur') l (l.put d ob) s' := by
    intro s' hne
    by_cases hd : l s' = .dead
    · exact .inl ((put_other l ob hne).trans hd)
    · exact .inr ⟨hd, hro s' hne, by simp [Env.adopt, hne], .same (put_other l ob hne)⟩
  have hobfz : ob.fz = fz := by rcases ho with rfl | rfl <;> rfl
  refine ⟨⟨fun s' hp' => ?_, fun s' hp' => ?_, fun a b g' ha hb' => ?_, fun a g' ha => ?_, fun b k hp' => ⟨?_, fun a ha => ?_⟩, hG.jstep rfl rfl hx (fun _ _ h => .inl h) (fun b hb => setRow_other E.w g b cur' (fun e => hyg (e ▸ hb))) (Nat.le_of_eq (setRow_size E.w g cur').symm) rfl rfl rfl, hG.pr0.trans hx, hG.prN, ?_, hG.os, hG.tape, hG.output, hG.yok, fun a g' ha hy => ?_, fun b hb => Nat.lt_of_lt_of_le (hG.ylt b hb) (Nat.le_of_eq (setRow_size E.w g cur').symm), fun r hr' => ⟨(setRow_other E.w g r cur' (fun e => by have h1 := (hG.dm r hr').1; rw [e, hg] at h1; cases h1)).trans (hG.dm r hr').1, (hG.dm r hr').2⟩⟩, hx, hk⟩
  · by_cases hne : s' = d
    · subst hne
      rw [put_same]
      have hblk : Blk (E.adopt s' g cur') s' g t cs := ⟨cur', hgn, by simp [Env.adopt], hcl, hc.held hx⟩
      rcases ho with rfl | rfl
      · exact .ob hrn hblk hf
      · exact .sb hrn hblk hf
    · rw [put_other l ob hne]
      refine (hG.obj s' hp').keep hx (hro s' hne) (by simp [Env.adopt, hne]) (fun g' hg' => setRow_other E.w g g' cur' (fun e => hno s' (e ▸ hg'))) fun t' x u e hu => ?_
      exact hu.mono (fun a => a = d) hx (fun a ha => hk a ha) (fun a ha => by subst ha; exact href s' t' x e)
  · have hne : s' ≠ d := fun e => hpd (e ▸ hp')
    obtain ⟨h1, cs', hz, ho'⟩ := hG.pnd s' hp'
    exact ⟨(hro s' hne).trans h1, cs', hz, (put_other l ob hne).trans ho'⟩
  · by_cases ea : a = d <;> by_cases eb : b = d
    · rw [ea, eb]
    · subst ea; rw [hrn] at ha; rw [hro b eb] at hb'; injection ha with ha; subst ha; exact absurd hb' (hno b)
    · subst eb; rw [hrn] at hb'; rw [hro a ea] at ha; injection hb' with hb'; subst hb'; exact absurd ha (hno a)
    · rw [hro a ea] at ha; rw [hro b eb] at hb'; exact hG.inj a b g' ha hb'
  · by_cases ea : a = d
    · subst ea; rw [hrn] at ha; injection ha with ha; subst ha; exact hb
    · rw [hro a ea] at ha; exact hG.base a g' ha
  · have := (hG.prot b k hp').1
    show b < (E.w.setRow g cur').heap.size
    rw [setRow_size]; exact this
  · by_cases ea : a = d
    · subst ea; rw [hrn] at ha; injection ha with ha; subst ha; rw [put_same, hobfz]; exact hp k hp'
    · rw [hro a ea] at ha; rw [put_other l ob ea]; exact (hG.prot b k hp').2 a ha
  · show _ ≤ (E.w.setRow g cur').heap.size
    rw [setRow_size]; exact hG.size
  · by_cases ea : a = d
    · subst ea; rw [hrn] at ha; injection ha with ha; subst ha; exact hyg hy
    · rw [hro a ea] at ha; exact hG.yown a g' ha hy

/-- A slice's object that is still nil. -/
theorem good_nil (hG : Good P A E l pend) {d : Nat} (hd : l d = .dead) (hpd : ¬ pend d) (t : TypeId) (href : ∀ s' t x, l s' = .rf t x → x.at d = false) :
    Good P A E (l.put d (.sb t 0 [])) pend ∧ ∀ s', s' ≠ d → Keeps1 E E l (l.put d (.sb t 0 [])) s' := by
  have hr : E.rho d = none := by
    have := hG.obj d hpd; rw [hd] at this; cases this with | dead h => exact h
  have hk : ∀ s', s' ≠ d → Keeps1 E E l (l.put d (.sb t 0 [])) s' := by
    intro s' hne
    by_cases hd : l s' = .dead
    · exact .inl ((put_other l _ hne).trans hd)
    · exact .inr ⟨hd, rfl, rfl, .same (put_other l _ hne)⟩
  refine ⟨⟨fun s' hp' => ?_, fun s' hp' => ?_, hG.inj, hG.base, fun b k hp' => ⟨(hG.prot b k hp').1, fun a ha => ?_⟩, hG.jf, hG.pr0, hG.prN, hG.size, hG.os, hG.tape, hG.output, hG.yok, hG.yown, hG.ylt, hG.dm⟩, hk⟩
  · by_cases hne : s' = d
    · subst hne; rw [put_same]; exact .sbNil hr
    · rw [put_other l _ hne]
      exact (hG.obj s' hp').keep (.refl _ _) rfl rfl (fun _ _ => rfl) fun t' x u e hu => hu.mono (fun a => a = d) (.refl _ _) (fun a ha => hk a ha) (fun a ha => by subst ha; exact href s' t' x e)
  · have hne : s' ≠ d := fun e => hpd (e ▸ hp')
    obtain ⟨h1, cs', hz, ho'⟩ := hG.pnd s' hp'
    exact ⟨h1, cs', hz, (put_other l _ hne).trans ho'⟩
  · by_cases ea : a = d
    · subst ea; rw [hr] at ha; cases ha
    · rw [put_other l _ ea]; exact (hG.prot b k hp').2 a ha

/-- What is appended. -/
theorem newsK_sound (hG : Good P A E l pend) {e : TypeId} {x : V} {u : Value} (hx : RV P E l x u) {kk : Nat → List C → Option R} (h : newsK P e x l kk = some r) :
    ∃ m news us, kk m news = some r ∧ news.length = m * szOf P e ∧ RCs E.w E.Pr news us ∧ (Builtin.lenOf u).run P E.w = .ok m E.w ∧ (∃ a c, u = .slice a m c) ∧ ∀ w1 : World, w1.heap = E.w.heap → (Builtin.firstCells (szOf P e) m u).run P w1 = .ok us.toArray w1 := by
  have hcell : ∀ (w1 : World), w1.heap = E.w.heap → ∀ a, w1.cell? a = E.w.cell? a := fun w1 h a => by simp [World.cell?, h]
  have fin : ∀ m c (a : Option Addr) (news : List C), u = .slice a m c → news.length = m * szOf P e → ((news = []) ∨ ∃ g o', a = some ⟨g, o', none⟩ ∧ At E.w E.Pr g o' news) →
      ∃ us, RCs E.w E.Pr news us ∧ (Builtin.lenOf u).run P E.w = .ok m E.w ∧ ∀ w1 : World, w1.heap = E.w.heap → (Builtin.firstCells (szOf P e) m u).run P w1 = .ok us.toArray w1 := by
    intro m c a news hu hl hz
    subst hu
    rcases hz with rfl | ⟨g, o', rfl, hat⟩
    · refine ⟨[], .nil, rfl, fun w1 hw => ?_⟩
      have hm : m * szOf P e = 0 := by simpa using hl.symm
      cases a with
      | none => simp [Builtin.firstCells]
      | some a => simp [Builtin.firstCells, hm, loadCells, loadCellsFrom]
    · obtain ⟨us, h1, h2⟩ := hat.list
      refine ⟨us, h2, rfl, fun w1 hw => ?_⟩
      exact run_firstCells_some (P := P) w1 (szOf P e) m ⟨g, o', none⟩ m c us (by rw [h2.len, hl]) (fun j v hv => by rw [hcell w1 hw, add_none]; exact h1 j v hv)
  unfold newsK at h
  split at h
  case h_3 => cases h
  case h_1 c =>
    cases hx with | c hc =>
    obtain ⟨m, cs, a, cap, hk, e1, _, _, hz⟩ := asSl_at hc h
    obtain ⟨hb, hk⟩ := need_some hk
    have hl : cs.length = m * szOf P e := (Nat.eq_of_beq_eq_true hb).symm
    obtain ⟨us, h1, h2, h3⟩ := fin m cap a cs e1 hl (by rcases hz with ⟨_, h⟩ | ⟨g, o', h, hat, _⟩; exact .inl h; exact .inr ⟨g, o', h, hat⟩)
    exact ⟨m, cs, us, hk, hl, h1, h2, ⟨a, cap, e1⟩, h3⟩
  case h_2 s off m =>
    split at h
    case h_2 => cases h
    case h_1 t fz cs hl =>
      obtain ⟨hb, hk⟩ := need_some h
      rw [Bool.and_eq_true] at hb
      have hle : off + m * szOf P e ≤ cs.length := Nat.le_of_ble_eq_true hb.2
      have hnl : ((cs.drop off).take (m * szOf P e)).length = m * szOf P e := by simp; omega
      have : ∃ a c, u = .slice a m c ∧ (((cs.drop off).take (m * szOf P e)) = [] ∨ ∃ g o', a = some ⟨g, o', none⟩ ∧ At E.w E.Pr g o' ((cs.drop off).take (m * szOf P e))) := by
        cases hx with
        | ownDead hd => rw [hd] at hl; cases hl
        | ownRf hd => rw [hd] at hl; cases hl
        | ownNil _ _ => exact ⟨_, _, rfl, .inl (by simp)⟩
        | own0 _ _ _ => exact ⟨_, _, rfl, .inl (by simp)⟩
        | @own _ _ _ g cap t2 fz2 cs2 hr hl2 hn hc hs =>
          have hat := (((blk_of hG hl hr).1.at_).drop off).take (m * szOf P e)
          rw [Nat.zero_add] at hat
          exact ⟨_, _, rfl, .inr ⟨g, off, rfl, hat⟩⟩
      obtain ⟨a, c, e1, hz⟩ := this
      obtain ⟨us, h1, h2, h3⟩ := fin m c a _ e1 hnl hz
      exact ⟨m, _, us, hk, hnl, h1, h2, ⟨a, c, e1⟩, h3⟩

end
end Go.PM
