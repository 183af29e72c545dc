/- The pure machine: what runs by itself in a round of a range over a function. -/
import Derived.Test.YtepjbmlhfhahcaaPMz
set_option linter.unusedVariables false
set_option linter.unusedSimpArgs false
namespace Go.PM
open Go

variable {P : Program} {R : Type} {r : R}

/-- What is no site's. -/
def Env.others (E : Env) : Nat → Prop := fun b => b < E.w.heap.size ∧ ∀ s, E.rho s ≠ some b

def Env.bare (E : Env) : Env := { E with Y := E.others, D := [] }

/-- A piece of code that runs by itself: all that is no site's stays. -/
def aloneFr (A : Fr) (E : Env) (tm : Nat → Option Value) : Fr :=
  { A with w0 := E.w, Pr0 := E.Pr, M := fun b => ∃ s, E.rho s = some b, tm := tm, jt := frJ E.w E.others, dfix := true }

/-- The same, beside whatever surroundings. -/
structure Core (P : Program) (A : Fr) (E : Env) (σ : St) (a : Act) : Prop where
  obj : ∀ s, ObjOk P E σ.loc s (σ.loc s)
  inj : ∀ s s' g, E.rho s = some g → E.rho s' = some g → s = s'
  prot : ∀ b k, E.Pr b k → b < E.w.heap.size ∧ ∀ s, E.rho s = some b → k < (σ.loc s).fz
  log : σ.loc.log = none
  slots : ∀ t, t < σ.slots.length → RV P E σ.loc (σ.get t) (a.tmps.getD t undef)
  size : a.tmps.size = σ.slots.length
  len : σ.slots.length = A.n
  outs : ∀ k g n, A.outs k = some (g, n) → RV P E σ.loc (.gh (OUT + k)) (ghv g n)

section
variable {A : Fr} {E E' : Env} {σ : St} {a : Act}

theorem keeps_same {l : Loc} (hr : E'.rho = E.rho) (hb : E'.bs = E.bs) (s : Nat) : Keeps1 E E' l l s := by
  by_cases hd : l s = .dead
  · exact .inl hd
  · exact .inr ⟨hd, by rw [hr], by rw [hb], .same rfl⟩

theorem Rel.core (h : Rel P A E σ (fun _ => False) a) (hl : σ.loc.log = none) : Core P A E σ a :=
  ⟨fun s => h.good.obj s (fun h => h), h.good.inj, h.good.prot, hl, h.slots, h.size, h.len, h.outs⟩

theorem Core.lt (h : Core P A E σ a) {s g : Nat} (hr : E.rho s = some g) : g < E.w.heap.size ∧ ∃ c t, E.w.heap[g]? = some (.cells c t (0, 0)) := by
  have h0 := h.obj s
  generalize σ.loc s = o at h0
  cases h0 with
  | dead h => rw [h] at hr; cases hr
  | ob h hb _ => rw [h] at hr; cases hr; obtain ⟨cur, h1, _⟩ := hb; exact ⟨(Array.getElem?_eq_some_iff.1 h1).1, _, _, h1⟩
  | sbNil h => rw [h] at hr; cases hr
  | sb h hb _ => rw [h] at hr; cases hr; obtain ⟨cur, h1, _⟩ := hb; exact ⟨(Array.getElem?_eq_some_iff.1 h1).1, _, _, h1⟩
  | rf h hg _ _ _ _ => rw [h] at hr; cases hr; exact ⟨(Array.getElem?_eq_some_iff.1 hg).1, _, _, hg⟩

/-- The world goes on beside it; more is protected. -/
theorem Core.world (h : Core P A E σ a) (hr : E'.rho = E.rho) (hb : E'.bs = E.bs) (hx : Held E.w E.Pr E'.w E'.Pr) (hg : ∀ s b, E.rho s = some b → E'.w.heap[b]? = E.w.heap[b]?)
    (hp : ∀ b k, E'.Pr b k → E.Pr b k ∨ (b < E'.w.heap.size ∧ ∀ s, E.rho s ≠ some b)) (hs : E.w.heap.size ≤ E'.w.heap.size) : Core P A E' σ a := by
  refine ⟨fun s => (h.obj s).keep hx (by rw [hr]) (by rw [hb]) (fun g hs' => hg s g hs') fun _ _ _ _ hu => hu.mono0 hx (keeps_same hr hb), fun s s' g h1 h2 => h.inj s s' g (by rw [← hr]; exact h1) (by rw [← hr]; exact h2), fun b k hpb => ?_, h.log,
    fun t ht => (h.slots t ht).mono0 hx (keeps_same hr hb), h.size, h.len, fun k g n hk => (h.outs k g n hk).mono0 hx (keeps_same hr hb)⟩
  rcases hp b k hpb with e | ⟨e1, e2⟩
  · exact ⟨Nat.lt_of_lt_of_le (h.prot b k e).1 hs, fun s hs' => (h.prot b k e).2 s (by rw [← hr]; exact hs')⟩
  · exact ⟨e1, fun s hs' => absurd (by rw [← hr]; exact hs') (e2 s)⟩

/-- What a piece of code leaves of what was there. -/
structure Grow (E E' : Env) : Prop where
  others : ∀ b, E.others b → E'.w.heap[b]? = E.w.heap[b]?
  held : Held E.w E.Pr E'.w E'.Pr
  rho : ∀ s b, E'.rho s = some b → (∃ s', E.rho s' = some b) ∨ E.w.heap.size ≤ b
  pr : ∀ b k, E'.Pr b k → E.Pr b k ∨ E.w.heap.size ≤ b ∨ ∃ s, E.rho s = some b
  size : E.w.heap.size ≤ E'.w.heap.size
  os : E'.w.os = E.w.os
  tape : E'.w.tape = E.w.tape
  output : E'.w.output = E.w.output

theorem Core.rel (h : Core P A E σ a) {tm : Nat → Option Value} (ht : ∀ t u, tm t = some u → a.tmps.getD t undef = u) (hd : a.defers = []) : Rel P (aloneFr A E tm) E.bare σ (fun _ => False) a := by
  have hk : ∀ s, Keeps1 E E.bare σ.loc σ.loc s := keeps_same rfl rfl
  have hx : Held E.w E.Pr E.bare.w E.bare.Pr := Held.refl E.w E.Pr
  refine ⟨⟨fun s _ => (h.obj s).keep hx rfl rfl (fun _ _ => rfl) fun _ _ _ _ hu => hu.mono0 hx hk, fun _ hp => hp.elim, h.inj, fun s g hs => .inr ⟨s, hs⟩, h.prot, ⟨h.log, fun b hb => ⟨hb, rfl⟩⟩, .refl _ _, fun _ _ hp => .inl hp, Nat.le_refl _, rfl, rfl, rfl,
    frJ_yok _ _, fun s g hs hy => hy.2 s hs, fun b hb => hb.1, fun r hr => by cases hr⟩, fun t ht => (h.slots t ht).mono0 hx hk, h.size, ⟨hd, fun _ => rfl, List.nodup_nil⟩, ht, h.len, fun k g n hk' => (h.outs k g n hk').mono0 hx hk⟩

theorem Rel.grow {E' : Env} {σ' : St} {a' : Act} {tm : Nat → Option Value} (h : Rel P (aloneFr A E tm) E' σ' (fun _ => False) a') : Grow E E' ∧ a'.defers = [] ∧ σ'.loc.log = none ∧ (∀ t u, tm t = some u → a'.tmps.getD t undef = u) := by
  have hD := h.defers.2.1 rfl
  refine ⟨⟨fun b hb => (h.good.jf.2 b hb).2, h.good.pr0, fun s b hs => ?_, fun b k hp => h.good.prN b k hp, h.good.size, h.good.os, h.good.tape, h.good.output⟩, by rw [h.defers.1, hD]; rfl, h.good.jf.1, h.tm⟩
  rcases h.good.base s b hs with e | e
  · exact .inr e
  · exact .inl e

theorem Grow.no {E' : Env} (h : Grow E E') {b : Nat} (hb : E.others b) : E'.others b := by
  refine ⟨Nat.lt_of_lt_of_le hb.1 h.size, fun s hs => ?_⟩
  rcases h.rho s b hs with ⟨s', e⟩ | e
  · exact hb.2 s' e
  · have := hb.1; omega

theorem Grow.trans {E1 E2 : Env} (h : Grow E E1) (h' : Grow E1 E2) : Grow E E2 := by
  refine ⟨fun b hb => (h'.others b (h.no hb)).trans (h.others b hb), h.held.trans h'.held, fun s b hs => ?_, fun b k hp => ?_, Nat.le_trans h.size h'.size, h'.os.trans h.os, h'.tape.trans h.tape, h'.output.trans h.output⟩
  · rcases h'.rho s b hs with ⟨s', e⟩ | e
    · exact h.rho s' b e
    · exact .inr (Nat.le_trans h.size e)
  · rcases h'.pr b k hp with e | e | ⟨s, e⟩
    · exact h.pr b k e
    · exact .inr (.inl (Nat.le_trans h.size e))
    · rcases h.rho s b e with e | e
      · exact .inr (.inr e)
      · exact .inr (.inl e)
end

/-! The rounds, said of pure values. -/
section
variable {I X : Type} {body : I → X → Option (Nat × X)} {xs : List I} {x0 : X}

/-- The state ahead of the round number n, all before having gone on. -/
def contS (body : I → X → Option (Nat × X)) (xs : List I) (x0 : X) : Nat → Option X
  | 0 => some x0
  | n + 1 => (contS body xs x0 n).bind fun x => (xs[n]?).bind fun it => (body it x).bind fun p => match p.1 with
    | 0 => some p.2
    | _ + 1 => none

theorem over_at {p : Nat × X} (h : overK body xs x0 = some p) : ∀ (n : Nat) (x : X), contS body xs x0 n = some x → n ≤ xs.length ∧ overK body (xs.drop n) x = some p
  | 0, x, hc => by injection hc with hc; subst hc; exact ⟨Nat.zero_le _, by simpa using h⟩
  | n + 1, x, hc => by
    simp only [contS] at hc
    obtain ⟨y, h1, hc⟩ := Option.bind_eq_some_iff.1 hc
    obtain ⟨it, h2, hc⟩ := Option.bind_eq_some_iff.1 hc
    obtain ⟨q, h3, hc⟩ := Option.bind_eq_some_iff.1 hc
    obtain ⟨_, h4⟩ := over_at h n y h1
    have hlt := (List.getElem?_eq_some_iff.1 h2).1
    have hd : xs.drop n = it :: xs.drop (n + 1) := by
      rw [List.drop_eq_getElem_cons hlt]
      rw [List.getElem?_eq_getElem hlt] at h2
      injection h2 with h2; rw [h2]
    rw [hd] at h4
    simp only [overK, h3, Option.bind_some] at h4
    refine ⟨hlt, ?_⟩
    split at hc
    · rename_i h0
      injection hc with hc; subst hc
      rw [h0] at h4; exact h4
    · cases hc

/-- One round. -/
theorem over_round {p : Nat × X} (h : overK body xs x0 = some p) {n : Nat} {x : X} (hc : contS body xs x0 n = some x) {it : I} (hi : xs[n]? = some it) :
    ∃ q, body it x = some q ∧ ((q.1 = 0 ∧ contS body xs x0 (n + 1) = some q.2) ∨ ((∃ m, q.1 = m + 1) ∧ contS body xs x0 (n + 1) = none ∧ p = q)) := by
  obtain ⟨_, h4⟩ := over_at h n x hc
  have hlt := (List.getElem?_eq_some_iff.1 hi).1
  have hd : xs.drop n = it :: xs.drop (n + 1) := by
    rw [List.drop_eq_getElem_cons hlt]
    rw [List.getElem?_eq_getElem hlt] at hi
    injection hi with hi; rw [hi]
  rw [hd] at h4
  simp only [overK] at h4
  obtain ⟨q, h3, h4⟩ := Option.bind_eq_some_iff.1 h4
  refine ⟨q, h3, ?_⟩
  split at h4
  · rename_i h0
    refine .inl ⟨h0, ?_⟩
    simp only [contS, hc, Option.bind_some, hi, h3, h0]
  · rename_i m h0
    injection h4 with h4
    refine .inr ⟨⟨m, h0⟩, ?_, ?_⟩
    · simp only [contS, hc, Option.bind_some, hi, h3, h0]
    · rw [← h4]
      exact Prod.ext h0.symm rfl

theorem over_done {p : Nat × X} (h : overK body xs x0 = some p) {x : X} (hc : contS body xs x0 xs.length = some x) : p = (0, x) := by
  obtain ⟨_, h4⟩ := over_at h _ x hc
  rw [List.drop_length] at h4
  injection h4 with h4
  exact h4.symm
end

end Go.PM
