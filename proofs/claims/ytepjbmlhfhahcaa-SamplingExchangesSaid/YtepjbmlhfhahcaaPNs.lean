/- The pure machine: a round of a range over a function. -/
import Derived.Test.YtepjbmlhfhahcaaPNr
set_option linter.unusedVariables false
set_option linter.unusedSimpArgs false
namespace Go.PM
open Go

variable {P : Program} {R : Type} {r : R}

section
variable {A : Fr} {E : Env} {σ : St} {a : Act}

theorem Rel.world (h : Rel P A E σ (fun _ => False) a) {w' : World} (hx : Held E.w E.Pr w' E.Pr) (hg : ∀ s b, E.rho s = some b → w'.heap[b]? = E.w.heap[b]?) (hy : ∀ b, E.Y b → w'.heap[b]? = E.w.heap[b]?)
    (hd : ∀ r, r ∈ E.D → w'.heap[r]? = E.w.heap[r]?) (hs : E.w.heap.size ≤ w'.heap.size) (ho : w'.os = E.w.os) (ht : w'.tape = E.w.tape) (hu : w'.output = E.w.output) : Rel P A { E with w := w' } σ (fun _ => False) a := by
  have hk : ∀ s, Keeps1 E { E with w := w' } σ.loc σ.loc s := keeps_same rfl rfl
  have hx' : Held E.w E.Pr ({ E with w := w' } : Env).w ({ E with w := w' } : Env).Pr := hx
  refine ⟨⟨fun s hp => (h.good.obj s hp).keep hx' rfl rfl (fun g hs' => hg s g hs') fun _ _ _ _ hu => hu.mono0 hx' hk, fun s hp => hp.elim, h.good.inj, h.good.base, fun b k hp => ⟨Nat.lt_of_lt_of_le (h.good.prot b k hp).1 hs, (h.good.prot b k hp).2⟩,
    h.good.jstep (E' := { E with w := w' }) rfl rfl hx' (fun _ _ h => .inl h) hy hs ho ht hu, h.good.pr0.trans hx', h.good.prN, Nat.le_trans h.good.size hs, ho.trans h.good.os, ht.trans h.good.tape, hu.trans h.good.output, h.good.yok, h.good.yown, fun b hb => Nat.lt_of_lt_of_le (h.good.ylt b hb) hs,
    fun r hr => ⟨(hd r hr).trans (h.good.dm r hr).1, (h.good.dm r hr).2⟩⟩, fun t ht' => (h.slots t ht').mono0 hx' hk, h.size, h.defers, h.tm, h.len, fun k g n hk' => (h.outs k g n hk').mono0 hx' hk⟩
end

/-- Items in the slots of the loop's variables. -/
theorem putPs_rel {E : Env} {l : Loc} : ∀ (ps : List Nat) (it : List V) (us : List Value) (sl : Sl) (tm : Array Value), us.length = it.length → (∀ (i : Nat) (x : V) (u : Value), it[i]? = some x → us[i]? = some u → RI E.w E.Pr x u) →
    (∀ t, t < sl.length → RV P E l (sl.get t) (tm.getD t undef)) → tm.size = sl.length →
    (putPs ps it sl).length = sl.length ∧ ((ps.zip us).foldl (fun t p => t.setIfInBounds p.1 p.2) tm).size = sl.length ∧ ∀ t, t < sl.length → RV P E l ((putPs ps it sl).get t) (((ps.zip us).foldl (fun t p => t.setIfInBounds p.1 p.2) tm).getD t undef)
  | [], it, us, sl, tm, _, _, h, hs => by simp only [putPs, List.zip_nil_left, List.foldl_nil]; exact ⟨trivial, hs, h⟩
  | p :: ps, [], us, sl, tm, hl, _, h, hs => by
    have : us = [] := List.length_eq_zero_iff.1 hl
    subst this
    simp only [putPs, List.zip_nil_right, List.foldl_nil]; exact ⟨trivial, hs, h⟩
  | p :: ps, x :: it, [], sl, tm, hl, _, h, hs => by simp at hl
  | p :: ps, x :: it, u :: us, sl, tm, hl, hi, h, hs => by
    simp only [putPs, List.zip_cons_cons, List.foldl_cons]
    have hx : RV P E l x u := by
      cases hi 0 x u rfl rfl with
      | c h => exact .c h
      | agg h => exact .agg h
    have := putPs_rel (E := E) (l := l) ps it us (sl.set p x) (tm.setIfInBounds p u) (by simpa using hl) (fun i y v hy hv => hi (i + 1) y v (by simpa using hy) (by simpa using hv)) (fun t ht => by
      have ht' : t < sl.length := ht
      by_cases e : p = t
      · subst e
        rw [Sl.set_self ht']
        have : (tm.setIfInBounds p u).getD p undef = u := by simp [Array.getD, hs, ht']
        rw [this]; exact hx
      · rw [Sl.set_ne e]
        have : (tm.setIfInBounds p u).getD t undef = tm.getD t undef := by
          simp only [Array.getD, Array.size_setIfInBounds]
          by_cases hlt : t < tm.size
          · simp [hlt, Array.getElem_setIfInBounds_ne, e]
          · simp [hlt]
        rw [this]; exact h t ht') (by simp [hs])
    exact this

theorem putPs_other : ∀ (ps : List Nat) (us : List Value) (tm : Array Value) {t : Nat}, t ∉ ps → ((ps.zip us).foldl (fun t p => t.setIfInBounds p.1 p.2) tm).getD t undef = tm.getD t undef
  | [], us, tm, t, _ => by simp
  | p :: ps, [], tm, t, _ => by simp
  | p :: ps, u :: us, tm, t, h => by
    simp only [List.zip_cons_cons, List.foldl_cons]
    rw [putPs_other ps us _ (fun e => h (List.mem_cons_of_mem _ e))]
    have e : p ≠ t := fun e => h (by simp [e])
    simp only [Array.getD, Array.size_setIfInBounds]
    by_cases hlt : t < tm.size
    · simp [hlt, Array.getElem_setIfInBounds_ne, e]
    · simp [hlt]

/-- Slots that nothing is carried in stay struck. -/
theorem putPts_other (s : Nat) : ∀ (ts : List (Nat × Nat)) (sl : Sl) {t : Nat}, t ∉ ts.map (·.1) → (putPts s ts sl).get t = sl.get t
  | [], sl, t, _ => rfl
  | p :: ts, sl, t, h => by
    simp only [putPts]
    rw [putPts_other s ts _ (fun e => h (by simp at e ⊢; exact .inr e)), Sl.set_ne (fun e => h (by simp [e]))]

theorem keep_other (kp : Keep) (x : kp.ty) (τ : St) {t : Nat} (h : t ∉ kp.slots) : (kp.put P x τ).slots.get t = τ.slots.get t := by
  cases kp with
  | lf s l => exact Sl.set_ne (fun e => h (by simp [Keep.slots, e]))
  | ag s ls => exact Sl.set_ne (fun e => h (by simp [Keep.slots, e]))
  | ao s => exact Sl.set_ne (fun e => h (by simp [Keep.slots, e]))
  | ow s d ty => exact Sl.set_ne (fun e => h (by simp [Keep.slots, e]))
  | us s d ty => exact Sl.set_ne (fun e => h (by simp [Keep.slots, e]))
  | ob s ty ls ts => exact putPts_other s ts _ (by simpa [Keep.slots] using h)
  | oo s ty ts => exact putPts_other s ts _ (by simpa [Keep.slots] using h)
  | lg => rfl

theorem putKs_other : ∀ (ks : List Keep) (x : KTys ks) (τ : St) {t : Nat}, (∀ q ∈ ks, t ∉ q.slots) → (putKs P ks x τ).slots.get t = τ.slots.get t
  | [], _, τ, t, _ => rfl
  | kp :: ks, (x, y), τ, t, h => by
    simp only [putKs]
    rw [putKs_other ks y _ (fun q hq => h q (by simp [hq])), keep_other kp x τ (h kp (by simp))]

theorem putKs_log : ∀ (ks : List Keep) (x : KTys ks) (τ : St), (∀ q ∈ ks, q.noLg = true) → (putKs P ks x τ).loc.log = τ.loc.log
  | [], _, τ, _ => rfl
  | kp :: ks, (x, y), τ, h => by
    simp only [putKs]
    rw [putKs_log ks y _ (fun q hq => h q (by simp [hq]))]
    have := h kp (by simp)
    cases kp <;> first | rfl | cases this

theorem clean_struck {ws : List Nat} {σ : St} {t : Nat} (h : t ∈ ws) : (σ.clean ws).slots.get t = .und := by
  by_cases hl : t < σ.slots.length
  · rcases clean_get (ws := ws) hl with e | ⟨e, _⟩
    · exact e
    · exact absurd h e
  · exact Sl.get_ge hl

/-- What holds between two rounds. -/
structure RInv (P : Program) (A : Fr) (E1 E2 : Env) (a : Act) (ws : List Nat) (τ : St) (L D0 n1 : Nat) (rec : Go.Obj) (Y : Nat → Prop) (Pr : Nat → Nat → Prop) (W : World) (E3 : Env) : Prop where
  w : E3.w = W
  Y3 : E3.Y = E2.Y
  D3 : E3.D = E2.D
  low : ∀ b, b < n1 → Y b
  own : ∀ s b, E3.rho s = some b → Y b
  pr : ∀ b k, E3.Pr b k → Y b ∨ Pr b k
  prY : ∀ b k, Pr b k → Y b → E3.Pr b k
  prN : ∀ b k, Pr b k → E2.Pr b k ∨ n1 ≤ b
  rel : Rel P (A.re E1 a ws) E3 τ (fun _ => False) a
  hD : W.heap[D0]? = some (.deferred (some []))
  hL : W.heap[L]? = some rec

section
variable {A : Fr} {E1 E2 E3 : Env} {a : Act} {ws : List Nat} {τ : St} {L D0 n1 : Nat} {rec : Go.Obj} {Y : Nat → Prop} {Pr : Nat → Nat → Prop} {W : World}

theorem RInv.stab (h : RInv P A E1 E2 a ws τ L D0 n1 rec Y Pr W E3) (hY2 : ∀ b, E2.Y b → b < n1) (hD2 : ∀ r, r ∈ E2.D → r < n1) (hLn : L < n1) (hDn : D0 < n1) {Pr' : Nat → Nat → Prop} {w' : World} (hb : ∀ b, Y b → w'.heap[b]? = W.heap[b]?) (hx : Held W Pr w' Pr')
    (hpr : ∀ b k, Pr' b k → Pr b k ∨ ¬ Y b) (hs : W.heap.size ≤ w'.heap.size) (ho : w'.os = W.os) (ht : w'.tape = W.tape) (hu : w'.output = W.output) : RInv P A E1 E2 a ws τ L D0 n1 rec Y Pr' w' { E3 with w := w' } := by
  have hw := h.w
  subst hw
  refine ⟨rfl, h.Y3, h.D3, h.low, h.own, fun b k hp => ?_, fun b k hp hy => ?_, fun b k hp => ?_, ?_, (hb _ (h.low _ hDn)).trans h.hD, (hb _ (h.low _ hLn)).trans h.hL⟩
  · rcases h.pr b k hp with e | e
    · exact .inl e
    · exact .inr (hx b k e).1
  · rcases hpr b k hp with e | e
    · exact h.prY b k e hy
    · exact absurd hy e
  · rcases hpr b k hp with e | e
    · exact h.prN b k e
    · exact .inr (Nat.le_of_not_lt fun hlt => e (h.low b hlt))
  · refine h.rel.world (fun b k hp => ⟨hp, ?_⟩) (fun s b hs' => hb b (h.own s b hs')) (fun b hy => hb b (h.low b (hY2 b (by rw [← h.Y3]; exact hy)))) (fun r hr => hb r (h.low r (hD2 r (by rw [← h.D3]; exact hr)))) hs ho ht hu
    rcases h.pr b k hp with e | e
    · exact World.cell?_of_block (w := E3.w) (hb b e)
    · exact (hx b k e).2
end

end Go.PM
