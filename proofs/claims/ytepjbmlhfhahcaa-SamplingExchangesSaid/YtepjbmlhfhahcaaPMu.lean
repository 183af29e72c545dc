/- The pure machine: regions. -/
import Derived.Test.YtepjbmlhfhahcaaPMt
import Derived.Tactics
set_option linter.unusedVariables false
set_option linter.unusedSimpArgs false
namespace Go.PM
open Go

variable {P : Program}

structure CfgOk (P : Program) (cf : Cfg) : Prop where
  hP : cf.P = P
  con : ∀ f args objs out, cf.call f args objs = some out → ConAt P f args objs out
  fn : ∀ f args objs out, cf.call f args objs = some out → ∃ fn, P.funcs[f]? = some fn ∧ fn.body ≠ none ∧ (fn.name == "runtime.NumGoroutine") = false
  mixed : P.follows .mixedOrders = true
  iter : ∀ f caps xs, cf.iter f caps = some xs → ∀ l go, ∃ out lg, cf.call f (.c (.yl l go xs) :: caps.map .c) [] = some out ∧ out.log = some lg ∧ (lg.st = true ∨ lg.rest = [])

/-- No fence but the frame's own loop. -/
def FW (ro : Option Nat) : Fence := { Fence.wide with round := ro }

/-- An operation that is passed over, or done. -/
def doOp (ro : Option Nat) (P : Program) (o : Oper) (b : Bool) (a : Act) (w : World) (K : Act → World → Prop) (Q : Exit → Act → World → Prop) : Prop :=
  if b then o.wpIn (FW ro) 0 P a w K Q else (∀ f, o.about P w a.eval = some f → (FW ro).fn f) ∧ K (a.put o.dst undef) w

theorem gives_wp {ro : Option Nat} {o : Oper} {a : Act} {w : World} {Φ : Value → World → Prop} {K : Act → World → Prop} {Q : Exit → Act → World → Prop} (hnd : ∀ c, o.op ≠ .defer c)
    (h : Gives P ((execOp a.eval o).run P w) Φ) (hK : ∀ u w', Φ u w' → K (a.put o.dst u) w') : o.wpIn (FW ro) 0 P a w K Q := by
  unfold Oper.wpIn
  refine ⟨fun _ _ => trivial, ?_⟩
  rw [Oper.semAt_eq (FW ro).round a.eval o hnd]
  generalize (execOp a.eval o).run P w = r at h ⊢
  cases r with
  | ok n w' =>
    cases n with
    | value u => exact hK _ _ h
    | skip => exact hK _ _ h
    | enter f args =>
      have h1 : CallsIn (FW ro) 0 P f args w' (fun e w'' => ∃ u, e = .returned u ∧ Φ u w'') := callsIn_wide.2 h
      refine ⟨fun e => (by cases e), CallsIn.mono h1 fun e w'' he => ?_⟩
      obtain ⟨u, rfl, hu⟩ := he
      exact hK _ _ hu
    | round l f tmps assign body =>
      have h1 : RoundIn (FW ro) 0 P l f tmps assign body w' (fun e w'' => ∃ u, e = .returned u ∧ Φ u w'') := h
      refine ⟨fun e => (by cases e), RoundIn.mono h1 fun e w'' he => ?_⟩
      obtain ⟨u, rfl, hu⟩ := he
      exact hK _ _ hu
    | _ => exact h.elim
  | halt x w' => exact h.elim

theorem opK_nodefer {cf : Cfg} {strict : Bool} {o : Oper} {e : Operand → V} {l : Loc} {R : Type} {k : V → Loc → List Nat → Option R} {r : R} (h : opK cf strict o e l k = some r) (c : Call) : o.op ≠ .defer c := by
  intro ho
  unfold opK at h
  rw [ho] at h
  cases h

section
variable {cf : Cfg} {strict : Bool} {ops : Array Oper} {A : Fr} {Q : Exit → Act → World → Prop}

/-- What a region's text fixes of its variables. -/
structure Fixed (A : Fr) (ops : Array Oper) : Prop where
  pt : ∀ (i : Nat) (o : Oper) (t : TypeId) (d : Nat), ops[i]? = some o → o.op = .alloc t → o.dst = some d → A.pt d = t
  gd : ∀ (i : Nat) (o : Oper), ops[i]? = some o → isAlloc o = true → o.guard = none

theorem gop_step {ro : Option Nat} (hc : CfgOk P cf) {o : Oper} (hgd : isAlloc o = true → o.guard = none) (hpt : ∀ t d, o.op = .alloc t → o.dst = some d → A.pt d = t) {E : Env} {σ : St} {pend : Nat → Prop} {a : Act} (h : Rel P A E σ pend a)
    (htm : ∀ d, o.dst = some d → A.tm d = none) (hal : isAlloc o = true → ∀ d, o.dst = some d → pend d) (hnd : isAlloc o = false → ∀ d, o.dst = some d → ¬ pend d) {σ1 : St}
    (hg : gop cf strict (fun j => (ops[j]?).bind (·.dst)) o σ = some σ1) {K : Act → World → Prop} (hK : ∀ E' a', Rel P A E' σ1 (pendAfter pend o) a' → K a' E'.w) :
    doOp ro P o (Region.wanted o (yielded ops a.tmps)) a E.w K Q := by
  have run : Region.wanted o (yielded ops a.tmps) = true → opK cf strict o σ.ev σ.loc (fun x l ks => need (okKs ks) (some (σ.after o.dst x l ks))) = some σ1 → doOp ro P o (Region.wanted o (yielded ops a.tmps)) a E.w K Q := by
    intro hw hk
    unfold doOp
    rw [if_pos hw]
    obtain ⟨x, l', ks, h1, h2⟩ := opK_sound (P := P) (ρ := a.eval) h.good hc.hP hc.con hc.fn (fun y _ => rv_ev h y) (fun f => rfl)
      (fun t d ho hd => ⟨hal (by simp [isAlloc, ho]) d hd, hpt t d ho hd⟩) hnd hk
    refine gives_wp (opK_nodefer hk) h2 fun u w' hu => ?_
    obtain ⟨hks, h1⟩ := need_some h1
    obtain ⟨E', e1, h3⟩ := rel_after (dst := o.dst) h htm hks hu
    injection h1 with h1
    rw [h1] at h3
    rw [← e1]; exact hK E' _ h3
  have idle : isAlloc o = false → Region.wanted o (yielded ops a.tmps) = false → some (σ.after o.dst .un σ.loc []) = some σ1 → doOp ro P o (Region.wanted o (yielded ops a.tmps)) a E.w K Q := by
    intro hna hw hk
    unfold doOp
    rw [if_neg (by simp [hw])]
    refine ⟨fun _ _ => trivial, ?_⟩
    obtain ⟨E', e1, h3⟩ := rel_after (dst := o.dst) (x := .un) (l' := σ.loc) (ks := []) (u := undef) (w' := E.w) (pend' := pend) h htm rfl ⟨E, rfl, ⟨h.good, rfl⟩, .un, fun _ _ h _ => h⟩
    injection hk with hk
    rw [hk] at h3
    rw [← e1]
    refine hK E' _ ?_
    rw [pendAfter_eq hna]; exact h3
  unfold gop at hg
  split at hg
  · rename_i hn
    exact run (by simp [Region.wanted, hn]) hg
  · rename_i j want hj
    have hna : isAlloc o = false := by
      cases e : isAlloc o
      · rfl
      · rw [hgd e] at hj; cases hj
    split at hg
    · cases hg
    · rename_i d hd
      have hd' : (ops[j]?).bind (·.dst) = some d := hd
      have hr := rv_ev h (.tmp d)
      split at hg
      · rename_i q hq
        have hv : a.tmps.getD d undef = .bool q := by
          have : RV P E σ.loc (σ.get d) (a.tmps.getD d undef) := hr
          rw [hq] at this
          generalize a.tmps.getD d undef = u at this ⊢
          cases this with
          | c h => cases h; rfl
        have hy : yielded ops a.tmps j = some q := by
          unfold yielded
          rw [hd']
          by_cases hlt : d < a.tmps.size
          · have e : a.tmps[d] = .bool q := by simpa [Array.getD, hlt] using hv
            simp [hlt, e]
          · simp [Array.getD, hlt, undef] at hv
        cases hb : (q == want)
        · rw [hb] at hg
          refine idle hna ?_ hg
          unfold Region.wanted
          rw [hj]
          simp only [hy]
          simpa using hb
        · rw [hb] at hg
          refine run ?_ hg
          unfold Region.wanted
          rw [hj]
          simp only [hy]
          simpa using hb
      · rename_i hq
        have hv : a.tmps.getD d undef = undef := by
          have : RV P E σ.loc (σ.get d) (a.tmps.getD d undef) := hr
          rw [hq] at this
          generalize a.tmps.getD d undef = u at this ⊢
          cases this; rfl
        have hy : yielded ops a.tmps j = none := by
          unfold yielded
          rw [hd']
          by_cases hlt : d < a.tmps.size
          · have e : a.tmps[d] = undef := by simpa [Array.getD, hlt] using hv
            simp [hlt, e, undef]
          · simp [hlt]
        refine idle hna ?_ hg
        unfold Region.wanted
        rw [hj]
        simp [hy]
      · cases hg

/-- A variable that a region is yet to make. -/
theorem Good.pend {E : Env} {l : Loc} {pend : Nat → Prop} (h : Good P A E l pend) {d : Nat} {t : TypeId} {cs : List C} (hd : l d = .dead) (hp : ¬ pend d) (ht : A.pt d = t) (hz : zeroCs P t = some cs)
    (href : ∀ s' t x, l s' = .rf t x → x.at d = false) : Good P A E (l.put d (.ob t 0 cs)) (fun s => pend s ∨ s = d) := by
  have hr : E.rho d = none := by
    have := h.obj d hp
    rw [hd] at this
    cases this; assumption
  refine ⟨fun s hs => ?_, fun s hs => ?_, h.inj, h.base, fun b k hb => ⟨(h.prot b k hb).1, fun s hs => ?_⟩, h.jf, h.pr0, h.prN, h.size, h.os, h.tape, h.output, h.yok, h.yown, h.ylt, h.dm⟩
  · have hne : s ≠ d := fun e => hs (.inr e)
    rw [put_other _ _ hne]
    refine (h.obj s fun e => hs (.inl e)).keep (.refl _ _) rfl rfl (fun _ _ => rfl) fun t' x u hx hv => ?_
    refine hv.mono (fun s => s = d) (.refl _ _) (fun s' hne' => ?_) (fun s' e => by subst e; exact href s t' x hx)
    by_cases hd' : l s' = .dead
    · exact .inl (by rw [put_other _ _ hne']; exact hd')
    · exact .inr ⟨hd', rfl, rfl, .same (put_other _ _ hne')⟩
  · by_cases e : s = d
    · subst e; exact ⟨hr, cs, by rw [ht]; exact hz, by rw [put_same, ht]⟩
    · rw [put_other _ _ e]; exact h.pnd s (hs.resolve_right e)
  · have hne : s ≠ d := fun e => by rw [e, hr] at hs; cases hs
    rw [put_other _ _ hne]; exact (h.prot b k hb).2 s hs

theorem any_beq {d : Nat} {l : List Nat} : l.any (Nat.beq d) = true ↔ d ∈ l := by
  rw [List.any_eq_true]
  constructor
  · rintro ⟨x, hx, e⟩; rw [Nat.eq_of_beq_eq_true e]; exact hx
  · exact fun h => ⟨d, h, Nat.beq_refl d⟩

theorem allocDsts_cons (o : Oper) (os : List Oper) : allocDsts (o :: os) = (match allocDst o with | some d => d :: allocDsts os | none => allocDsts os) := by
  simp only [allocDsts, List.filterMap_cons]
  cases allocDst o <;> rfl

theorem allocs_sound : ∀ (os : List Oper) {E : Env} {σ : St} {pend : Nat → Prop} {a : Act} {σ1 : St} (_ : Rel P A E σ pend a) (_ : ∀ d ∈ allocDsts os, ¬ pend d) (_ : nodupB (allocDsts os) = true)
    (_ : ∀ o ∈ os, ∀ t d, o.op = .alloc t → o.dst = some d → A.pt d = t) (_ : allocs P os σ = some σ1),
    ∃ E', E'.w = E.w ∧ Rel P A E' σ1 (fun s => pend s ∨ s ∈ allocDsts os) a ∧ ∀ o ∈ os, isAlloc o = true → o.guard = none
  | [], E, σ, pend, a, σ1, h, _, _, _, hk => by
    injection hk with hk
    subst hk
    refine ⟨E, rfl, ?_, by simp⟩
    have : (fun s => pend s ∨ s ∈ allocDsts []) = pend := by funext s; simp [allocDsts]
    rw [this]; exact h
  | o :: os, E, σ, pend, a, σ1, h, hp, hn, hpt, hk => by
    rw [allocDsts_cons] at hp hn ⊢
    unfold allocs at hk
    split at hk
    case h_1 t d ho hd hgd =>
      have e1 : allocDst o = some d := by simp [allocDst, isAlloc, ho, hd]
      rw [e1] at hp hn ⊢
      simp only [nodupB, Bool.and_eq_true, Bool.not_eq_true'] at hn
      have hnd : d ∉ allocDsts os := fun e => by have := any_beq.2 e; rw [hn.1] at this; cases this
      split at hk
      case h_2 => cases hk
      case h_1 zs hz =>
        obtain ⟨hlt, hk⟩ := need_some hk
        have hlt : d < OUT := Nat.le_of_ble_eq_true hlt
        have hG := h.good.kill (hp d (by simp))
        have hG2 := hG.pend (d := d) (t := t) (cs := zs) (by simp [Loc.kill]) (hp d (by simp)) (hpt o (by simp) t d ho hd) hz (fun s' t' x hs => by
          rcases kill_cases d σ.loc s' with e | ⟨e, _, e2⟩
          · rw [e] at hs; cases hs
          · rw [e] at hs; exact e2 t' x hs)
        have h2 : Rel P A (E.kill σ.loc d) ⟨σ.slots.map (V.kill d), (σ.loc.kill d).put d (.ob t 0 zs)⟩ (fun s => pend s ∨ s = d) a := by
          refine ⟨hG2, fun t' ht' => ?_, by rw [h.size]; simp, h.defers, h.tm, by rw [← h.len]; simp, fun k g n hk' => ?_⟩
          · have hlt : t' < σ.slots.length := by simpa using ht'
            have e : St.get ⟨σ.slots.map (V.kill d), (σ.loc.kill d).put d (.ob t 0 zs)⟩ t' = (σ.get t').kill d := Sl.map_lt hlt
            rw [e]
            have r1 : RV P (E.kill σ.loc d) (σ.loc.kill d) ((σ.get t').kill d) (a.tmps.getD t' undef) := RV.mono0 (E := E) (l := σ.loc) (E' := E.kill σ.loc d) (l' := σ.loc.kill d) (.refl _ _) (fun s => .kill E σ.loc d s) ((h.slots t' hlt).kill d)
            refine r1.mono (fun s => s = d) (.refl _ _) (fun s' hne' => ?_) (fun s' e => by subst e; exact at_kill _ _)
            by_cases hd' : σ.loc.kill d s' = .dead
            · exact .inl (by simp only; rw [put_other _ _ hne']; exact hd')
            · exact .inr ⟨hd', rfl, rfl, .same (put_other _ _ hne')⟩
          · have r1 : RV P (E.kill σ.loc d) (σ.loc.kill d) (.gh (OUT + k)) (ghv g n) := RV.mono0 (E := E) (l := σ.loc) (E' := E.kill σ.loc d) (l' := σ.loc.kill d) (.refl _ _) (fun s => .kill E σ.loc d s) (h.outs k g n hk')
            refine r1.mono (fun s => s = d) (.refl _ _) (fun s' hne' => ?_) (fun s' e => by subst e; exact gh_at hlt)
            by_cases hd' : σ.loc.kill d s' = .dead
            · exact .inl (by simp only; rw [put_other _ _ hne']; exact hd')
            · exact .inr ⟨hd', rfl, rfl, .same (put_other _ _ hne')⟩
        obtain ⟨E', g1, g2, g3⟩ := allocs_sound os h2 (fun d' hd' e => by
          rcases e with e | e
          · exact hp d' (List.mem_cons_of_mem _ hd') e
          · subst e; exact hnd hd') hn.2 (fun o ho => hpt o (List.mem_cons_of_mem _ ho)) hk
        refine ⟨E', g1, ?_, fun o' ho' hi' => ?_⟩
        · have : (fun s => pend s ∨ s ∈ d :: allocDsts os) = (fun s => (pend s ∨ s = d) ∨ s ∈ allocDsts os) := by funext s; simp [or_assoc]
          rw [this]; exact g2
        · rcases List.mem_cons.1 ho' with rfl | ho'
          · exact hgd
          · exact g3 o' ho' hi'
    case h_2 => cases hk
    case h_3 hne1 hne2 =>
      have hna : isAlloc o = false := by
        unfold isAlloc
        split
        · rename_i t ho; exact (hne1 t ho).elim
        · rfl
      have e1 : allocDst o = none := by simp [allocDst, hna]
      rw [e1] at hp hn ⊢
      obtain ⟨E', g1, g2, g3⟩ := allocs_sound os h hp hn (fun o ho => hpt o (List.mem_cons_of_mem _ ho)) hk
      refine ⟨E', g1, g2, fun o' ho' hi' => ?_⟩
      rcases List.mem_cons.1 ho' with rfl | ho'
      · rw [hna] at hi'; cases hi'
      · exact g3 o' ho' hi'
end

end Go.PM
