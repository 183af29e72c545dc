/- The pure machine: a program's functions, to a depth of calls. -/
import Derived.Test.YtepjbmlhfhahcaaPNc
set_option linter.unusedVariables false
set_option linter.unusedSimpArgs false
namespace Go.PM
open Go

variable {P : Program}

theorem Rel.take {A : Fr} {E : Env} {σ : St} {a : Act} (h : Rel P A E σ (fun _ => False) a) {d : Nat} {ds : List Nat} (hD : E.D = d :: ds) :
    Rel P A { E with w := E.w.putObj d (.deferred none), D := ds } σ (fun _ => False) { a with defers := ds.map markOf } := by
  have hx : Held E.w E.Pr ({ E with D := ds } : Env).w ({ E with D := ds } : Env).Pr := Held.refl E.w E.Pr
  have hk : ∀ s, Keeps1 E { E with D := ds } σ.loc σ.loc s := keeps_same rfl rfl
  have hn := h.defers.2.2
  rw [hD] at hn
  have h1 : Rel P A { E with D := ds } σ (fun _ => False) { a with defers := ds.map markOf } := by
    refine ⟨⟨fun s hp => (h.good.obj s hp).keep hx rfl rfl (fun _ _ => rfl) fun _ _ _ _ hu => hu.mono0 hx hk, h.good.pnd, h.good.inj, h.good.base, h.good.prot, h.good.jf, h.good.pr0, h.good.prN, h.good.size, h.good.os, h.good.tape, h.good.output, h.good.yok, h.good.yown, h.good.ylt, fun r hr => ?_⟩,
      fun t ht => (h.slots t ht).mono0 hx hk, h.size, ⟨rfl, fun e => ?_, (List.nodup_cons.1 hn).2⟩, h.tm, h.len, fun k g n hk' => (h.outs k g n hk').mono0 hx hk⟩
    · exact h.good.dm r (by rw [hD]; exact List.mem_cons_of_mem _ hr)
    · have := h.defers.2.1 e; rw [hD] at this; cases this
  have hd : d ∈ E.D := by rw [hD]; exact List.mem_cons_self
  have hdm := h.good.dm d hd
  exact h1.world (held_putObj hdm.1 rfl rfl) (fun s b hs => World.putObj_heap_other (fun e => h.good.dmno hd s (e ▸ hs))) (fun b hb => World.putObj_heap_other (fun e => hdm.2 (e ▸ hb)))
    (fun r hr => World.putObj_heap_other (fun e => (List.nodup_cons.1 hn).1 (e ▸ hr))) (Nat.le_of_eq World.putObj_size.symm) rfl rfl rfl

theorem leaves_marks {fn : Func} {R : Ending → World → Prop} {A : Fr} {σ : St} : ∀ (ds : List Nat) {E : Env} {a : Act}, E.D = ds → Rel P A E σ (fun _ => False) a →
    (∀ E' a', E'.D = [] → a'.tmps = a.tmps → Rel P A E' σ (fun _ => False) a' → ∃ v, (results fn a.tmps).run P E'.w = .ok v E'.w ∧ R (.returned v) E'.w) → LeavesInM Fence.wide 0 P fn a.tmps R (ds.map markOf) .returning E.w
  | [], E, a, hD, h, hk => by
    obtain ⟨v, h1, h2⟩ := hk E a hD rfl h
    exact ⟨v, h1, h2⟩
  | d :: ds, E, a, hD, h, hk => by
    have hdm := h.good.dm d (by rw [hD]; exact List.mem_cons_self)
    refine ⟨by simp, .inl ⟨d, _, rfl, run_takeDeferred hdm.1, ?_⟩⟩
    exact leaves_marks ds (E := { E with w := E.w.putObj d (.deferred none), D := ds }) (a := { a with defers := ds.map markOf }) rfl (h.take hD) hk

theorem exec_sound {cf : Cfg} (hc : CfgOk P cf) {f : FuncId} {fn : Func} {args : List V} {objs : List Obj} {out : Out} (hf : P.funcs[f]? = some fn) (h : execFn cf fn args objs = some out) :
    ConAt P f args objs out ∧ fn.body ≠ none ∧ (fn.name == "runtime.NumGoroutine") = false := by
  unfold execFn at h
  split at h
  · cases h
  rename_i c hb
  obtain ⟨h0, hk⟩ := need_some h
  simp only [Bool.and_eq_true, Bool.not_eq_true'] at h0
  obtain ⟨⟨hle, hob⟩, hname⟩ := h0
  have hle := Nat.le_of_ble_eq_true hle
  refine ⟨?_, by rw [hb]; simp, hname⟩
  intro pt E us j hlen hDe hG hargs
  let A : Fr := { startFr pt E j with n := fn.ntmps, outs := fun k => if k < objs.length then (E.rho (OUT + k)).map fun g => (g, E.bs (OUT + k)) else none }
  have hus : us.toArray.size = args.length := by simp [hlen]
  have hrel : Rel P A E ⟨⟨fun t => args.getD t .un, fn.ntmps⟩, locOf objs (log0 args)⟩ (fun _ => False) { tmps := us.toArray ++ Array.replicate (fn.ntmps - us.toArray.size) undef, defers := [] } := by
    refine ⟨⟨hG.obj, hG.pnd, hG.inj, hG.base, hG.prot, hG.jf, hG.pr0, hG.prN, hG.size, hG.os, hG.tape, hG.output, hG.yok, hG.yown, hG.ylt, hG.dm⟩, fun t ht => ?_, ?_, ⟨by rw [hDe]; rfl, fun e => (by cases e), by rw [hDe]; exact List.nodup_nil⟩, fun t u h => (by cases h), ?_, fun k g n hk' => ?_⟩
    · have ht' : t < fn.ntmps := ht
      have e0 : St.get ⟨⟨fun t => args.getD t .un, fn.ntmps⟩, locOf objs (log0 args)⟩ t = args.getD t .un := Sl.get_lt (l := ⟨fun t => args.getD t .un, fn.ntmps⟩) ht'
      rw [e0]
      by_cases hlt : t < args.length
      · have e1 : args.getD t .un = args[t] := by simp [List.getD, hlt]
        have hlt' : t < us.length := by omega
        have e2 : (us.toArray ++ Array.replicate (fn.ntmps - us.toArray.size) undef).getD t undef = us[t] := by
          rw [Array.getD_eq_getD_getElem?, Array.getElem?_append_left (by simpa using hlt')]
          simp [hlt']
        rw [e1, e2]
        exact hargs t _ _ (List.getElem?_eq_getElem hlt) (List.getElem?_eq_getElem hlt')
      · have e1 : args.getD t .un = .un := by simp [List.getD, List.getElem?_eq_none (Nat.le_of_not_lt hlt)]
        have e2 : (us.toArray ++ Array.replicate (fn.ntmps - us.toArray.size) undef).getD t undef = undef := by
          rw [Array.getD_eq_getD_getElem?, Array.getElem?_append_right (by simp; omega)]
          rw [Array.getElem?_replicate]
          split <;> rfl
        rw [e1, e2]; exact .un
    · show (us.toArray ++ Array.replicate (fn.ntmps - us.toArray.size) undef).size = fn.ntmps
      simp; omega
    · rfl
    · have : (if k < objs.length then (E.rho (OUT + k)).map fun g => (g, E.bs (OUT + k)) else none) = some (g, n) := hk'
      split at this
      · rename_i hlt
        obtain ⟨g', hg'⟩ : ∃ g', E.rho (OUT + k) = some g' := by
          cases hq : E.rho (OUT + k) with
          | none => rw [hq] at this; cases this
          | some g' => exact ⟨g', rfl⟩
        rw [hg'] at this
        simp at this
        obtain ⟨e1, e2⟩ := this
        subst e1
        exact .gh hg' e2
      · cases this
  refine callsIn_wide.1 (callsIn_of_wp_marks (F := Fence.wide) (n := 0) hf hb trivial (wpM (fun e a w hq => ?_) (codeK_sound c hc (ro := none) (A := A) (.inr ⟨rfl, rfl⟩) hrel (fun _ _ => rfl) hk)))
  obtain ⟨x, σ, E1, rfl, hx, rfl, hr⟩ := hq
  have fin : finish cf fn objs.length σ = some out → LeavesInM Fence.wide 0 P fn a.tmps (fun e w' => ∃ u E', e = .returned u ∧ E'.w = w' ∧ Good P (startFr pt E j) E' (locOf out.objs out.log) (fun _ => False) ∧ RV P E' (locOf out.objs out.log) out.r u ∧
      ∀ k, k < objs.length → ∀ g, E.rho (OUT + k) = some g → E'.rho (OUT + k) = some g ∧ E'.bs (OUT + k) = E.bs (OUT + k)) a.defers .returning E1.w := by
    intro hfin
    rw [hr.defers.1]
    refine leaves_marks E1.D rfl hr fun E2 a2 _ ha2 hr2 => ?_
    obtain ⟨u, E', g1, g2, g3, g4, g5⟩ := finish_sound hc.hP hr2 hfin
    rw [ha2] at g1
    refine ⟨u, g1, u, E', rfl, g2, ⟨g3.obj, g3.pnd, g3.inj, g3.base, g3.prot, g3.jf, g3.pr0, g3.prN, g3.size, g3.os, g3.tape, g3.output, g3.yok, g3.yown, g3.ylt, g3.dm⟩, g4, fun k hk' g hg => ?_⟩
    exact g5 k hk' g (E.bs (OUT + k)) (by show (if k < objs.length then (E.rho (OUT + k)).map fun g => (g, E.bs (OUT + k)) else none) = _; rw [if_pos hk', hg]; rfl)
  cases x with
  | normal => exact fin hx
  | ret => exact fin hx
  | exit id => cases hx

/-- What is known of the functions whose contracts are proved by other means. -/
def PrimOk (P : Program) (prim : Prims) : Prop :=
  ∀ f g args objs out, prim.fn f = some g → g args objs = some out → ConAt P f args objs out ∧ ∃ fn, P.funcs[f]? = some fn ∧ fn.body ≠ none ∧ (fn.name == "runtime.NumGoroutine") = false

/-- Iterators yield what is said, whatever the rounds answer. -/
def IterOk (P : Program) (prim : Prims) (laid : FuncId → Laid) (fu : Nat) : Prop :=
  ∀ d f caps xs, prim.iter d f caps = some xs → ∀ l go, ∃ out lg, callN P prim laid fu d f (.c (.yl l go xs) :: caps.map .c) [] = some out ∧ out.log = some lg ∧ (lg.st = true ∨ lg.rest = [])

theorem callN_sound {prim : Prims} {laid : FuncId → Laid} {fu : Nat} (hp : PrimOk P prim) (hi : IterOk P prim laid fu) (hm : P.follows .mixedOrders = true) :
    ∀ (d : Nat) (f : FuncId) (args : List V) (objs : List Obj) (out : Out), callN P prim laid fu d f args objs = some out → ConAt P f args objs out ∧ ∃ fn, P.funcs[f]? = some fn ∧ fn.body ≠ none ∧ (fn.name == "runtime.NumGoroutine") = false
  | 0, f, args, objs, out, h => by cases h
  | d + 1, f, args, objs, out, h => by
    simp only [callN] at h
    split at h
    · rename_i g hg; exact hp f g args objs out hg h
    · split at h
      · cases h
      · rename_i fn hf
        have hc : CfgOk P { P := P, call := callN P prim laid fu d, iter := prim.iter d, rnd := false, fuel := fu, own := (laid f).own, keep := (laid f).keep, join := (laid f).join, exp := (laid f).exp, xo := fun f => (laid f).exp, hand := fun f => (laid f).hand } :=
          ⟨rfl, fun f args objs out h => (callN_sound hp hi hm d f args objs out h).1, fun f args objs out h => (callN_sound hp hi hm d f args objs out h).2, hm, fun f caps xs h l go => hi d f caps xs h l go⟩
        obtain ⟨h1, h2, h3⟩ := exec_sound hc hf h
        exact ⟨h1, fn, hf, h2, h3⟩

end Go.PM
