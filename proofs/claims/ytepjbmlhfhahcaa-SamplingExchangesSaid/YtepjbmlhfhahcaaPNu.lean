/- The pure machine: a range over a function. -/
import Derived.Test.YtepjbmlhfhahcaaPNt
set_option linter.unusedVariables false
set_option linter.unusedSimpArgs false
namespace Go.PM
open Go

variable {P : Program}

theorem exIdx_zero {ex : List Ex} {x : Ex} (h : exIdx (.normal :: ex) x = some 0) : x = .normal := by
  unfold exIdx at h
  split at h
  · rename_i he; exact (of_decide_eq_true he).symm
  · split at h
    · injection h with h; cases h
    · cases h

theorem exIdx_normal {ex : List Ex} {n : Nat} (h : exIdx (.normal :: ex) .normal = some n) : n = 0 := by
  unfold exIdx at h
  simp at h
  exact h.symm

theorem jumpOf_none {x : Ex} (h : (jumpOf x).isNone = true) : x = .normal := by cases x <;> first | rfl | cases h

section
variable {A : Fr} {E1 E2 : Env} {σ1 : St} {a : Act} {ws : List Nat} {L D0 n1 : Nat} {kp : Keeps} {cf : Cfg} {ps : Array Tmp} {as bd : Code}

/-- What the rounds answer. -/
noncomputable def goOf {I X : Type} (body : I → X → Option (Nat × X)) (xs : List I) (x0 : X) (n : Nat) : Bool := (contS body xs x0 (n + 1)).isSome

/-- What the caller holds while the iterator runs. -/
noncomputable def rangeJ (F : RFix P A E1 E2 σ1 a ws L D0 n1 kp cf ps as bd) (fn : FuncId) (xs : List (List V)) (x0 : KTys kp.ks) (p : Nat × KTys kp.ks) : JT where
  J Y Pr lg W := (∃ n x E3, contS (bodyF P kp cf σ1 ws ps as bd) xs x0 n = some x ∧ n ≤ xs.length ∧ (lg = none ∨ lg = some ⟨L, goOf (bodyF P kp cf σ1 ws ps as bd) xs x0, n, xs.drop n, false⟩) ∧
      RInv P A E1 E2 a ws (putKs P kp.ks x (σ1.clean ws)) L D0 n1 (.loop (recOf fn a ps as bd D0 .ready none)) Y Pr W E3) ∨
    (∃ x' E3, exIdx (.normal :: kp.ex) x' = some p.1 ∧ (jumpOf x').isNone = false ∧ (lg = none ∨ ∃ n rest, lg = some ⟨L, goOf (bodyF P kp cf σ1 ws ps as bd) xs x0, n, rest, true⟩) ∧
      RInv P A E1 E2 a ws (putKs P kp.ks p.2 (σ1.clean ws)) L D0 n1 (.loop (recOf fn a ps as bd D0 .done (jumpOf x'))) Y Pr W E3)
  stab := fun h hb hx hpr hs ho ht hu => by
    rcases h with ⟨n, x, E3, h1, h2, h3, h4⟩ | ⟨x', E3, h1, h2, h3, h4⟩
    · exact .inl ⟨n, x, _, h1, h2, h3, h4.stab F.y2 F.d2 F.lL F.lD hb hx hpr hs ho ht hu⟩
    · exact .inr ⟨x', _, h1, h2, h3, h4.stab F.y2 F.d2 F.lL F.lD hb hx hpr hs ho ht hu⟩
  weak := fun h => by
    rcases h with ⟨n, x, E3, h1, h2, h3, h4⟩ | ⟨x', E3, h1, h2, h3, h4⟩
    · exact .inl ⟨n, x, _, h1, h2, .inl rfl, h4⟩
    · exact .inr ⟨x', _, h1, h2, .inl rfl, h4⟩

theorem rangeJ_yok (F : RFix P A E1 E2 σ1 a ws L D0 n1 kp cf ps as bd) (fn : FuncId) {xs : List (List V)} {x0 : KTys kp.ks} {p : Nat × KTys kp.ks} (hp : overK (bodyF P kp cf σ1 ws ps as bd) xs x0 = some p) : YOk P (rangeJ F fn xs x0 p) := by
  intro Y Pr lg w it rest us hJ hst hrest hul hus hPlt hYlt
  rcases hJ with ⟨n, x, E3, h1, h2, h3, h4⟩ | ⟨x', E3, h1, h2, h3, h4⟩
  · rcases h3 with h3 | h3
    · cases h3
    injection h3 with h3
    subst h3
    have hd : xs.drop n = it :: rest := hrest
    have hlt : n < xs.length := by
      apply Nat.lt_of_not_le
      intro hle
      rw [List.drop_eq_nil_of_le hle] at hd; cases hd
    have hd2 := List.drop_eq_getElem_cons hlt
    rw [hd] at hd2
    injection hd2 with e1 e2
    have hi : xs[n]? = some it := by rw [List.getElem?_eq_getElem hlt, e1]
    obtain ⟨q, hq, hc⟩ := over_round hp h1 hi
    obtain ⟨fn', tmps, as', bd', hrun, hR⟩ := round_step F h4 hPlt hYlt hul hus hq
    refine ⟨fn', tmps, as', bd', hrun, hR.mono fun e W' he => ?_⟩
    obtain ⟨x', hx', he, Y', E4, y1, y2, y3, hx, hinv, hfr, hsz, hos, htp, hou⟩ := he
    rcases hc with ⟨hq0, hcS⟩ | ⟨⟨m, hqm⟩, hcS, hpq⟩
    · rw [hq0] at hx'
      have := exIdx_zero hx'
      subst this
      have hgo : goOf (bodyF P kp cf σ1 ws ps as bd) xs x0 n = true := by unfold goOf; rw [hcS]; rfl
      refine ⟨?_, Y', y1, y2, y3, hx, .inl ⟨n + 1, q.2, E4, hcS, hlt, .inr ?_, hinv⟩, hfr, hsz, hos, htp, hou⟩
      · rw [he]; simp only [jumpOf, Option.isNone_none, hgo]
      · simp only [hgo, e2]; rfl
    · have hne : (jumpOf x').isNone = false := by
        cases hj : (jumpOf x').isNone with
        | false => rfl
        | true =>
          have := jumpOf_none hj
          subst this
          have := exIdx_normal hx'
          omega
      have hgo : goOf (bodyF P kp cf σ1 ws ps as bd) xs x0 n = false := by unfold goOf; rw [hcS]; rfl
      subst hpq
      rw [hne] at hinv
      refine ⟨?_, Y', y1, y2, y3, hx, .inr ⟨x', E4, hx', hne, .inr ⟨n + 1, rest, ?_⟩, hinv⟩, hfr, hsz, hos, htp, hou⟩
      · rw [he, hne]; simp only [hgo]
      · simp only [hgo]; rfl
  · rcases h3 with h3 | ⟨n, rest', h3⟩
    · cases h3
    · injection h3 with h3
      subst h3
      cases hst
end

theorem exIdx_disp {R : Type} {f : Ex → Option R} {r : R} : ∀ {ex : List Ex} {x : Ex} {n : Nat}, exIdx ex x = some n → exDisp ex n f = some r → f x = some r
  | [], x, n, h, _ => by cases h
  | e :: ex, x, n, h, hd => by
    unfold exIdx at h
    split at h
    · rename_i he
      have he := of_decide_eq_true he
      subst he
      injection h with h
      subst h
      cases ex <;> exact hd
    · split at h
      · rename_i m hm
        injection h with h
        subst h
        cases ex with
        | nil => cases hm
        | cons e' ex => exact exIdx_disp hm hd
      · cases h

theorem Good.cells {A : Fr} {E : Env} {l : Loc} (h : Good P A E l (fun _ => False)) {s g : Nat} (hr : E.rho s = some g) : ∃ c t, E.w.heap[g]? = some (.cells c t (0, 0)) := by
  have h0 := h.obj s (fun h => h)
  generalize l s = o at h0
  cases h0 with
  | dead h => rw [h] at hr; cases hr
  | ob h hb _ => rw [h] at hr; cases hr; obtain ⟨cur, h1, _⟩ := hb; exact ⟨_, _, h1⟩
  | sbNil h => rw [h] at hr; cases hr
  | sb h hb _ => rw [h] at hr; cases hr; obtain ⟨cur, h1, _⟩ := hb; exact ⟨_, _, h1⟩
  | rf h hg _ _ _ _ => rw [h] at hr; cases hr; exact ⟨_, _, hg⟩

theorem Rel.mark {A : Fr} {E : Env} {σ : St} {a : Act} (h : Rel P A E σ (fun _ => False) a) {D0 : Nat} (hf : A.dfix = false) (hD : E.w.heap[D0]? = some (.deferred (some []))) (hy : ¬ E.Y D0) (hn : D0 ∉ E.D) :
    Rel P A { E with D := D0 :: E.D } σ (fun _ => False) { a with defers := [{ target := .collected D0, args := #[] }] ++ a.defers } := by
  have hx : Held E.w E.Pr ({ E with D := D0 :: E.D } : Env).w ({ E with D := D0 :: E.D } : Env).Pr := Held.refl E.w E.Pr
  have hk : ∀ s, Keeps1 E { E with D := D0 :: E.D } σ.loc σ.loc s := keeps_same rfl rfl
  refine ⟨⟨fun s hp => (h.good.obj s hp).keep hx rfl rfl (fun _ _ => rfl) fun _ _ _ _ hu => hu.mono0 hx hk, h.good.pnd, h.good.inj, h.good.base, h.good.prot, h.good.jf, h.good.pr0, h.good.prN, h.good.size, h.good.os, h.good.tape, h.good.output, h.good.yok, h.good.yown, h.good.ylt, fun r hr => ?_⟩,
    fun t ht => (h.slots t ht).mono0 hx hk, h.size, ⟨?_, fun e => (by rw [hf] at e; cases e), List.nodup_cons.2 ⟨hn, h.defers.2.2⟩⟩, h.tm, h.len, fun k g n hk' => (h.outs k g n hk').mono0 hx hk⟩
  · rcases List.mem_cons.1 hr with rfl | hr
    · exact ⟨hD, hy⟩
    · exact h.good.dm r hr
  · show _ = markOf D0 :: E.D.map markOf
    rw [← h.defers.1]; rfl

theorem range_sound {cf : Cfg} (hc : CfgOk P cf) {g : Operand} {ps : Array Tmp} {as bd : Code} (hA : ∀ L, CodeOk P { cf with rnd := true } as (some L)) (hB : ∀ L, CodeOk P { cf with rnd := true } bd (some L)) {R : Type} {r : R} {A : Fr} (hfix : A.dfix = false) (hrnd : cf.rnd = false)
    {E : Env} {σ : St} {a : Act} {k : Ex → St → Option R} (hr : Rel P A E σ (fun _ => False) a) (hw : ∀ t ∈ writes (.rangeFunc g ps as bd), A.tm t = none) (h : codeK cf (.rangeFunc g ps as bd) σ k = some r) :
    (Code.rangeFunc g ps as bd).wpIn (FW none) 0 P (PostK P A k r) a E.w := by
  have hP := hc.hP
  subst hP
  simp only [codeK, hrnd] at h
  split at h
  case h_2 => cases h
  case h_1 c hgv =>
    obtain ⟨f, caps, rfl, h⟩ := asFn_eq h
    obtain ⟨xs, hxs, h⟩ := Option.bind_eq_some_iff.1 h
    have hv0 := rv_ev hr g
    rw [hgv] at hv0
    generalize hav : a.eval g = gv at hv0
    cases hv0 with | c hv0 =>
    cases hv0 with | @fn _ _ cvs q1 q2 =>
    have hcaps : RCs E.w E.Pr caps cvs := ⟨q1, q2⟩
    generalize hkp : cf.keep (firstRegion bd) = kp at h
    generalize hws : ps.toList ++ (writes as ++ writes bd) = ws at h
    have hww : ∀ t ∈ ws, A.tm t = none := fun t ht => hw t (by rw [← hws] at ht; exact ht)
    simp only [rangeK] at h
    obtain ⟨σ1, E1, ⟨e1, eD, eY, ex⟩, hr1, h⟩ := frzs_sound kp.fz hr h
    obtain ⟨x0, E2, h, g2, g3, gD, gY, gPr⟩ := carry hr1 (hr1.re ws) h
    obtain ⟨hks, h⟩ := need_some h
    obtain ⟨p, h1, h2⟩ := Option.bind_eq_some_iff.1 h
    have hks' : ∀ q ∈ kp.ks, q.noLg = true ∧ ∀ t ∈ q.slots, t ∉ ws := fun q hq => by
      have := List.all_eq_true.1 hks q hq
      rw [Bool.and_eq_true] at this
      refine ⟨this.1, fun t ht hm => ?_⟩
      have := List.all_eq_true.1 this.2 t ht
      rw [any_beq.2 hm] at this; cases this
    have hw2 : E2.w = E.w := g2.trans e1
    rw [← hw2]
    -- the iterator's own run
    obtain ⟨out, lg, hcall, hlg, hend⟩ := hc.iter f caps xs hxs (E2.w.heap.size + 1) (goOf (bodyF cf.P kp { cf with rnd := true } σ1 ws ps as bd) xs x0)
    obtain ⟨fnn, hf1, hf2, hf3⟩ := hc.fn _ _ _ _ hcall
    have hcon := hc.con _ _ _ _ hcall
    refine wpIn_rangeFunc ?_
    intro fn _
    have F : RFix cf.P A E1 E2 σ1 a ws (E2.w.heap.size + 1) E2.w.heap.size (E2.w.heap.size + 2) kp { cf with rnd := true } ps as bd := {
      r1 := hr1, cA := hA _, cB := hB _
      wA := fun t ht => by rw [← hws]; simp [ht]
      wB := fun t ht => by rw [← hws]; simp [ht]
      wP := fun t ht => by rw [← hws]; exact List.mem_append_left _ ht
      ks := hks'
      le1 := by rw [g2]; omega
      pr2 := gPr
      y2 := fun b hb => by have := g3.good.ylt b hb; omega
      y2L := fun hb => by have := g3.good.ylt _ hb; omega
      d2 := fun r hr => by have := (Array.getElem?_eq_some_iff.1 (g3.good.dm r hr).1).1; omega
      lL := by omega
      lD := by omega }
    obtain ⟨W1, hW1⟩ : ∃ W1, (E2.w.alloc (.deferred (some []))).alloc (.loop (recOf fn a ps as bd E2.w.heap.size .ready none)) = W1 := ⟨_, rfl⟩
    have hL1 : W1.heap[E2.w.heap.size + 1]? = some (.loop (recOf fn a ps as bd E2.w.heap.size .ready none)) := by
      rw [← hW1]; have := World.alloc_heap_new (E2.w.alloc (.deferred (some []))) (.loop (recOf fn a ps as bd E2.w.heap.size .ready none)); rwa [World.size_alloc] at this
    have hK1 : W1.heap[E2.w.heap.size]? = some (.deferred (some [])) := by
      rw [← hW1]; exact (Go.RowKit.Below.heap_alloc _ _ _ (by simp)).trans (World.alloc_heap_new E2.w _)
    have hold : ∀ b, b < E2.w.heap.size → W1.heap[b]? = E2.w.heap[b]? := fun b hb => by
      rw [← hW1]; exact (Go.RowKit.Below.heap_alloc _ _ _ (by simp; omega)).trans (Go.RowKit.Below.heap_alloc _ _ _ hb)
    have hsz : W1.heap.size = E2.w.heap.size + 2 := by rw [← hW1]; simp
    have hos : W1.os = E2.w.os := by rw [← hW1]; rfl
    have htp : W1.tape = E2.w.tape := by rw [← hW1]; rfl
    have hou : W1.output = E2.w.output := by rw [← hW1]; rfl
    have hx1 : Held E2.w E2.Pr W1 E2.Pr := fun b k hp => ⟨hp, World.cell?_of_block (w := E2.w) (hold b (g3.good.prot b k hp).1)⟩
    have hrel1 : Rel cf.P (A.re E1 a ws) { E2 with w := W1 } (putKs cf.P kp.ks x0 (σ1.clean ws)) (fun _ => False) a :=
      g3.world hx1 (fun s b hs => hold b (g3.good.lt hs)) (fun b hb => hold b (g3.good.ylt b hb)) (fun r hr => hold r (Array.getElem?_eq_some_iff.1 (g3.good.dm r hr).1).1) (by rw [hsz]; omega) hos htp hou
    let Ei : Env := { w := W1, rho := fun _ => none, bs := fun _ => 0, Pr := E2.Pr, Y := fun b => b < W1.heap.size, D := [] }
    let j := rangeJ F fn xs x0 p
    have hj0 : j.J Ei.Y Ei.Pr (some ⟨E2.w.heap.size + 1, goOf (bodyF cf.P kp { cf with rnd := true } σ1 ws ps as bd) xs x0, 0, xs, false⟩) W1 :=
      .inl ⟨0, x0, { E2 with w := W1 }, rfl, Nat.zero_le _, .inr rfl, ⟨rfl, rfl, rfl, fun b hb => by show b < W1.heap.size; omega, fun s b hs => by show b < W1.heap.size; have := g3.good.lt (s := s) hs; omega, fun b k hp => .inr hp, fun b k hp _ => hp, fun b k hp => .inl hp, hrel1, hK1, hL1⟩⟩
    have hGi : Good cf.P (startFr A.pt Ei j) Ei (locOf [] (some ⟨E2.w.heap.size + 1, goOf (bodyF cf.P kp { cf with rnd := true } σ1 ws ps as bd) xs x0, 0, xs, false⟩)) (fun _ => False) := by
      refine ⟨fun s _ => ?_, fun s hp => hp.elim, fun s s' g hs => (by cases hs), fun s g hs => (by cases hs), fun b k hp => ⟨by have := (g3.good.prot b k hp).1; show b < W1.heap.size; omega, fun s hs => (by cases hs)⟩, hj0, .refl _ _, fun b k hp => .inl hp, Nat.le_refl _, rfl, rfl, rfl, rangeJ_yok F fn (by exact h1), fun s g hs => (by cases hs), fun b hb => hb, fun r hr => by cases hr⟩
      have : (locOf [] (some ⟨E2.w.heap.size + 1, goOf (bodyF cf.P kp { cf with rnd := true } σ1 ws ps as bd) xs x0, 0, xs, false⟩)) s = .dead := by
        simp only [locOf]
        cases Nat.ble OUT s <;> rfl
      rw [this]; exact .dead rfl
    have hcaps1 : RCs Ei.w Ei.Pr caps cvs := hcaps.held (Held.trans (w := E.w) (Pr := E.Pr) (w1 := E1.w) (Pr1 := E1.Pr) ex (Held.trans (w1 := E2.w) (Pr1 := E2.Pr) (by rw [g2, gPr]; exact .refl _ _) hx1))
    have hC := hcon A.pt Ei (.func (.yield (E2.w.heap.size + 1)) #[] #[] :: cvs) j (by simp [hcaps.len]) rfl hGi (fun i y u hy hu => by
      cases i with
      | zero => simp at hy hu; subst hy hu; exact .c .yl
      | succ i =>
        simp only [List.getElem?_cons_succ, List.getElem?_map] at hy hu
        cases hc' : caps[i]? with
        | none => rw [hc'] at hy; cases hy
        | some c' => rw [hc'] at hy; injection hy with hy; subst hy; exact .c (hcaps1.2 i c' u hc' hu))
    have hb' : fnn.body.isNone = false := by cases h : fnn.body <;> simp_all
    refine ⟨E2.w.heap.size + 1, [{ target := .collected E2.w.heap.size, args := #[] }], W1, { target := .fn (.func f) cvs.toArray, args := #[.func (.yield (E2.w.heap.size + 1)) #[] #[]] }, W1, f,
      #[.func (.yield (E2.w.heap.size + 1)) #[] #[]] ++ cvs.toArray, W1, ?_, ?_, fun _ _ => trivial, ?_, fun e => (by cases e), ?_⟩
    · rw [← hW1]; exact run_enterLoop_outer _ _ _ _ _
    · simp only [resolve, hav]
      simp [go_sem]
    · simp only [invoke, callFunc, Sem.run_bind, Sem.run_pure, Result.andThen_ok, run_program, hf1, hf3, hb', Bool.false_eq_true, if_false]
    · have e2 : (#[.func (.yield (E2.w.heap.size + 1)) #[] #[]] ++ cvs.toArray : Array Value) = (.func (.yield (E2.w.heap.size + 1)) #[] #[] :: cvs : List Value).toArray := by apply Array.ext'; simp
      rw [e2]
      have hC' : CallsIn (FW none) (0 - 1) cf.P f (.func (.yield (E2.w.heap.size + 1)) #[] #[] :: cvs : List Value).toArray W1 _ := callsIn_wide.2 hC
      refine CallsIn.mono hC' fun e w' he => ?_
      obtain ⟨u, E', rfl, rfl, hG', _, _⟩ := he
      have hJ := hG'.jf
      have hJ' : j.J E'.Y E'.Pr (some lg) E'.w := by rw [← hlg]; exact hJ
      have fin : ∀ {x' : Ex} {E3 : Env} {rec : Loop} {z : KTys kp.ks}, RInv cf.P A E1 E2 a ws (putKs cf.P kp.ks z (σ1.clean ws)) (E2.w.heap.size + 1) E2.w.heap.size (E2.w.heap.size + 2) (.loop rec) E'.Y E'.Pr E'.w E3 → k x' (putKs cf.P kp.ks z (σ1.clean ws)) = some r →
          PostK cf.P A k r (exOf x') { a with defers := [{ target := .collected E2.w.heap.size, args := #[] }] ++ a.defers } (E'.w.putObj (E2.w.heap.size + 1) (.loop { rec with state := .exhausted })) := by
        intro x' E3 rec z hi hk
        have hiw := hi.w
        have hL := hi.hL
        have hD := hi.hD
        rw [← hiw] at hL hD ⊢
        have hLno : ∀ s, E3.rho s ≠ some (E2.w.heap.size + 1) := fun s hs => by
          have h0 := hi.rel.good.obj s (fun h => h)
          have := hi.rel.good.cells hs
          obtain ⟨c, t, h⟩ := this
          rw [hL] at h; cases h
        have hrelA := (hi.rel.world (w' := E3.w.putObj (E2.w.heap.size + 1) (.loop { rec with state := .exhausted })) (held_putObj hL rfl rfl) (fun s b hs => World.putObj_heap_other (fun e => hLno s (e ▸ hs)))
          (fun b hb => World.putObj_heap_other (fun e => by rw [hi.Y3] at hb; exact F.y2L (e ▸ hb))) (fun r hr => World.putObj_heap_other (fun e => by
            have h1 := (hi.rel.good.dm r hr).1
            rw [e, hL] at h1; cases h1)) (Nat.le_of_eq World.putObj_size.symm) rfl rfl rfl)
        have hrelB := (hr1.unre hww hrelA).mark (D0 := E2.w.heap.size) hfix ((World.putObj_heap_other (by omega)).trans hD) (fun hy => by
          have hy' : E3.Y E2.w.heap.size := hy
          rw [hi.Y3] at hy'
          have := g3.good.ylt _ hy'
          omega) (fun hm => by
          have hm' : E2.w.heap.size ∈ E3.D := hm
          rw [hi.D3] at hm'
          have := (Array.getElem?_eq_some_iff.1 (g3.good.dm _ hm').1).1
          omega)
        exact ⟨x', _, _, rfl, hk, rfl, hrelB⟩
      rcases hJ' with ⟨n, x, E3, j1, j2, j3, j4⟩ | ⟨x', E3, j1, j2, j3, j4⟩
      · rcases j3 with j3 | j3
        · cases j3
        injection j3 with j3
        have hr0 : xs.drop n = [] := by
          rcases hend with e | e
          · rw [j3] at e; cases e
          · rw [j3] at e; exact e
        have hn : n = xs.length := by
          have := List.drop_eq_nil_iff.1 hr0
          omega
        subst hn
        have hpx := over_done h1 j1
        refine ⟨_, _, run_endLoop j4.hL (by simp [recOf]), ?_⟩
        exact fin (x' := .normal) j4 (exIdx_disp (ex := .normal :: kp.ex) (x := .normal) (n := 0) (by simp [exIdx]) (by rw [hpx] at h2; exact h2))
      · refine ⟨_, _, run_endLoop j4.hL (by simp [recOf]), ?_⟩
        have hf := fin (x' := x') j4 (exIdx_disp j1 h2)
        cases x' with
        | normal => cases j2
        | exit id => exact wpIn_exit hf
        | ret => exact wpIn_ret hf

end Go.PM
