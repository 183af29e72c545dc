/- The pure machine: a round of a range over a function, from yield's call to its answer. -/
import Derived.Test.YtepjbmlhfhahcaaPNs
set_option linter.unusedVariables false
set_option linter.unusedSimpArgs false
namespace Go.PM
open Go

variable {P : Program}

/-- A piece of code does what codeK says. -/
structure CodeOk (P : Program) (cf : Cfg) (c : Code) (ro : Option Nat) : Prop where
  run : ∀ {R : Type} {r : R} {A : Fr} {E : Env} {σ : St} {a : Act} {k : Ex → St → Option R}, Rel P A E σ (fun _ => False) a → (∀ t ∈ writes c, A.tm t = none) → codeK cf c σ k = some r → c.wpIn (FW ro) 0 P (PostK P A k r) a E.w

theorem wpM {F : Fence} {n : Nat} {c : Code} {Q Q' : Exit → Act → World → Prop} {a : Act} {w : World} (hq : ∀ e a w, Q e a w → Q' e a w) (h : c.wpIn F n P Q a w) : c.wpIn F n P Q' a w := wpIn_mono h hq

theorem leave_some {A : Type} {kp : Keeps} {n : Option Nat} {σ : St} {k : Nat → KTys kp.ks → Option A} {r : A} (h : leave P kp n σ k = some r) : ∃ m, n = some m ∧ getAll P kp σ (k m) = some r := by
  unfold leave at h
  split at h
  · exact ⟨_, rfl, h⟩
  · cases h

theorem shape_eq {R : Type} {r : R} {s : Shp} {x : V} {k : V → Option R} (h : shape s x k = some r) : k x = some r := by
  unfold shape at h
  split at h
  · unfold rC at h
    split at h
    · rename_i c
      exact getLf_eq (k := fun c' => k (.c c')) h
    · cases h
  · unfold rA at h
    split at h
    case h_2 => cases h
    rename_i cs
    obtain ⟨hl, h⟩ := need_some h
    have h := getLfs_eq h
    rw [← Nat.eq_of_beq_eq_true hl, List.take_length] at h
    exact h.2

theorem shapeL_eq {R : Type} {r : R} : ∀ {ss : List Shp} {xs : List V} {k : List V → Option R}, shapeL ss xs k = some r → k xs = some r
  | [], xs, k, h => by
    unfold shapeL at h
    cases xs with
    | nil => exact h
    | cons x xs => cases h
  | s :: ss, xs, k, h => by
    unfold shapeL at h
    cases xs with
    | nil => cases h
    | cons x xs =>
      have h1 := shape_eq (k := fun v => shapeL ss xs fun vs => k (v :: vs)) h
      exact shapeL_eq (k := fun vs => k (x :: vs)) h1

/-- The jump that a round leaves pending. -/
def jumpOf : Ex → Option Code
  | .normal => none
  | .exit id => some (.exit id)
  | .ret => some .ret

theorem held_putObj {w : World} {Pr : Nat → Nat → Prop} {L : Nat} {o o' : Go.Obj} (hL : w.heap[L]? = some o) (hn : o.isCells = false) (hn' : o'.isCells = false) : Held w Pr (w.putObj L o') Pr := by
  intro b k hp
  refine ⟨hp, ?_⟩
  by_cases e : b = L
  · subst e
    have h1 : (w.putObj b o').heap[b]? = some o' := World.putObj_heap_same (Array.getElem?_eq_some_iff.1 hL).1
    have : ∀ (v : World) (q : Go.Obj), v.heap[b]? = some q → q.isCells = false → v.cell? ⟨b, k, none⟩ = none := by
      intro v q hq hc
      unfold World.cell?
      rw [hq]
      cases q <;> first | rfl | (cases hc; done)
    rw [this _ _ h1 hn', this _ _ hL hn]
  · exact World.cell?_of_block (w := w) (World.putObj_heap_other e)

/-- The record of a loop. -/
def recOf (fn : FuncId) (a : Act) (ps : Array Tmp) (as bd : Code) (D0 : Nat) (st : LoopState) (pe : Option Code) : Loop := { state := st, pending := pe, fn := fn, tmps := a.tmps, params := ps, assign := as, body := bd, defers := D0 }

section
variable {A : Fr} {E1 E2 E3 : Env} {σ1 : St} {a : Act} {ws : List Nat} {L D0 n1 : Nat} {Y : Nat → Prop} {Pr : Nat → Nat → Prop} {W : World} {kp : Keeps} {cf : Cfg} {fn : FuncId} {ps : Array Tmp} {as bd : Code}

/-- What is fixed while the loop goes. -/
structure RFix (P : Program) (A : Fr) (E1 E2 : Env) (σ1 : St) (a : Act) (ws : List Nat) (L D0 n1 : Nat) (kp : Keeps) (cf : Cfg) (ps : Array Tmp) (as bd : Code) : Prop where
  r1 : Rel P A E1 σ1 (fun _ => False) a
  cA : CodeOk P cf as (some L)
  cB : CodeOk P cf bd (some L)
  wA : ∀ t ∈ writes as, t ∈ ws
  wB : ∀ t ∈ writes bd, t ∈ ws
  wP : ∀ t ∈ ps.toList, t ∈ ws
  ks : ∀ q ∈ kp.ks, q.noLg = true ∧ ∀ t ∈ q.slots, t ∉ ws
  le1 : E1.w.heap.size ≤ n1
  pr2 : E2.Pr = E1.Pr
  y2 : ∀ b, E2.Y b → b < n1
  y2L : ¬ E2.Y L
  d2 : ∀ r, r ∈ E2.D → r < n1
  lL : L < n1
  lD : D0 < n1

/-- The body, said of pure values. -/
noncomputable def bodyF (P : Program) (kp : Keeps) (cf : Cfg) (σ1 : St) (ws : List Nat) (ps : Array Tmp) (as bd : Code) (it : List V) (y : KTys kp.ks) : Option (Nat × KTys kp.ks) :=
  shapeL kp.sh it fun it => need (Nat.beq it.length ps.toList.length) (codeK cf as ⟨putPs ps.toList it (putKs P kp.ks y (σ1.clean ws)).slots, (putKs P kp.ks y (σ1.clean ws)).loc⟩ fun e σ' => match e with
    | .normal => codeK cf bd σ' fun e σ' => leave P kp (exIdx (.normal :: kp.ex) e) σ' fun n z => some (n, z)
    | _ => none)

theorem re_tm_in {A : Fr} {E1 : Env} {a : Act} {ws : List Nat} {t : Nat} (h : t ∈ ws) : (A.re E1 a ws).tm t = none := by simp [Fr.re, h]
theorem re_tm_out {A : Fr} {E1 : Env} {a : Act} {ws : List Nat} {t : Nat} (h : t ∉ ws) : (A.re E1 a ws).tm t = some (a.tmps.getD t undef) := by simp [Fr.re, h]

theorem round_step (F : RFix P A E1 E2 σ1 a ws L D0 n1 kp cf ps as bd) {x : KTys kp.ks} (hinv : RInv P A E1 E2 a ws (putKs P kp.ks x (σ1.clean ws)) L D0 n1 (.loop (recOf fn a ps as bd D0 .ready none)) Y Pr W E3)
    (hPlt : ∀ b k, Pr b k → b < W.heap.size) (hYlt : ∀ b, Y b → b < W.heap.size) {it : List V} {us : List Value} (hul : us.length = it.length) (hus : ∀ (i : Nat) (x : V) (u : Value), it[i]? = some x → us[i]? = some u → RI W Pr x u)
    {q : Nat × KTys kp.ks} (hq : bodyF P kp cf σ1 ws ps as bd it x = some q) :
    YieldAt Fence.wide 0 P L us.toArray W (fun e W' => ∃ x' : Ex, exIdx (.normal :: kp.ex) x' = some q.1 ∧ e = .returned (.bool (jumpOf x').isNone) ∧ ∃ (Y' : Nat → Prop) (E4 : Env), (∀ b, Y b → Y' b) ∧ (∀ b, Y' b → Y b ∨ W.heap.size ≤ b) ∧ (∀ b, Y' b → b < W'.heap.size) ∧ Held W Pr W' Pr ∧
      RInv P A E1 E2 a ws (putKs P kp.ks q.2 (σ1.clean ws)) L D0 n1 (.loop (recOf fn a ps as bd D0 (if (jumpOf x').isNone then .ready else .done) (jumpOf x'))) Y' Pr W' E4 ∧
      (∀ b, b < W.heap.size → ¬ Y b → W'.heap[b]? = W.heap[b]?) ∧ W.heap.size ≤ W'.heap.size ∧ W'.os = W.os ∧ W'.tape = W.tape ∧ W'.output = W.output) := by
  have hw := hinv.w
  subst hw
  unfold bodyF at hq
  have hq := shapeL_eq hq
  obtain ⟨hlen, hq⟩ := need_some hq
  have hlen := Nat.eq_of_beq_eq_true hlen
  have hlog : (putKs P kp.ks x (σ1.clean ws)).loc.log = none := by rw [putKs_log kp.ks x _ fun q hq => (F.ks q hq).1]; rfl
  have hcore0 := hinv.rel.core hlog
  let E4 : Env := { E3 with Pr := fun b k => E3.Pr b k ∨ Pr b k }
  have hcore1 : Core P (A.re E1 a ws) E4 (putKs P kp.ks x (σ1.clean ws)) a := hcore0.world (E' := E4) rfl rfl (fun b k hp => ⟨.inl hp, rfl⟩) (fun _ _ _ => rfl) (fun b k hp => by
    rcases hp with e | e
    · exact .inl e
    · by_cases hy : Y b
      · exact .inl (hinv.prY b k e hy)
      · exact .inr ⟨hPlt b k e, fun s hs => hy (hinv.own s b hs)⟩) (Nat.le_refl _)
  -- the loop's variables
  obtain ⟨p1, p2, p3⟩ := putPs_rel (E := E4) (l := (putKs P kp.ks x (σ1.clean ws)).loc) ps.toList it us (putKs P kp.ks x (σ1.clean ws)).slots a.tmps hul (fun i y u hy hu => by
    cases hus i y u hy hu with
    | c h => exact .c (h.held (fun b k hp => ⟨.inr hp, rfl⟩))
    | agg h => exact .agg (h.held (fun b k hp => ⟨.inr hp, rfl⟩))) (fun t ht => hcore1.slots t ht) hcore1.size
  have hcore4 : Core P (A.re E1 a ws) E4 ⟨putPs ps.toList it (putKs P kp.ks x (σ1.clean ws)).slots, (putKs P kp.ks x (σ1.clean ws)).loc⟩ { tmps := (ps.toList.zip us).foldl (fun t p => t.setIfInBounds p.1 p.2) a.tmps, defers := [] } :=
    ⟨hcore1.obj, hcore1.inj, hcore1.prot, hlog, fun t ht => p3 t (by rw [← p1]; exact ht), by rw [p2]; exact p1.symm, p1.trans hcore1.len, hcore1.outs⟩
  have htm4 : ∀ t u, (A.re E1 a ws).tm t = some u → ((ps.toList.zip us).foldl (fun t p => t.setIfInBounds p.1 p.2) a.tmps).getD t undef = u := by
    intro t u ht
    by_cases hws : t ∈ ws
    · rw [re_tm_in hws] at ht; cases ht
    · rw [re_tm_out hws] at ht; injection ht with ht
      rw [putPs_other _ _ _ (fun e => hws (F.wP t e))]; exact ht
  have hLno : ∀ s, E3.rho s ≠ some L := fun s hs => by
    obtain ⟨_, c, t, h⟩ := hcore0.lt hs
    rw [hinv.hL] at h; cases h
  have hLlt : L < E3.w.heap.size := (Array.getElem?_eq_some_iff.1 hinv.hL).1
  have hL4 : E4.others L := ⟨hLlt, hLno⟩
  have hfold : (ps.zip us.toArray).foldl (fun tmps (x : Tmp × Value) => tmps.setIfInBounds x.1 x.2) a.tmps = (ps.toList.zip us).foldl (fun t p => t.setIfInBounds p.1 p.2) a.tmps := by
    rw [← Array.foldl_toList, Array.toList_zip]
  refine ⟨fn, _, as, bd, run_yield hinv.hL (by show us.toArray.size = ps.size; simp [hul, hlen]), ?_⟩
  refine roundIn_of_wpIn (F := Fence.wide) trivial ?_
  show as.wpIn (FW (some L)) 0 P _ { tmps := (ps.zip us.toArray).foldl (fun tmps (x : Tmp × Value) => tmps.setIfInBounds x.1 x.2) a.tmps, defers := [] } E4.w
  rw [hfold]
  have run5 := F.cA.run (A := aloneFr (A.re E1 a ws) E4 (A.re E1 a ws).tm) (E := E4.bare) (hcore4.rel htm4 rfl) (fun t ht => show (A.re E1 a ws).tm t = none from re_tm_in (F.wA t ht)) hq
  refine wpM (fun e a5 w5 hp => ?_) run5
  obtain ⟨x5, σ5, E5, rfl, hk5, rfl, hr5⟩ := hp
  cases x5 with
  | exit id => cases hk5
  | ret => cases hk5
  | normal =>
  obtain ⟨hg5, hd5, hl5, ht5⟩ := hr5.grow
  have hL5 : E5.w.heap[L]? = some (.loop (recOf fn a ps as bd D0 .ready none)) := (hg5.others L hL4).trans hinv.hL
  refine ⟨_, run_beginRound hL5 rfl, ?_⟩
  show bd.wpIn (FW (some L)) 0 P _ a5 (E5.w.putObj L (.loop (recOf fn a ps as bd D0 .busy none)))
  let E6 : Env := { E5 with w := E5.w.putObj L (.loop (recOf fn a ps as bd D0 .busy none)) }
  have hx56 : Held E5.w E5.Pr E6.w E6.Pr := held_putObj hL5 rfl rfl
  have hL5no := (hg5.no hL4).2
  have hcore6 : Core P (A.re E1 a ws) E6 σ5 a5 := (show Core P (A.re E1 a ws) E5 σ5 a5 from ⟨(hr5.core hl5).obj, (hr5.core hl5).inj, (hr5.core hl5).prot, hl5, (hr5.core hl5).slots, (hr5.core hl5).size, (hr5.core hl5).len, (hr5.core hl5).outs⟩).world (E' := E6) rfl rfl hx56
    (fun s b hs => World.putObj_heap_other (fun e => hL5no s (e ▸ hs))) (fun _ _ h => .inl h) (Nat.le_of_eq World.putObj_size.symm)
  have run7 := F.cB.run (A := aloneFr (A.re E1 a ws) E6 (A.re E1 a ws).tm) (E := E6.bare) (hcore6.rel ht5 hd5) (fun t ht => show (A.re E1 a ws).tm t = none from re_tm_in (F.wB t ht)) hk5
  refine wpM (fun e a7 w7 hp => ?_) run7
  obtain ⟨x7, σ7, E7, rfl, hk7, rfl, hr7⟩ := hp
  obtain ⟨m, hm, hg7⟩ := leave_some hk7
  have hgr7 := hr7.grow.1
  have hg56 : E6.w.heap.size = E5.w.heap.size := World.putObj_size
  have h17 : Held E1.w E1.Pr E7.w E7.Pr := (hinv.rel.good.pr0.trans (fun b k hp => ⟨(hg5.held b k (.inl hp)).1, (hg5.held b k (.inl hp)).2⟩)).trans (hx56.trans hgr7.held)
  obtain ⟨z, E8, g1, g2, g3, _, _, gp⟩ := carry1 F.r1 hr7 rfl h17 (fun t ht => re_tm_out (A := A) (E1 := E1) ht) hg7
  injection g1 with g1
  subst g1
  obtain ⟨hg8, hd8, hl8, ht8⟩ := g3.grow
  have hL6 : E6.others L := ⟨by rw [hg56]; exact (hg5.no hL4).1, hL5no⟩
  have hL8 : E8.w.heap[L]? = some (.loop (recOf fn a ps as bd D0 .busy none)) := (hg8.others L hL6).trans (World.putObj_heap_same (hg5.no hL4).1)
  have hx08 : Held E3.w E4.Pr E8.w E8.Pr := Held.trans (w := E3.w) (Pr := E4.Pr) (w1 := E5.w) (Pr1 := E5.Pr) hg5.held (hx56.trans hg8.held)
  have hsz5 : E3.w.heap.size ≤ E5.w.heap.size := hg5.size
  have hsz8 : E5.w.heap.size ≤ E8.w.heap.size := by have := hg8.size; rw [hg56] at this; exact this
  have no6 : ∀ b, E4.others b → E6.others b := fun b hb => ⟨by rw [hg56]; exact (hg5.no hb).1, (hg5.no hb).2⟩
  obtain ⟨rec', hrec'⟩ : ∃ rec' : Go.Obj, rec' = .loop (recOf fn a ps as bd D0 (if (jumpOf x7).isNone then .ready else .done) (jumpOf x7)) := ⟨_, rfl⟩
  have hsame : ∀ b, E4.others b → b ≠ L → (E8.w.putObj L rec').heap[b]? = E3.w.heap[b]? := fun b hb hne =>
    (World.putObj_heap_other hne).trans ((hg8.others b (no6 b hb)).trans ((World.putObj_heap_other hne).trans (hg5.others b hb)))
  have hown8 : ∀ s b, E8.rho s = some b → (∃ s', E3.rho s' = some b) ∨ E3.w.heap.size ≤ b := fun s b hs => by
    rcases hg8.rho s b hs with ⟨s', e⟩ | e
    · exact hg5.rho s' b e
    · rw [hg56] at e; exact .inr (Nat.le_trans hsz5 e)
  have hpr8 : ∀ b k, E8.Pr b k → E3.Pr b k ∨ Pr b k ∨ E3.w.heap.size ≤ b ∨ ∃ s, E3.rho s = some b := fun b k hp => by
    have h5 : ∀ b k, E5.Pr b k → E3.Pr b k ∨ Pr b k ∨ E3.w.heap.size ≤ b ∨ ∃ s, E3.rho s = some b := fun b k hp => by
      rcases hg5.pr b k hp with (e | e) | e | e
      · exact .inl e
      · exact .inr (.inl e)
      · exact .inr (.inr (.inl e))
      · exact .inr (.inr (.inr e))
    rcases hg8.pr b k hp with e | e | ⟨s, e⟩
    · exact h5 b k e
    · rw [hg56] at e; exact .inr (.inr (.inl (Nat.le_trans hsz5 e)))
    · rcases hg5.rho s b e with e | e
      · exact .inr (.inr (.inr e))
      · exact .inr (.inr (.inl e))
  have core8 : Core P (A.re E1 a ws) E8 (putKs P kp.ks z (σ1.clean ws)) a7 := ⟨(g3.core hl8).obj, (g3.core hl8).inj, (g3.core hl8).prot, hl8, (g3.core hl8).slots, (g3.core hl8).size, (g3.core hl8).len, (g3.core hl8).outs⟩
  have hL8no : ∀ s, E8.rho s ≠ some L := fun s hs => by
    obtain ⟨_, c, t, h⟩ := core8.lt hs
    rw [hL8] at h; cases h
  have core9a : Core P (A.re E1 a ws) E8 (putKs P kp.ks z (σ1.clean ws)) a := by
    refine ⟨core8.obj, core8.inj, core8.prot, hl8, fun t ht => ?_, ?_, core8.len, core8.outs⟩
    · by_cases hws : t ∈ ws
      · have e : (putKs P kp.ks z (σ1.clean ws)).get t = .und := by
          show (putKs P kp.ks z (σ1.clean ws)).slots.get t = .und
          rw [putKs_other kp.ks z _ (fun q hq hmem => (F.ks q hq).2 t hmem hws)]
          exact clean_struck hws
        rw [e]; exact .und
      · have := core8.slots t ht
        rw [ht8 t _ (re_tm_out hws)] at this
        exact this
    · rw [hinv.rel.size, hinv.rel.len]; exact core8.len.symm
  let E9 : Env := { E8 with w := E8.w.putObj L rec', Y := E2.Y, D := E2.D }
  have hn' : rec'.isCells = false := by rw [hrec']; rfl
  have hx89 : Held E8.w E8.Pr E9.w E9.Pr := held_putObj hL8 rfl hn'
  have core9 : Core P (A.re E1 a ws) E9 (putKs P kp.ks z (σ1.clean ws)) a := core9a.world (E' := E9) rfl rfl hx89 (fun s b hs => World.putObj_heap_other (fun e => hL8no s (e ▸ hs))) (fun _ _ h => .inl h) (Nat.le_of_eq World.putObj_size.symm)
  have hsz9 : E9.w.heap.size = E8.w.heap.size := World.putObj_size
  have hYo : ∀ b, E3.Y b → E4.others b ∧ b ≠ L := fun b hy => ⟨⟨hinv.rel.good.ylt b hy, fun s hs => hinv.rel.good.yown s b hs hy⟩, fun e => F.y2L (by rw [← hinv.Y3, ← e]; exact hy)⟩
  have hDo : ∀ r, r ∈ E3.D → E4.others r ∧ r ≠ L := fun r hr => ⟨⟨(Array.getElem?_eq_some_iff.1 (hinv.rel.good.dm r hr).1).1, fun s => hinv.rel.good.dmno hr s⟩, fun e => by
    have h1 := (hinv.rel.good.dm r hr).1
    rw [e, hinv.hL] at h1; cases h1⟩
  have hD0o : E4.others D0 ∧ D0 ≠ L := ⟨⟨(Array.getElem?_eq_some_iff.1 hinv.hD).1, fun s hs => by
    obtain ⟨_, c, t, h⟩ := hcore0.lt hs
    rw [hinv.hD] at h; cases h⟩, fun e => by
    have h1 := hinv.hD
    rw [e, hinv.hL] at h1; cases h1⟩
  have hx39 : Held E3.w E3.Pr E9.w E9.Pr := fun b k hp => (Held.trans hx08 hx89) b k (.inl hp)
  have hnoY : ∀ b k, E8.Pr b k → E3.Pr b k ∨ ¬ E3.Y b := fun b k hp => by
    rcases hpr8 b k hp with e | e | e | ⟨s, e⟩
    · exact .inl e
    · by_cases hy : E3.Y b
      · exact .inl (hinv.prY b k e (hinv.low b (F.y2 b (by rw [← hinv.Y3]; exact hy))))
      · exact .inr hy
    · exact .inr fun hy => Nat.lt_irrefl _ (Nat.lt_of_lt_of_le (hinv.rel.good.ylt b hy) e)
    · exact .inr (hinv.rel.good.yown s b e)
  have hos : E9.w.os = E3.w.os := hg8.os.trans hg5.os
  have htp : E9.w.tape = E3.w.tape := hg8.tape.trans hg5.tape
  have hou : E9.w.output = E3.w.output := hg8.output.trans hg5.output
  have hE1 : E1.w.heap.size ≤ E3.w.heap.size := hinv.rel.good.size
  have hrel9 : Rel P (A.re E1 a ws) E9 (putKs P kp.ks z (σ1.clean ws)) (fun _ => False) a := by
    refine ⟨⟨fun s _ => core9.obj s, fun s hp => hp.elim, core9.inj, fun s g hs => ?_, core9.prot, ?_, hinv.rel.good.pr0.trans hx39, fun b k hp => ?_, Nat.le_trans hE1 (by rw [hsz9]; omega), hos.trans hinv.rel.good.os, htp.trans hinv.rel.good.tape, hou.trans hinv.rel.good.output, F.r1.good.yok, fun s g hs hy => ?_, fun b hy => ?_, fun r hr => ?_⟩,
      core9.slots, core9.size, ?_, hinv.rel.tm, core9.len, core9.outs⟩
    · rcases hown8 s g hs with ⟨s', e⟩ | e
      · exact hinv.rel.good.base s' g e
      · exact .inl (Nat.le_trans hE1 e)
    · have hj := hinv.rel.good.jf
      rw [hlog] at hj
      show A.jt.J E2.Y E9.Pr (putKs P kp.ks z (σ1.clean ws)).loc.log E9.w
      rw [hl8, ← hinv.Y3]
      exact A.jt.stab hj (fun b hb => hsame b (hYo b hb).1 (hYo b hb).2) hx39 hnoY (by rw [hsz9]; omega) hos htp hou
    · rcases hpr8 b k hp with e | e | e | ⟨s, e⟩
      · exact hinv.rel.good.prN b k e
      · rcases hinv.prN b k e with e | e
        · exact .inl (by show E1.Pr b k; rw [← F.pr2]; exact e)
        · exact .inr (.inl (Nat.le_trans F.le1 e))
      · exact .inr (.inl (Nat.le_trans hE1 e))
      · exact .inr (hinv.rel.good.base s b e)
    · have hy' : E3.Y g := by rw [hinv.Y3]; exact hy
      rcases hown8 s g hs with ⟨s', e⟩ | e
      · exact hinv.rel.good.yown s' g e hy'
      · exact Nat.lt_irrefl _ (Nat.lt_of_lt_of_le (hinv.rel.good.ylt g hy') e)
    · have hy' : E3.Y b := by rw [hinv.Y3]; exact hy
      have := hinv.rel.good.ylt b hy'
      rw [hsz9]; omega
    · have hr' : r ∈ E3.D := by rw [hinv.D3]; exact hr
      refine ⟨(hsame r (hDo r hr').1 (hDo r hr').2).trans (hinv.rel.good.dm r hr').1, fun hy => (hinv.rel.good.dm r hr').2 ?_⟩
      rw [hinv.Y3]; exact hy
    · have := hinv.rel.defers
      rw [hinv.D3] at this; exact this
  have key : ∃ v w', (Instr.endRound L (jumpOf x7)).run P E7.w = .ok v w' ∧ (∃ x' : Ex, exIdx (.normal :: kp.ex) x' = some m ∧ Ending.returned v = .returned (.bool (jumpOf x').isNone) ∧ ∃ (Y' : Nat → Prop) (E4 : Env), (∀ b, Y b → Y' b) ∧ (∀ b, Y' b → Y b ∨ E3.w.heap.size ≤ b) ∧ (∀ b, Y' b → b < w'.heap.size) ∧ Held E3.w Pr w' Pr ∧
      RInv P A E1 E2 a ws (putKs P kp.ks z (σ1.clean ws)) L D0 n1 (.loop (recOf fn a ps as bd D0 (if (jumpOf x').isNone then .ready else .done) (jumpOf x'))) Y' Pr w' E4 ∧
      (∀ b, b < E3.w.heap.size → ¬ Y b → w'.heap[b]? = E3.w.heap[b]?) ∧ E3.w.heap.size ≤ w'.heap.size ∧ w'.os = E3.w.os ∧ w'.tape = E3.w.tape ∧ w'.output = E3.w.output) := by
    have hrun := run_endRound (P := P) (jumpOf x7) hL8
    rw [g2] at hrun
    refine ⟨_, E8.w.putObj L rec', by rw [hrun, hrec', g2]; rfl, x7, hm, rfl, fun b => Y b ∨ (E3.w.heap.size ≤ b ∧ b < E9.w.heap.size), E9, fun b hb => .inl hb, fun b hb => ?_, fun b hb => ?_, fun b k hp => ⟨hp, ((Held.trans hx08 hx89) b k (.inr hp)).2⟩,
      ⟨rfl, rfl, rfl, fun b hb => .inl (hinv.low b hb), fun s b hs => ?_, fun b k hp => ?_, fun b k hp _ => ((Held.trans hx08 hx89) b k (.inr hp)).1, hinv.prN, hrel9, (hsame D0 hD0o.1 hD0o.2).trans hinv.hD, ?_⟩,
      fun b hb hy => hsame b ⟨hb, fun s hs => hy (hinv.own s b hs)⟩ (fun e => hy (e ▸ hinv.low L F.lL)), by show _ ≤ E9.w.heap.size; rw [hsz9]; omega, hos, htp, hou⟩
    · rcases hb with e | e
      · exact .inl e
      · exact .inr e.1
    · rcases hb with e | e
      · have := hYlt b e
        show b < E9.w.heap.size
        rw [hsz9]; omega
      · exact e.2
    · rcases hown8 s b hs with ⟨s', e⟩ | e
      · exact .inl (hinv.own s' b e)
      · exact .inr ⟨e, by rw [hsz9]; exact (core8.lt (s := s) hs).1⟩
    · rcases hpr8 b k hp with e | e | e | ⟨s, e⟩
      · rcases hinv.pr b k e with e | e
        · exact .inl (.inl e)
        · exact .inr e
      · exact .inr e
      · exact .inl (.inr ⟨e, (core9.prot b k hp).1⟩)
      · exact .inl (.inl (hinv.own s b e))
    · rw [hrec']
      exact World.putObj_heap_same (by have := (Array.getElem?_eq_some_iff.1 hL8).1; exact this)
  cases x7 with
  | normal => exact key
  | exit id => exact key
  | ret => exact key
end

end Go.PM
