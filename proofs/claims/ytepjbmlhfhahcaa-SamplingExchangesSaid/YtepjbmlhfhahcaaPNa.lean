/- The pure machine: the code of a function does what codeK says. -/
import Derived.Test.YtepjbmlhfhahcaaPNu
set_option linter.unusedVariables false
set_option linter.unusedSimpArgs false
namespace Go.PM
open Go

variable {P : Program}

theorem re_tm {A0 : Fr} {E0 : Env} {a0 : Act} {ws ws' : List Nat} (h : ∀ t ∈ ws', t ∈ ws) : ∀ t ∈ ws', (A0.re E0 a0 ws).tm t = none := fun t ht => by simp [Fr.re, h t ht]

theorem codeK_sound : ∀ (c : Code) {cf : Cfg} (_ : CfgOk P cf) {ro : Option Nat} {R : Type} {r : R} {A : Fr} (_ : cf.rnd = true ∨ (ro = none ∧ A.dfix = false)) {E : Env} {σ : St} {a : Act} {k : Ex → St → Option R} (_ : Rel P A E σ (fun _ => False) a) (_ : ∀ t ∈ writes c, A.tm t = none)
    (_ : codeK cf c σ k = some r), c.wpIn (FW ro) 0 P (PostK P A k r) a E.w
  | .skip, cf, hc, ro, R, r, A, hro, E, σ, a, k, hr, hw, h => wpIn_skip ⟨.normal, σ, E, rfl, h, rfl, hr⟩
  | .region id ops draw, cf, hc, ro, R, r, A, hro, E, σ, a, k, hr, hw, h => region_sound hc hr h hw
  | .seq x y, cf, hc, ro, R, r, A, hro, E, σ, a, k, hr, hw, h => by
    refine wpIn_seq (wpM (fun e a' w' hq => ?_) (codeK_sound x hc hro hr (fun t ht => hw t (List.mem_append_left _ ht)) h))
    obtain ⟨x', σ', E', rfl, hk, rfl, hr'⟩ := hq
    cases x' with
    | normal => exact codeK_sound y hc hro hr' (fun t ht => hw t (List.mem_append_right _ ht)) hk
    | exit id => exact ⟨.exit id, σ', E', rfl, hk, rfl, hr'⟩
    | ret => exact ⟨.ret, σ', E', rfl, hk, rfl, hr'⟩
  | .cond c x y, cf, hc, ro, R, r, A, hro, E, σ, a, k, hr, hw, h => by
    simp only [codeK] at h
    split at h
    case h_2 => cases h
    case h_1 q hq =>
      have hv : a.eval c = .bool q := by
        have := rv_ev hr c
        rw [hq] at this
        generalize a.eval c = u at this ⊢
        cases this with
        | c h => cases h; rfl
      have hwx : ∀ t ∈ writes x, A.tm t = none := fun t ht => hw t (List.mem_append_left _ ht)
      have hwy : ∀ t ∈ writes y, A.tm t = none := fun t ht => hw t (List.mem_append_right _ ht)
      generalize joinOf cf c = jn at h
      cases jn with
      | none =>
        cases q with
        | true => exact wpIn_cond_true hv (codeK_sound x hc hro hr hwx h)
        | false => exact wpIn_cond_false hv (codeK_sound y hc hro hr hwy h)
      | some kp =>
        rw [hc.hP] at h
        simp only [joinK] at h
        obtain ⟨σ1, E1, ⟨e1, _⟩, hr1, h⟩ := frzs_sound kp.fz hr h
        obtain ⟨p, h1, h2⟩ := Option.bind_eq_some_iff.1 h
        rw [← e1]
        have key : ∀ (z : Code), (∀ t ∈ writes z, t ∈ writes x ++ writes y) → z.wpIn (FW ro) 0 P (PostK P (A.re E1 a (writes x ++ writes y)) (fun e σ' => leave P kp (exIdx kp.ex e) σ' fun n z => some (n, z)) p) a E1.w → z.wpIn (FW ro) 0 P (PostK P A k r) a E1.w := by
          intro z hz hwp
          refine wpM (fun e a' w' hq => ?_) hwp
          obtain ⟨x', σ', E', rfl, hk, rfl, hr'⟩ := hq
          obtain ⟨m, hm, hg⟩ := leave_some hk
          obtain ⟨z, E2, g1, g2, g3, _⟩ := carry hr1 hr' hg
          injection g1 with g1
          subst g1
          exact ⟨x', _, E2, rfl, exIdx_disp hm h2, g2, hr1.unre hw g3⟩
        cases q with
        | true => exact wpIn_cond_true hv (key x (fun t ht => List.mem_append_left _ ht) (codeK_sound x hc (A := A.re E1 a _) hro (hr1.re _) (re_tm fun t ht => List.mem_append_left _ ht) h1))
        | false => exact wpIn_cond_false hv (key y (fun t ht => List.mem_append_right _ ht) (codeK_sound y hc (A := A.re E1 a _) hro (hr1.re _) (re_tm fun t ht => List.mem_append_right _ ht) h1))
  | .block id b, cf, hc, ro, R, r, A, hro, E, σ, a, k, hr, hw, h => by
    refine wpIn_block (wpM (fun e a' w' hq => ?_) (codeK_sound b hc hro hr hw h))
    obtain ⟨x', σ', E', rfl, hk, rfl, hr'⟩ := hq
    cases x' with
    | normal => exact ⟨.normal, σ', E', rfl, hk, rfl, hr'⟩
    | exit id' =>
      show if id' = id then _ else _
      simp only at hk
      by_cases e : id' = id
      · rw [if_pos e]
        rw [decide_eq_true e] at hk
        exact ⟨.normal, σ', E', rfl, hk, rfl, hr'⟩
      · rw [if_neg e]
        rw [decide_eq_false e] at hk
        exact ⟨.exit id', σ', E', rfl, hk, rfl, hr'⟩
    | ret => exact ⟨.ret, σ', E', rfl, hk, rfl, hr'⟩
  | .loop b, cf, hc, ro, R, r, A, hro, E, σ, a, k, hr, hw, h => by
    simp only [codeK, loopK] at h
    generalize cf.keep (firstRegion b) = kp at h
    rw [hc.hP] at h
    obtain ⟨σ1, E1, ⟨e1, _⟩, hr1, h⟩ := frzs_sound kp.fz hr h
    obtain ⟨x0, E2, h, g2, g3, _⟩ := carry hr1 (hr1.re (writes b)) h
    obtain ⟨p, h1, h2⟩ := Option.bind_eq_some_iff.1 h
    rw [← e1, ← g2]
    have rounds : ∀ (n : Nat) {x : KTys kp.ks} {E' : Env} {a' : Act}, Rel P (A.re E1 a (writes b)) E' (putKs P kp.ks x (σ1.clean (writes b))) (fun _ => False) a' →
        iter (fun y => codeK cf b (putKs P kp.ks y (σ1.clean (writes b))) fun e σ' => leave P kp (exIdx (.normal :: kp.ex) e) σ' fun n z => some (n, z)) n x = some p → Code.roundsIn (FW ro) 0 P b (PostK P A k r) n a' E'.w := by
      intro n
      induction n with
      | zero => intro x E' a' _ hi; cases hi
      | succ n ih =>
        intro x E' a' hr' hi
        simp only [iter] at hi
        obtain ⟨q, hq, hi⟩ := Option.bind_eq_some_iff.1 hi
        rw [roundsIn_succ]
        refine wpM (fun e a2 w2 hp => ?_) (codeK_sound b hc (A := A.re E1 a _) hro hr' (re_tm fun t ht => ht) hq)
        obtain ⟨x', σ', E3, rfl, hk, rfl, hr3⟩ := hp
        obtain ⟨m, hm, hg⟩ := leave_some hk
        obtain ⟨z, E4, f1, f2, f3, _⟩ := carry hr1 hr3 hg
        injection f1 with f1
        subst f1
        by_cases hx : x' = .normal
        · subst hx
          have hm0 : m = 0 := by simp [exIdx] at hm; exact hm.symm
          subst hm0
          show Code.roundsIn (FW ro) 0 P b _ n a2 E3.w
          rw [← f2]
          exact ih f3 hi
        · have hm' : ∃ m', m = m' + 1 ∧ exIdx kp.ex x' = some m' := by
            unfold exIdx at hm
            have : decide (Ex.normal = x') = false := decide_eq_false fun e => hx e.symm
            rw [this] at hm
            simp only at hm
            split at hm
            · rename_i m' hm'; injection hm with hm; exact ⟨m', hm.symm, hm'⟩
            · cases hm
          obtain ⟨m', rfl, hm'⟩ := hm'
          injection hi with hi
          subst hi
          have fin : PostK P A k r (exOf x') a2 E3.w := ⟨x', _, E4, rfl, exIdx_disp hm' h2, f2, hr1.unre hw f3⟩
          cases x' with
          | normal => exact absurd rfl hx
          | exit id => exact fin
          | ret => exact fin
    exact wpIn_loop_rounds cf.fuel (rounds cf.fuel g3 h1)
  | .exit id, cf, hc, ro, R, r, A, hro, E, σ, a, k, hr, hw, h => wpIn_exit ⟨.exit id, σ, E, rfl, h, rfl, hr⟩
  | .ret, cf, hc, ro, R, r, A, hro, E, σ, a, k, hr, hw, h => wpIn_ret ⟨.ret, σ, E, rfl, h, rfl, hr⟩
  | .rangeFunc g ps x y, cf, hc, ro, R, r, A, hro, E, σ, a, k, hr, hw, h => by
    cases hrnd : cf.rnd with
    | true => simp only [codeK, hrnd] at h; cases h
    | false =>
      rw [hrnd] at hro
      obtain ⟨rfl, hfix⟩ := hro.resolve_left (by simp)
      have hc1 : CfgOk P { cf with rnd := true } := ⟨hc.hP, hc.con, hc.fn, hc.mixed, hc.iter⟩
      exact range_sound hc (fun L => ⟨fun hr hw h => codeK_sound x hc1 (.inl rfl) hr hw h⟩) (fun L => ⟨fun hr hw h => codeK_sound y hc1 (.inl rfl) hr hw h⟩) hfix hrnd hr hw h
  | .scope _, cf, hc, ro, R, r, A, hro, E, σ, a, k, hr, hw, h => by simp [codeK] at h
  | .label _, cf, hc, ro, R, r, A, hro, E, σ, a, k, hr, hw, h => by simp [codeK] at h
  | .goto _, cf, hc, ro, R, r, A, hro, E, σ, a, k, hr, hw, h => by simp [codeK] at h
  | .refuse _, cf, hc, ro, R, r, A, hro, E, σ, a, k, hr, hw, h => by simp [codeK] at h

end Go.PM
