/- The pure machine: one operation, whatever it is. -/
import Derived.Test.YtepjbmlhfhahcaaPMp
set_option linter.unusedVariables false
set_option linter.unusedSimpArgs false
namespace Go.PM
open Go

variable {P : Program}

section
variable {A : Fr} {E : Env} {l : Loc} {pend : Nat → Prop} {R : Type} {k : V → Loc → List Nat → Option R} {r : R} {o : Oper} {ρ : Operand → Value} {cf : Cfg} {strict : Bool} {e : Operand → V}

/-- What is yet to be made behind an operation. -/
def pendAfter (pend : Nat → Prop) (o : Oper) : Nat → Prop := fun s => pend s ∧ ¬ (isAlloc o = true ∧ o.dst = some s)

theorem pendAfter_eq {pend : Nat → Prop} {o : Oper} (h : isAlloc o = false) : pendAfter pend o = pend := by
  funext s; simp [pendAfter, h]

theorem args_rel {xs : List Operand} (hop : ∀ y ∈ xs, RV P E l (e y) (ρ y)) : ∀ (j : Nat) (x : V) (u : Value), (xs.map e)[j]? = some x → (xs.map ρ)[j]? = some u → RV P E l x u := rel_map hop

theorem noref_pend (hG : Good P A E l pend) {d : Nat} (hp : pend d) : ∀ s' t x, l s' = .rf t x → x.at d = false := by
  intro s' t x hl
  obtain ⟨hr, cs, _, hd⟩ := hG.pnd d hp
  have hps : ¬ pend s' := fun h => by
    obtain ⟨_, _, _, h2⟩ := hG.pnd s' h
    rw [hl] at h2; cases h2
  have h0 := hG.obj s' hps
  rw [hl] at h0
  cases h0 with
  | @rf _ _ g cur u h1 h2 h3 h4 h5 h6 =>
    cases hx : x.at d with
    | false => rfl
    | true =>
      cases h4 with
      | ptrDead hd' => have e := Nat.eq_of_beq_eq_true hx; subst e; rw [hd] at hd'; cases hd'
      | ptr hr' => have e := Nat.eq_of_beq_eq_true hx; subst e; rw [hr] at hr'; cases hr'
      | ownDead hd' => have e := Nat.eq_of_beq_eq_true hx; subst e; rw [hd] at hd'; cases hd'
      | ownNil _ hl' => have e := Nat.eq_of_beq_eq_true hx; subst e; rw [hd] at hl'; cases hl'
      | own hr' _ _ _ _ => have e := Nat.eq_of_beq_eq_true hx; subst e; rw [hr] at hr'; cases hr'
      | own0 hr' _ _ => have e := Nat.eq_of_beq_eq_true hx; subst e; rw [hr] at hr'; cases hr'
      | ownRf hl' => have e := Nat.eq_of_beq_eq_true hx; subst e; rw [hd] at hl'; cases hl'
      | tup _ _ => cases h5
      | ghDead hd' => have e := Nat.eq_of_beq_eq_true hx; subst e; rw [hd] at hd'; cases hd'
      | gh hr' _ => have e := Nat.eq_of_beq_eq_true hx; subst e; rw [hr] at hr'; cases hr'
      | c _ => cases hx
      | agg _ => cases hx
      | un => cases hx
      | und => cases hx

theorem call_run {c : Call} {f : FuncId} {fn : Func} (ho : o.op = .call c) {g : Operand} (hc : c.callee = .value g) {caps : List Value} (hg : ρ g = .func (.func f) #[] caps.toArray) (hf : P.funcs[f]? = some fn) (hb : fn.body ≠ none) (hn : (fn.name == "runtime.NumGoroutine") = false) :
    (execOp ρ o).run P E.w = .ok (.enter f (c.args.toList.map ρ ++ caps).toArray) E.w := by
  have hb' : fn.body.isNone = false := by cases h : fn.body <;> simp_all
  have e1 : (#[] : Array Value) ++ c.args.map ρ ++ caps.toArray = (c.args.toList.map ρ ++ caps).toArray := by
    apply Array.ext'; simp
  simp only [execOp, ho, resolve, hc, hg, Deferred.ofValue, Sem.run_bind, Sem.run_pure, Result.andThen_ok, invoke, callFunc, run_program, hf, hn, hb', Bool.false_eq_true, if_false]
  rw [e1]

theorem args_rel2 {xs : List Operand} {e : Operand → V} (h : ∀ y ∈ xs, RV P E l (e y) (ρ y)) : ∀ (j : Nat) (x : V) (u : Value), (xs.map e)[j]? = some x → (xs.map ρ)[j]? = some u → RV P E l x u := by
  intro j x u hx hu
  rw [List.getElem?_map] at hx hu
  cases hj : xs[j]? with
  | none => rw [hj] at hx; cases hx
  | some y =>
    rw [hj] at hx hu
    injection hx with hx; injection hu with hu
    subst hx hu
    exact h y (List.mem_of_getElem? hj)

/-- Behind a yield. -/
theorem good_yield (hG : Good P A E l pend) {lg : Log} (_ : l.log = some lg) {rest : List (List V)} {e : Ending} {w' : World} (hy : YPost A.jt E.Y E.Pr lg rest E.w e w') :
    ∃ E', E'.w = w' ∧ (Good P A E' ⟨l.fn, some ⟨lg.l, lg.go, Nat.succ lg.i, rest, !(lg.go lg.i)⟩⟩ pend ∧ E'.D = E.D) ∧ ∀ y v, RV P E l y v → RV P E' ⟨l.fn, some ⟨lg.l, lg.go, Nat.succ lg.i, rest, !(lg.go lg.i)⟩⟩ y v := by
  obtain ⟨_, Y', y1, y2, y3, hx, hj, hsame, hsz, hos, htp, hout⟩ := hy
  let E' : Env := { E with w := w', Y := Y' }
  let l' : Loc := ⟨l.fn, some ⟨lg.l, lg.go, Nat.succ lg.i, rest, !(lg.go lg.i)⟩⟩
  have hx' : Held E.w E.Pr E'.w E'.Pr := hx
  have hk : ∀ s, Keeps1 E E' l l' s := fun s => by
    by_cases hd : l s = .dead
    · exact .inl hd
    · exact .inr ⟨hd, rfl, rfl, .same rfl⟩
  refine ⟨E', rfl, ⟨⟨fun s hp => ?_, hG.pnd, hG.inj, hG.base, fun b k hp => ⟨Nat.lt_of_lt_of_le (hG.prot b k hp).1 hsz, (hG.prot b k hp).2⟩, hj, hG.pr0.trans hx', hG.prN, Nat.le_trans hG.size hsz, hos.trans hG.os, htp.trans hG.tape, hout.trans hG.output, hG.yok, fun s g hs hy => ?_, y3, fun r hr => ⟨?_, fun hy => ?_⟩⟩, rfl⟩, fun y v h => h.mono0 hx' hk⟩
  · exact (hG.obj s hp).keep hx' rfl rfl (fun g hg => hsame g (hG.lt hg) (hG.yown s g hg)) fun _ _ _ _ h => h.mono0 hx' hk
  · rcases y2 g hy with h | h
    · exact hG.yown s g hs h
    · have := hG.lt (s := s) hs; omega
  · exact (hsame r (Array.getElem?_eq_some_iff.1 (hG.dm r hr).1).1 (hG.dm r hr).2).trans (hG.dm r hr).1
  · rcases y2 r hy with h | h
    · exact (hG.dm r hr).2 h
    · have := (Array.getElem?_eq_some_iff.1 (hG.dm r hr).1).1; omega

theorem op_yield (hG : Good P A E l pend) {cf : Cfg} (hP : cf.P = P) {strict : Bool} {c : Call} (ho : o.op = .call c) {g : Operand} (hc : c.callee = .value g) {n : Nat} (hg : ρ g = .func (.yield n) #[] #[]) {e : Operand → V}
    (hargs : ∀ y ∈ c.args.toList, RV P E l (e y) (ρ y)) (h : yieldK cf.P strict n (c.args.toList.map e) l k = some r) : Sound P A E l pend ((execOp ρ o).run P E.w) k r := by
  unfold yieldK at h
  split at h
  · cases h
  rw [hP] at h
  obtain ⟨ys, l1, ss, E1, h1, hG1, hM, hyl, _, _, hy, _, _⟩ := marsh_sound hG (us := c.args.toList.map ρ) (by simp) (args_rel2 hargs) List.nodup_nil h
  cases ss with
  | cons s ss => cases h1
  | nil =>
    cases hlog : l1.log with
    | none => rw [hlog] at h1; cases h1
    | some lg =>
      rw [hlog] at h1
      dsimp only at h1
      obtain ⟨hb, h2⟩ := need_some h1
      simp only [Bool.and_eq_true, Bool.not_eq_true'] at hb
      have hln : lg.l = n := Nat.eq_of_beq_eq_true hb.1
      have hJ : A.jt.J E1.Y E1.Pr (some lg) E1.w := by rw [← hlog]; exact hG1.jf
      cases hrest : lg.rest with
      | nil => rw [hrest] at h2; cases h2
      | cons it rest =>
      rw [hrest] at h2
      dsimp only at h2
      obtain ⟨hit, h2⟩ := need_some h2
      have hit : ys = it := by simpa [eqV] using hit
      obtain ⟨fn, tmps, assign, body, hrun, hR⟩ := hG1.yok E1.Y E1.Pr lg E1.w it rest (c.args.toList.map ρ) hJ hb.2 hrest (by rw [← hyl, hit]) (fun i x u hx hu => by
        rw [← hit] at hx
        rcases hy i x u hx hu with ⟨c, rfl, hc⟩ | ⟨cs, vs, rfl, rfl, hc⟩ | ⟨i, off, s, _, hs, _⟩ | ⟨i, off, n, s, _, hs, _⟩
        · exact .c hc
        · exact .agg hc
        · simp at hs
        · simp at hs) (fun b k hp => (hG1.prot b k hp).1) hG1.ylt
      rw [hM.w, hln] at hrun
      have e1 : (#[] : Array Value) ++ c.args.map ρ = (c.args.toList.map ρ).toArray := by apply Array.ext'; simp
      have hrun' : (execOp ρ o).run P E.w = .ok (.round n fn tmps assign body) E.w := by
        simp only [execOp, ho, resolve, hc, hg, Deferred.ofValue, Sem.run_bind, Sem.run_pure, Result.andThen_ok, invoke]
        rw [e1]; exact hrun
      rw [hrun']
      refine ⟨_, _, _, h2, ?_⟩
      show RoundIn Fence.wide 0 P n fn tmps assign body E.w _
      rw [hM.w, hln] at hR
      refine hR.mono fun e w' he => ?_
      obtain ⟨E', e1, q1, q2⟩ := good_yield hG1 hlog (by rw [hM.w]; exact he)
      exact ⟨_, he.1, E', e1, ⟨q1.1, q1.2.trans hM.D⟩, .c (.v rfl), fun y v hy _ => q2 y v (hM.rv hy)⟩

theorem opK_sound (hG : Good P A E l pend) (hP : cf.P = P) (hcon : ∀ f args objs out, cf.call f args objs = some out → ConAt P f args objs out)
    (hfn : ∀ f args objs out, cf.call f args objs = some out → ∃ fn, P.funcs[f]? = some fn ∧ fn.body ≠ none ∧ (fn.name == "runtime.NumGoroutine") = false)
    (hop : ∀ y ∈ o.op.operands, RV P E l (e y) (ρ y)) (hfv : ∀ f, ρ (.func f) = .func (.func f) #[] #[])
    (hal : ∀ t d, o.op = .alloc t → o.dst = some d → pend d ∧ A.pt d = t) (hnd : isAlloc o = false → ∀ d, o.dst = some d → ¬ pend d) (h : opK cf strict o e l k = some r) :
    Sound P A E l (pendAfter pend o) ((execOp ρ o).run P E.w) k r := by
  unfold opK at h
  split at h
  case h_1 x ho => rw [pendAfter_eq (by simp [isAlloc, ho])]; exact op_move hG (.inl ho) (hop x (by simp [ho, Op.operands])) h
  case h_2 x ho => rw [pendAfter_eq (by simp [isAlloc, ho])]; exact op_move hG (.inr ho) (hop x (by simp [ho, Op.operands])) h
  case h_3 c a b ho =>
    rw [pendAfter_eq (by simp [isAlloc, ho])]
    unfold pickK at h
    split at h
    · rename_i q hq
      exact op_pick hG ho (hop c (by simp [ho, Op.operands])) (hop a (by simp [ho, Op.operands])) (hop b (by simp [ho, Op.operands])) hq h
    · cases h
  case h_4 t ho =>
    split at h
    case h_2 => cases h
    case h_1 d hd =>
      obtain ⟨hp, ht⟩ := hal t d ho hd
      have h1 := op_alloc (ρ := ρ) hG ho hp ht (noref_pend hG hp) h
      have e1 : pendAfter pend o = fun s => pend s ∧ s ≠ d := by
        funext s
        simp only [pendAfter, isAlloc, ho, hd]
        simp only [true_and, Option.some.injEq]
        rw [eq_comm (a := d)]
      rw [e1]; exact h1
  case h_5 t x ho =>
    rw [pendAfter_eq (by simp [isAlloc, ho])]
    split at h
    case h_2 => cases h
    case h_1 d hd => rw [hP] at h; exact op_box hG ho (hnd (by simp [isAlloc, ho]) d hd) (hop x (by simp [ho, Op.operands])) rfl h
  case h_6 t parts ho =>
    rw [pendAfter_eq (by simp [isAlloc, ho])]
    rw [hP] at h
    exact op_build hG ho (fun p hp => hop p.2 (by simp [ho, Op.operands]; exact ⟨p.1, by simpa using hp⟩)) h
  case h_7 t n parts ho =>
    rw [pendAfter_eq (by simp [isAlloc, ho])]
    split at h
    case h_2 => cases h
    case h_1 d hd =>
      rw [hP] at h
      exact op_buildSlice hG ho (hnd (by simp [isAlloc, ho]) d hd) (fun p hp => hop p.2 (by simp [ho, Op.operands]; exact ⟨p.1, by simpa using hp⟩)) h
  case h_8 t a ho => rw [pendAfter_eq (by simp [isAlloc, ho])]; rw [hP] at h; exact op_load hG ho (hop a (by simp [ho, Op.operands])) rfl h
  case h_9 t a x ho => rw [pendAfter_eq (by simp [isAlloc, ho])]; rw [hP] at h; exact op_store hG ho (hop a (by simp [ho, Op.operands])) (hop x (by simp [ho, Op.operands])) rfl rfl h
  case h_10 x ho => rw [pendAfter_eq (by simp [isAlloc, ho])]; exact op_nil hG ho (hop x (by simp [ho, Op.operands])) rfl h
  case h_11 op t x y yt ho => rw [pendAfter_eq (by simp [isAlloc, ho])]; rw [hP] at h; exact op_bin hG ho (hop x (by simp [ho, Op.operands])) (hop y (by simp [ho, Op.operands])) h
  case h_12 op t x ho => rw [pendAfter_eq (by simp [isAlloc, ho])]; exact op_un hG ho (hop x (by simp [ho, Op.operands])) h
  case h_13 src dst x ho => rw [pendAfter_eq (by simp [isAlloc, ho])]; rw [hP] at h; exact op_conv hG ho (hop x (by simp [ho, Op.operands])) h
  case h_14 fn first cap ho =>
    rw [pendAfter_eq (by simp [isAlloc, ho])]
    split at h
    case h_2 => cases h
    case h_1 f hf =>
      obtain ⟨h1, h2⟩ := need_some h
      rw [hP] at h2
      exact op_makeFunc hG ho hf (fun y hy => hop y (by simp [ho, Op.operands]; exact .inr (by simpa using hy))) h1 h2
  case h_15 t n c ho =>
    rw [pendAfter_eq (by simp [isAlloc, ho])]
    split at h
    case h_2 => cases h
    case h_1 d hd => rw [hP] at h; exact op_makeSlice hG ho (hnd (by simp [isAlloc, ho]) d hd) (hop n (by simp [ho, Op.operands])) (hop c (by simp [ho, Op.operands])) rfl rfl h
  case h_16 t x lo hi mx ho =>
    rw [pendAfter_eq (by simp [isAlloc, ho])]
    split at h
    · cases h
    · rw [hP] at h
      exact op_slice hG ho (hop x (by simp [ho, Op.operands])) rfl (fun y hy => hop y (by simp [ho, Op.operands, hy])) (fun y hy => hop y (by simp [ho, Op.operands, hy])) h
  case h_17 T x f ho => rw [pendAfter_eq (by simp [isAlloc, ho])]; rw [hP] at h; exact op_fieldAddr hG ho (hop x (by simp [ho, Op.operands])) rfl h
  case h_18 T x f ho => rw [pendAfter_eq (by simp [isAlloc, ho])]; rw [hP] at h; exact op_field hG ho (hop x (by simp [ho, Op.operands])) rfl h
  case h_19 T x i ho => rw [pendAfter_eq (by simp [isAlloc, ho])]; rw [hP] at h; exact op_indexAddr hG ho (hop x (by simp [ho, Op.operands])) (hop i (by simp [ho, Op.operands])) rfl rfl h
  case h_20 T x i ho => rw [pendAfter_eq (by simp [isAlloc, ho])]; rw [hP] at h; exact op_index hG ho (hop x (by simp [ho, Op.operands])) (hop i (by simp [ho, Op.operands])) rfl rfl h
  case h_21 x i ho => rw [pendAfter_eq (by simp [isAlloc, ho])]; exact op_extract hG ho (hop x (by simp [ho, Op.operands])) rfl h
  case h_22 c ho =>
    rw [pendAfter_eq (by simp [isAlloc, ho])]
    have hargs : ∀ y ∈ c.args.toList, RV P E l (e y) (ρ y) := fun y hy => hop y (by simp [ho, Op.operands, Call.operands]; exact .inr (by simpa using hy))
    have hna : isAlloc o = false := by simp [isAlloc, ho]
    split at h
    case h_1 hc =>
      split at h
      case h_2 => cases h
      case h_1 x T ha hT =>
        rw [hP] at h
        exact op_len hG ho hc (by apply Array.ext'; simpa using ha) (by apply Array.ext'; simpa using hT) (hargs x (by simp [ha])) rfl h
    case h_2 hc =>
      split at h
      case h_2 => cases h
      case h_1 d s x T T' hd ha hT =>
        cases hb : Nat.beq T T' with
        | false =>
          rw [hb] at h
          rw [hP] at h
          exact op_appMake hG ho hc (by apply Array.ext'; simpa using ha) (by apply Array.ext'; simpa using hT) (hnd hna d hd) (hargs s (by simp [ha])) (hargs x (by simp [ha])) rfl rfl h
        | true =>
          rw [hb] at h
          have := Nat.eq_of_beq_eq_true hb
          subst this
          exact op_append hG hP ho hc (by apply Array.ext'; simpa using ha) (by apply Array.ext'; simpa using hT) (hnd hna d hd) (hargs s (by simp [ha])) (hargs x (by simp [ha])) rfl rfl h
    case h_3 hc =>
      split at h
      case h_2 => cases h
      case h_1 x T ha hT =>
        rw [hP] at h
        exact op_cap hG ho hc (by apply Array.ext'; simpa using ha) (by apply Array.ext'; simpa using hT) (hargs x (by simp [ha])) rfl h
    case h_4 hc => exact op_max (lt := false) hG ho hc hargs h
    case h_5 hc => exact op_max (lt := true) hG ho hc hargs h
    case h_6 => cases h
    case h_7 => cases h
    case h_8 f hc =>
      have hcallee : ∀ g, c.callee = .value g → RV P E l (e g) (ρ g) := fun g hg => hop g (by simp [ho, Op.operands, Call.operands, hg])
      have hgo : ∀ (hds : List Nat) (xo : List (Option TypeId)) (f : FuncId) (caps : List C) (cvs : List Value) (g : Operand), c.callee = .value g → ρ g = .func (.func f) #[] cvs.toArray → RCs E.w E.Pr caps cvs →
          callK cf strict hds xo f (c.args.toList.map e ++ caps.map .c) o.type o.dst l k = some r → Sound P A E l pend ((execOp ρ o).run P E.w) k r := by
        intro hds xo f caps cvs g hg hρ hcaps h
        have hrel : ∀ (j : Nat) (x : V) (u : Value), (c.args.toList.map e ++ caps.map .c)[j]? = some x → (c.args.toList.map ρ ++ cvs)[j]? = some u → RV P E l x u := by
          intro j x u hx hu
          rw [List.getElem?_append] at hx hu
          simp only [List.length_map] at hx hu
          split at hx
          · rename_i hlt
            rw [if_pos hlt] at hu
            exact args_rel hargs j x u hx hu
          · rename_i hge
            rw [if_neg hge] at hu
            rw [List.getElem?_map] at hx
            cases hcj : caps[j - c.args.toList.length]? with
            | none => rw [hcj] at hx; cases hx
            | some cc =>
              rw [hcj] at hx; injection hx with hx; subst hx
              exact .c (hcaps.2 _ cc u hcj hu)
        obtain ⟨x, l', ks, hk, hC⟩ := callK_sound hG hP hcon (us := c.args.toList.map ρ ++ cvs) (by simp [hcaps.len]) hrel (fun d hd => hnd hna d hd) h
        have hfun : ∃ fn, P.funcs[f]? = some fn ∧ fn.body ≠ none ∧ (fn.name == "runtime.NumGoroutine") = false := by
          unfold callK at h
          simp only [hP] at h
          obtain ⟨ys, l1, ss, E1, h1, _⟩ := marsh_sound hG (us := c.args.toList.map ρ ++ cvs) (by simp [hcaps.len]) hrel List.nodup_nil h
          obtain ⟨_, h2⟩ := need_some h1
          rw [Option.bind_eq_some_iff] at h2
          obtain ⟨out, hcall, _⟩ := h2
          exact hfn _ _ _ _ hcall
        obtain ⟨fn, h1, h2, h3⟩ := hfun
        rw [call_run ho hg hρ h1 h2 h3]
        exact ⟨x, l', ks, hk, hC⟩
      split at h
      case h_1 f' =>
        exact hgo _ _ f' [] [] _ hc (by rw [hfv]) .nil (by simpa using h)
      case h_2 =>
        split at h
        case h_2 => cases h
        case h_1 c' hx =>
          have h1 := hcallee _ hc
          rw [hx] at h1
          generalize hu : ρ f = u at h1
          cases h1 with | c hcc =>
          unfold asYF at h
          split at h
          · rename_i f' caps
            cases hcc with
            | @fn _ _ cvs q1 q2 => exact hgo _ _ f' caps cvs _ hc hu ⟨q1, q2⟩ h
          · rename_i n go xs
            cases hcc
            exact op_yield hG hP ho hc hu hargs h
          · cases h
  case h_23 => cases h

end
end Go.PM
