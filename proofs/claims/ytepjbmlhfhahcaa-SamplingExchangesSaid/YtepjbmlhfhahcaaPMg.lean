/- The pure machine: operations that make no memory. -/
import Derived.Test.YtepjbmlhfhahcaaPMf
set_option linter.unusedVariables false
set_option linter.unusedSimpArgs false
namespace Go.PM
open Go

variable {P : Program}

section
variable {A : Fr} {E : Env} {l : Loc} {pend : Nat → Prop} {R : Type} {k : V → Loc → List Nat → Option R} {r : R} {cf : Cfg} {strict : Bool} {o : Oper} {e : Operand → V} {ρ : Operand → Value}

theorem op_move (hG : Good P A E l pend) {x : Operand} (ho : o.op = .move x ∨ o.op = .assign x) (hx : RV P E l (e x) (ρ x)) (hk : k (e x) l [] = some r) : Sound P A E l pend ((execOp ρ o).run P E.w) k r := by
  have : (execOp ρ o).run P E.w = .ok (.value (ρ x)) E.w := by rcases ho with ho | ho <;> simp [execOp, ho]
  rw [this]
  exact .quiet hG hk hx

theorem op_pick (hG : Good P A E l pend) {c a b : Operand} (ho : o.op = .pick c a b) (hc : RV P E l (e c) (ρ c)) (ha : RV P E l (e a) (ρ a)) (hb : RV P E l (e b) (ρ b)) {q : Bool} (hq : e c = .c (.v (.bool q)))
    (hk : k (pickV q (e a) (e b)) l [] = some r) : Sound P A E l pend ((execOp ρ o).run P E.w) k r := by
  rw [hq] at hc
  have hv : ρ c = .bool q := by
    generalize ρ c = u at hc
    cases hc with | c h => cases h with | v _ => rfl
  have : (execOp ρ o).run P E.w = .ok (.value (if q then ρ a else ρ b)) E.w := by simp [execOp, ho, hv, asBool]
  rw [this]
  refine .quiet hG hk ?_
  unfold pickV
  split
  · rename_i p' q' h1 h2
    rw [h1] at ha; rw [h2] at hb
    generalize ρ a = ua at ha; generalize ρ b = ub at hb
    cases ha with | c h => cases h with | v _ =>
    cases hb with | c h => cases h with | v _ =>
    cases q <;> exact .c (.v rfl)
  · cases q
    · exact hb
    · exact ha

theorem asP_eq {c : C} {k : List C → Option R} {r : R} (h : asP c k = some r) : ∃ cs, c = .cp cs ∧ k cs = some r := by
  unfold asP at h; split at h
  · exact ⟨_, rfl, h⟩
  · cases h
theorem asSl_eq {c : C} {k : Nat → List C → Option R} {r : R} (h : asSl c k = some r) : ∃ n cs, (c = .sl n cs ∨ (c = .nl ∧ n = 0 ∧ cs = [])) ∧ k n cs = some r := by
  unfold asSl at h; split at h
  · exact ⟨_, _, .inl rfl, h⟩
  · exact ⟨0, [], .inr ⟨rfl, rfl, rfl⟩, h⟩
  · cases h
theorem asS_eq {c : C} {k : ByteArray → Option R} {r : R} (h : asS c k = some r) : ∃ s, c = .v (.string s) ∧ k s = some r := by
  unfold asS at h; split at h
  · exact ⟨_, rfl, h⟩
  · cases h
theorem asFn_eq {c : C} {k : FuncId → List C → Option R} {r : R} (h : asFn c k = some r) : ∃ f cs, c = .fn f cs ∧ k f cs = some r := by
  unfold asFn at h; split at h
  · exact ⟨_, _, rfl, h⟩
  · cases h

/-- A pointer's cells. -/
theorem RC.cp_at {w : World} {Pr : Nat → Nat → Prop} {cs : List C} {u : Value} (h : RC w Pr (.cp cs) u) : ∃ a, u = .pointer (some a) ∧ (cs = [] ∨ ∃ g o, a = ⟨g, o, none⟩ ∧ At w Pr g o cs ∧ ∀ j, j < cs.length → Pr g (o + j)) := by
  cases h with
  | cp0 => exact ⟨_, rfl, .inl rfl⟩
  | cp h1 h2 => exact ⟨_, rfl, .inr ⟨_, _, rfl, fun j c hj => ⟨_, (h1 j c hj).1, h2 j c hj⟩, fun j hj => (h1 j _ (List.getElem?_eq_getElem hj)).2⟩⟩

theorem ldC_nil {t : TypeId} {k : V → Option R} {r : R} (h : ldC P t [] k = some r) : ∃ d i, P.underlying t = some d ∧ P.info? t = some i ∧ aggB P t = true ∧ i.size = 0 ∧ k (.agg []) = some r := by
  obtain ⟨d, hd⟩ := ldC_desc h
  obtain ⟨i, hi, ⟨ha, hle, hk⟩ | ⟨_, c, rest, e, _⟩⟩ := ldC_eq h
  · have : i.size = 0 := by simpa using hle
    rw [this] at hk
    exact ⟨d, i, hd, hi, ha, this, hk⟩
  · cases e

theorem run_loadVar_any {w : World} {Pr : Nat → Nat → Prop} {t : TypeId} {cs : List C} {a : Addr} (hc : cs = [] ∨ ∃ g o, a = ⟨g, o, none⟩ ∧ At w Pr g o cs ∧ ∀ j, j < cs.length → Pr g (o + j)) {k : V → Option R} {r : R}
    (h0 : ldC P t cs k = some r) : ∃ v u, k v = some r ∧ (loadVar t a).run P w = .ok u w ∧ ((∃ c, v = .c c ∧ RC w Pr c u) ∨ (∃ cs' us, v = .agg cs' ∧ u = .agg us.toArray ∧ RCs w Pr cs' us)) := by
  rcases hc with rfl | ⟨g, o, rfl, hat, _⟩
  · obtain ⟨d, i, hd, hi, ha, hs, hk⟩ := ldC_nil h0
    exact ⟨_, .agg #[], hk, by simp [loadVar, aggB_run t w d hd, ha, run_sizeOf hi, hs, loadCells, loadCellsFrom], .inr ⟨[], [], rfl, rfl, .nil⟩⟩
  · obtain ⟨d, hd⟩ := ldC_desc h0
    exact run_loadVar_at hd hat h0

theorem op_load (hG : Good P A E l pend) {t : TypeId} {a : Operand} (ho : o.op = .load t a) {x : V} {u : Value} (hx : RV P E l x u) (hu : ρ a = u) (h : loadK P l k t x = some r) : Sound P A E l pend ((execOp ρ o).run P E.w) k r := by
  have key : ∀ ad v w', u = .pointer (some ad) → (loadVar t ad).run P E.w = .ok v w' → (execOp ρ o).run P E.w = .ok (.value v) w' := by
    intro ad v w' h1 h2
    simp [execOp, ho, hu, h1, Instr.loadAt, Instr.sureAddr, h2]
  cases x with
  | c c =>
    obtain ⟨cs, rfl, hh⟩ := asP_eq h
    cases hx with | c hc =>
    obtain ⟨ad, e1, hat⟩ := hc.cp_at
    obtain ⟨v, u', hk, hr, hv⟩ := run_loadVar_any (P := P) hat hh
    rw [key ad u' _ e1 hr]
    exact .quiet hG hk (rv_loaded hv)
  | ptr s off =>
    have hob : ∀ t' fz cs, objTC (l s) = some (t', fz, cs) → ldC P t (cs.drop off) (fun v => k v l []) = some r → Sound P A E l pend ((execOp ρ o).run P E.w) k r := by
      intro t' fz cs hl h
      cases hx with
      | ptrDead hd => rw [hd] at hl; cases hl
      | @ptr _ _ g hr =>
        have hat := ((blk_of hG hl hr).1.at_).drop off
        rw [Nat.zero_add] at hat
        obtain ⟨d, hd⟩ := ldC_desc h
        obtain ⟨v, u', hk, hr', hv⟩ := run_loadVar_at (P := P) hd hat h
        rw [key _ u' _ rfl hr']
        exact .quiet hG hk (rv_loaded hv)
    simp only [loadK] at h
    cases hl : l s with
    | dead => rw [hl] at h; cases h
    | ob t' fz cs => rw [hl] at h; exact hob t' fz cs (by rw [hl]; rfl) h
    | sb t' fz cs => rw [hl] at h; exact hob t' fz cs (by rw [hl]; rfl) h
    | rf t' y =>
      rw [hl] at h
      obtain ⟨hb, hk⟩ := need_some h
      simp only [Bool.and_eq_true, Bool.not_eq_true', Option.isSome_iff_exists] at hb
      obtain ⟨⟨hb1, hb2⟩, d, hd⟩ := hb
      have hoff : off = 0 := Nat.eq_of_beq_eq_true hb1
      subst hoff
      cases hx with
      | ptrDead hd' => rw [hd'] at hl; cases hl
      | @ptr _ _ g hr =>
        have hps : ¬ pend s := fun hp => by rw [(hG.pnd s hp).1] at hr; cases hr
        have h0 := hG.obj s hps
        rw [hl] at h0
        cases h0 with
        | @rf _ _ _ cur u' h1 h2 h2' h3 h4 h5 =>
          rw [hr] at h1; injection h1 with h1; subst h1
          have hc : E.w.cell? ⟨g, 0, none⟩ = some u' := (cell_of_row E.w _ 0 _ _ _ h2).trans h2'
          rw [key _ u' E.w rfl (by simp [loadVar, aggB_run t E.w d hd, hb2, hc])]
          exact .quiet hG hk h3
  | _ => cases h

theorem ne_dead {o : Obj} (h : live o = true) : o ≠ .dead := by rintro rfl; cases h

theorem op_nil (hG : Good P A E l pend) {a : Operand} (ho : o.op = .nilCheck a) {x : V} {u : Value} (hx : RV P E l x u) (hu : ρ a = u) (h : nilK l k x = some r) : Sound P A E l pend ((execOp ρ o).run P E.w) k r := by
  cases x with
  | c c =>
    simp only [nilK] at h
    split at h
    · cases hx with | c hc =>
      obtain ⟨ad, e1, _⟩ := hc.cp_at
      have : (execOp ρ o).run P E.w = .ok (.value u) E.w := by rw [e1] at hu; simp [execOp, ho, hu, e1]
      rw [this]; exact .quiet hG h (.c hc)
    · rename_i f' cs'
      cases hx with | c hc =>
      cases hc with
      | @fn _ _ us h1 h2 =>
        have : (execOp ρ o).run P E.w = .ok (.value (.func (.func f') #[] us.toArray)) E.w := by simp [execOp, ho, hu]
        rw [this]; exact .quiet hG h (.c (.fn h1 h2))
    · cases h
  | ptr s off =>
    simp only [nilK] at h
    have h' : l s ≠ .dead ∧ k (.ptr s off) l [] = some r := ⟨ne_dead (need_some h).1, (need_some h).2⟩
    cases hx with
    | ptrDead hd => exact absurd hd h'.1
    | @ptr _ _ g hr =>
      have : (execOp ρ o).run P E.w = .ok (.value (.pointer (some ⟨g, off, none⟩))) E.w := by simp [execOp, ho, hu]
      rw [this]; exact .quiet hG h'.2 (.ptr hr)
  | _ => cases h

theorem op_bin (hG : Good P A E l pend) {op : BinOp} {t yt : TypeId} {a b : Operand} (ho : o.op = .binOp op t a b yt) {x y : V} (hx : RV P E l x (ρ a)) (hy : RV P E l y (ρ b)) (h : binV P op t x y (fun v => k v l []) = some r) :
    Sound P A E l pend ((execOp ρ o).run P E.w) k r := by
  obtain ⟨z, hz, hk, hr⟩ := binV_sound hx hy h a b E.w
  have : (execOp ρ o).run P E.w = .ok (.value z) E.w := by
    simp only [execOp, ho]
    rw [Sem.run_bind, hr]; rfl
  rw [this]; exact .quiet hG hk (.c (.v hz))

theorem op_un (hG : Good P A E l pend) {op : UnOp} {t : TypeId} {a : Operand} (ho : o.op = .unOp op t a) {x : V} (hx : RV P E l x (ρ a)) (h : unV op x (fun v => k v l []) = some r) : Sound P A E l pend ((execOp ρ o).run P E.w) k r := by
  obtain ⟨z, hz, hk, hr⟩ := unV_sound hx h E.w
  have : (execOp ρ o).run P E.w = .ok (.value z) E.w := by
    simp only [execOp, ho]
    rw [Sem.run_bind, hr]; rfl
  rw [this]; exact .quiet hG hk (.c (.v hz))

theorem op_conv (hG : Good P A E l pend) {src dst : TypeId} {a : Operand} (ho : o.op = .convert src dst a) {x : V} (hx : RV P E l x (ρ a)) (h : convV P src dst x (fun v => k v l []) = some r) : Sound P A E l pend ((execOp ρ o).run P E.w) k r := by
  obtain ⟨z, hz, hk, hr⟩ := convV_sound hx h E.w
  have : (execOp ρ o).run P E.w = .ok (.value z) E.w := by
    simp only [execOp, ho]
    rw [Sem.run_bind, hr]; rfl
  rw [this]; exact .quiet hG hk (.c (.v hz))

theorem szOf_info {t : TypeId} {i : TypeInfo} (h : P.info? t = some i) : szOf P t = i.size := by simp [szOf, h]

theorem info_of_underlying {t : TypeId} {d : TypeDesc} (h : P.underlying t = some d) : ∃ i, P.info? t = some i := by
  cases hi : P.info? t with
  | some i => exact ⟨i, rfl⟩
  | none => simp [Program.underlying, hi] at h

theorem fieldOf_eq {T : TypeId} {f fo : Nat} {ft : TypeId} (h : fieldOf P T f = some (fo, ft)) : ∃ fs fd, P.underlying T = some (.struct fs) ∧ fs[f]? = some fd ∧ fd.offset = fo ∧ fd.type = ft := by
  unfold fieldOf at h
  split at h
  · rename_i fs hu
    split at h
    · rename_i fd hf
      injection h with h; injection h with h1 h2
      exact ⟨fs, fd, hu, by simpa using hf, h1, h2⟩
    · cases h
  · cases h

theorem run_fieldPlace (g o : Nat) (a : Addr) (fd : Field) (hs : szOf P fd.type ≠ 0) (w : World) : (fieldPlace a fd).run P w = .ok (a.add fd.offset) w := by
  have : ∃ i, P.info? fd.type = some i := by
    cases hi : P.info? fd.type with
    | some i => exact ⟨i, rfl⟩
    | none => simp [szOf, hi] at hs
  obtain ⟨i, hi⟩ := this
  have hne : i.size ≠ 0 := by rw [← szOf_info hi]; exact hs
  simp [fieldPlace, run_sizeOf hi, hne]

theorem op_fieldAddr (hG : Good P A E l pend) {T : TypeId} {f : Nat} {a : Operand} (ho : o.op = .fieldAddr T a f) {x : V} {u : Value} (hx : RV P E l x u) (hu : ρ a = u) (h0 : fieldAddrK P l k T f x = some r) : Sound P A E l pend ((execOp ρ o).run P E.w) k r := by
  unfold fieldAddrK at h0
  split at h0
  case h_2 => cases h0
  case h_1 fo ft hf =>
    obtain ⟨hb, h1⟩ := need_some h0
    obtain ⟨fs, fd, hT, hfd, rfl, rfl⟩ := fieldOf_eq hf
    have hs : szOf P fd.type ≠ 0 := by
      intro e
      rw [e] at hb; cases hb
    have key : ∀ ad, u = .pointer (some ad) → (execOp ρ o).run P E.w = .ok (.value (.pointer (some (ad.add fd.offset)))) E.w := by
      intro ad h1
      simp [execOp, ho, hu, h1, Instr.fieldAt, run_underlying hT, hfd, Instr.sureAddr, run_fieldPlace 0 0 ad fd hs]
    cases x with
    | c c =>
      obtain ⟨cs, rfl, hh⟩ := asP_eq h1
      cases hx with | c hc =>
      obtain ⟨ad, e1, hat⟩ := hc.cp_at
      rw [key ad e1]
      refine .quiet hG hh (.c ?_)
      rcases hat with rfl | ⟨g, o', rfl, hat, hp⟩
      · simp only [List.drop_nil]; exact .cp0
      · rw [add_none]
        obtain ⟨us, h1, h2⟩ := (hat.drop fd.offset).fn (fun j hj => by have := hp (fd.offset + j) (by simp only [List.length_drop] at hj; omega); rwa [← Nat.add_assoc] at this)
        exact .cp h1 h2
    | ptr s off =>
      obtain ⟨hl, hk⟩ := need_some h1
      cases hx with
      | ptrDead hd => exact absurd hd (ne_dead hl)
      | @ptr _ _ g hr =>
        rw [key _ rfl, add_none]
        exact .quiet hG hk (.ptr hr)
    | _ => cases h1

theorem op_field (hG : Good P A E l pend) {T : TypeId} {f : Nat} {a : Operand} (ho : o.op = .field T a f) {x : V} {u : Value} (hx : RV P E l x u) (hu : ρ a = u) (h0 : fieldK P l k T f x = some r) : Sound P A E l pend ((execOp ρ o).run P E.w) k r := by
  unfold fieldK at h0
  split at h0
  case h_2 => cases h0
  case h_1 fo ft cs hf =>
    obtain ⟨fs, fd, hT, hfd, rfl, rfl⟩ := fieldOf_eq hf
    cases hx with
    | @agg _ us hc =>
      obtain ⟨v, u', hk, hr, hv⟩ := run_part_at (P := P) (w := E.w) hc fd.offset h0
      have : (execOp ρ o).run P E.w = .ok (.value u') E.w := by
        simp [execOp, ho, hu, Instr.field, run_underlying hT, hfd, asAgg, hr]
      rw [this]; exact .quiet hG hk (rv_loaded hv)

theorem idxI_eq {x : V} {i : Int} (h : idxI x = some i) {u : Value} (hx : RV P E l x u) : ∃ kd, u = .int kd i := by
  unfold idxI at h
  split at h
  · injection h with h; subst h
    cases hx with | c hc => cases hc with | v _ => exact ⟨_, rfl⟩
  · cases h

theorem inR_eq {i : Int} {n : Nat} (h : inR i n = true) : 0 ≤ i ∧ i < n := by
  unfold inR at h; simpa using h

/-- A slice's cells. -/
theorem RC.sl_at {w : World} {Pr : Nat → Nat → Prop} {n : Nat} {cs : List C} {u : Value} (h : RC w Pr (.sl n cs) u) :
    ∃ a cap, u = .slice a n cap ∧ n ≤ cap ∧ cap ≤ maxLen ∧ ((n = 0 ∧ cs = []) ∨ ∃ g o, a = some ⟨g, o, none⟩ ∧ At w Pr g o cs ∧ ∀ j, j < cs.length → Pr g (o + j)) := by
  cases h with
  | sl0 hc => exact ⟨_, _, rfl, Nat.zero_le _, hc, .inl ⟨rfl, rfl⟩⟩
  | sl hn hc h1 h2 => exact ⟨_, _, rfl, hn, hc, .inr ⟨_, _, rfl, fun j c hj => ⟨_, (h1 j c hj).1, h2 j c hj⟩, fun j hj => (h1 j _ (List.getElem?_eq_getElem hj)).2⟩⟩

theorem asSl_at {c : C} {w : World} {Pr : Nat → Nat → Prop} {u : Value} (hc : RC w Pr c u) {kk : Nat → List C → Option R} (h : asSl c kk = some r) :
    ∃ n cs a cap, kk n cs = some r ∧ u = .slice a n cap ∧ n ≤ cap ∧ cap ≤ maxLen ∧ ((n = 0 ∧ cs = []) ∨ ∃ g o, a = some ⟨g, o, none⟩ ∧ At w Pr g o cs ∧ ∀ j, j < cs.length → Pr g (o + j)) := by
  obtain ⟨n, cs, rfl | ⟨rfl, rfl, rfl⟩, hk⟩ := asSl_eq h
  · obtain ⟨a, cap, h1, h2, h3, h4⟩ := hc.sl_at
    exact ⟨n, cs, a, cap, hk, h1, h2, h3, h4⟩
  · cases hc with
    | nl => exact ⟨0, [], none, 0, hk, rfl, Nat.le_refl _, by unfold maxLen; omega, .inl ⟨rfl, rfl⟩⟩

theorem At.toC {w : World} {Pr : Nat → Nat → Prop} {g o : Nat} {cs : List C} (h : At w Pr g o cs) (hp : ∀ j, j < cs.length → Pr g (o + j)) : RC w Pr (.cp cs) (.pointer (some ⟨g, o, none⟩)) := by
  obtain ⟨us, h1, h2⟩ := h.fn hp
  exact .cp h1 h2

theorem prDrop {Pr : Nat → Nat → Prop} {g o m : Nat} {cs : List C} (hp : ∀ j, j < cs.length → Pr g (o + j)) : ∀ j, j < (cs.drop m).length → Pr g (o + m + j) :=
  fun j hj => by have := hp (m + j) (by simp only [List.length_drop] at hj; omega); rwa [← Nat.add_assoc] at this

theorem op_indexAddr (hG : Good P A E l pend) {T : TypeId} {a b : Operand} (ho : o.op = .indexAddr T a b) {x y : V} {u v : Value} (hx : RV P E l x u) (hy : RV P E l y v) (hu : ρ a = u) (hv : ρ b = v)
    (h0 : indexAddrK P l k T x y = some r) : Sound P A E l pend ((execOp ρ o).run P E.w) k r := by
  unfold indexAddrK at h0
  split at h0
  case h_3 => cases h0
  case h_1 i el hi hT =>
    obtain ⟨kd, rfl⟩ := idxI_eq hi hy
    split at h0
    case h_2 => cases h0
    case h_1 inf hinf =>
      have key : ∀ ad n cap, u = .slice (some ad) n cap → 0 ≤ i → i < n → (execOp ρ o).run P E.w = .ok (.value (.pointer (some (ad.add (i.toNat * inf.size))))) E.w := by
        intro ad n cap h1 h2 h3
        simp [execOp, ho, hu, hv, h1, Instr.indexAt, asIntOf, run_underlying hT, h2, h3, run_sizeOf hinf]
      cases x with
      | c c =>
        cases hx with | c hc =>
        obtain ⟨n, cs, a', cap, hk, e1, _, _, hz⟩ := asSl_at hc h0
        obtain ⟨hb, hk⟩ := need_some hk
        obtain ⟨hb1, hb2⟩ := inR_eq hb
        rcases hz with ⟨rfl, _⟩ | ⟨g, o', rfl, hat, hp⟩
        · omega
        · rw [key _ _ _ e1 hb1 hb2, add_none]
          exact .quiet hG hk (.c ((hat.drop _).toC (prDrop hp)))
      | own s off n =>
        simp only at h0
        split at h0
        case h_2 => cases h0
        case h_1 q hl =>
          obtain ⟨t', fz, cs⟩ := q
          obtain ⟨hb, hk⟩ := need_some h0
          obtain ⟨hb1, hb2⟩ := inR_eq hb
          cases hx with
          | ownDead hd => rw [hd] at hl; cases hl
          | ownRf hd => rw [hd] at hl; cases hl
          | ownNil _ _ => omega
          | own0 _ _ _ => omega
          | @own _ _ _ g cap _ _ _ hr _ _ _ _ =>
            rw [key _ _ _ rfl hb1 hb2, add_none]
            exact .quiet hG hk (.ptr hr)
      | _ => cases h0
  case h_2 i m el hi hT =>
    obtain ⟨kd, rfl⟩ := idxI_eq hi hy
    split at h0
    case h_2 => cases h0
    case h_1 inf hinf =>
      have key : ∀ ad, u = .pointer (some ad) → 0 ≤ i → i < m → (execOp ρ o).run P E.w = .ok (.value (.pointer (some (ad.add (i.toNat * inf.size))))) E.w := by
        intro ad h1 h2 h3
        simp [execOp, ho, hu, hv, h1, Instr.indexAt, asIntOf, run_underlying hT, h2, h3, run_sizeOf hinf, Instr.sureAddr]
      cases x with
      | c c =>
        obtain ⟨cs, rfl, hh⟩ := asP_eq h0
        obtain ⟨hb, hk⟩ := need_some hh
        obtain ⟨hb1, hb2⟩ := inR_eq hb
        cases hx with | c hc =>
        obtain ⟨ad, e1, hat⟩ := hc.cp_at
        rw [key ad e1 hb1 hb2]
        refine .quiet hG hk (.c ?_)
        rcases hat with rfl | ⟨g, o', rfl, hat, hp⟩
        · simp only [List.drop_nil]; exact .cp0
        · rw [add_none]; exact (hat.drop _).toC (prDrop hp)
      | ptr s off =>
        obtain ⟨hb, hk⟩ := need_some h0
        rw [Bool.and_eq_true] at hb
        obtain ⟨hb1, hb2⟩ := inR_eq hb.2
        cases hx with
        | ptrDead hd => exact absurd hd (ne_dead hb.1)
        | @ptr _ _ g hr =>
          rw [key _ rfl hb1 hb2, add_none]
          exact .quiet hG hk (.ptr hr)
      | _ => cases h0

theorem op_index (hG : Good P A E l pend) {T : TypeId} {a b : Operand} (ho : o.op = .index T a b) {x y : V} {u v : Value} (hx : RV P E l x u) (hy : RV P E l y v) (hu : ρ a = u) (hv : ρ b = v)
    (h0 : indexK P l k T x y = some r) : Sound P A E l pend ((execOp ρ o).run P E.w) k r := by
  unfold indexK at h0
  split at h0
  case h_3 => cases h0
  case h_1 i m el hi hT =>
    obtain ⟨kd, rfl⟩ := idxI_eq hi hy
    split at h0
    case h_2 => cases h0
    case h_1 inf hinf =>
      cases x with
      | agg cs =>
        obtain ⟨hb, hk⟩ := need_some h0
        obtain ⟨hb1, hb2⟩ := inR_eq hb
        cases hx with
        | @agg _ us hc =>
          obtain ⟨z, u', hk', hr, hz⟩ := run_part_at (P := P) (w := E.w) hc (i.toNat * inf.size) hk
          have : (execOp ρ o).run P E.w = .ok (.value u') E.w := by
            simp [execOp, ho, hu, hv, Instr.index, asIntOf, run_underlying hT, hb1, hb2, run_sizeOf hinf, hr]
          rw [this]; exact .quiet hG hk' (rv_loaded hz)
      | _ => cases h0
  case h_2 i hi hT =>
    obtain ⟨kd, rfl⟩ := idxI_eq hi hy
    cases x with
    | c c =>
      obtain ⟨s, rfl, hh⟩ := asS_eq h0
      obtain ⟨hb, hk⟩ := need_some hh
      obtain ⟨hb1, hb2⟩ := inR_eq hb
      cases hx with | c hc => cases hc with | v _ =>
      have hlt : i.toNat < s.size := by omega
      have hg : s[i.toNat]? = some s[i.toNat] := by simp [getElem?_def, hlt]
      have : (execOp ρ o).run P E.w = .ok (.value (.int .u8 (s.data.getD i.toNat 0).toNat)) E.w := by
        simp only [execOp, ho, hu, hv, Instr.index, asIntOf, run_underlying hT, Sem.run_bind, Sem.run_pure, Result.andThen_ok, if_pos hb1, hg]
        have : s.data.getD i.toNat 0 = s[i.toNat] := by
          have hlt' : i.toNat < s.data.size := hlt
          unfold Array.getD; rw [dif_pos hlt']; rfl
        rw [this]
      rw [this]; exact .quiet hG hk (.c (.v rfl))
    | _ => cases h0

theorem op_extract (hG : Good P A E l pend) {i : Nat} {a : Operand} (ho : o.op = .extract a i) {x : V} {u : Value} (hx : RV P E l x u) (hu : ρ a = u) (h0 : extractK l k i x = some r) : Sound P A E l pend ((execOp ρ o).run P E.w) k r := by
  cases x with
  | tup vs =>
    simp only [extractK] at h0
    split at h0
    case h_2 => cases h0
    case h_1 z hz =>
      cases hx with
      | @tup _ us hs h =>
        have hlt : i < us.length := by rw [hs]; exact (List.getElem?_eq_some_iff.1 hz).1
        have hg : us[i]? = some us[i] := List.getElem?_eq_getElem hlt
        have : (execOp ρ o).run P E.w = .ok (.value us[i]) E.w := by simp [execOp, ho, hu, Instr.extract, hg]
        rw [this]; exact .quiet hG h0 (h i z _ hz hg)
  | _ => cases h0

end
end Go.PM
