/- The pure machine: operators. -/
import Derived.Test.YtepjbmlhfhahcaaPMe
set_option linter.unusedVariables false
set_option linter.unusedSimpArgs false
namespace Go.PM
open Go

variable {P : Program}

theorem binInt_sound {R : Type} {op : BinOp} {kd : IntKind} {a b : Int} {k : V → Option R} {r : R} (h : binInt op kd a b k = some r) (t : TypeId) (w : World) :
    ∃ v, scal v = true ∧ k (.c (.v v)) = some r ∧ (binOp op t (.int kd a) (.int kd b)).run P w = .ok v w := by
  cases op <;> simp only [binInt] at h
  case quo =>
    obtain ⟨h1, h2⟩ := need_some h
    have h3 : b ≠ 0 := by simpa using h1
    exact ⟨_, rfl, h2, by simp [binOp, Op.intDiv, h3]⟩
  case rem =>
    obtain ⟨h1, h2⟩ := need_some h
    have h3 : b ≠ 0 := by simpa using h1
    exact ⟨_, rfl, h2, by simp [binOp, Op.intDiv, h3]⟩
  case shl => cases h
  case shr => cases h
  all_goals exact ⟨_, rfl, h, by simp [binOp, Op.intArith, Op.intBits, Op.intCmp]⟩

theorem shInt_sound {R : Type} {op : BinOp} {kd kd' : IntKind} {a b : Int} {k : V → Option R} {r : R} (h : shInt op kd a b k = some r) (t : TypeId) (w : World) :
    ∃ v, scal v = true ∧ k (.c (.v v)) = some r ∧ (binOp op t (.int kd a) (.int kd' b)).run P w = .ok v w := by
  cases op <;> simp only [shInt] at h
  case shl =>
    obtain ⟨h1, h2⟩ := need_some h
    have h3 : ¬ b < 0 := by simpa using h1
    exact ⟨_, rfl, h2, by simp [binOp, Op.shift, h3]⟩
  case shr =>
    obtain ⟨h1, h2⟩ := need_some h
    have h3 : ¬ b < 0 := by simpa using h1
    exact ⟨_, rfl, h2, by simp [binOp, Op.shift, h3]⟩
  all_goals cases h

theorem binStr_sound {R : Type} {op : BinOp} {a b : ByteArray} {k : V → Option R} {r : R} (h : binStr op a b k = some r) (t : TypeId) (w : World) :
    ∃ v, scal v = true ∧ k (.c (.v v)) = some r ∧ (binOp op t (.string a) (.string b)).run P w = .ok v w := by
  cases op <;> simp only [binStr] at h
  case add =>
    obtain ⟨h1, h2⟩ := need_some h
    have h3 : a.size + b.size ≤ 9223372036854775807 := Nat.le_of_ble_eq_true h1
    have h4 : ¬ (((a.size + b.size : Nat) : Int) > IntKind.i64.max) := by
      have : IntKind.i64.max = 9223372036854775807 := by decide
      rw [this]; omega
    exact ⟨_, rfl, h2, by simp only [binOp, Op.stringOp]; rw [if_neg h4]; rfl⟩
  case sub | mul | quo | rem | and | or | xor | shl | shr | andNot => cases h
  all_goals exact ⟨_, rfl, h, by simp [binOp, Op.stringOp]⟩

/-- The value that cells make. -/
def IsVal (P : Program) (t : TypeId) (us : List Value) (v : Value) : Prop := (aggB P t = true ∧ v = .agg us.toArray) ∨ (aggB P t = false ∧ ∃ r, us = v :: r)

theorem run_part_val {w0 w : World} {Pr : Nat → Nat → Prop} {t : TypeId} {D : TypeDesc} (hD : P.underlying t = some D) {us : List Value} {off : Nat} {v : Value} {i : TypeInfo} (hi : P.info? t = some i)
    (h : IsVal P t ((us.drop off).take i.size) v) : (part t us.toArray off).run P w = .ok v w := by
  rcases h with ⟨ha, rfl⟩ | ⟨ha, r, e⟩
  · simp [part, aggB_run t w D hD, ha, run_sizeOf hi, List.take_drop, Nat.add_comm]
  · have h1 : us[off]? = some v := by
      have : ((us.drop off).take i.size)[0]? = some v := by rw [e]; rfl
      rw [List.getElem?_take] at this
      split at this
      · rwa [List.getElem?_drop, Nat.add_zero] at this
      · cases this
    simp [part, aggB_run t w D hD, ha, h1]

theorem eqT_sound {w0 : World} {Pr : Nat → Nat → Prop} (w : World) : ∀ (d : Nat) (t : TypeId) (cs ds : List C) (us vs : List Value) (_ : RCs w0 Pr cs us) (_ : RCs w0 Pr ds vs) (b : Bool) (_ : eqT P d t cs ds = some b) (n : Nat) (_ : d ≤ n),
    (∃ D, P.underlying t = some D) ∧ ∃ a a', IsVal P t us a ∧ IsVal P t vs a' ∧ (Op.equalIn n t a a').run P w = .ok b w := by
  intro d
  induction d with
  | zero => intro t cs ds us vs _ _ b h; cases h
  | succ d ih =>
    intro t cs ds us vs hc hd b h n hn
    obtain ⟨n, rfl⟩ : ∃ m, n = m + 1 := ⟨n - 1, by omega⟩
    unfold eqT at h
    cases hu : P.underlying t with
    | none => rw [hu] at h; cases h
    | some D =>
      rw [hu] at h
      refine ⟨⟨D, rfl⟩, ?_⟩
      cases D <;> simp only at h <;> try (cases h; done)
      case int kd =>
        have ha : aggB P t = false := by simp [aggB, hu]
        split at h
        · rename_i k a _ k' b' _
          obtain ⟨u, us', rfl, h1, _⟩ := hc.uncons
          obtain ⟨v, vs', rfl, h2, _⟩ := hd.uncons
          cases h1 with | v _ => cases h2 with | v _ =>
          split at h
          · rename_i hk; subst hk; injection h with h; subst h
            exact ⟨_, _, .inr ⟨ha, _, rfl⟩, .inr ⟨ha, _, rfl⟩, run_equalIn_int w n t k kd a b' hu⟩
          · cases h
        · cases h
      case bool =>
        have ha : aggB P t = false := by simp [aggB, hu]
        split at h
        · rename_i a _ b' _
          obtain ⟨u, us', rfl, h1, _⟩ := hc.uncons
          obtain ⟨v, vs', rfl, h2, _⟩ := hd.uncons
          cases h1 with | v _ => cases h2 with | v _ =>
          injection h with h; subst h
          exact ⟨_, _, .inr ⟨ha, _, rfl⟩, .inr ⟨ha, _, rfl⟩, run_equalIn_bool' w n t a b' hu⟩
        · cases h
      case string =>
        have ha : aggB P t = false := by simp [aggB, hu]
        split at h
        · rename_i a _ b' _
          obtain ⟨u, us', rfl, h1, _⟩ := hc.uncons
          obtain ⟨v, vs', rfl, h2, _⟩ := hd.uncons
          cases h1 with | v _ => cases h2 with | v _ =>
          injection h with h; subst h
          exact ⟨_, _, .inr ⟨ha, _, rfl⟩, .inr ⟨ha, _, rfl⟩, run_equalIn_string w n t a b' hu⟩
        · cases h
      case struct fs =>
        have ha : aggB P t = true := by simp [aggB, hu]
        have hf : P.fieldsOf t = fs := by simp [Program.fieldsOf, hu]
        cases hs : P.stoodInHeld t with
        | true => rw [hs] at h; cases h
        | false =>
          rw [hs] at h
          simp only [cond_false] at h
          refine ⟨_, _, .inl ⟨ha, rfl⟩, .inl ⟨ha, rfl⟩, ?_⟩
          rw [run_equalIn_struct w n t us.toArray vs.toArray (by rw [hf]; exact hu) hs, hf]
          clear hf hu
          generalize fs.toList = l at h
          induction l generalizing b with
          | nil => injection h with h; subst h; rfl
          | cons f l ihl =>
            simp only [List.foldr_cons] at h
            cases hn' : (f.name == "_") with
            | true => rw [hn'] at h; cases h
            | false =>
              rw [hn'] at h
              simp only [cond_false] at h
              split at h
              · rename_i b1 b2 h1 h2
                injection h with h; subst h
                have hne : f.name ≠ "_" := by simpa using hn'
                obtain ⟨⟨D, hD⟩, a, a', ha1, ha2, he⟩ := ih f.type _ _ _ _ ((hc.drop f.offset).take (szOf P f.type)) ((hd.drop f.offset).take (szOf P f.type)) b1 h1 n (by omega)
                have hi : ∃ i, P.info? f.type = some i := by
                  cases hi : P.info? f.type with
                  | some i => exact ⟨i, rfl⟩
                  | none =>
                    have : P.underlying f.type = none := by simp [Program.underlying, hi]
                    rw [this] at hD; cases hD
                obtain ⟨i, hi⟩ := hi
                have hsz : szOf P f.type = i.size := by simp [szOf, hi]
                rw [hsz] at ha1 ha2
                have r1 := run_part_val (w0 := w0) (w := w) (Pr := Pr) hD hi ha1
                have r2 := run_part_val (w0 := w0) (w := w) (Pr := Pr) hD hi ha2
                simp only [Op.eqFields, if_pos hne, Sem.run_bind, r1, r2, he, Result.andThen_ok, Sem.run_ite]
                cases b1
                · simp
                · simpa using ihl b2 h2
              · cases h

theorem unV_sound {R : Type} {E : Env} {l : Loc} {op : UnOp} {x : V} {u : Value} (hx : RV P E l x u) {k : V → Option R} {r : R} (h : unV op x k = some r) (w : World) :
    ∃ v, scal v = true ∧ k (.c (.v v)) = some r ∧ (Op.unary op u).run P w = .ok v w := by
  unfold unV at h
  split at h
  · cases hx with | c hc => cases hc with | v _ => exact ⟨_, rfl, h, by simp [Op.unary, Op.intArith]⟩
  · cases hx with | c hc => cases hc with | v _ => exact ⟨_, rfl, h, by simp [Op.unary]⟩
  · cases h

theorem convV_sound {R : Type} {E : Env} {l : Loc} {src dst : TypeId} {x : V} {u : Value} (hx : RV P E l x u) {k : V → Option R} {r : R} (h : convV P src dst x k = some r) (w : World) :
    ∃ v, scal v = true ∧ k (.c (.v v)) = some r ∧ (convert src dst u).run P w = .ok v w := by
  unfold convV at h
  split at h
  · rename_i d kd k' n hs hd
    cases hx with | c hc => cases hc with | v _ =>
    refine ⟨_, rfl, h, ?_⟩
    simp only [convert, Sem.run_bind, run_underlying hs, run_underlying hd, Result.andThen_ok]
    cases d <;> simp [Conv.intToInt]
  · rename_i d s hs hd
    cases hx with | c hc => cases hc with | v _ =>
    refine ⟨_, rfl, h, ?_⟩
    simp only [convert, Sem.run_bind, run_underlying hs, run_underlying hd, Result.andThen_ok]
    cases d <;> simp
  · cases h

theorem binV_sound {R : Type} {E : Env} {l : Loc} {op : BinOp} {t : TypeId} {x y : V} {u v : Value} (hx : RV P E l x u) (hy : RV P E l y v) {k : V → Option R} {r : R} (h : binV P op t x y k = some r) (ox oy : Operand) (w : World) :
    ∃ z, scal z = true ∧ k (.c (.v z)) = some r ∧ (do eqGuard op t ox oy u v; binOp op t u v : Sem Value).run P w = .ok z w := by
  unfold binV at h
  split at h
  · rename_i kd a kd' b
    cases hx with | c hc => cases hc with | v _ =>
    cases hy with | c hc => cases hc with | v _ =>
    have hg : ∀ (f : Unit → Sem Value), ((eqGuard op t ox oy (.int kd a) (.int kd' b)) >>= f).run P w = (f ()).run P w := by intro f; cases op <;> simp [eqGuard]
    rw [hg]
    split at h
    · exact shInt_sound h t w
    · exact shInt_sound h t w
    · split at h
      · rename_i hk; subst hk; exact binInt_sound h t w
      · cases h
  · rename_i a b
    cases hx with | c hc => cases hc with | v _ =>
    cases hy with | c hc => cases hc with | v _ =>
    have hg : ∀ (f : Unit → Sem Value), ((eqGuard op t ox oy (.string a) (.string b)) >>= f).run P w = (f ()).run P w := by intro f; cases op <;> simp [eqGuard]
    rw [hg]
    exact binStr_sound h t w
  · rename_i a b
    cases hx with | c hc => cases hc with | v _ =>
    cases hy with | c hc => cases hc with | v _ =>
    have hg : ∀ (f : Unit → Sem Value), ((eqGuard op t ox oy (.bool a) (.bool b)) >>= f).run P w = (f ()).run P w := by intro f; cases op <;> simp [eqGuard]
    rw [hg]
    split at h
    · rename_i hu
      exact ⟨_, rfl, h, by simp [binOp, Op.equal, Op.maxDepth, run_equalIn_bool' w 9999 t a b hu]⟩
    · rename_i hu
      exact ⟨_, rfl, h, by simp [binOp, Op.equal, Op.maxDepth, run_equalIn_bool' w 9999 t a b hu]⟩
    · cases h
  · rename_i cs ds
    cases hx with | @agg _ us hc =>
    cases hy with | @agg _ vs hd =>
    split at h
    · rename_i b hag hm he
      have hg : ∀ (f : Unit → Sem Value), ((eqGuard op t ox oy (.agg us.toArray) (.agg vs.toArray)) >>= f).run P w = (f ()).run P w := by
        intro f; rw [Sem.run_bind, run_eqGuard_agg w op t ox oy _ _ hm]; rfl
      rw [hg]
      obtain ⟨_, a, a', ha, ha', hr⟩ := eqT_sound (P := P) w 20 t cs ds us vs hc hd b he 10000 (by omega)
      have e1 : a = .agg us.toArray := by
        rcases ha with ⟨_, e⟩ | ⟨hf, q, e⟩
        · exact e
        · rw [hag] at hf; cases hf
      have e2 : a' = .agg vs.toArray := by
        rcases ha' with ⟨_, e⟩ | ⟨hf, q, e⟩
        · exact e
        · rw [hag] at hf; cases hf
      subst e1 e2
      split at h
      · exact ⟨_, rfl, h, by rw [run_eql_struct, hr]; rfl⟩
      · exact ⟨_, rfl, h, by rw [run_neq_struct, hr]; rfl⟩
      · cases h
    · cases h
  · cases h

end Go.PM
