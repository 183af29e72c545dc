/- Parts put together: PMpa, PMpb, PMq, PMr, PMs, PMt, PMu, PMv. -/
import Derived.Test.YtmbgnpgjdhlegaaDoorJ2
import Derived.MapKept
import Derived.Maps.RangeRun
import Derived.Orders
import Derived.Tactics
set_option linter.unusedSimpArgs false
set_option linter.unusedVariables false
/- The pure machine: maps. -/
namespace Go.PM
open Go
variable {P : Program}
section
variable {A : Fr} {E : Env} {l : Loc} {pend : Nat → Prop} {R : Type} {k : V → Loc → List Nat → Option R} {r : R} {o : Oper} {ρ : Operand → Value}
theorem ceq_eq {a b : C} (h : ceq a b = true) {w : World} {Pr : Nat → Nat → Prop} {u v : Value} (hu : RC w Pr a u) (hv : RC w Pr b v) : u = v ∧ ∀ n, Instr.sameBits n u u = true := by
  unfold ceq at h
  split at h
  · cases hu with | v _ => cases hv with | v _ =>
    simp only [Bool.and_eq_true, decide_eq_true_eq] at h
    obtain ⟨rfl, rfl⟩ := h
    exact ⟨rfl, fun n => by simp [Instr.sameBits]⟩
  · cases hu with | v _ => cases hv with | v _ =>
    simp only [decide_eq_true_eq] at h
    subst h
    exact ⟨rfl, fun n => by simp [Instr.sameBits]⟩
  · cases hu with | v _ => cases hv with | v _ =>
    simp only [decide_eq_true_eq] at h
    subst h
    exact ⟨rfl, fun n => by simp [Instr.sameBits, MapKept.bytes_beq]⟩
  · cases h
theorem ceqs_eq {w : World} {Pr : Nat → Nat → Prop} : ∀ {a b : List C} {us vs : List Value}, ceqs a b = true → RCs w Pr a us → RCs w Pr b vs → us = vs ∧ ∀ n, ∀ u ∈ us, Instr.sameBits n u u = true
  | [], [], us, vs, _, hu, hv => by
    obtain rfl : us = [] := List.eq_nil_of_length_eq_zero hu.1
    obtain rfl : vs = [] := List.eq_nil_of_length_eq_zero hv.1
    exact ⟨rfl, by simp⟩
  | a :: as, b :: bs, us, vs, h, hu, hv => by
    simp only [ceqs, Bool.and_eq_true] at h
    obtain ⟨u, us', rfl, h1, h2⟩ := hu.uncons
    obtain ⟨v, vs', rfl, h3, h4⟩ := hv.uncons
    obtain ⟨rfl, e2⟩ := ceq_eq h.1 h1 h3
    obtain ⟨rfl, e4⟩ := ceqs_eq h.2 h2 h4
    exact ⟨rfl, fun n x hx => by rcases List.mem_cons.1 hx with rfl | hx; exact e2 n; exact e4 n x hx⟩
  | [], _ :: _, _, _, h, _, _ => by cases h
  | _ :: _, [], _, _, h, _, _ => by cases h
theorem ValOf.vals {w : World} {Pr : Nat → Nat → Prop} {t : TypeId} {cs : List C} {u : Value} (h : ValOf P w Pr t cs u) : ∃ us, RCs w Pr cs us ∧ IsVal P t us u ∧ u.cells.toList = us := by
  rcases h with ⟨h1, h0, us, rfl, h3⟩ | ⟨h1, c, rfl, h3⟩
  · exact ⟨us, h3, .inl ⟨h1, rfl⟩, by simp [Value.cells]⟩
  · exact ⟨[u], .one h3, .inr ⟨h1, [], rfl⟩, by rw [cells_one h3.one]⟩
theorem IsVal.uniq {t : TypeId} {us : List Value} {a b : Value} (h : IsVal P t us a) (h' : IsVal P t us b) : a = b := by
  rcases h with ⟨h1, rfl⟩ | ⟨h1, q, e⟩ <;> rcases h' with ⟨h2, rfl⟩ | ⟨h2, q', e'⟩
  · rfl
  · rw [h1] at h2; cases h2
  · rw [h1] at h2; cases h2
  · rw [e] at e'; injection e'
theorem key_same {w : World} {Pr : Nat → Nat → Prop} {t : TypeId} {a b : List C} {u v : Value} (h : ceqs a b = true) (hu : ValOf P w Pr t a u) (hv : ValOf P w Pr t b v) : u = v ∧ Instr.sameBits 10000 u u = true := by
  obtain ⟨us, h1, h2, h3⟩ := hu.vals
  obtain ⟨vs, h4, h5, h6⟩ := hv.vals
  obtain ⟨rfl, hs⟩ := ceqs_eq h h1 h4
  obtain rfl := h2.uniq h5
  refine ⟨rfl, ?_⟩
  rcases h2 with ⟨ha, rfl⟩ | ⟨ha, q, rfl⟩
  · show (us.toArray.size == us.toArray.size && (us.toArray.toList.zip us.toArray.toList).all fun (x, y) => Instr.sameBits 9999 x y) = true
    simp only [beq_self_eq_true, Bool.true_and, List.all_eq_true]
    rintro ⟨x, y⟩ hxy
    have hxy : (x, y) ∈ us.zip us := by simpa using hxy
    obtain ⟨j, hj, e⟩ := List.mem_iff_getElem.1 hxy
    rw [List.getElem_zip] at e
    injection e with e1 e2
    show Instr.sameBits 9999 x y = true
    rw [← e2, ← e1]
    exact hs 9999 _ (List.getElem_mem _)
  · exact hs 10000 _ (by simp)
theorem run_checkKey {e : Bool} (w : World) : ∀ (d : Nat) (t : TypeId) (v : Value), keyOkB P d t = true → (aggB P t = true → ∃ us : List Value, v = .agg us.toArray ∧ us.length = szOf P t) → ∀ n, d ≤ n → (Instr.checkKey e n t v).run P w = .ok () w
  | 0, t, v, h, _, _, _ => by cases h
  | d + 1, t, v, h, hv, n, hn => by
    obtain ⟨n, rfl⟩ : ∃ m, n = m + 1 := ⟨n - 1, by omega⟩
    unfold keyOkB at h
    unfold Instr.checkKey
    cases hu : P.underlying t with
    | none => rw [hu] at h; cases h
    | some D =>
      rw [hu] at h
      rw [Sem.run_bind, run_underlying hu, Result.andThen_ok]
      cases D <;> simp only at h <;> try (cases h; done)
      case struct fs =>
        obtain ⟨us, rfl, hl⟩ := hv (by simp [aggB, hu])
        simp only
        rw [← Array.forIn_toList]
        generalize fs.toList = L at h
        induction L with
        | nil => simp
        | cons f L ih =>
          rw [List.all_cons, Bool.and_eq_true] at h
          obtain ⟨hf, h2⟩ := h
          simp only [Bool.and_eq_true, Bool.not_eq_true', beq_eq_false_iff_ne] at hf
          obtain ⟨⟨f1, f2⟩, f3⟩ := hf
          have f3 := Nat.le_of_ble_eq_true f3
          have hpart : ∃ a, (part f.type us.toArray f.offset).run P w = .ok a w ∧ (aggB P f.type = true → ∃ vs : List Value, a = .agg vs.toArray ∧ vs.length = szOf P f.type) := by
            have hD : ∃ D, P.underlying f.type = some D := by
              cases d with
              | zero => cases f2
              | succ d =>
                unfold keyOkB at f2
                cases hD : P.underlying f.type with
                | none => rw [hD] at f2; cases f2
                | some D => exact ⟨D, rfl⟩
            obtain ⟨D, hD⟩ := hD
            obtain ⟨i, hi⟩ := info_of_underlying hD
            have hs := szOf_info hi
            cases ha : aggB P f.type with
            | true =>
              refine ⟨.agg (us.toArray.extract f.offset (f.offset + i.size)), by simp [part, aggB_run f.type w D hD, ha, run_sizeOf hi], fun _ => ⟨(us.drop f.offset).take i.size, ?_, ?_⟩⟩
              · congr 1; apply Array.ext'; simp [List.take_drop, Nat.add_comm]
              · simp; omega
            | false =>
              have hne : szOf P f.type ≠ 0 := by
                intro hz
                cases d with
                | zero => cases f2
                | succ d =>
                  unfold keyOkB at f2
                  rw [hD] at f2
                  cases D <;> simp only at f2 <;> try (cases f2; done)
                  all_goals first
                    | (have := Nat.eq_of_beq_eq_true f2; omega)
                    | (revert ha; simp [aggB, hD]; done)
              have hlt : f.offset < us.length := by omega
              exact ⟨us[f.offset], by simp [part, aggB_run f.type w D hD, ha, hlt], fun h => by cases h⟩
          obtain ⟨a, p1, p2⟩ := hpart
          have := ih h2
          simp only [List.forIn_cons, Sem.run_bind, f1, ne_eq, not_false_eq_true, if_true, Result.andThen_ok, p1, run_checkKey w d f.type a f2 p2 n (by omega), Sem.run_pure] at this ⊢
          exact this
      all_goals simp
theorem toList_inj {a b : ByteArray} : a.toList = b.toList ↔ a = b := by
  refine ⟨fun h => ?_, fun h => by rw [h]⟩
  have h1 : a.data.toList = b.data.toList := by simpa [ByteArray.toList_eq] using h
  cases a; cases b
  congr
  exact Array.ext' h1
theorem mfind_sound {w : World} {Pr : Nat → Nat → Prop} {kt : TypeId} {kc : List C} {key : Value} (hk : ValOf P w Pr kt kc key) : ∀ {es : List (List C × List C)} {ms : List MapEntry} {i : Nat} {q : Option (Nat × List C)}, mfind P kt kc es i = some q → ms.length = es.length →
    (∀ (j : Nat) (a b : List C) (m : MapEntry), es[j]? = some (a, b) → ms[j]? = some m → ValOf P w Pr kt a m.key) →
    ((Instr.findAsking kt key ms i).run P w = .ok (q.map fun p => (p.1, (ms[p.1 - i]?.map (·.val)).getD undef)) w ∧
      (∀ x, Instr.findNow (match P.underlying kt with | some D => D | none => .bool) key ms i = some x → x = q.map fun p => (p.1, (ms[p.1 - i]?.map (·.val)).getD undef))) ∧
    (∀ j v, q = some (j, v) → i ≤ j ∧ ∃ a m, es[j - i]? = some (a, v) ∧ ms[j - i]? = some m ∧ m.key = key ∧ Instr.sameBits 10000 m.key key = true)
  | [], ms, i, q, h, hl, _ => by
    obtain rfl : ms = [] := List.eq_nil_of_length_eq_zero (by simpa using hl)
    injection h with h; subst h
    exact ⟨⟨by simp [Instr.findAsking], fun x hx => by simp [Instr.findNow] at hx; simp [← hx]⟩, fun j v h => by cases h⟩
  | e :: es, [], i, q, h, hl, _ => by simp at hl
  | e :: es, m :: ms, i, q, h, hl, hms => by
    obtain ⟨a0, b0⟩ := e
    have hm := hms 0 a0 b0 m rfl rfl
    obtain ⟨us, k1, k2, _⟩ := hk.vals
    obtain ⟨vs, k3, k4, _⟩ := hm.vals
    unfold mfind at h
    split at h
    case h_2 => cases h
    case h_1 b hb =>
      obtain ⟨⟨D, hD⟩, a, a', ha, ha', heq⟩ := eqT_sound (P := P) (w0 := w) (Pr := Pr) w 20 kt kc a0 us vs k1 k3 b hb 10000 (by omega)
      obtain rfl := k2.uniq ha
      have ek := k4.uniq ha'
      subst ek
      have heq' : (Op.equal kt key m.key).run P w = .ok b w := heq
      have hnow : ∀ y, Instr.sameNow D key m.key = some y → y = b := by
        intro y hy
        have h2 := hb
        unfold eqT at h2
        rw [hD] at h2
        cases D <;> simp only at h2 <;> try (cases h2; done)
        case int kd =>
          have hna : aggB P kt = false := by simp [aggB, hD]
          split at h2
          · rename_i k x _ k' y' _
            obtain ⟨u, us', rfl, r1, _⟩ := k1.uncons
            obtain ⟨v, vs', rfl, r2, _⟩ := k3.uncons
            cases r1 with | v _ => cases r2 with | v _ =>
            have e1 : key = .int k x := by rcases k2 with ⟨h, _⟩ | ⟨_, q, e⟩; (rw [hna] at h; cases h); injection e with e; exact e.symm
            have e2 : m.key = .int k' y' := by rcases k4 with ⟨h, _⟩ | ⟨_, q, e⟩; (rw [hna] at h; cases h); injection e with e; exact e.symm
            rw [e1, e2] at hy
            simp only [Instr.sameNow] at hy
            split at h2
            · rename_i hkk; subst hkk
              simp at hy
              injection h2 with h2
              rw [← hy, ← h2]
            · cases h2
          · cases h2
        case bool =>
          have hna : aggB P kt = false := by simp [aggB, hD]
          split at h2
          · rename_i x _ y' _
            obtain ⟨u, us', rfl, r1, _⟩ := k1.uncons
            obtain ⟨v, vs', rfl, r2, _⟩ := k3.uncons
            cases r1 with | v _ => cases r2 with | v _ =>
            have e1 : key = .bool x := by rcases k2 with ⟨h, _⟩ | ⟨_, q, e⟩; (rw [hna] at h; cases h); injection e with e; exact e.symm
            have e2 : m.key = .bool y' := by rcases k4 with ⟨h, _⟩ | ⟨_, q, e⟩; (rw [hna] at h; cases h); injection e with e; exact e.symm
            rw [e1, e2] at hy
            simp only [Instr.sameNow] at hy
            injection hy with hy
            injection h2 with h2
            rw [← hy, ← h2]
          · cases h2
        case string =>
          have hna : aggB P kt = false := by simp [aggB, hD]
          split at h2
          · rename_i x _ y' _
            obtain ⟨u, us', rfl, r1, _⟩ := k1.uncons
            obtain ⟨v, vs', rfl, r2, _⟩ := k3.uncons
            cases r1 with | v _ => cases r2 with | v _ =>
            have e1 : key = .string x := by rcases k2 with ⟨h, _⟩ | ⟨_, q, e⟩; (rw [hna] at h; cases h); injection e with e; exact e.symm
            have e2 : m.key = .string y' := by rcases k4 with ⟨h, _⟩ | ⟨_, q, e⟩; (rw [hna] at h; cases h); injection e with e; exact e.symm
            rw [e1, e2] at hy
            simp only [Instr.sameNow] at hy
            injection hy with hy
            injection h2 with h2
            rw [← hy, ← h2]
            rw [Bool.eq_iff_iff, MapKept.bytes_beq, beq_iff_eq, toList_inj]
          · cases h2
        case struct fs => simp [Instr.sameNow] at hy
      cases b with
      | true =>
        obtain ⟨h1, h2⟩ := need_some h
        injection h2 with h2; subst h2
        obtain ⟨e1, e2⟩ := key_same h1 hk hm
        refine ⟨⟨?_, fun x hx => ?_⟩, fun j v hj => ?_⟩
        · simp [Instr.findAsking, heq']
        · simp only [hD, Instr.findNow] at hx
          split at hx
          · injection hx with hx; rw [← hx]; simp
          · rename_i hn; have := hnow _ hn; cases this
          · cases hx
        · injection hj with hj; injection hj with e3 e4; subst e3 e4
          exact ⟨Nat.le_refl _, a0, m, by simp, by simp, e1.symm, by rw [← e1]; exact e2⟩
      | false =>
        simp only [cond_false] at h
        obtain ⟨⟨i1, i2⟩, i3⟩ := mfind_sound hk (es := es) (ms := ms) h (by simpa using hl) (fun j a b m' ha hm' => hms (j + 1) a b m' (by simpa using ha) (by simpa using hm'))
        have hget : ∀ j v, q = some (j, v) → ms[j - (i + 1)]? = (m :: ms)[j - i]? := fun j v hq => by
          have := (i3 j v hq).1
          rw [show j - i = (j - (i + 1)) + 1 by omega]; simp
        have hq : (q.map fun p => (p.1, (ms[p.1 - (i + 1)]?.map (·.val)).getD undef)) = q.map fun p => (p.1, ((m :: ms)[p.1 - i]?.map (·.val)).getD undef) := by
          cases q with
          | none => rfl
          | some p => obtain ⟨j, v⟩ := p; simp only [Option.map_some]; rw [hget j v rfl]
        refine ⟨⟨?_, fun x hx => ?_⟩, fun j v hj => ?_⟩
        · simp only [Instr.findAsking, Sem.run_bind, heq', Result.andThen_ok, Bool.false_eq_true, if_false]
          rw [i1, hq]
        · simp only [hD, Instr.findNow] at hx
          split at hx
          · rename_i hn; have := hnow _ hn; cases this
          · rw [← hq]; exact i2 x (by rw [hD]; exact hx)
          · cases hx
        · obtain ⟨j1, a, m', j2, j3, j4, j5⟩ := i3 j v hj
          refine ⟨by omega, a, m', ?_, ?_, j4, j5⟩
          · rw [show j - i = (j - (i + 1)) + 1 by omega]; simpa using j2
          · rw [show j - i = (j - (i + 1)) + 1 by omega]; simpa using j3
theorem fitV_val {x : V} {u : Value} (hx : RV P E l x u) {t : TypeId} (hf : fitV P t x = true) {kk : List C → Option R} (h : cellsV x kk = some r) : ∃ kc, kk kc = some r ∧ ValOf P E.w E.Pr t kc u := by
  unfold cellsV at h
  split at h
  · cases hx with | c hc =>
    exact ⟨_, h, .inr ⟨by simpa [fitV] using hf, _, rfl, hc⟩⟩
  · cases hx with | agg hc =>
    simp only [fitV, Bool.and_eq_true] at hf
    exact ⟨_, h, .inl ⟨hf.1, Nat.eq_of_beq_eq_true hf.2, _, rfl, hc⟩⟩
  · cases h
theorem ValOf.agg_len {w : World} {Pr : Nat → Nat → Prop} {t : TypeId} {cs : List C} {u : Value} (h : ValOf P w Pr t cs u) (ha : aggB P t = true) : ∃ us : List Value, u = .agg us.toArray ∧ us.length = szOf P t := by
  rcases h with ⟨_, h0, us, rfl, h3⟩ | ⟨h1, _⟩
  · exact ⟨us, rfl, by rw [h3.len, h0]⟩
  · rw [ha] at h1; cases h1
theorem ValOf.ld {t : TypeId} {cs : List C} {u : Value} (h : ValOf P E.w E.Pr t cs u) {kk : V → Option R} (h0 : ldC P t cs kk = some r) : ∃ v, kk v = some r ∧ RV P E l v u := by
  obtain ⟨i, hi, ⟨ha, hle, hk⟩ | ⟨ha, c, rest, e, hk⟩⟩ := ldC_eq h0
  · rcases h with ⟨_, hlen, us, rfl, h3⟩ | ⟨h1, _⟩
    · refine ⟨_, hk, ?_⟩
      rw [szOf_info hi] at hlen
      rw [← hlen, List.take_length]
      exact .agg h3
    · rw [ha] at h1; cases h1
  · rcases h with ⟨h1, _⟩ | ⟨_, c', rfl, h3⟩
    · rw [ha] at h1; cases h1
    · injection e with e _; subst e
      exact ⟨_, hk, .c h3⟩
theorem run_findKey_of {w : World} {Pr : Nat → Nat → Prop} {kt : TypeId} {kc : List C} {key : Value} (hk : ValOf P w Pr kt kc key) {es : List (List C × List C)} {ms : Array MapEntry} {q : Option (Nat × List C)} (hq : mfind P kt kc es 0 = some q) (hl : ms.size = es.length)
    (hms : ∀ (j : Nat) (a b : List C) (m : MapEntry), es[j]? = some (a, b) → ms[j]? = some m → ValOf P w Pr kt a m.key) (hD : ∃ D, P.underlying kt = some D) :
    (Instr.findKey kt key ms.toList).run P w = .ok (q.map fun p => (p.1, (ms[p.1]?.map (·.val)).getD undef)) w ∧ (∀ j v, q = some (j, v) → ∃ a m, es[j]? = some (a, v) ∧ ms[j]? = some m ∧ m.key = key ∧ Instr.sameBits 10000 m.key key = true) := by
  obtain ⟨⟨h1, h2⟩, h3⟩ := mfind_sound (ms := ms.toList) hk hq (by rw [Array.length_toList]; exact hl) (fun j a b m ha hm => hms j a b m ha (by simpa using hm))
  obtain ⟨D, hD⟩ := hD
  rw [hD] at h2
  simp only [Nat.sub_zero, Array.getElem?_toList] at h1 h2 h3
  refine ⟨?_, fun j v hj => ?_⟩
  · unfold Instr.findKey
    rw [Sem.run_bind, run_underlying hD, Result.andThen_ok]
    cases hn : Instr.findNow D key ms.toList 0 with
    | some x => simp only [Sem.run_pure]; rw [h2 x hn]
    | none => exact h1
  · exact (h3 j v hj).2
theorem keyOk_desc {d : Nat} {t : TypeId} (h : keyOkB P d t = true) : ∃ D, P.underlying t = some D := by
  cases d with
  | zero => cases h
  | succ d =>
    unfold keyOkB at h
    cases hD : P.underlying t with
    | none => rw [hD] at h; cases h
    | some D => exact ⟨D, rfl⟩
theorem lookup_core (hG : Good P A E l pend) {T kt et : TypeId} {a b : Operand} {ok : Bool} (ho : o.op = .lookup T a b ok) {y : V} {v : Value} {g : Nat} (hy : RV P E l y v) (hu : ρ a = .map (some g)) (hv : ρ b = v) (hT : P.underlying T = some (.map kt et))
    {es : List (List C × List C)} {ms : Array MapEntry} (hg : E.w.heap[g]? = some (.map ms es.length)) (hlen : ms.size = es.length)
    (hms : ∀ (j : Nat) (k v : List C) (m : MapEntry), es[j]? = some (k, v) → ms[j]? = some m → m.born = j ∧ ValOf P E.w E.Pr kt k m.key ∧ ValOf P E.w E.Pr et v m.val)
    (e3 : fitV P kt y = true) (e4 : keyOkB P 20 kt = true) (e6 : zeroFit P et = true) (h1 : lookupM P l k kt et es y ok = some r) : Sound P A E l pend ((execOp ρ o).run P E.w) k r := by
  unfold lookupM at h1
  obtain ⟨kc, h2, hkc⟩ := fitV_val hy e3 h1
  obtain ⟨q, hq, h3⟩ := Option.bind_eq_some_iff.1 h2
  split at h3
  case h_2 => cases h3
  case h_1 zs hz =>
    have hgo : (getObj g).run P E.w = .ok (.map ms es.length) E.w := by simp [getObj, Sem.run, hg]
    obtain ⟨i, z, hi, hiz, hzr, hzl, hrc⟩ := zeroCs_run hz E.w
    obtain ⟨f1, f2⟩ := run_findKey_of hkc hq hlen (fun j a b m ha hm => (hms j a b m ha hm).2.1) (keyOk_desc e4)
    have hck := run_checkKey (P := P) (e := ms.isEmpty) E.w 20 kt v e4 (fun ha => hkc.agg_len ha) 10000 (by omega)
    have hzv : ValOf P E.w E.Pr et zs z := by
      have h1 := hrc E.w E.Pr
      unfold zeroFit at e6
      rw [hi] at e6
      simp only [hiz] at e6
      split at e6
      · rename_i ws e7
        injection e7 with e7; subst e7
        exact .inl ⟨e6, by rw [szOf_info hi]; exact hzl, ws.toList, by simp, by simpa [Value.cells] using h1⟩
      · rename_i z' _ e7
        injection e7 with e7; subst e7
        simp only [Bool.and_eq_true, Bool.not_eq_true'] at e6
        rw [cells_one e6.2] at h1
        match zs, h1 with
        | [c], h1 => exact .inr ⟨e6.1, c, rfl, h1.2 0 c z rfl rfl⟩
        | [], h1 => exact absurd h1.1 (by simp)
        | _ :: _ :: _, h1 => exact absurd h1.1 (by simp)
      · cases e6
    have hval : ∀ {w' : Value} {cs : List C}, ValOf P E.w E.Pr et cs w' → orZ q zs = cs → (Instr.lookup T (.map (some g)) v ok).run P E.w = .ok (if ok then .tuple #[w', .bool q.isSome] else w') E.w → Sound P A E l pend ((execOp ρ o).run P E.w) k r := by
      intro w' cs hw hcs hrun
      have hrun' : (execOp ρ o).run P E.w = .ok (.value (if ok then .tuple #[w', .bool q.isSome] else w')) E.w := by simp [execOp, ho, hu, hv, hrun]
      rw [hrun']
      rw [hcs] at h3
      cases ok with
      | false =>
        obtain ⟨v1, k1, k2⟩ := hw.ld (l := l) h3
        exact .quiet hG k1 k2
      | true =>
        obtain ⟨v1, k1, k2⟩ := hw.ld (l := l) h3
        refine .quiet hG k1 ?_
        refine .tup (us := [w', .bool q.isSome]) rfl fun j x u hx hu => ?_
        match j, hx, hu with
        | 0, hx, hu => cases hx; cases hu; exact k2
        | 1, hx, hu => cases hx; cases hu; exact .c (.v rfl)
        | j + 2, hx, hu => simp at hx
    cases q with
    | none =>
      refine hval hzv rfl ?_
      simp [Instr.lookup, run_underlying hT, hgo, hck, f1, hzr]
    | some p =>
      obtain ⟨j, vc⟩ := p
      obtain ⟨a', m, g1, g2, _, _⟩ := f2 j vc rfl
      refine hval (hms j a' vc m g1 g2).2.2 rfl ?_
      simp [Instr.lookup, run_underlying hT, hgo, hck, f1, g2]
theorem op_lookup (hG : Good P A E l pend) {T : TypeId} {a b : Operand} {ok : Bool} (ho : o.op = .lookup T a b ok) {x y : V} {u v : Value} (hx : RV P E l x u) (hy : RV P E l y v) (hu : ρ a = u) (hv : ρ b = v)
    (h0 : lookupK P l k T x y ok = some r) : Sound P A E l pend ((execOp ρ o).run P E.w) k r := by
  unfold lookupK at h0
  split at h0
  case h_3 => cases h0
  case h_1 kt et s hT =>
    split at h0
    case h_2 => cases h0
    case h_1 kt' et' es hl =>
      obtain ⟨hb, h1⟩ := need_some h0
      simp only [Bool.and_eq_true] at hb
      obtain ⟨⟨⟨⟨e1, e2⟩, e3⟩, e4⟩, e6⟩ := hb
      have e1 := Nat.eq_of_beq_eq_true e1
      have e2 := Nat.eq_of_beq_eq_true e2
      subst e1 e2
      cases hx with
      | mpDead hd => rw [hd] at hl; cases hl
      | @mp _ g hr =>
        obtain ⟨ms, hg, hlen, hms⟩ := mp_of hG hl hr
        exact lookup_core hG ho hy hu hv hT hg hlen hms e3 e4 e6 h1
  case h_2 kt et c hT =>
    unfold asMp at h0
    split at h0
    case h_2 => cases h0
    rename_i kt' et' ka va es
    obtain ⟨hb0, h0⟩ := need_some h0
    obtain ⟨hb, h1⟩ := need_some h0
    simp only [Bool.and_eq_true] at hb hb0
    obtain ⟨⟨e3, e4⟩, e6⟩ := hb
    obtain ⟨⟨⟨e1, e2⟩, e7⟩, e8⟩ := hb0
    have e1 := Nat.eq_of_beq_eq_true e1
    have e2 := Nat.eq_of_beq_eq_true e2
    subst e1 e2
    have same : ∀ {p q : Option Nat}, sameO p q = true → p = q := by
      intro p q h
      cases p <;> cases q <;> simp [sameO] at h ⊢
      exact h
    obtain rfl := same e7
    obtain rfl := same e8
    cases hx with | c hc =>
    cases hc with
    | @mp _ _ _ _ _ g ms kus vus hg hp hs hk h2 h3 =>
      refine lookup_core hG ho hy hu hv hT ((mapAt_map).1 hg) hs (fun j a b m ha hm => ?_) e3 e4 e6 h1
      obtain ⟨q1, q2, q3, q4, q5⟩ := hk j (a, b) m ha hm
      exact ⟨q1, .of_cells q2 ⟨q4, fun i c u hc hu => h2 j (a, b) i c u ha hc hu⟩, .of_cells q3 ⟨q5, fun i c u hc hu => h3 j (a, b) i c u ha hc hu⟩⟩
theorem good_obj (hG : Good P A E l pend) {s g : Nat} (hr : E.rho s = some g) {w' : World} (hsame : ∀ b, b ≠ g → w'.heap[b]? = E.w.heap[b]?) (hs : w'.heap.size = E.w.heap.size) (hos : w'.os = E.w.os) (htp : w'.tape = E.w.tape) (hou : w'.output = E.w.output)
    (hfz : (l s).fz = 0) {ob : Obj} (hof : ob.fz = 0) (hob : Held E.w E.Pr w' E.Pr → (∀ s', Keeps1 E { E with w := w' } l (l.put s ob) s') → ObjOk P { E with w := w' } (l.put s ob) s ob) (hsh : Sh l (l.put s ob) s) (hdr : E.w.drawn ≤ w'.drawn := by exact Nat.le_refl _) :
    Good P A { E with w := w' } (l.put s ob) pend ∧ Held E.w E.Pr w' E.Pr ∧ ∀ s', Keeps1 E { E with w := w' } l (l.put s ob) s' := by
  have hpg : ∀ b k, E.Pr b k → b ≠ g := fun b k hp e => by
    subst e
    have := (hG.prot b k hp).2 s hr
    omega
  have hx : Held E.w E.Pr w' E.Pr := fun b k hp => ⟨hp, World.cell?_of_block (w := E.w) (hsame b (hpg b k hp)), mapAt_block (hsame b (hpg b k hp))⟩
  have hk : ∀ s', Keeps1 E { E with w := w' } l (l.put s ob) s' := by
    intro s'
    by_cases hne : s' = s
    · subst hne; exact .inr ⟨hG.ne_dead hr, rfl, rfl, hsh⟩
    · by_cases hd : l s' = .dead
      · exact .inl ((put_other l ob hne).trans hd)
      · exact .inr ⟨hd, rfl, rfl, .same (put_other l ob hne)⟩
  have hps : ¬ pend s := fun hp => by rw [(hG.pnd s hp).1] at hr; cases hr
  refine ⟨⟨fun s' hp => ?_, fun s' hp => ?_, hG.inj, hG.base, fun b k hp => ⟨?_, fun a ha => ?_⟩, hG.jstep rfl rfl hx (fun _ _ h => .inl h) (fun b hb => hsame b (fun e => hG.yown s g hr (e ▸ hb))) (Nat.le_of_eq hs.symm) hos htp hou hdr, hG.pr0.trans hx, hG.prN, ?_, hos.trans hG.os, htp.trans hG.tape, hou.trans hG.output, Nat.le_trans hG.dr hdr, hG.yok, hG.yown, fun b hb => by have := hG.ylt b hb; simp only [hs]; exact this, fun r hr' => ⟨(hsame r (fun e => hG.dmno hr' s (e ▸ hr))).trans (hG.dm r hr').1, (hG.dm r hr').2⟩, rbo_step hG.rbo (fun _ _ _ e => e) (fun _ _ e => .inl e) (fun _ _ e => .inl e) (fun _ e => .inl e) fun b _ hb _ => hsame b fun e => hb s (e ▸ hr)⟩, hx, hk⟩
  · by_cases hne : s' = s
    · subst hne; rw [put_same]; exact hob hx hk
    · rw [put_other l ob hne]
      refine (hG.obj s' hp).keep hx rfl rfl (fun g' hg' => ?_) (fun _ _ _ hu => hu.mono0 hx hk) fun j => ⟨rfl, fun g' hg' => ?_⟩
      · exact hsame g' (fun e => hne (hG.inj s' s g (e ▸ hg') hr))
      · exact hsame g' (fun e => (hG.rbo _ _ _ hg').rho s (e ▸ hr))
  · obtain ⟨h1, cs', hz, ho'⟩ := hG.pnd s' hp
    exact ⟨h1, cs', hz, (put_other l ob (fun (e : s' = s) => hps (e ▸ hp))).trans ho'⟩
  · have := (hG.prot b k hp).1
    simp only [hs]; exact this
  · by_cases hne : a = s
    · subst hne; rw [put_same, hof]; have := (hG.prot b k hp).2 a ha; omega
    · rw [put_other l ob hne]; exact (hG.prot b k hp).2 a ha
  · simp only [hs]; exact hG.size
theorem op_mapUpdate (hG : Good P A E l pend) {T : TypeId} {a b c : Operand} (ho : o.op = .mapUpdate T a b c) {x y z : V} {u v t : Value} (hx : RV P E l x u) (hy : RV P E l y v) (hz : RV P E l z t) (hu : ρ a = u) (hv : ρ b = v) (ht : ρ c = t)
    (h0 : mapUpdateK P l k T x y z = some r) : Sound P A E l pend ((execOp ρ o).run P E.w) k r := by
  unfold mapUpdateK at h0
  split at h0
  case h_2 => cases h0
  case h_1 kt et s hT =>
    split at h0
    case h_2 => cases h0
    case h_1 kt' et' es hl =>
      obtain ⟨hb, h1⟩ := need_some h0
      simp only [Bool.and_eq_true] at hb
      obtain ⟨⟨⟨⟨e1, e2⟩, e3⟩, e4⟩, e5⟩ := hb
      have e1 := Nat.eq_of_beq_eq_true e1
      have e2 := Nat.eq_of_beq_eq_true e2
      subst e1 e2
      obtain ⟨kc, h2, hkc⟩ := fitV_val hy e3 h1
      obtain ⟨vc, h2, hvc⟩ := fitV_val hz e5 h2
      obtain ⟨q, hq, hk⟩ := Option.bind_eq_some_iff.1 h2
      cases hx with
      | mpDead hd => rw [hd] at hl; cases hl
      | @mp _ g hr =>
        obtain ⟨ms, hg, hlen, hms⟩ := mp_of hG hl hr
        have hgl : g < E.w.heap.size := (Array.getElem?_eq_some_iff.1 hg).1
        have hgo : (getObj g).run P E.w = .ok (.map ms es.length) E.w := by simp [getObj, Sem.run, hg]
        have hso : ∀ ob, (setObj g ob).run P E.w = .ok () { E.w with heap := E.w.heap.setIfInBounds g ob } := fun ob => by simp [setObj, Sem.run, hg]
        obtain ⟨f1, f2⟩ := run_findKey_of hkc hq hlen (fun j a b m ha hm => (hms j a b m ha hm).2.1) (keyOk_desc e4)
        have hck := run_checkKey (P := P) (e := false) E.w 20 kt' v e4 (fun ha => hkc.agg_len ha) 10000 (by omega)
        have fin : ∀ (ms' : Array MapEntry) (es' : List (List C × List C)), ms'.size = es'.length → (∀ (j : Nat) (k v : List C) (m : MapEntry), es'[j]? = some (k, v) → ms'[j]? = some m → m.born = j ∧ ValOf P E.w E.Pr kt' k m.key ∧ ValOf P E.w E.Pr et' v m.val) →
            (Instr.mapUpdate T (.map (some g)) v t).run P E.w = .ok () { E.w with heap := E.w.heap.setIfInBounds g (.map ms' es'.length) } → k .und (l.put s (.mp kt' et' es')) [] = some r → Sound P A E l pend ((execOp ρ o).run P E.w) k r := by
          intro ms' es' hl' hms' hrun hk
          have hrun' : (execOp ρ o).run P E.w = .ok .skip { E.w with heap := E.w.heap.setIfInBounds g (.map ms' es'.length) } := by simp [execOp, ho, hu, hv, ht, hrun]
          rw [hrun']
          obtain ⟨q1, q2, q3⟩ := good_obj hG (s := s) hr (w' := { E.w with heap := E.w.heap.setIfInBounds g (.map ms' es'.length) }) (ob := .mp kt' et' es') (fun b hb => by simp [Array.getElem?_setIfInBounds_ne (Ne.symm hb)]) (by simp) rfl rfl rfl (by rw [hl]; rfl) rfl
            (fun hx' _ => .mp hr (by simp [hgl]) hl' fun j k v m he hm => ⟨(hms' j k v m he hm).1, (hms' j k v m he hm).2.1.held hx', (hms' j k v m he hm).2.2.held hx'⟩)
            ⟨(fun _ _ e => by rw [hl] at e; cases e), (fun _ _ _ e => by rw [hl] at e; cases e), (fun e => by rw [hl] at e; cases e)⟩
          exact ⟨_, _, _, hk, _, rfl, ⟨q1, rfl⟩, .und, fun z v' hz' _ => hz'.mono0 q2 q3⟩
        cases q with
        | none =>
          refine fin (ms.push { key := v, val := t, born := es.length }) (mput es none kc vc) (by simp [mput, hlen]) (fun j k' v' m he hm => ?_) ?_ hk
          · simp only [mput] at he
            rw [List.getElem?_append] at he
            rw [Array.getElem?_push] at hm
            by_cases hj : j < es.length
            · rw [if_pos hj] at he
              rw [if_neg (by omega)] at hm
              exact hms j k' v' m he hm
            · rw [if_neg hj] at he
              have hj0 : j - es.length = 0 := by
                have := (List.getElem?_eq_some_iff.1 he).1
                simp at this; omega
              rw [hj0] at he
              rw [if_pos (by omega)] at hm
              simp at he
              obtain ⟨rfl, rfl⟩ := he
              injection hm with hm; subst hm
              exact ⟨by show es.length = j; omega, hkc, hvc⟩
          · simp [Instr.mapUpdate, run_underlying hT, hgo, hck, f1, hso, mput]
        | some p =>
          obtain ⟨j, v0⟩ := p
          obtain ⟨a', m0, g1, g2, g3, g4⟩ := f2 j v0 rfl
          have hjl : j < es.length := (List.getElem?_eq_some_iff.1 g1).1
          refine fin (ms.modify j fun e => { e with key := v, val := t }) (mput es (some (j, v0)) kc vc) (by simp [mput, hlen]) (fun j' k' v' m he hm => ?_) ?_ hk
          · simp only [mput] at he
            rw [List.getElem?_set] at he
            rw [Array.getElem?_modify] at hm
            by_cases hj : j = j'
            · subst hj
              rw [if_pos rfl, if_pos hjl] at he
              rw [if_pos rfl, g2] at hm
              injection he with he; injection he with he1 he2
              subst he1 he2
              simp only [Option.map_some, Option.some.injEq] at hm
              subst hm
              exact ⟨(hms j a' v0 m0 g1 g2).1, hkc, hvc⟩
            · rw [if_neg hj] at he
              rw [if_neg hj] at hm
              exact hms j' k' v' m he hm
          · have hkts : (Instr.keyThatStays m0.key v).run P E.w = .ok v E.w := by simp [Instr.keyThatStays, g4]
            simp [Instr.mapUpdate, run_underlying hT, hgo, hck, f1, g2, hkts, hso, mput]
def Env.newM (E : Env) (s : Nat) (mo : Go.Obj) : Env :=
  { E with w := E.w.alloc mo, rho := fun s' => if s' = s then some E.w.heap.size else E.rho s', bs := fun s' => if s' = s then 0 else E.bs s', rb := fun s' j => if s' = s then none else E.rb s' j }
theorem Keeps1.newM {E : Env} {l : Loc} {mo : Go.Obj} (s : Nat) (o : Obj) {s' : Nat} (hne : s' ≠ s) : Keeps1 E (E.newM s mo) l (l.put s o) s' := by
  by_cases hd : l s' = .dead
  · exact .inl ((put_other l o hne).trans hd)
  · exact .inr ⟨hd, by simp [Env.newM, hne], by simp [Env.newM, hne], .same (put_other l o hne)⟩
theorem Good.newM (h : Good P A E l pend) {s : Nat} {mo : Go.Obj} (hd : l s = .dead) (hps : ¬ pend s) {ob : Obj} (hob : (E.newM s mo).rho s = some E.w.heap.size → (E.newM s mo).w.heap[E.w.heap.size]? = some mo → ObjOk P (E.newM s mo) (l.put s ob) s ob) (href : ∀ s', ∀ x ∈ (l s').refs, x.at s = false) : Good P A (E.newM s mo) (l.put s ob) pend := by
  have hx : Held E.w E.Pr (E.newM s mo).w (E.newM s mo).Pr := held_alloc _ _ _ fun b k hp => (h.prot b k hp).1
  have hrn : (E.newM s mo).rho s = some E.w.heap.size := by simp [Env.newM]
  have hro : ∀ s', s' ≠ s → (E.newM s mo).rho s' = E.rho s' := fun s' hne => by simp [Env.newM, hne]
  refine ⟨fun s' hp => ?_, fun s' hp => ?_, fun a b g ha hb => ?_, fun a g ha => ?_, fun b k hp => ⟨?_, fun a ha => ?_⟩, h.jstep rfl rfl hx (fun _ _ h => .inl h) (fun b hb => Go.RowKit.Below.heap_alloc _ _ _ (h.ylt b hb)) ?_ rfl rfl rfl, h.pr0.trans hx, h.prN, ?_, h.os, h.tape, h.output, h.dr, h.yok, fun a g ha hy => ?_, fun b hb => ?_, fun r hr => ⟨(Go.RowKit.Below.heap_alloc _ _ _ (Array.getElem?_eq_some_iff.1 (h.dm r hr).1).1).trans (h.dm r hr).1, (h.dm r hr).2⟩, rbo_step h.rbo (fun s' j g e => by
    simp only [Env.newM] at e
    split at e
    · cases e
    · exact e) (fun a g ha => by
    by_cases e : a = s
    · subst e; rw [hrn] at ha; cases ha; exact .inr (Nat.le_refl _)
    · rw [hro a e] at ha; exact .inl ha) (fun _ _ e => .inl e) (fun _ e => .inl e) fun b hb _ _ => Go.RowKit.Below.heap_alloc _ _ _ hb⟩
  · by_cases hne : s' = s
    · subst hne
      rw [put_same]
      exact hob hrn (heap_alloc_new _ _)
    · rw [put_other l _ hne]
      exact (h.obj s' hp).keep hx (hro s' hne) (by simp [Env.newM, hne]) (fun g hg => Go.RowKit.Below.heap_alloc _ _ _ (h.lt hg)) (fun x u hm hu =>
        hu.mono (fun a => a = s) hx (fun a ha => Keeps1.newM s _ ha) (fun a ha => by subst ha; exact href s' x hm)) fun j => ⟨by simp [Env.newM, hne], fun g hg => Go.RowKit.Below.heap_alloc _ _ _ (h.rbo _ _ _ hg).lt⟩
  · have hne : s' ≠ s := fun e => hps (e ▸ hp)
    obtain ⟨h1, cs', hz, ho'⟩ := h.pnd s' hp
    exact ⟨(hro s' hne).trans h1, cs', hz, (put_other l _ hne).trans ho'⟩
  · by_cases ea : a = s <;> by_cases eb : b = s
    · rw [ea, eb]
    · subst ea; rw [hrn] at ha; rw [hro b eb] at hb; have := h.lt hb; cases ha; omega
    · subst eb; rw [hrn] at hb; rw [hro a ea] at ha; have := h.lt ha; cases hb; omega
    · rw [hro a ea] at ha; rw [hro b eb] at hb; exact h.inj a b g ha hb
  · by_cases ea : a = s
    · subst ea; rw [hrn] at ha; cases ha; exact .inl h.size
    · rw [hro a ea] at ha; exact h.base a g ha
  · have := (h.prot b k hp).1; simp [Env.newM]; omega
  · by_cases ea : a = s
    · subst ea; rw [hrn] at ha; have := (h.prot b k hp).1; cases ha; omega
    · rw [hro a ea] at ha; rw [put_other l _ ea]; exact (h.prot b k hp).2 a ha
  · simp [Env.newM]
  · have := h.size; simp [Env.newM]; omega
  · by_cases ea : a = s
    · subst ea; rw [hrn] at ha; cases ha; have := h.ylt _ hy; omega
    · rw [hro a ea] at ha; exact h.yown a g ha hy
  · have := h.ylt b hb; simp [Env.newM]; omega
theorem op_makeMap (hG : Good P A E l pend) {t : TypeId} {d : Nat} {rs : Option Operand} {own : Bool} (ho : o.op = .makeMap t rs) (hd : ¬ pend d) {e : Operand → V} (h0 : makeMapK P l k own t d (rs.map e) = some r) : Sound P A E l pend ((execOp ρ o).run P E.w) k r := by
  have fin : ∀ (ob : Obj), rs.map e = none → (((E.kill l d).newM d (.map #[] 0)).rho d = some E.w.heap.size → ((E.kill l d).newM d (.map #[] 0)).w.heap[E.w.heap.size]? = some (.map #[] 0) → ObjOk P ((E.kill l d).newM d (.map #[] 0)) ((l.kill d).put d ob) d ob) → k (.mp d) ((l.kill d).put d ob) [d] = some r → Sound P A E l pend ((execOp ρ o).run P E.w) k r := by
    intro ob hrs hob hk
    have hrs : rs = none := by simpa using hrs
    subst hrs
    have hrun : (execOp ρ o).run P E.w = .ok (.value (.map (some E.w.heap.size))) (E.w.alloc (.map #[] 0)) := by
      simp [execOp, ho, Instr.makeMap]
    rw [hrun]
    have hG1 := hG.kill hd
    have hG2 := hG1.newM (s := d) (kill_at d l) hd (ob := ob) hob (kill_ref d l)
    refine ⟨_, _, _, hk, _, rfl, ⟨hG2, rfl⟩, .mp (by simp [Env.newM, Env.kill]), fun y v hy hks => ?_⟩
    have hy1 : RV P (E.kill l d) (Loc.kill d l) y v := hy.mono0 (E' := E.kill l d) (Held.refl E.w E.Pr) fun s => Keeps1.kill E l d s
    exact hy1.mono (fun s => s = d) (held_alloc _ _ _ fun b k hp => (hG.prot b k hp).1) (fun s hs => Keeps1.newM d _ hs) (fun s hs => by subst hs; exact hks s (by simp))
  unfold makeMapK at h0
  split at h0
  · rename_i kt et hT hrs
    obtain ⟨_, hk⟩ := need_some h0
    exact fin (.mp kt et []) hrs (fun h1 h2 => .mp (ms := #[]) h1 h2 rfl (fun j k v m he _ => by simp at he)) hk
  · rename_i kt et hT hrs
    split at h0
    · rename_i te hte
      obtain ⟨hz, hk⟩ := need_some h0
      simp only [Bool.and_eq_true, Bool.not_eq_true'] at hz
      exact fin (.mr kt et te []) hrs (fun h1 h2 => .mr (ms := #[]) h1 h2 rfl hte (fun e => by have := hz.2; rw [e] at this; cases this) (fun j k v m he _ => by simp at he)) hk
    · cases h0
  · cases h0
end
end Go.PM
/- The pure machine: maps whose values are slices in blocks of their own. -/
namespace Go.PM
open Go
variable {P : Program}
section
variable {A : Fr} {E : Env} {l : Loc} {pend : Nat → Prop} {R : Type} {k : V → Loc → List Nat → Option R} {r : R} {o : Oper} {ρ : Operand → Value}
theorem mput_entry {es : List (List C × List C)} {q : Option (Nat × List C)} {kc vc : List C} (hj : entAt q es < (mput es q kc []).length) {j : Nat} {a b : List C} (h : (mput es q kc vc)[j]? = some (a, b)) :
    (j = entAt q es ∧ a = kc ∧ b = vc ∧ (mput es q kc [])[j]? = some (kc, [])) ∨ (j ≠ entAt q es ∧ (mput es q kc [])[j]? = some (a, b)) := by
  cases q with
  | none =>
    simp only [mput, entAt, List.length_append, List.length_cons, List.length_nil] at *
    rw [List.getElem?_append] at h
    by_cases hlt : j < es.length
    · rw [if_pos hlt] at h
      exact .inr ⟨by omega, by rw [List.getElem?_append, if_pos hlt]; exact h⟩
    · rw [if_neg hlt] at h
      have h0 : j - es.length = 0 := by have := (List.getElem?_eq_some_iff.1 h).1; simp at this; omega
      rw [h0] at h
      simp at h
      obtain ⟨rfl, rfl⟩ := h
      exact .inl ⟨by omega, rfl, rfl, by rw [List.getElem?_append, if_neg hlt, h0]; rfl⟩
  | some p =>
    obtain ⟨i, v⟩ := p
    simp only [mput, entAt, List.length_set] at *
    rw [List.getElem?_set] at h
    by_cases e : i = j
    · subst e
      rw [if_pos rfl, if_pos hj] at h
      injection h with h; injection h with h1 h2; subst h1 h2
      exact .inl ⟨rfl, rfl, rfl, by rw [List.getElem?_set, if_pos rfl, if_pos hj]⟩
    · rw [if_neg e] at h
      exact .inr ⟨fun e2 => e e2.symm, by rw [List.getElem?_set, if_neg e]; exact h⟩
theorem mput_length (es : List (List C × List C)) (q : Option (Nat × List C)) (kc vc : List C) : (mput es q kc vc).length = (mput es q kc []).length := by
  cases q with
  | none => simp [mput]
  | some p => simp [mput]
def Env.focus (E : Env) (w' : World) (s j d n : Nat) (b : Option Nat) : Env :=
  { E with w := w', rho := fun a => if a = d then b else E.rho a, bs := fun a => if a = d then n else E.bs a, rb := fun s' j' => if s' = s ∧ j' = j then none else E.rb s' j' }
theorem good_focus (hG : Good P A E l pend) {s g j d n : Nat} {b : Option Nat} (hld : l d = .dead) (hd : ¬ pend d) (hr : E.rho s = some g) (hsd : s ≠ d) (hb : b = none ∨ b = E.rb s j) {w' : World} (hsame : ∀ b, b ≠ g → w'.heap[b]? = E.w.heap[b]?) (hs : w'.heap.size = E.w.heap.size)
    (hos : w'.os = E.w.os) (htp : w'.tape = E.w.tape) (hou : w'.output = E.w.output) (hfz : (l s).fz = 0) {od ob : Obj} (hod : od.fz = 0) (hof : ob.fz = 0)
    (h1 : Held E.w E.Pr w' E.Pr → ObjOk P (E.focus w' s j d n b) ((l.put d od).put s ob) d od) (h2 : Held E.w E.Pr w' E.Pr → (∀ a, a ≠ d → Keeps1 E (E.focus w' s j d n b) l ((l.put d od).put s ob) a) → ObjOk P (E.focus w' s j d n b) ((l.put d od).put s ob) s ob) (hsh : Sh l ((l.put d od).put s ob) s)
    (href : ∀ s', ∀ x ∈ (l s').refs, x.at d = false) (hdr : E.w.drawn ≤ w'.drawn := by exact Nat.le_refl _) :
    Good P A (E.focus w' s j d n b) ((l.put d od).put s ob) pend ∧ Held E.w E.Pr w' E.Pr ∧ ∀ a, a ≠ d → Keeps1 E (E.focus w' s j d n b) l ((l.put d od).put s ob) a := by
  have hpg : ∀ b k, E.Pr b k → b ≠ g := fun b k hp e => by
    subst e
    have := (hG.prot b k hp).2 s hr
    omega
  have hx : Held E.w E.Pr w' E.Pr := fun b k hp => ⟨hp, World.cell?_of_block (w := E.w) (hsame b (hpg b k hp)), mapAt_block (hsame b (hpg b k hp))⟩
  have hrd : ∀ a, a ≠ d → (E.focus w' s j d n b).rho a = E.rho a := fun a h => by simp [Env.focus, h]
  have hrn : (E.focus w' s j d n b).rho d = b := by simp [Env.focus]
  have hbd : ∀ a, a ≠ d → (E.focus w' s j d n b).bs a = E.bs a := fun a h => by simp [Env.focus, h]
  have hlo : ∀ a, a ≠ d → a ≠ s → ((l.put d od).put s ob) a = l a := fun a h h' => by rw [put_other _ _ h', put_other _ _ h]
  have hlod : ((l.put d od).put s ob) d = od := by rw [put_other _ _ (Ne.symm hsd), put_same]
  have hrb : ∀ s' j' g', (E.focus w' s j d n b).rb s' j' = some g' → E.rb s' j' = some g' ∧ ¬ (s' = s ∧ j' = j) := by
    intro s' j' g' h
    simp only [Env.focus] at h
    split at h
    · cases h
    · rename_i hn; exact ⟨h, hn⟩
  have hbb : ∀ g', b = some g' → RbOk A E s j g' := fun g' e => by
    rcases hb with e' | e'
    · rw [e'] at e; cases e
    · exact hG.rbo s j g' (by rw [← e']; exact e)
  have hk : ∀ a, a ≠ d → Keeps1 E (E.focus w' s j d n b) l ((l.put d od).put s ob) a := by
    intro a hne
    by_cases e : a = s
    · subst e; exact .inr ⟨hG.ne_dead hr, hrd _ hne, hbd _ hne, hsh⟩
    · by_cases hdd : l a = .dead
      · exact .inl ((hlo a hne e).trans hdd)
      · exact .inr ⟨hdd, hrd _ hne, hbd _ hne, .same (hlo a hne e)⟩
  have hps : ¬ pend s := fun hp => by rw [(hG.pnd s hp).1] at hr; cases hr
  refine ⟨⟨fun s' hp => ?_, fun s' hp => ?_, fun a c g' ha hc => ?_, fun a g' ha => ?_, fun b' k' hp => ⟨?_, fun a ha => ?_⟩, hG.jstep rfl rfl hx (fun _ _ h => .inl h) (fun b' hb' => hsame b' (fun e => hG.yown s g hr (e ▸ hb'))) (Nat.le_of_eq hs.symm) hos htp hou hdr, hG.pr0.trans hx, hG.prN, ?_, hos.trans hG.os, htp.trans hG.tape, hou.trans hG.output, Nat.le_trans hG.dr hdr, hG.yok, fun a g' ha hy => ?_, fun b' hb' => ?_, fun r' hr' => ⟨(hsame r' (fun e => hG.dmno hr' s (e ▸ hr))).trans (hG.dm r' hr').1, (hG.dm r' hr').2⟩, fun s' j' g' hg' => ?_⟩, hx, hk⟩
  · by_cases e : s' = d
    · subst e; rw [hlod]; exact h1 hx
    · by_cases e2 : s' = s
      · subst e2; rw [put_same]; exact h2 hx hk
      · rw [hlo s' e e2]
        refine (hG.obj s' hp).keep hx (hrd s' e) (hbd s' e) (fun g' hg' => hsame g' (fun e3 => e2 (hG.inj s' s g (e3 ▸ hg') hr))) (fun x u hm hu => ?_) fun j' => ⟨by simp [Env.focus, e2], fun g' hg' => hsame g' (fun e3 => (hG.rbo _ _ _ hg').rho s (e3 ▸ hr))⟩
        exact hu.mono (fun a => a = d) hx (fun a ha => hk a ha) (fun a ha => by subst ha; exact href s' x hm)
  · obtain ⟨h1, cs', hz, ho'⟩ := hG.pnd s' hp
    have e : s' ≠ d := fun e => hd (e ▸ hp)
    have e2 : s' ≠ s := fun e => hps (e ▸ hp)
    exact ⟨(hrd s' e).trans h1, cs', hz, (hlo s' e e2).trans ho'⟩
  · by_cases ea : a = d <;> by_cases ec : c = d
    · rw [ea, ec]
    · subst ea; rw [hrn] at ha; rw [hrd c ec] at hc; exact absurd hc ((hbb g' ha).rho c)
    · subst ec; rw [hrn] at hc; rw [hrd a ea] at ha; exact absurd ha ((hbb g' hc).rho a)
    · rw [hrd a ea] at ha; rw [hrd c ec] at hc; exact hG.inj a c g' ha hc
  · by_cases ea : a = d
    · subst ea; rw [hrn] at ha; exact (hbb g' ha).base
    · rw [hrd a ea] at ha; exact hG.base a g' ha
  · have := (hG.prot b' k' hp).1
    show b' < w'.heap.size
    rw [hs]; exact this
  · by_cases ea : a = d
    · subst ea; rw [hrn] at ha; exact absurd hp ((hbb b' ha).pr k')
    · rw [hrd a ea] at ha
      by_cases e2 : a = s
      · subst e2; have := (hG.prot b' k' hp).2 a ha; omega
      · rw [hlo a ea e2]; exact (hG.prot b' k' hp).2 a ha
  · show _ ≤ w'.heap.size
    rw [hs]; exact hG.size
  · by_cases ea : a = d
    · subst ea; rw [hrn] at ha; exact (hbb g' ha).y hy
    · rw [hrd a ea] at ha; exact hG.yown a g' ha hy
  · show b' < w'.heap.size
    rw [hs]; exact hG.ylt b' hb'
  · obtain ⟨h3, h4⟩ := hrb _ _ _ hg'
    have h0 := hG.rbo s' j' g' h3
    refine ⟨?_, fun a ha => ?_, fun s2 j2 e => h0.one s2 j2 (hrb _ _ _ e).1, h0.pr, h0.y, h0.base⟩
    · obtain ⟨c, t, e⟩ := h0.cells
      exact ⟨c, t, (hsame g' (fun e3 => h0.rho s (e3 ▸ hr))).trans e⟩
    · by_cases ea : a = d
      · subst ea
        rw [hrn] at ha
        rcases hb with e' | e'
        · rw [e'] at ha; cases ha
        · rw [e'] at ha
          exact h4 ((h0.one s j ha).imp Eq.symm Eq.symm)
      · rw [hrd a ea] at ha; exact h0.rho a ha
def Env.unfocus (E : Env) (w' : World) (s j : Nat) (b : Option Nat) : Env :=
  { E with w := w', rb := fun s' j' => if s' = s ∧ j' = j then b else E.rb s' j' }
theorem good_unfocus (hG : Good P A E l pend) {s g j : Nat} {b : Option Nat} (hr : E.rho s = some g) (hb : ∀ g', b = some g' → RbOk A E s j g' ∧ (∀ s' j', E.rb s' j' ≠ some g') ∧ g' ≠ g) {w' : World} (hsame : ∀ b, b ≠ g → w'.heap[b]? = E.w.heap[b]?) (hs : w'.heap.size = E.w.heap.size)
    (hos : w'.os = E.w.os) (htp : w'.tape = E.w.tape) (hou : w'.output = E.w.output) (hfz : (l s).fz = 0) {ob : Obj} (hof : ob.fz = 0)
    (h2 : Held E.w E.Pr w' E.Pr → ObjOk P (E.unfocus w' s j b) (l.put s ob) s ob) (hsh : Sh l (l.put s ob) s) (hdr : E.w.drawn ≤ w'.drawn := by exact Nat.le_refl _) :
    Good P A (E.unfocus w' s j b) (l.put s ob) pend ∧ Held E.w E.Pr w' E.Pr ∧ ∀ a, Keeps1 E (E.unfocus w' s j b) l (l.put s ob) a := by
  have hpg : ∀ b k, E.Pr b k → b ≠ g := fun b k hp e => by
    subst e
    have := (hG.prot b k hp).2 s hr
    omega
  have hx : Held E.w E.Pr w' E.Pr := fun b k hp => ⟨hp, World.cell?_of_block (w := E.w) (hsame b (hpg b k hp)), mapAt_block (hsame b (hpg b k hp))⟩
  have hk : ∀ a, Keeps1 E (E.unfocus w' s j b) l (l.put s ob) a := by
    intro a
    by_cases e : a = s
    · subst e; exact .inr ⟨hG.ne_dead hr, rfl, rfl, hsh⟩
    · by_cases hdd : l a = .dead
      · exact .inl ((put_other _ _ e).trans hdd)
      · exact .inr ⟨hdd, rfl, rfl, .same (put_other _ _ e)⟩
  have hrb : ∀ s' j' g', (E.unfocus w' s j b).rb s' j' = some g' → (s' = s ∧ j' = j ∧ b = some g') ∨ (¬ (s' = s ∧ j' = j) ∧ E.rb s' j' = some g') := by
    intro s' j' g' h
    simp only [Env.unfocus] at h
    split at h
    · rename_i hn; exact .inl ⟨hn.1, hn.2, h⟩
    · rename_i hn; exact .inr ⟨hn, h⟩
  have hps : ¬ pend s := fun hp => by rw [(hG.pnd s hp).1] at hr; cases hr
  refine ⟨⟨fun s' hp => ?_, fun s' hp => ?_, hG.inj, hG.base, fun b' k' hp => ⟨?_, fun a ha => ?_⟩, hG.jstep rfl rfl hx (fun _ _ h => .inl h) (fun b' hb' => hsame b' (fun e => hG.yown s g hr (e ▸ hb'))) (Nat.le_of_eq hs.symm) hos htp hou hdr, hG.pr0.trans hx, hG.prN, ?_, hos.trans hG.os, htp.trans hG.tape, hou.trans hG.output, Nat.le_trans hG.dr hdr, hG.yok, hG.yown, fun b' hb' => ?_, fun r' hr' => ⟨(hsame r' (fun e => hG.dmno hr' s (e ▸ hr))).trans (hG.dm r' hr').1, (hG.dm r' hr').2⟩, fun s' j' g' hg' => ?_⟩, hx, hk⟩
  · by_cases e2 : s' = s
    · subst e2; rw [put_same]; exact h2 hx
    · rw [put_other _ _ e2]
      exact (hG.obj s' hp).keep hx rfl rfl (fun g' hg' => hsame g' (fun e3 => e2 (hG.inj s' s g (e3 ▸ hg') hr))) (fun x u hm hu => hu.mono0 hx hk) fun j' => ⟨by simp [Env.unfocus, e2], fun g' hg' => hsame g' (fun e3 => (hG.rbo _ _ _ hg').rho s (e3 ▸ hr))⟩
  · obtain ⟨h1, cs', hz, ho'⟩ := hG.pnd s' hp
    exact ⟨h1, cs', hz, (put_other _ _ (fun (e : s' = s) => hps (e ▸ hp))).trans ho'⟩
  · have := (hG.prot b' k' hp).1
    show b' < w'.heap.size
    rw [hs]; exact this
  · have ha : E.rho a = some b' := ha
    by_cases e2 : a = s
    · subst e2; have := (hG.prot b' k' hp).2 a ha; omega
    · rw [put_other _ _ e2]; exact (hG.prot b' k' hp).2 a ha
  · show _ ≤ w'.heap.size
    rw [hs]; exact hG.size
  · show b' < w'.heap.size
    rw [hs]; exact hG.ylt b' hb'
  · rcases hrb _ _ _ hg' with ⟨rfl, rfl, e⟩ | ⟨h4, h3⟩
    · obtain ⟨h0, hn, hng⟩ := hb g' e
      refine ⟨?_, h0.rho, fun s2 j2 e2 => ?_, h0.pr, h0.y, h0.base⟩
      · obtain ⟨c, t, e⟩ := h0.cells
        exact ⟨c, t, (hsame g' hng).trans e⟩
      · rcases hrb _ _ _ e2 with ⟨e3, e4, _⟩ | ⟨_, e3⟩
        · exact ⟨e3, e4⟩
        · exact absurd e3 (hn _ _)
    · have h0 := hG.rbo s' j' g' h3
      refine ⟨?_, h0.rho, fun s2 j2 e2 => ?_, h0.pr, h0.y, h0.base⟩
      · obtain ⟨c, t, e⟩ := h0.cells
        exact ⟨c, t, (hsame g' (fun e3 => h0.rho s (e3 ▸ hr))).trans e⟩
      · rcases hrb _ _ _ e2 with ⟨_, _, e3⟩ | ⟨_, e3⟩
        · exact absurd h3 ((hb g' e3).2.1 _ _)
        · exact h0.one _ _ e3
theorem mf_of {A : Fr} {E : Env} {l : Loc} {pend : Nat → Prop} (hG : Good P A E l pend) {s g : Nat} {kt et te : TypeId} {es : List (List C × List C)} {q : Option (Nat × List C)} {kc : List C} {x : V} (h : l s = .mf kt et te es q kc x) (hr : E.rho s = some g) :
    ∃ ms : Array MapEntry, E.w.heap[g]? = some (.map ms (mput es q kc []).length) ∧ ms.size = (mput es q kc []).length ∧ P.underlying et = some (.slice te) ∧ szOf P te ≠ 0 ∧ entAt q es < (mput es q kc []).length ∧ E.rb s (entAt q es) = none ∧
      ∀ (j : Nat) (k row : List C) (m : MapEntry), (mput es q kc [])[j]? = some (k, row) → ms[j]? = some m → m.born = j ∧ ValOf P E.w E.Pr kt k m.key ∧ (j ≠ entAt q es → SlAt P E s j te row m.val) ∧ (j = entAt q es → RV P E l x m.val ∧ m.val.oneCell' = true) := by
  have hps : ¬ pend s := fun hp => by rw [(hG.pnd s hp).1] at hr; cases hr
  have h0 := hG.obj s hps
  rw [h] at h0
  cases h0 with
  | mf h1 h2 h3 h4 h5 h6 h7 h8 => rw [h1] at hr; cases hr; exact ⟨_, h2, h3, h4, h5, h6, h7, h8⟩
theorem zero_slice {et : TypeId} (hn : nilZ P et = true) (w : World) : (zeroValue et).run P w = .ok (.slice none 0 0) w := by
  simp only [nilZ, Bool.and_eq_true, Bool.not_eq_true'] at hn
  obtain ⟨⟨e6, ha⟩, hz⟩ := hn
  split at hz
  case h_2 => cases hz
  case h_1 c hzc =>
    split at hz
    case h_2 => cases hz
    obtain ⟨i, z, hi, hiz, hzr, hzl, hrc⟩ := zeroCs_run hzc w
    unfold zeroFit at e6
    rw [hi] at e6
    simp only [hiz] at e6
    have h1 := hrc w fun _ _ => False
    split at e6
    · rename_i ws e7
      rw [ha] at e6; cases e6
    · rename_i z' _ e7
      injection e7 with e7; subst e7
      simp only [Bool.and_eq_true, Bool.not_eq_true'] at e6
      rw [cells_one e6.2] at h1
      have h2 := h1.2 0 .nl z rfl rfl
      cases h2
      exact hzr
    · cases e6
theorem op_mapEntry (hG : Good P A E l pend) {T : TypeId} {a b : Operand} {d : Nat} (ho : o.op = .mapEntry T a b) (hd : ¬ pend d) {x y : V} {u v : Value} (hx : RV P E l x u) (hy : RV P E l y v) (hu : ρ a = u) (hv : ρ b = v)
    (h0 : mapEntryK P l k T x y d = some r) : Sound P A E l pend ((execOp ρ o).run P E.w) k r := by
  unfold mapEntryK at h0
  split at h0
  case h_2 => cases h0
  case h_1 kt et s hT =>
    split at h0
    case h_2 => cases h0
    case h_1 kt' et' te es hl =>
      obtain ⟨hb, h1⟩ := need_some h0
      simp only [Bool.and_eq_true, Bool.not_eq_true'] at hb
      obtain ⟨⟨⟨⟨⟨⟨e1, e2⟩, e3⟩, e4⟩, e5⟩, e6⟩, e7⟩ := hb
      have e1 := Nat.eq_of_beq_eq_true e1
      have e2 := Nat.eq_of_beq_eq_true e2
      subst e1 e2
      have hsd : s ≠ d := fun e => by subst e; rw [Nat.beq_refl] at e6; cases e6
      obtain ⟨kc, h2, hkc⟩ := fitV_val hy e3 h1
      obtain ⟨q, hq, hk⟩ := Option.bind_eq_some_iff.1 h2
      cases hx with
      | mpDead hd => rw [hd] at hl; cases hl
      | @mp _ g hr =>
        obtain ⟨ms, hg, hlen, hte, hz, hms⟩ := mr_of hG hl hr
        have hgl : g < E.w.heap.size := (Array.getElem?_eq_some_iff.1 hg).1
        have hgo : (getObj g).run P E.w = .ok (.map ms es.length) E.w := by simp [getObj, Sem.run, hg]
        have hso : ∀ ob, (setObj g ob).run P E.w = .ok () { E.w with heap := E.w.heap.setIfInBounds g ob } := fun ob => by simp [setObj, Sem.run, hg]
        obtain ⟨f1, f2⟩ := run_findKey_of hkc hq hlen (fun j a b m ha hm => (hms j a b m ha hm).2.1) (keyOk_desc e4)
        have hck := run_checkKey (P := P) (e := false) E.w 20 kt' v e4 (fun ha => hkc.agg_len ha) 10000 (by omega)
        have hG1 := hG.kill (s := d) hd
        have hr1 : (E.kill l d).rho s = some g := by
          rcases kill_cases d l s with ⟨hk', e | e⟩ | ⟨_, hk', _⟩ | ⟨_, t, xs, e, _⟩ | ⟨_, _, _, _, _, _, _, _, e, _⟩ | ⟨_, _, _, e, _⟩
          · exact absurd e hsd
          · rw [hl] at e; cases e
          · simp only [Env.kill, hk', hl]; exact hr
          · rw [hl] at e; cases e
          · rw [hl] at e; cases e
          · rw [hl] at e; cases e
        have hl1 : Loc.kill d l s = .mr kt' et' te es := by
          rcases kill_cases d l s with ⟨hk', e | e⟩ | ⟨_, hk', _⟩ | ⟨_, t, xs, e, _⟩ | ⟨_, _, _, _, _, _, _, _, e, _⟩ | ⟨_, _, _, e, _⟩
          · exact absurd e hsd
          · rw [hl] at e; cases e
          · rw [hk', hl]
          · rw [hl] at e; cases e
          · rw [hl] at e; cases e
          · rw [hl] at e; cases e
        have hshq : ∀ ob, Sh (l.kill d) (((l.kill d).put d (.sb te 0 (orZ q []))).put s ob) s := fun ob => ⟨fun _ _ e => (by rw [hl1] at e; cases e), fun _ _ _ e => (by rw [hl1] at e; cases e), fun e => by rw [hl1] at e; cases e⟩
        have fin : ∀ (ms' : Array MapEntry) (u : Value) (b : Option Nat) (nb : Nat), ms'.size = (mput es q kc []).length → entAt q es < (mput es q kc []).length → (b = none ∨ b = E.rb s (entAt q es)) →
            (∀ (j : Nat) (k row : List C) (m : MapEntry), (mput es q kc [])[j]? = some (k, row) → ms'[j]? = some m → m.born = j ∧ ValOf P E.w E.Pr kt' k m.key ∧ (j ≠ entAt q es → SlAt P E s j te row m.val) ∧ (j = entAt q es → m.val = u)) →
            ((b = none ∧ orZ q [] = [] ∧ u = .slice none 0 0) ∨ ∃ (g' cap : Nat) (cur : Array Value), b = some g' ∧ E.w.heap[g']? = some (.cells cur te (0, 0)) ∧ (orZ q []).length ≤ cur.size ∧ RCs E.w E.Pr (orZ q []) (cur.toList.take (orZ q []).length) ∧
              u = .slice (some ⟨g', 0, none⟩) ((orZ q []).length / szOf P te) cap ∧ (orZ q []).length / szOf P te ≤ cap ∧ cap ≤ maxLen ∧ cap * szOf P te = cur.size ∧ nb = cur.size) →
            (Instr.mapEntry T (.map (some g)) v).run P E.w = .ok (.tuple #[u, .int .i64 (entAt q es)]) { E.w with heap := E.w.heap.setIfInBounds g (.map ms' (mput es q kc []).length) } → Sound P A E l pend ((execOp ρ o).run P E.w) k r := by
          intro ms' u b nb hl' hj hb hms' hu' hrun
          have hrun' : (execOp ρ o).run P E.w = .ok (.value (.tuple #[u, .int .i64 (entAt q es)])) { E.w with heap := E.w.heap.setIfInBounds g (.map ms' (mput es q kc []).length) } := by simp [execOp, ho, hu, hv, hrun]
          rw [hrun']
          have hgn : ∀ g', b = some g' → g' ≠ g := fun g' e e2 => by
            rcases hb with e' | e'
            · rw [e'] at e; cases e
            · rw [e'] at e; subst e2; exact (hG.rbo _ _ _ e).rho s hr
          have hw : ∀ b', b' ≠ g → (E.w.heap.setIfInBounds g (Go.Obj.map ms' (mput es q kc []).length))[b']? = E.w.heap[b']? := fun b' hb' => by simp [Array.getElem?_setIfInBounds_ne (Ne.symm hb')]
          have hrv : ∀ E2 l2, Held E.w E.Pr E2.w E2.Pr → E2.rho d = b → E2.bs d = nb → l2 d = .sb te 0 (orZ q []) → RV P E2 l2 (.own d 0 ((orZ q []).length / szOf P te)) u := by
            intro E2 l2 _ h1 h3 h4
            rcases hu' with ⟨rfl, hz', rfl⟩ | ⟨g', cap, cur, rfl, _, _, _, rfl, c1, c2, c3, c4⟩
            · rw [hz'] at h4 ⊢
              simp only [List.length_nil, Nat.zero_div]
              exact .ownNil h1 h4
            · exact .own h1 (by rw [h4]; rfl) c1 c2 (by rw [h3, c4, Nat.zero_add]; exact c3)
          obtain ⟨q1, q2, q3⟩ := good_focus hG1 (s := s) (g := g) (j := entAt q es) (d := d) (n := nb) (b := b) (kill_at d l) hd hr1 hsd hb (w' := { E.w with heap := E.w.heap.setIfInBounds g (.map ms' (mput es q kc []).length) }) hw (by simp [Env.kill]) rfl rfl rfl (by rw [hl1]; rfl)
            (od := .sb te 0 (orZ q [])) (ob := .mf kt' et' te es q kc (.own d 0 ((orZ q []).length / szOf P te))) rfl rfl (fun hx' => by
              rcases hu' with ⟨e, hz', _⟩ | ⟨g', cap, cur, e, c1, c2, c3, _, _, _, c4, c5⟩
              · rw [hz']; exact .sbNil (by simp [Env.focus, e])
              · exact .sb (g := g') (by simp [Env.focus, e]) ⟨cur, (hw g' (hgn g' e)).trans c1, by simp [Env.focus, c5], c2, c3.held hx'⟩ (Nat.zero_le _)) (fun hx' hk' => by
              refine .mf (ms := ms') (by simp [Env.focus, hsd]; exact hr1) (by simp [Env.focus, hgl]) hl' hte hz hj (by simp [Env.focus]) fun j k row m he hm => ?_
              obtain ⟨m1, m2, m3, m4⟩ := hms' j k row m he hm
              refine ⟨m1, m2.held hx', fun e => ?_, fun e => ?_⟩
              · exact (m3 e).keep hx' ⟨by simp [Env.focus, e, Env.kill], fun g' hg' => hw g' fun e2 => (hG.rbo _ _ _ hg').rho s (e2 ▸ hr)⟩
              · rw [m4 e]
                refine ⟨hrv _ _ hx' (by simp [Env.focus]) (by simp [Env.focus]) (by rw [put_other _ _ (Ne.symm hsd), put_same]), ?_⟩
                rcases hu' with ⟨_, _, rfl⟩ | ⟨_, _, _, _, _, _, _, rfl, _⟩ <;> rfl) (hshq _) (kill_ref d l)
          refine ⟨_, _, _, hk, _, rfl, ⟨q1, rfl⟩, .ent (hrv _ _ q2 (by simp [Env.focus]) (by simp [Env.focus]) (by rw [put_other _ _ (Ne.symm hsd), put_same])), fun z w hz' hks => ?_⟩
          exact (rv_kill d hz').mono (fun a => a = d) q2 (fun a ha => q3 a ha) (fun a ha => by subst ha; exact hks a (by simp))
        cases q with
        | none =>
          refine fin (ms.push { key := v, val := .slice none 0 0, born := es.length }) (.slice none 0 0) none 0 (by simp [mput, hlen]) (by simp [mput, entAt]) (.inl rfl) (fun j k' v' m he hm => ?_) (.inl ⟨rfl, rfl, rfl⟩) ?_
          · simp only [mput] at he
            rw [List.getElem?_append] at he
            rw [Array.getElem?_push] at hm
            by_cases hj : j < es.length
            · rw [if_pos hj] at he
              rw [if_neg (by omega)] at hm
              obtain ⟨m1, m2, m3⟩ := hms j k' v' m he hm
              exact ⟨m1, m2, fun _ => m3, fun e => by simp only [entAt] at e; omega⟩
            · rw [if_neg hj] at he
              have hj0 : j - es.length = 0 := by
                have := (List.getElem?_eq_some_iff.1 he).1
                simp at this; omega
              rw [hj0] at he
              rw [if_pos (by omega)] at hm
              simp at he
              obtain ⟨rfl, rfl⟩ := he
              injection hm with hm; subst hm
              exact ⟨by show es.length = j; omega, hkc, fun e => absurd (show j = es.length by omega) e, fun _ => rfl⟩
          · simp [Instr.mapEntry, run_underlying hT, hgo, hck, f1, hso, mput, zero_slice e7, goInt, entAt]
        | some p =>
          obtain ⟨j, v0⟩ := p
          obtain ⟨a', m0, g1, g2, g3, g4⟩ := f2 j v0 rfl
          have hjl : j < es.length := (List.getElem?_eq_some_iff.1 g1).1
          have hkts : (Instr.keyThatStays m0.key v).run P E.w = .ok v E.w := by simp [Instr.keyThatStays, g4]
          have hsl := (hms j a' v0 m0 g1 g2).2.2
          refine fin (ms.modify j fun e => { e with key := v }) m0.val (E.rb s j) (match E.rb s j with | some g' => (match E.w.heap[g']? with | some (.cells cur _ _) => cur.size | _ => 0) | none => 0) (by simp [mput, hlen]) (by simp [mput, entAt, hjl]) (.inr rfl) (fun j' k' v' m he hm => ?_) ?_ ?_
          · simp only [mput] at he
            rw [List.getElem?_set] at he
            rw [Array.getElem?_modify] at hm
            by_cases hj : j = j'
            · subst hj
              rw [if_pos rfl, if_pos hjl] at he
              rw [if_pos rfl, g2] at hm
              injection he with he; injection he with he1 he2
              subst he1 he2
              simp only [Option.map_some, Option.some.injEq] at hm
              subst hm
              exact ⟨(hms j a' v0 m0 g1 g2).1, hkc, fun e => absurd rfl e, fun _ => rfl⟩
            · rw [if_neg hj] at he
              rw [if_neg hj] at hm
              obtain ⟨m1, m2, m3⟩ := hms j' k' v' m he hm
              exact ⟨m1, m2, fun _ => m3, fun e => absurd e.symm hj⟩
          · rcases hsl with ⟨e1, e2, e3⟩ | ⟨g', cap, cur, e1, e2, e3, e4, e5, e6, e7, e8, e9⟩
            · exact .inl ⟨e1, e2, e3⟩
            · exact .inr ⟨g', cap, cur, e1, e2, e3, e4, e5, e7, e8, e9, by rw [e1]; simp only [e2]⟩
          · simp [Instr.mapEntry, run_underlying hT, hgo, hck, f1, g2, hkts, hso, mput, goInt, entAt, (hms j a' v0 m0 g1 g2).1]
theorem op_entryStore (hG : Good P A E l pend) {T : TypeId} {a b c : Operand} (ho : o.op = .entryStore T a b c) {x y z : V} {u v t : Value} (hx : RV P E l x u) (hy : RV P E l y v) (hz : RV P E l z t) (hu : ρ a = u) (hv : ρ b = v) (ht : ρ c = t)
    (h0 : entryStoreK P l k x y z = some r) : Sound P A E l pend ((execOp ρ o).run P E.w) k r := by
  unfold entryStoreK at h0
  split at h0
  case h_2 => cases h0
  case h_1 s =>
    split at h0
    case h_2 => cases h0
    case h_1 kt et te es q kc x0 hl =>
      split at h0
      case h_2 => cases h0
      case h_1 kd j d off n =>
        split at h0
        case h_2 => cases h0
        case h_1 te' fz cs hld =>
          obtain ⟨hb, hk⟩ := need_some h0
          simp only [Bool.and_eq_true, Bool.not_eq_true', decide_eq_true_eq] at hb
          obtain ⟨⟨⟨⟨⟨rfl, e2⟩, e3⟩, e4⟩, e5⟩, e6⟩ := hb
          have e2 := Nat.eq_of_beq_eq_true e2
          have e3 := Nat.eq_of_beq_eq_true e3
          have e4 := Nat.eq_of_beq_eq_true e4
          have e5 := Nat.eq_of_beq_eq_true e5
          subst e2 e3 e4
          have hsd : s ≠ d := fun e => by subst e; rw [Nat.beq_refl] at e6; cases e6
          cases hy with | c hyc =>
          cases hyc with | v _ =>
          cases hx with
          | mpDead hd => rw [hd] at hl; cases hl
          | @mp _ g hr =>
            obtain ⟨ms, hg, hlen, hte, hz0, hj, hrn, hms⟩ := mf_of hG hl hr
            have hgl : g < E.w.heap.size := (Array.getElem?_eq_some_iff.1 hg).1
            have hgo : (getObj g).run P E.w = .ok (.map ms (mput es q kc []).length) E.w := by simp [getObj, Sem.run, hg]
            have hso : ∀ ob, (setObj g ob).run P E.w = .ok () { E.w with heap := E.w.heap.setIfInBounds g ob } := fun ob => by simp [setObj, Sem.run, hg]
            have hps : ¬ pend d := fun hp => by
              obtain ⟨_, _, _, h2⟩ := hG.pnd d hp
              rw [hld] at h2; cases h2
            have hjs : entAt q es < ms.size := by rw [hlen]; exact hj
            have hfi : ms.findIdx? (fun e => (e.born : Int) == ((entAt q es : Nat) : Int)) = some (entAt q es) := by
              rw [Array.findIdx?_eq_some_iff_getElem]
              have hb : ∀ (i : Nat) (hi : i < ms.size), ms[i].born = i := fun i hi => by
                have hi' : i < (mput es q kc []).length := by rw [← hlen]; exact hi
                obtain ⟨k', row, he⟩ : ∃ k' row, (mput es q kc [])[i]? = some (k', row) := ⟨_, _, List.getElem?_eq_getElem hi'⟩
                exact (hms i k' row ms[i] he (Array.getElem?_eq_getElem hi)).1
              refine ⟨hjs, by simp [hb _ hjs], fun i hi => ?_⟩
              have := hb i (by omega)
              simp only [Bool.not_eq_true, beq_eq_false_iff_ne, this]
              omega
            have hrun : (execOp ρ o).run P E.w = .ok .skip { E.w with heap := E.w.heap.setIfInBounds g (.map (ms.modify (entAt q es) fun e => { e with val := t }) (mput es q kc []).length) } := by
              simp [execOp, ho, hu, hv, ht, Instr.entryStore, hgo, asInt, asIntOf, hfi, hso]
            rw [hrun]
            have hG1 := hG.kill (s := d) hps
            have hkl : Loc.kill d l s = .mf kt et te' es q kc (x0.kill d) := by
              rcases kill_cases d l s with ⟨hk', e | e⟩ | ⟨_, hk', e⟩ | ⟨_, t, xs, e, _⟩ | ⟨_, _, _, _, _, _, _, _, e, hk'⟩ | ⟨_, _, _, e, _⟩
              · exact absurd e hsd
              · rw [hl] at e; cases e
              · rw [hl] at e; simp [Obj.refs] at e
              · rw [hl] at e; cases e
              · rw [hl] at e; cases e; exact hk'
              · rw [hl] at e; cases e
            have hr1 : (E.kill l d).rho s = some g := by simp only [Env.kill, hkl]; exact hr
            have hsl : (E.rho d = none ∧ cs = [] ∧ t = .slice none 0 0) ∨ ∃ (g' cap : Nat) (cur : Array Value), E.rho d = some g' ∧ E.w.heap[g']? = some (.cells cur te' (0, 0)) ∧ cs.length ≤ cur.size ∧ RCs E.w E.Pr cs (cur.toList.take cs.length) ∧ t = .slice (some ⟨g', 0, none⟩) n cap ∧ n ≤ cap ∧ cap ≤ maxLen ∧ cap * szOf P te' = cur.size := by
              cases hz with
              | ownDead h => rw [h] at hld; cases hld
              | ownMx h => rw [hld] at h; cases h
              | own0 _ _ h => exact absurd rfl h
              | ownNil h1 h2 => rw [hld] at h2; cases h2; exact .inl ⟨h1, rfl, rfl⟩
              | own h1 h2 h3 h4 h5 =>
                rw [hld] at h2; cases h2
                obtain ⟨⟨cur, c1, c2, c3, c4⟩, _⟩ := blk_of hG (by rw [hld]; rfl) h1
                exact .inr ⟨_, _, cur, h1, c1, c3, c4, rfl, h3, h4, by rw [c2, ← h5]; omega⟩
            have hn : cs.length / szOf P te' = n := by rw [← e5]; exact Nat.mul_div_cancel _ (by omega)
            have hbb : ∀ g', E.rho d = some g' → RbOk A (E.kill l d) s (entAt q es) g' ∧ (∀ s' j', (E.kill l d).rb s' j' ≠ some g') ∧ g' ≠ g := by
              intro g' e
              have hno : ∀ s' j', (E.kill l d).rb s' j' ≠ some g' := fun s' j' e2 => (hG.rbo s' j' g' e2).rho d e
              refine ⟨⟨?_, fun s' e2 => ?_, fun s' j' e2 => absurd e2 (hno s' j'), fun k' e2 => ?_, hG.yown d g' e, hG.base d g' e⟩, hno, fun e2 => hsd (hG.inj s d g hr (e2 ▸ e))⟩
              · rcases hsl with ⟨h1, _⟩ | ⟨_, _, cur, h1, h2, _⟩
                · rw [h1] at e; cases e
                · rw [h1] at e; cases e; exact ⟨_, _, h2⟩
              · have h3 := hG.inj s' d g' (kill_rho e2) e
                subst h3
                rw [kill_rho_self] at e2; cases e2
              · have := (hG.prot g' k' e2).2 d e
                rw [hld] at this; simp [Obj.fz] at this
            have hw : ∀ b', b' ≠ g → (E.w.heap.setIfInBounds g (Go.Obj.map (ms.modify (entAt q es) fun e => { e with val := t }) (mput es q kc []).length))[b']? = E.w.heap[b']? := fun b' hb' => by simp [Array.getElem?_setIfInBounds_ne (Ne.symm hb')]
            obtain ⟨q1, q2, q3⟩ := good_unfocus hG1 (s := s) (g := g) (j := entAt q es) (b := E.rho d) hr1 hbb (w' := { E.w with heap := E.w.heap.setIfInBounds g (.map (ms.modify (entAt q es) fun e => { e with val := t }) (mput es q kc []).length) }) hw (by simp [Env.kill]) rfl rfl rfl (by rw [hkl]; rfl)
              (ob := .mr kt et te' (mput es q kc cs)) rfl (fun hx' => by
                refine .mr (ms := ms.modify (entAt q es) fun e => { e with val := t }) hr1 (by rw [mput_length es q kc cs]; simp [Env.unfocus, hgl]) (by rw [mput_length es q kc cs]; simpa using hlen) hte hz0 fun j k' row m he hm => ?_
                rw [Array.getElem?_modify] at hm
                rcases mput_entry hj he with ⟨rfl, rfl, rfl, he'⟩ | ⟨hne, he'⟩
                · rw [if_pos rfl] at hm
                  obtain ⟨m0, hm0, rfl⟩ := Option.map_eq_some_iff.1 hm
                  obtain ⟨m1, m2, _, _⟩ := hms _ _ _ m0 he' hm0
                  refine ⟨m1, m2.held hx', ?_⟩
                  rcases hsl with ⟨h1, h2, h3⟩ | ⟨g', cap, cur, h1, h2, h3, h4, h5, h6, h7, h8⟩
                  · exact .inl ⟨by simp [Env.unfocus, h1], h2, h3⟩
                  · exact .inr ⟨g', cap, cur, by simp [Env.unfocus, h1], (hw g' (hbb g' h1).2.2).trans h2, h3, h4.held hx', by rw [hn]; exact h5, by rw [hn]; exact e5, by rw [hn]; exact h6, h7, h8⟩
                · rw [if_neg (fun e => hne e.symm)] at hm
                  obtain ⟨m1, m2, m3, _⟩ := hms _ _ _ m he' hm
                  exact ⟨m1, m2.held hx', (m3 hne).keep hx' ⟨by simp [Env.unfocus, hne, Env.kill], fun g' hg' => hw g' fun e2 => (hG.rbo _ _ _ hg').rho s (e2 ▸ hr)⟩⟩) ⟨fun _ _ e => (by rw [hkl] at e; cases e), fun _ _ _ e => (by rw [hkl] at e; cases e), fun e => by rw [hkl] at e; cases e⟩
            exact ⟨_, _, _, hk, _, rfl, ⟨q1, rfl⟩, .und, fun z w hz' _ => (rv_kill d hz').mono0 q2 q3⟩
theorem sameO_eq {p q : Option Nat} (h : sameO p q = true) : p = q := by
  cases p <;> cases q <;> simp [sameO] at h ⊢
  exact h
theorem op_range (hG : Good P A E l pend) {T : TypeId} {xo : Operand} {d : Nat} (ho : o.op = .range T xo) (hd : ¬ pend d) {x : V} (hx : RV P E l x (ρ xo)) (h0 : rangeOpK P l k T x d = some r) : Sound P A E l pend ((execOp ρ o).run P E.w) k r := by
  unfold rangeOpK at h0
  split at h0
  case h_2 => cases h0
  case h_1 kt et hT =>
  obtain ⟨h1, h0⟩ := need_some h0
  have hone := pur_one hx h0 h1
  obtain ⟨cs, l1, E1, hk, hG1, hM, hc, _⟩ := pur_sound hG hx h0
  rw [cells_one hone] at hc
  split at hk
  case h_2 => cases hk
  case h_1 c =>
  obtain ⟨u, us, e', hcu, _⟩ := hc.uncons
  have e'' : ρ xo = u := by simpa using congrArg List.head? e'
  subst e''
  unfold asMp at hk
  split at hk
  case h_2 => cases hk
  case h_1 kt' et' ka' va' es =>
  obtain ⟨hb, hk'⟩ := need_some hk
  clear hk
  simp only [Bool.and_eq_true] at hb
  have e1 := Nat.eq_of_beq_eq_true hb.1.1.1
  have e2 := Nat.eq_of_beq_eq_true hb.1.1.2
  have e3 := sameO_eq hb.1.2
  have e4 := sameO_eq hb.2
  subst e1 e2 e3 e4
  generalize hu : ρ xo = u at hcu
  have hcu0 := hcu
  cases hcu with
  | @mp _ _ _ _ _ g ms kus vus hg hp hs hkk q1 q2 =>
  have hmap : E.w.heap[g]? = some (.map ms es.length) := by rw [← hM.w]; exact mapAt_map.1 hg
  have hrun : (execOp ρ o).run P E.w = .ok (.value (.pointer (some ⟨E.w.heap.size, 0, none⟩))) (E.w.alloc (.mapIter (some g) es.length #[] es.length)) := by
    have := run_range_map (P := P) E.w T kt' et' g ms es.length hT hmap
    simp [execOp, ho, hu, this]
  rw [hrun]
  have hsz : E1.w.heap.size = E.w.heap.size := by rw [hM.w]
  have hG2 := hG1.kill hd
  have hG3 := hG2.newM (s := d) (mo := .mapIter (some g) es.length #[] es.length) (kill_at d l1) hd (ob := .it kt' et' (shapeO P kt') (shapeO P et') es) (fun a b => .it a b (hcu0.held (held_alloc _ _ _ fun b k hp => (hG1.prot b k hp).1))) (kill_ref d l1)
  refine ⟨_, _, _, hk', _, ?_, ⟨hG3, hM.D⟩, ?_, fun y v hy hks => ?_⟩
  · show E1.w.alloc _ = _
    rw [hM.w]
  · rw [← hM.w]
    exact .ptr (by simp [Env.newM, Env.kill])
  · have hy0 := hM.rv hy
    have hy1 : RV P (E1.kill l1 d) (Loc.kill d l1) y v := hy0.mono0 (E' := E1.kill l1 d) (Held.refl E1.w E1.Pr) fun s => Keeps1.kill E1 l1 d s
    exact hy1.mono (fun s => s = d) (held_alloc _ _ _ fun b k hp => (hG1.prot b k hp).1) (fun s hs => Keeps1.newM d _ hs) (fun s hs => by subst hs; exact hks s (by simp))
theorem op_rangeRows (hG : Good P A E l pend) {T : TypeId} {xo : Operand} {d : Nat} (ho : o.op = .range T xo) (hd : ¬ pend d) {x : V} (hx : RV P E l x (ρ xo)) (h0 : rangeRowsK P l k T x d = some r) : Sound P A E l pend ((execOp ρ o).run P E.w) k r := by
  unfold rangeRowsK at h0
  split at h0
  case h_2 => cases h0
  case h_1 kt et s hT =>
  split at h0
  case h_2 => cases h0
  case h_1 kt' et' te es hl =>
  obtain ⟨hb, hk⟩ := need_some h0
  simp only [Bool.and_eq_true, Bool.not_eq_true'] at hb
  obtain ⟨⟨e1, e2⟩, e6⟩ := hb
  have e1 := Nat.eq_of_beq_eq_true e1
  have e2 := Nat.eq_of_beq_eq_true e2
  subst e1 e2
  have hsd : s ≠ d := fun e => by subst e; rw [Nat.beq_refl] at e6; cases e6
  generalize hu : ρ xo = u at hx
  cases hx with
  | mpDead hd => rw [hd] at hl; cases hl
  | @mp _ g hr =>
    obtain ⟨ms, hg, hlen, hte, hz, hms⟩ := mr_of hG hl hr
    have hrun : (execOp ρ o).run P E.w = .ok (.value (.pointer (some ⟨E.w.heap.size, 0, none⟩))) (E.w.alloc (.mapIter (some g) es.length #[] es.length)) := by
      have := run_range_map (P := P) E.w T kt' et' g ms es.length hT hg
      simp [execOp, ho, hu, this]
    rw [hrun]
    have hG2 := hG.kill hd
    have hkl : Loc.kill d l s = .mr kt' et' te es := by
      rcases kill_cases d l s with ⟨hk', e | e⟩ | ⟨_, hk', _⟩ | ⟨_, t, xs, e, _⟩ | ⟨_, _, _, _, _, _, _, _, e, _⟩ | ⟨_, _, _, e, _⟩
      · exact absurd e hsd
      · rw [hl] at e; cases e
      · rw [hk', hl]
      · rw [hl] at e; cases e
      · rw [hl] at e; cases e
      · rw [hl] at e; cases e
    have hr2 : (E.kill l d).rho s = some g := by simp only [Env.kill, hkl]; exact hr
    have hG3 := hG2.newM (s := d) (mo := .mapIter (some g) es.length #[] es.length) (kill_at d l) hd (ob := .ir es.length (.mp s)) (fun a b => .ir a b (.mp (by simp [Env.newM, hsd]; exact hr2))) (kill_ref d l)
    refine ⟨_, _, _, hk, _, rfl, ⟨hG3, rfl⟩, .ptr (by simp [Env.newM, Env.kill]), fun y v hy hks => ?_⟩
    have hy1 : RV P (E.kill l d) (Loc.kill d l) y v := hy.mono0 (E' := E.kill l d) (Held.refl E.w E.Pr) fun s => Keeps1.kill E l d s
    exact hy1.mono (fun s => s = d) (held_alloc _ _ _ fun b k hp => (hG.prot b k hp).1) (fun s hs => Keeps1.newM d _ hs) (fun s hs => by subst hs; exact hks s (by simp))
theorem op_rangeD (hG : Good P A E l pend) {T : TypeId} {xo : Operand} {d : Nat} {own : Bool} (ho : o.op = .range T xo) (hd : ¬ pend d) {x : V} (hx : RV P E l x (ρ xo)) (h0 : rangeD P l k own T x d = some r) : Sound P A E l pend ((execOp ρ o).run P E.w) k r := by
  cases own with
  | true => exact op_rangeRows hG ho hd hx h0
  | false => exact op_range hG ho hd hx h0
end
end Go.PM
/- The pure machine: one operation, whatever it is. -/
namespace Go.PM
open Go
variable {P : Program}
section
variable {A : Fr} {E : Env} {l : Loc} {pend : Nat → Prop} {R : Type} {k : V → Loc → List Nat → Option R} {r : R} {o : Oper} {ρ : Operand → Value} {cf : Cfg} {strict : Bool} {e : Operand → V}
def pendAfter (pend : Nat → Prop) (o : Oper) : Nat → Prop := fun s => pend s ∧ ¬ (isAlloc o = true ∧ o.dst = some s)
theorem pendAfter_eq {pend : Nat → Prop} {o : Oper} (h : isAlloc o = false) : pendAfter pend o = pend := by
  funext s; simp [pendAfter, h]
theorem args_rel {xs : List Operand} (hop : ∀ y ∈ xs, RV P E l (e y) (ρ y)) : ∀ (j : Nat) (x : V) (u : Value), (xs.map e)[j]? = some x → (xs.map ρ)[j]? = some u → RV P E l x u := rel_map hop
theorem noref_rv (hG : Good P A E l pend) {d : Nat} (hr : E.rho d = none) {cs : List C} {t : TypeId} {fz : Nat} (hd : l d = .ob t fz cs) {x : V} {u : Value} (h4 : RV P E l x u) (h5 : (∀ ys, x ≠ .tup ys) ∧ ∀ ys, x ≠ .mag ys) : x.at d = false := by
  cases hx : x.at d with
  | false => rfl
  | true =>
    have own : ∀ {s off n : Nat} {u : Value}, RV P E l (.own s off n) u → (V.own s off n).at d = true → False := by
      intro s off n u h hx
      have e := Nat.eq_of_beq_eq_true hx
      subst e
      cases h with
      | ownDead hd' => rw [hd] at hd'; cases hd'
      | ownNil _ hl' => rw [hd] at hl'; cases hl'
      | own hr' _ _ _ _ => rw [hr] at hr'; cases hr'
      | own0 hr' _ _ => rw [hr] at hr'; cases hr'
      | ownMx hl' => rw [hd] at hl'; cases hl'
    cases x with
    | own s off n => exact (own h4 hx).elim
    | ent s n j => cases h4 with | ent h => exact (own h hx).elim
    | tup ys => exact absurd rfl (h5.1 ys)
    | mag ys => exact absurd rfl (h5.2 ys)
    | ptr s off =>
      have e := Nat.eq_of_beq_eq_true hx
      subst e
      cases h4 with
      | ptrDead hd' => rw [hd] at hd'; cases hd'
      | ptr hr' => rw [hr] at hr'; cases hr'
    | mp s =>
      have e := Nat.eq_of_beq_eq_true hx
      subst e
      cases h4 with
      | mpDead hd' => rw [hd] at hd'; cases hd'
      | mp hr' => rw [hr] at hr'; cases hr'
    | ws s n =>
      have e := Nat.eq_of_beq_eq_true hx
      subst e
      cases h4 with
      | wsDead hd' => rw [hd] at hd'; cases hd'
      | ws hr' => rw [hr] at hr'; cases hr'
    | gh s =>
      have e := Nat.eq_of_beq_eq_true hx
      subst e
      cases h4 with
      | ghDead hd' => rw [hd] at hd'; cases hd'
      | gh hr' _ => rw [hr] at hr'; cases hr'
    | _ => cases hx
theorem noref_pend (hG : Good P A E l pend) {d : Nat} (hp : pend d) : ∀ s', ∀ x ∈ (l s').refs, x.at d = false := by
  intro s' x hxm
  obtain ⟨hr, cs, _, hd⟩ := hG.pnd d hp
  have hps : ¬ pend s' := fun h => by
    obtain ⟨_, _, _, h2⟩ := hG.pnd s' h
    rw [h2] at hxm; simp [Obj.refs] at hxm
  have h0 := hG.obj s' hps
  generalize hl : l s' = ob at h0 hxm
  cases h0 with
  | @mx _ xs g cur h1 h2 h3 h4 h6 =>
    obtain ⟨j, hj, rfl⟩ := List.mem_iff_getElem.1 hxm
    have hj : j < xs.length := hj
    obtain ⟨h4, h5⟩ := h4 j xs[j] cur[j] (List.getElem?_eq_getElem hj) (by simp)
    refine noref_rv hG hr hd h4 ⟨fun ys e => ?_, fun ys e => ?_⟩
    · have e : xs[j] = .tup ys := e
      generalize xs[j] = x at h4 e
      subst e
      generalize cur[j] = u at h4 h5
      cases h4; cases h5
    · have e : xs[j] = .mag ys := e
      generalize xs[j] = x at h4 e
      subst e
      generalize cur[j] = u at h4 h5
      cases h4; cases h5
  | @mf _ _ _ es q kc x0 g ms h1 h2 h3 h4 h5 h6 h7 h8 =>
    simp [Obj.refs] at hxm
    subst hxm
    obtain ⟨k', row, he⟩ : ∃ k' row, (mput es q kc [])[entAt q es]? = some (k', row) := ⟨_, _, List.getElem?_eq_getElem h6⟩
    obtain ⟨m, hm⟩ : ∃ m, ms[entAt q es]? = some m := ⟨_, Array.getElem?_eq_getElem (by rw [h3]; exact h6)⟩
    obtain ⟨h9, h10⟩ := (h8 _ _ _ m he hm).2.2.2 rfl
    refine noref_rv hG hr hd h9 ⟨fun ys e => ?_, fun ys e => ?_⟩
    · subst e
      generalize m.val = u at h9 h10
      cases h9; cases h10
    · subst e
      generalize m.val = u at h9 h10
      cases h9; cases h10
  | @ir n x0 g bm h1 h2 h3 =>
    simp [Obj.refs] at hxm
    subst hxm
    refine noref_rv hG hr hd h3 ⟨fun ys e => ?_, fun ys e => ?_⟩
    · subst e
      generalize hv : Value.map (some bm) = u at h3
      cases h3; cases hv
    · subst e
      generalize hv : Value.map (some bm) = u at h3
      cases h3; cases hv
  | _ => simp [Obj.refs] at hxm
theorem call_run {c : Call} {f : FuncId} {fn : Func} (ho : o.op = .call c) {g : Operand} (hc : c.callee = .value g) {caps : List Value} (hg : ρ g = .func (.func f) #[] caps.toArray) (hf : P.funcs[f]? = some fn) (hb : fn.body ≠ none) (hn : (fn.name == "runtime.NumGoroutine") = false) :
    (execOp ρ o).run P E.w = .ok (.enter f (c.args.toList.map ρ ++ caps).toArray) E.w := by
  have hb' : fn.body.isNone = false := by cases h : fn.body <;> simp_all
  have e1 : (#[] : Array Value) ++ c.args.map ρ ++ caps.toArray = (c.args.toList.map ρ ++ caps).toArray := by
    apply Array.ext'; simp
  simp only [execOp, ho, resolve, hc, hg, Deferred.ofValue, Sem.run_bind, Sem.run_pure, Result.andThen_ok, invoke, callFunc, run_program, hf, hn, hb', Bool.false_eq_true, if_false]
  rw [e1]
theorem args_rel2 {xs : List Operand} {e : Operand → V} (h : ∀ y ∈ xs, RV P E l (e y) (ρ y)) : ∀ (j : Nat) (x : V) (u : Value), (xs.map e)[j]? = some x → (xs.map ρ)[j]? = some u → RV P E l x u := by
  intro j x u hx hu
  rw [List.getElem?_map] at hx hu
  cases hj : xs[j]? with
  | none => rw [hj] at hx; cases hx
  | some y =>
    rw [hj] at hx hu
    injection hx with hx; injection hu with hu
    subst hx hu
    exact h y (List.mem_of_getElem? hj)
theorem good_yield (hG : Good P A E l pend) {lg : Log} (_ : l.log = some lg) {rest : List (List V)} {e : Ending} {w' : World} (hy : YPost A.jt E.Y E.Pr lg rest E.w e w') :
    ∃ E', E'.w = w' ∧ (Good P A E' ⟨l.fn, some ⟨lg.l, lg.go, Nat.succ lg.i, rest, !(lg.go lg.i)⟩⟩ pend ∧ E'.D = E.D) ∧ ∀ y v, RV P E l y v → RV P E' ⟨l.fn, some ⟨lg.l, lg.go, Nat.succ lg.i, rest, !(lg.go lg.i)⟩⟩ y v := by
  obtain ⟨_, Y', y1, y2, y3, hx, hj, hsame, hsz, hos, htp, hout, hdr⟩ := hy
  let E' : Env := { E with w := w', Y := Y' }
  let l' : Loc := ⟨l.fn, some ⟨lg.l, lg.go, Nat.succ lg.i, rest, !(lg.go lg.i)⟩⟩
  have hx' : Held E.w E.Pr E'.w E'.Pr := hx
  have hk : ∀ s, Keeps1 E E' l l' s := fun s => by
    by_cases hd : l s = .dead
    · exact .inl hd
    · exact .inr ⟨hd, rfl, rfl, .same rfl⟩
  refine ⟨E', rfl, ⟨⟨fun s hp => ?_, hG.pnd, hG.inj, hG.base, fun b k hp => ⟨Nat.lt_of_lt_of_le (hG.prot b k hp).1 hsz, (hG.prot b k hp).2⟩, hj, hG.pr0.trans hx', hG.prN, Nat.le_trans hG.size hsz, hos.trans hG.os, htp.trans hG.tape, hout.trans hG.output, Nat.le_trans hG.dr hdr, hG.yok, fun s g hs hy => ?_, y3, fun r hr => ⟨?_, fun hy => ?_⟩, rbo_step hG.rbo (fun _ _ _ e => e) (fun _ _ e => .inl e) (fun _ _ e => .inl e) y2 fun b hb _ hy => hsame b hb hy⟩, rfl⟩, fun y v h => h.mono0 hx' hk⟩
  · exact (hG.obj s hp).keep hx' rfl rfl (fun g hg => hsame g (hG.lt hg) (hG.yown s g hg)) (fun _ _ _ h => h.mono0 hx' hk) fun j => ⟨rfl, fun g hg => hsame g (hG.rbo _ _ _ hg).lt (hG.rbo _ _ _ hg).y⟩
  · rcases y2 g hy with h | h
    · exact hG.yown s g hs h
    · have := hG.lt (s := s) hs; omega
  · exact (hsame r (Array.getElem?_eq_some_iff.1 (hG.dm r hr).1).1 (hG.dm r hr).2).trans (hG.dm r hr).1
  · rcases y2 r hy with h | h
    · exact (hG.dm r hr).2 h
    · have := (Array.getElem?_eq_some_iff.1 (hG.dm r hr).1).1; omega
theorem op_yield (hG : Good P A E l pend) {cf : Cfg} (hP : cf.P = P) {strict : Bool} {c : Call} (ho : o.op = .call c) {g : Operand} (hc : c.callee = .value g) {n : Nat} (hg : ρ g = .func (.yield n) #[] #[]) {e : Operand → V}
    (hargs : ∀ y ∈ c.args.toList, RV P E l (e y) (ρ y)) (h : yieldK cf.P strict n (c.args.toList.map e) l k = some r) : Sound P A E l pend ((execOp ρ o).run P E.w) k r := by
  unfold yieldK at h
  split at h
  · cases h
  rw [hP] at h
  obtain ⟨ys, l1, ss, E1, h1, hG1, hM, hyl, _, _, hy, _, _⟩ := marsh_sound hG (us := c.args.toList.map ρ) (by simp) (args_rel2 hargs) List.nodup_nil h
  cases ss with
  | cons s ss => cases h1
  | nil =>
    cases hlog : l1.log with
    | none => rw [hlog] at h1; cases h1
    | some lg =>
      rw [hlog] at h1
      dsimp only at h1
      obtain ⟨hb, h2⟩ := need_some h1
      simp only [Bool.and_eq_true, Bool.not_eq_true'] at hb
      have hln : lg.l = n := Nat.eq_of_beq_eq_true hb.1
      have hJ : A.jt.J E1.Y E1.Pr (some lg) E1.w := by rw [← hlog]; exact hG1.jf
      cases hrest : lg.rest with
      | nil => rw [hrest] at h2; cases h2
      | cons it rest =>
      rw [hrest] at h2
      dsimp only at h2
      obtain ⟨hit, h2⟩ := need_some h2
      have hit : ys = it := by simpa [eqV] using hit
      obtain ⟨fn, tmps, assign, body, hrun, hR⟩ := hG1.yok E1.Y E1.Pr lg E1.w it rest (c.args.toList.map ρ) hJ hb.2 hrest (by rw [← hyl, hit]) (fun i x u hx hu => by
        rw [← hit] at hx
        rcases hy i x u hx hu with ⟨c, rfl, hc⟩ | ⟨cs, vs, rfl, rfl, hc⟩ | ⟨i, off, s, _, hs, _⟩ | ⟨i, off, n, s, _, hs, _⟩
        · exact .c hc
        · exact .agg hc
        · simp at hs
        · simp at hs) (fun b k hp => (hG1.prot b k hp).1) hG1.ylt
      rw [hM.w, hln] at hrun
      have e1 : (#[] : Array Value) ++ c.args.map ρ = (c.args.toList.map ρ).toArray := by apply Array.ext'; simp
      have hrun' : (execOp ρ o).run P E.w = .ok (.round n fn tmps assign body) E.w := by
        simp only [execOp, ho, resolve, hc, hg, Deferred.ofValue, Sem.run_bind, Sem.run_pure, Result.andThen_ok, invoke]
        rw [e1]; exact hrun
      rw [hrun']
      refine ⟨_, _, _, h2, ?_⟩
      show RoundIn Fence.wide 0 P n fn tmps assign body E.w _
      rw [hM.w, hln] at hR
      refine hR.mono fun e w' he => ?_
      obtain ⟨E', e1, q1, q2⟩ := good_yield hG1 hlog (by rw [hM.w]; exact he)
      exact ⟨_, he.1, E', e1, ⟨q1.1, q1.2.trans hM.D⟩, .c (.v rfl), fun y v hy _ => q2 y v (hM.rv hy)⟩
def EntV (P : Program) (E : Env) (l : Loc) (vv : V) (vu : Value) : Prop := match vv with | .ent s n te => ∀ fz cs, l s = .sb te fz cs → RV P E l (.own s 0 n) vu | v => RV P E l v vu
theorem opK_sound (hG : Good P A E l pend) (hP : cf.P = P) (hcon : ∀ f args objs out, cf.call f args objs = some out → ConAt P cf.glob f args objs out) (hgl : GlobOk cf.glob E.w E.Pr)
    (hfn : ∀ f args objs out, cf.call f args objs = some out → ∃ fn, P.funcs[f]? = some fn ∧ fn.body ≠ none ∧ (fn.name == "runtime.NumGoroutine") = false)
    (hop : ∀ y ∈ o.op.operands, RV P E l (e y) (ρ y)) (hfv : ∀ f, ρ (.func f) = .func (.func f) #[] #[])
    (hal : ∀ t d, o.op = .alloc t → o.dst = some d → pend d ∧ A.pt d = t) (hnd : isAlloc o = false → ∀ d, o.dst = some d → ¬ pend d)
    (hent : ∀ t kv vv, cf.ent = some (t, kv, vv) → ∃ ku vu, (Instr.entry (ρ (.tmp t))).run P E.w = .ok (.tuple #[ku, vu]) E.w ∧ RV P E l kv ku ∧ EntV P E l vv vu) (h : opK cf strict o e l k = some r) :
    Sound P A E l (pendAfter pend o) ((execOp ρ o).run P E.w) k r := by
  unfold opK at h
  split at h
  case h_1 x ho => rw [pendAfter_eq (by simp [isAlloc, ho])]; exact op_move hG (.inl ho) (hop x (by simp [ho, Op.operands])) h
  case h_2 x ho => rw [pendAfter_eq (by simp [isAlloc, ho])]; exact op_move hG (.inr ho) (hop x (by simp [ho, Op.operands])) h
  case h_3 c a b ho =>
    rw [pendAfter_eq (by simp [isAlloc, ho])]
    unfold pickK at h
    split at h
    · rename_i q hq
      exact op_pick hG ho (hop c (by simp [ho, Op.operands])) (hop a (by simp [ho, Op.operands])) (hop b (by simp [ho, Op.operands])) hq h
    · cases h
  case h_4 t ho =>
    split at h
    case h_2 => cases h
    case h_1 d hd =>
      obtain ⟨hp, ht⟩ := hal t d ho hd
      have h1 := op_alloc (ρ := ρ) hG ho hp ht (noref_pend hG hp) h
      have e1 : pendAfter pend o = fun s => pend s ∧ s ≠ d := by
        funext s
        simp only [pendAfter, isAlloc, ho, hd]
        simp only [true_and, Option.some.injEq]
        rw [eq_comm (a := d)]
      rw [e1]; exact h1
  case h_5 t x ho =>
    rw [pendAfter_eq (by simp [isAlloc, ho])]
    split at h
    case h_2 => cases h
    case h_1 d hd => rw [hP] at h; exact op_box hG ho (hnd (by simp [isAlloc, ho]) d hd) (hop x (by simp [ho, Op.operands])) rfl h
  case h_6 t parts ho =>
    rw [pendAfter_eq (by simp [isAlloc, ho])]
    rw [hP] at h
    split at h
    · split at h
      · exact op_buildMx hG ho (fun p hp => hop p.2 (by simp [ho, Op.operands]; exact ⟨p.1, by simpa using hp⟩)) h
      · cases h
    · exact op_build hG ho (fun p hp => hop p.2 (by simp [ho, Op.operands]; exact ⟨p.1, by simpa using hp⟩)) h
  case h_7 t n parts ho =>
    rw [pendAfter_eq (by simp [isAlloc, ho])]
    split at h
    case h_2 => cases h
    case h_1 d hd =>
      rw [hP] at h
      exact op_buildSliceD hG ho (hnd (by simp [isAlloc, ho]) d hd) (fun p hp => hop p.2 (by simp [ho, Op.operands]; exact ⟨p.1, by simpa using hp⟩)) h
  case h_8 t a ho => rw [pendAfter_eq (by simp [isAlloc, ho])]; rw [hP] at h; exact op_loadD hG ho (hop a (by simp [ho, Op.operands])) rfl h
  case h_9 t a x ho => rw [pendAfter_eq (by simp [isAlloc, ho])]; rw [hP] at h; exact op_store hG ho (hop a (by simp [ho, Op.operands])) (hop x (by simp [ho, Op.operands])) rfl rfl h
  case h_10 x ho => rw [pendAfter_eq (by simp [isAlloc, ho])]; exact op_nil hG ho (hop x (by simp [ho, Op.operands])) rfl h
  case h_11 op t x y yt ho => rw [pendAfter_eq (by simp [isAlloc, ho])]; rw [hP] at h; exact op_bin hG ho (hop x (by simp [ho, Op.operands])) (hop y (by simp [ho, Op.operands])) h
  case h_12 op t x ho => rw [pendAfter_eq (by simp [isAlloc, ho])]; exact op_un hG ho (hop x (by simp [ho, Op.operands])) h
  case h_13 src dst x ho => rw [pendAfter_eq (by simp [isAlloc, ho])]; rw [hP] at h; exact op_conv hG ho (hop x (by simp [ho, Op.operands])) h
  case h_14 fn first cap ho =>
    rw [pendAfter_eq (by simp [isAlloc, ho])]
    split at h
    case h_2 => cases h
    case h_1 f hf =>
      obtain ⟨h1, h2⟩ := need_some h
      rw [hP] at h2
      exact op_makeFunc hG ho hf (fun y hy => hop y (by simp [ho, Op.operands]; exact .inr (by simpa using hy))) h1 h2
  case h_15 t rs ho =>
    rw [pendAfter_eq (by simp [isAlloc, ho])]
    split at h
    case h_2 => cases h
    case h_1 d hd => rw [hP] at h; exact op_makeMap hG ho (hnd (by simp [isAlloc, ho]) d hd) h
  case h_16 t x i ok ho =>
    rw [pendAfter_eq (by simp [isAlloc, ho])]
    split at h
    case h_2 =>
      rw [hP] at h
      unfold lookupC at h
      split at h
      · rename_i c hc
        rw [← hc] at h
        exact op_lookup hG ho (hop x (by simp [ho, Op.operands])) (hop i (by simp [ho, Op.operands])) rfl rfl h
      · cases h
    case h_1 => rw [hP] at h; exact op_lookup hG ho (hop x (by simp [ho, Op.operands])) (hop i (by simp [ho, Op.operands])) rfl rfl h
  case h_17 t x i v ho =>
    rw [pendAfter_eq (by simp [isAlloc, ho])]
    split at h
    case h_2 => cases h
    case h_1 => rw [hP] at h; exact op_mapUpdate hG ho (hop x (by simp [ho, Op.operands])) (hop i (by simp [ho, Op.operands])) (hop v (by simp [ho, Op.operands])) rfl rfl rfl h
  case h_18 t n c ho =>
    rw [pendAfter_eq (by simp [isAlloc, ho])]
    split at h
    case h_2 => cases h
    case h_1 d hd => rw [hP] at h; exact op_makeSlice hG ho (hnd (by simp [isAlloc, ho]) d hd) (hop n (by simp [ho, Op.operands])) (hop c (by simp [ho, Op.operands])) rfl rfl h
  case h_19 t x lo hi mx ho =>
    rw [pendAfter_eq (by simp [isAlloc, ho])]
    split at h
    · rename_i m
      split at h
      case h_2 => cases h
      case h_1 => rw [hP] at h; exact op_slice3 hG ho (hop x (by simp [ho, Op.operands])) rfl (fun y hy => hop y (by simp [ho, Op.operands, hy])) (hop m (by simp [ho, Op.operands])) h
    · rw [hP] at h
      exact op_slice hG ho (hop x (by simp [ho, Op.operands])) rfl (fun y hy => hop y (by simp [ho, Op.operands, hy])) (fun y hy => hop y (by simp [ho, Op.operands, hy])) h
  case h_20 T x f ho => rw [pendAfter_eq (by simp [isAlloc, ho])]; rw [hP] at h; exact op_fieldAddr hG ho (hop x (by simp [ho, Op.operands])) rfl h
  case h_21 T x f ho => rw [pendAfter_eq (by simp [isAlloc, ho])]; rw [hP] at h; exact op_field hG ho (hop x (by simp [ho, Op.operands])) rfl h
  case h_22 T x i ho => rw [pendAfter_eq (by simp [isAlloc, ho])]; rw [hP] at h; exact op_indexAddr hG ho (hop x (by simp [ho, Op.operands])) (hop i (by simp [ho, Op.operands])) rfl rfl h
  case h_23 T x i ho => rw [pendAfter_eq (by simp [isAlloc, ho])]; rw [hP] at h; exact op_index hG ho (hop x (by simp [ho, Op.operands])) (hop i (by simp [ho, Op.operands])) rfl rfl h
  case h_24 x i ho => rw [pendAfter_eq (by simp [isAlloc, ho])]; exact op_extract hG ho (hop x (by simp [ho, Op.operands])) rfl h
  case h_25 c ho =>
    rw [pendAfter_eq (by simp [isAlloc, ho])]
    have hargs : ∀ y ∈ c.args.toList, RV P E l (e y) (ρ y) := fun y hy => hop y (by simp [ho, Op.operands, Call.operands]; exact .inr (by simpa using hy))
    have hna : isAlloc o = false := by simp [isAlloc, ho]
    split at h
    case h_1 hc =>
      split at h
      case h_2 => cases h
      case h_1 x T ha hT =>
        rw [hP] at h
        exact op_len hG ho hc (by apply Array.ext'; simpa using ha) (by apply Array.ext'; simpa using hT) (hargs x (by simp [ha])) rfl h
    case h_2 hc =>
      split at h
      case h_2 => cases h
      case h_1 d s x T T' hd ha hT =>
        cases hb : Nat.beq T T' with
        | false =>
          rw [hb] at h
          rw [hP] at h
          exact op_appMake hG ho hc (by apply Array.ext'; simpa using ha) (by apply Array.ext'; simpa using hT) (hnd hna d hd) (hargs s (by simp [ha])) (hargs x (by simp [ha])) rfl rfl h
        | true =>
          rw [hb] at h
          have := Nat.eq_of_beq_eq_true hb
          subst this
          exact op_append hG hP ho hc (by apply Array.ext'; simpa using ha) (by apply Array.ext'; simpa using hT) (hnd hna d hd) (hargs s (by simp [ha])) (hargs x (by simp [ha])) rfl rfl h
    case h_3 hc =>
      split at h
      case h_2 => cases h
      case h_1 x T ha hT =>
        rw [hP] at h
        exact op_cap hG ho hc (by apply Array.ext'; simpa using ha) (by apply Array.ext'; simpa using hT) (hargs x (by simp [ha])) rfl h
    case h_4 hc => exact op_max (lt := false) hG ho hc hargs h
    case h_5 hc => exact op_max (lt := true) hG ho hc hargs h
    case h_6 => cases h
    case h_7 => cases h
    case h_8 f hc =>
      have hcallee : ∀ g, c.callee = .value g → RV P E l (e g) (ρ g) := fun g hg => hop g (by simp [ho, Op.operands, Call.operands, hg])
      have hgo : ∀ (hds : List Nat) (xo : List (Option TypeId)) (f : FuncId) (caps : List C) (cvs : List Value) (g : Operand), c.callee = .value g → ρ g = .func (.func f) #[] cvs.toArray → RCs E.w E.Pr caps cvs →
          callK cf strict hds xo f (c.args.toList.map e ++ caps.map .c) o.type o.dst l k = some r → Sound P A E l pend ((execOp ρ o).run P E.w) k r := by
        intro hds xo f caps cvs g hg hρ hcaps h
        have hrel : ∀ (j : Nat) (x : V) (u : Value), (c.args.toList.map e ++ caps.map .c)[j]? = some x → (c.args.toList.map ρ ++ cvs)[j]? = some u → RV P E l x u := by
          intro j x u hx hu
          rw [List.getElem?_append] at hx hu
          simp only [List.length_map] at hx hu
          split at hx
          · rename_i hlt
            rw [if_pos hlt] at hu
            exact args_rel hargs j x u hx hu
          · rename_i hge
            rw [if_neg hge] at hu
            rw [List.getElem?_map] at hx
            cases hcj : caps[j - c.args.toList.length]? with
            | none => rw [hcj] at hx; cases hx
            | some cc =>
              rw [hcj] at hx; injection hx with hx; subst hx
              exact .c (hcaps.2 _ cc u hcj hu)
        obtain ⟨x, l', ks, hk, hC⟩ := callK_sound hG hP hcon hgl (us := c.args.toList.map ρ ++ cvs) (by simp [hcaps.len]) hrel (fun d hd => hnd hna d hd) h
        have hfun : ∃ fn, P.funcs[f]? = some fn ∧ fn.body ≠ none ∧ (fn.name == "runtime.NumGoroutine") = false := by
          unfold callK at h
          simp only [hP] at h
          obtain ⟨ys, l1, ss, E1, h1, _⟩ := marsh_sound hG (us := c.args.toList.map ρ ++ cvs) (by simp [hcaps.len]) hrel List.nodup_nil h
          obtain ⟨_, h2⟩ := need_some h1
          rw [Option.bind_eq_some_iff] at h2
          obtain ⟨out, hcall, _⟩ := h2
          exact hfn _ _ _ _ hcall
        obtain ⟨fn, h1, h2, h3⟩ := hfun
        rw [call_run ho hg hρ h1 h2 h3]
        exact ⟨x, l', ks, hk, hC⟩
      split at h
      case h_1 f' =>
        exact hgo _ _ f' [] [] _ hc (by rw [hfv]) .nil (by simpa using h)
      case h_2 =>
        split at h
        case h_2 => cases h
        case h_1 c' hx =>
          have h1 := hcallee _ hc
          rw [hx] at h1
          generalize hu : ρ f = u at h1
          cases h1 with | c hcc =>
          unfold asYF at h
          split at h
          · rename_i f' caps
            cases hcc with
            | @fn _ _ cvs q1 q2 => exact hgo _ _ f' caps cvs _ hc hu ⟨q1, q2⟩ h
          · rename_i n go xs
            cases hcc
            exact op_yield hG hP ho hc hu hargs h
          · cases h
  case h_26 t x i ho =>
    rw [pendAfter_eq (by simp [isAlloc, ho])]
    split at h
    case h_2 => cases h
    case h_1 d hd => rw [hP] at h; exact op_mapEntry hG ho (hnd (by simp [isAlloc, ho]) d hd) (hop x (by simp [ho, Op.operands])) (hop i (by simp [ho, Op.operands])) rfl rfl h
  case h_27 t x i v ho =>
    rw [pendAfter_eq (by simp [isAlloc, ho])]
    split at h
    case h_2 => cases h
    case h_1 => rw [hP] at h; exact op_entryStore hG ho (hop x (by simp [ho, Op.operands])) (hop i (by simp [ho, Op.operands])) (hop v (by simp [ho, Op.operands])) rfl rfl rfl h
  case h_28 t x ho =>
    rw [pendAfter_eq (by simp [isAlloc, ho])]
    split at h
    case h_2 => cases h
    case h_1 d hd => rw [hP] at h; exact op_rangeD hG ho (hnd (by simp [isAlloc, ho]) d hd) (hop x (by simp [ho, Op.operands])) h
  case h_29 x ho =>
    rw [pendAfter_eq (by simp [isAlloc, ho])]
    unfold entryK at h
    split at h
    case h_2 => cases h
    case h_1 t kv vv t' he =>
      obtain ⟨ht, hk⟩ := need_some h
      have ht := Nat.eq_of_beq_eq_true ht
      subst ht
      obtain ⟨ku, vu, hrun, h1, h2⟩ := hent t' kv vv he
      have hrun' : (execOp ρ o).run P E.w = .ok (.value (.tuple #[ku, vu])) E.w := by simp [execOp, ho, hrun]
      rw [hrun']
      have fin : ∀ vv', RV P E l vv' vu → k (.tup [kv, vv']) l [] = some r → Sound P A E l pend (.ok (.value (.tuple #[ku, vu])) E.w) k r := fun vv' h2 hk => by
        refine Sound.quiet hG hk (.tup (us := [ku, vu]) rfl fun j y u hy hu => ?_)
        match j with
        | 0 => simp at hy hu; subst hy hu; exact h1
        | 1 => simp at hy hu; subst hy hu; exact h2
        | j + 2 => simp at hy
      split at hk
      · rename_i s n te
        split at hk
        · rename_i te' fz cs hls
          obtain ⟨h3, hk'⟩ := need_some hk
          have h3 := Nat.eq_of_beq_eq_true h3
          subst h3
          exact fin _ (h2 fz cs hls) hk'
        · cases hk
      · rename_i hne
        refine fin _ ?_ hk
        cases vv <;> first | exact h2 | exact absurd rfl (hne _ _ _)
  case h_30 => cases h
end
end Go.PM
/- The pure machine: what an operation hands on does not depend on what is done with it. -/
namespace Go.PM
open Go
variable {P : Program} {R : Type} {r : R}
theorem ldC_nat {t : TypeId} {cs : List C} {k : V → Option R} (h : ldC P t cs k = some r) : ∃ v, (∀ {S : Type} (k' : V → Option S), ldC P t cs k' = k' v) ∧ k v = some r := by
  unfold ldC at h
  cases hi : P.info? t with
  | none => rw [hi] at h; cases h
  | some i =>
    rw [hi] at h
    cases ha : aggB P t with
    | true =>
      rw [ha] at h
      cases hl : leaves P 20 t with
      | none =>
        rw [hl] at h
        obtain ⟨h1, h2⟩ := need_nat h
        exact ⟨_, fun k' => by simp only [ldC, hi, ha, hl, h1], h2⟩
      | some ls =>
        rw [hl] at h
        obtain ⟨h1, h2⟩ := need_nat h
        obtain ⟨cs', h3, h4⟩ := getLfs_nat h2
        exact ⟨_, fun k' => by simp only [ldC, hi, ha, hl, h1, h3], h4⟩
    | false =>
      rw [ha] at h
      cases hl : leaves P 20 t with
      | none => rw [hl] at h; cases h
      | some ls =>
        rw [hl] at h
        match ls, hl, h with
        | [], _, h => cases h
        | _ :: _ :: _, _, h => cases h
        | [f], hl, h =>
          cases cs with
          | nil => cases h
          | cons c rest =>
            obtain ⟨c', h1, h2⟩ := getLf_nat (show getLf f c (fun c' => k (.c c')) = some r from h)
            exact ⟨_, fun k' => by simp only [ldC, hi, ha, hl, unc, h1], h2⟩
theorem pur0_nat {strict : Bool} {x : V} {l : Loc} {k : List C → Loc → Option R} (h : pur0 P strict x l k = some r) : ∃ cs l', (∀ {S : Type} (k' : List C → Loc → Option S), pur0 P strict x l k' = k' cs l') ∧ k cs l' = some r := by
  cases x with
  | c c => exact ⟨_, _, fun k' => rfl, h⟩
  | agg cs => exact ⟨_, _, fun k' => rfl, h⟩
  | own s off n =>
    simp only [pur0] at h
    split at h
    · rename_i t fz cs ho
      obtain ⟨h1, h2⟩ := need_nat h
      exact ⟨_, _, fun k' => by simp only [pur0, ho, h1], h2⟩
    · cases h
  | ptr s off =>
    simp only [pur0] at h
    split at h
    · rename_i t fz cs ho
      exact ⟨_, _, fun k' => by simp only [pur0, ho], h⟩
    · cases h
  | mp s =>
    simp only [pur0] at h
    split at h
    · rename_i ho
      exact ⟨_, _, fun k' => by simp only [pur0, ho], h⟩
    · rename_i ho
      obtain ⟨h1, h2⟩ := need_nat h
      exact ⟨_, _, fun k' => by simp only [pur0, ho, h1], h2⟩
    · cases h
  | _ => cases h
theorem purs_nat {strict : Bool} : ∀ {xs : List V} {l : Loc} {k : List C → Loc → Option R} (_ : purs P strict xs l k = some r), ∃ cs l', (∀ {S : Type} (k' : List C → Loc → Option S), purs P strict xs l k' = k' cs l') ∧ k cs l' = some r
  | [], l, k, h => ⟨[], l, fun k' => rfl, h⟩
  | x :: xs, l, k, h => by
    cases x with
    | c c =>
      obtain ⟨cs, l', h1, h2⟩ := purs_nat (xs := xs) (k := fun cs l2 => k (c :: cs) l2) h
      exact ⟨c :: cs, l', fun k' => by simp only [purs, h1], h2⟩
    | own s off n =>
      simp only [purs] at h
      obtain ⟨cs, l1, h1, h2⟩ := pur0_nat h
      split at h2
      · rename_i c
        obtain ⟨cs2, l', h3, h4⟩ := purs_nat (xs := xs) (k := fun cs l2 => k (c :: cs) l2) h2
        exact ⟨c :: cs2, l', fun k' => by simp only [purs, h1, h3], h4⟩
      · cases h2
    | mp s =>
      simp only [purs] at h
      obtain ⟨cs, l1, h1, h2⟩ := pur0_nat h
      split at h2
      · rename_i c
        obtain ⟨cs2, l', h3, h4⟩ := purs_nat (xs := xs) (k := fun cs l2 => k (c :: cs) l2) h2
        exact ⟨c :: cs2, l', fun k' => by simp only [purs, h1, h3], h4⟩
      · cases h2
    | _ => cases h
theorem pur_nat {strict : Bool} {x : V} {l : Loc} {k : List C → Loc → Option R} (h : pur P strict x l k = some r) : ∃ cs l', (∀ {S : Type} (k' : List C → Loc → Option S), pur P strict x l k' = k' cs l') ∧ k cs l' = some r := by
  cases x with
  | ptr s off =>
    unfold pur at h
    simp only at h
    split at h
    · rename_i t xs hl
      cases strict with
      | true => cases h
      | false =>
        simp only at h
        obtain ⟨cs, l1, h1, h2⟩ := purs_nat h
        split at h2
        · rename_i hl1
          exact ⟨_, _, fun k' => by simp only [pur, hl, h1, hl1], h2⟩
        · cases h2
    · rename_i hno
      obtain ⟨cs, l1, h1, h2⟩ := pur0_nat h
      refine ⟨cs, l1, fun {S} k' => ?_, h2⟩
      have e : pur P strict (.ptr s off) l k' = pur0 P strict (.ptr s off) l k' := by
        unfold pur
        simp only
      rw [e]; exact h1 k'
  | c c => exact ⟨_, _, fun k' => rfl, h⟩
  | agg cs => exact ⟨_, _, fun k' => rfl, h⟩
  | own s off n => exact pur0_nat (show pur0 P strict (.own s off n) l k = some r from h)
  | mp s => exact pur0_nat (show pur0 P strict (.mp s) l k = some r from h)
  | _ => cases h
theorem purL_nat {strict : Bool} : ∀ {xs : List V} {l : Loc} {k : List (List C) → Loc → Option R} (_ : purL P strict xs l k = some r), ∃ ps l', (∀ {S : Type} (k' : List (List C) → Loc → Option S), purL P strict xs l k' = k' ps l') ∧ k ps l' = some r
  | [], l, k, h => ⟨[], l, fun k' => rfl, h⟩
  | x :: xs, l, k, h => by
    obtain ⟨cs, l1, h1, h2⟩ := pur_nat (show pur P strict x l (fun cs l1 => purL P strict xs l1 fun ps l2 => k (cs :: ps) l2) = some r from h)
    obtain ⟨ps, l2, h3, h4⟩ := purL_nat h2
    exact ⟨cs :: ps, l2, fun k' => by show pur P strict x l _ = _; rw [h1, h3], h4⟩
theorem fillK_nat {place : Nat → Option (Nat × Nat)} : ∀ {is : List Nat} {ps : List (List C)} {cs : List C} {k : List C → Option R} (_ : fillK place is ps cs k = some r), ∃ cs', (∀ {S : Type} (k' : List C → Option S), fillK place is ps cs k' = k' cs') ∧ k cs' = some r
  | [], ps, cs, k, h => ⟨cs, fun k' => by simp [fillK], by simpa [fillK] using h⟩
  | i :: is, [], cs, k, h => ⟨cs, fun k' => by simp [fillK], by simpa [fillK] using h⟩
  | i :: is, p :: ps, cs, k, h => by
    simp only [fillK] at h
    split at h
    · cases h
    · rename_i off sz hp
      obtain ⟨h1, h2⟩ := need_nat h
      obtain ⟨cs', h3, h4⟩ := fillK_nat h2
      exact ⟨cs', fun k' => by simp only [fillK, hp, h1, h3], h4⟩
theorem fillV_nat {place : Nat → Option (Nat × Nat)} : ∀ {is : List Nat} {ps : List (List V)} {cs : List V} {k : List V → Option R} (_ : fillV place is ps cs k = some r), ∃ cs', (∀ {S : Type} (k' : List V → Option S), fillV place is ps cs k' = k' cs') ∧ k cs' = some r
  | [], ps, cs, k, h => ⟨cs, fun k' => by simp [fillV], by simpa [fillV] using h⟩
  | i :: is, [], cs, k, h => ⟨cs, fun k' => by simp [fillV], by simpa [fillV] using h⟩
  | i :: is, p :: ps, cs, k, h => by
    simp only [fillV] at h
    split at h
    · cases h
    · rename_i off sz hp
      obtain ⟨h1, h2⟩ := need_nat h
      obtain ⟨cs', h3, h4⟩ := fillV_nat h2
      exact ⟨cs', fun k' => by simp only [fillV, hp, h1, h3], h4⟩
theorem marsh_nat {strict : Bool} : ∀ {hd : List Nat} {xs : List V} {l : Loc} {ss : List Nat} {k : List V → Loc → List Nat → Option R} (_ : marsh P strict hd xs l ss k = some r),
    ∃ ys l' ss', (∀ {S : Type} (k' : List V → Loc → List Nat → Option S), marsh P strict hd xs l ss k' = k' ys l' ss') ∧ k ys l' ss' = some r
  | hd, [], l, ss, k, h => ⟨[], l, ss, fun k' => by simp [marsh], by simpa [marsh] using h⟩
  | hd, x :: xs, l, ss, k, h => by
    unfold marsh at h
    cases x with
    | c c =>
      obtain ⟨ys, l', ss', h1, h2⟩ := marsh_nat h
      exact ⟨_, _, _, fun k' => by simp only [marsh, h1], h2⟩
    | agg cs =>
      obtain ⟨ys, l', ss', h1, h2⟩ := marsh_nat h
      exact ⟨_, _, _, fun k' => by simp only [marsh, h1], h2⟩
    | own s off n =>
      simp only at h
      cases hh : hand1 strict hd with
      | true =>
        rw [hh] at h
        simp only at h
        split at h
        · rename_i i hi
          obtain ⟨ys, l', ss', h3, h4⟩ := marsh_nat h
          exact ⟨_, _, _, fun k' => by simp only [marsh, hh, hi, h3], h4⟩
        · rename_i hi
          obtain ⟨ys, l', ss', h3, h4⟩ := marsh_nat h
          exact ⟨_, _, _, fun k' => by simp only [marsh, hh, hi, h3], h4⟩
      | false =>
        rw [hh] at h
        simp only at h
        obtain ⟨cs, l1, h1, h2⟩ := pur_nat h
        split at h2
        · obtain ⟨ys, l', ss', h3, h4⟩ := marsh_nat h2
          exact ⟨_, _, _, fun k' => by simp only [marsh, hh, h1, h3], h4⟩
        · cases h2
    | ptr s off =>
      simp only at h
      cases strict with
      | true => cases h
      | false =>
        simp only at h
        split at h
        · rename_i i hi
          obtain ⟨ys, l', ss', h3, h4⟩ := marsh_nat h
          exact ⟨_, _, _, fun k' => by simp only [marsh, hi, h3], h4⟩
        · rename_i hi
          obtain ⟨ys, l', ss', h3, h4⟩ := marsh_nat h
          exact ⟨_, _, _, fun k' => by simp only [marsh, hi, h3], h4⟩
    | _ => cases h
theorem backK_nat {fb : Bool} : ∀ {ss : List Nat} {os : List Obj} {l : Loc} {k : List Obj → Loc → Option R} (_ : backK P fb ss os l k = some r),
    ∃ rest l', (∀ {S : Type} (k' : List Obj → Loc → Option S), backK P fb ss os l k' = k' rest l') ∧ k rest l' = some r
  | [], os, l, k, h => ⟨os, l, fun k' => rfl, h⟩
  | s :: ss, os, l, k, h => by
    unfold backK at h
    split at h
    case h_3 => cases h
    case h_2 t fz cs hl =>
      obtain ⟨o, os', rfl, h1⟩ := uncO_eq h
      cases fb with
      | false =>
        obtain ⟨cs', rfl, h2⟩ := rS_eq h1
        obtain ⟨h3, h4⟩ := need_nat h2
        obtain ⟨rest, l', h7, h8⟩ := backK_nat h4
        exact ⟨rest, l', fun k' => by simp only [backK, hl, uncO, rS_self, h7, h3], h8⟩
      | true =>
        obtain ⟨fz', cs', rfl, hle, h2⟩ := rF_eq h1
        obtain ⟨h3, h4⟩ := need_nat h2
        obtain ⟨rest, l', h7, h8⟩ := backK_nat h4
        exact ⟨rest, l', fun k' => by simp only [backK, hl, uncO, rF_self hle, h7, h3], h8⟩
    case h_1 t fz cs hl =>
      obtain ⟨o, os', rfl, h1⟩ := uncO_eq h
      obtain ⟨cs', rfl, h2⟩ := rO_eq h1
      split at h2
      · rename_i ls hls
        obtain ⟨h3, h4⟩ := need_nat h2
        obtain ⟨cs2, h5, h6⟩ := getLfs_nat h4
        obtain ⟨rest, l', h7, h8⟩ := backK_nat h6
        exact ⟨rest, l', fun k' => by simp only [backK, hl, uncO, rO, hls, h3, h5, h7, Nat.beq_refl, Bool.and_self, need, cond_true] <;> simp only [← need.eq_1, h3], h8⟩
      · rename_i hls
        obtain ⟨h3, h4⟩ := need_nat h2
        obtain ⟨rest, l', h7, h8⟩ := backK_nat h4
        exact ⟨rest, l', fun k' => by simp only [backK, hl, uncO, rO, hls, h7, Nat.beq_refl, Bool.and_self, need, cond_true] <;> simp only [← need.eq_1, h3], h8⟩
theorem foldMax_nat {lt : Bool} : ∀ {xs : List V} {kd : IntKind} {a : Int} {k : V → Option R} (_ : foldMax lt xs kd a k = some r), ∃ v, (∀ {S : Type} (k' : V → Option S), foldMax lt xs kd a k' = k' v) ∧ k v = some r
  | [], kd, a, k, h => ⟨_, fun k' => rfl, h⟩
  | x :: xs, kd, a, k, h => by
    match x, h with
    | .c (.v (.int kd' b)), h =>
      simp only [foldMax] at h
      cases hk : decide (kd' = kd) with
      | false => rw [hk] at h; cases h
      | true =>
        rw [hk] at h
        obtain ⟨v, h1, h2⟩ := foldMax_nat h
        exact ⟨v, fun k' => by simp only [foldMax, hk, cond_true, h1], h2⟩
theorem bound_nat {x : Option V} {d y : Nat} {k : Nat → Option R} (h : bound x d y k = some r) : ∃ n, (∀ {S : Type} (k' : Nat → Option S), bound x d y k' = k' n) ∧ k n = some r := by
  unfold bound at h
  split at h
  · exact ⟨d, fun k' => rfl, h⟩
  · split at h
    · obtain ⟨h1, h2⟩ := need_nat h
      exact ⟨_, fun k' => by simp only [bound, h1], h2⟩
    · cases h
  · cases h
theorem newsK_nat {e : TypeId} {x : V} {l : Loc} {k : Nat → List C → Option R} (h : newsK P e x l k = some r) : ∃ m cs, (∀ {S : Type} (k' : Nat → List C → Option S), newsK P e x l k' = k' m cs) ∧ k m cs = some r := by
  unfold newsK at h
  split at h
  · obtain ⟨m, cs, h1, h2⟩ := asSl_nat h
    obtain ⟨h3, h4⟩ := need_nat h2
    exact ⟨m, cs, fun k' => by simp only [newsK, h1, h3], h4⟩
  · split at h
    · rename_i ho
      obtain ⟨h3, h4⟩ := need_nat h
      exact ⟨_, _, fun k' => by simp only [newsK, ho, h3], h4⟩
    · cases h
  · cases h
theorem binInt_nat {op : BinOp} {kd : IntKind} {a b : Int} {k : V → Option R} (h : binInt op kd a b k = some r) : ∃ v, (∀ {S : Type} (k' : V → Option S), binInt op kd a b k' = k' v) ∧ k v = some r := by
  cases op <;> simp only [binInt] at h ⊢ <;> first
    | (cases h; done)
    | exact ⟨_, fun k' => rfl, h⟩
    | (obtain ⟨h1, h2⟩ := need_nat h; exact ⟨_, fun k' => h1 _, h2⟩)
theorem shInt_nat {op : BinOp} {kd : IntKind} {a b : Int} {k : V → Option R} (h : shInt op kd a b k = some r) : ∃ v, (∀ {S : Type} (k' : V → Option S), shInt op kd a b k' = k' v) ∧ k v = some r := by
  cases op <;> simp only [shInt] at h ⊢ <;> first
    | (cases h; done)
    | (obtain ⟨h1, h2⟩ := need_nat h; exact ⟨_, fun k' => h1 _, h2⟩)
theorem binStr_nat {op : BinOp} {a b : ByteArray} {k : V → Option R} (h : binStr op a b k = some r) : ∃ v, (∀ {S : Type} (k' : V → Option S), binStr op a b k' = k' v) ∧ k v = some r := by
  cases op <;> simp only [binStr] at h ⊢ <;> first
    | (cases h; done)
    | exact ⟨_, fun k' => rfl, h⟩
    | (obtain ⟨h1, h2⟩ := need_nat h; exact ⟨_, fun k' => h1 _, h2⟩)
theorem binV_nat {op : BinOp} {t : TypeId} {x y : V} {k : V → Option R} (h : binV P op t x y k = some r) : ∃ v, (∀ {S : Type} (k' : V → Option S), binV P op t x y k' = k' v) ∧ k v = some r := by
  unfold binV at h
  split at h
  · split at h
    · obtain ⟨v, h1, h2⟩ := shInt_nat h; exact ⟨v, fun k' => by simp only [binV, h1], h2⟩
    · obtain ⟨v, h1, h2⟩ := shInt_nat h; exact ⟨v, fun k' => by simp only [binV, h1], h2⟩
    · rename_i n1 n2
      split at h
      · rename_i hk
        obtain ⟨v, h1, h2⟩ := binInt_nat h
        refine ⟨v, fun k' => ?_, h2⟩
        cases op <;> first
          | exact absurd rfl n1
          | exact absurd rfl n2
          | (simp only [binV, if_pos hk]; exact h1 k')
      · cases h
  · obtain ⟨v, h1, h2⟩ := binStr_nat h; exact ⟨v, fun k' => by simp only [binV, h1], h2⟩
  · split at h
    · rename_i hu; exact ⟨_, fun k' => by simp only [binV, hu], h⟩
    · rename_i hu; exact ⟨_, fun k' => by simp only [binV, hu], h⟩
    · cases h
  · split at h
    · rename_i b h1 h2 h3
      split at h
      · exact ⟨_, fun k' => by simp only [binV, h1, h2, h3], h⟩
      · exact ⟨_, fun k' => by simp only [binV, h1, h2, h3], h⟩
      · cases h
    · cases h
  · split at h
    · rename_i hu; exact ⟨_, fun k' => by simp only [binV, hu], h⟩
    · rename_i hu; exact ⟨_, fun k' => by simp only [binV, hu], h⟩
    · cases h
  · split at h
    · rename_i hu; exact ⟨_, fun k' => by simp only [binV, hu], h⟩
    · rename_i hu; exact ⟨_, fun k' => by simp only [binV, hu], h⟩
    · cases h
  · cases h
theorem unV_nat {op : UnOp} {x : V} {k : V → Option R} (h : unV op x k = some r) : ∃ v, (∀ {S : Type} (k' : V → Option S), unV op x k' = k' v) ∧ k v = some r := by
  unfold unV at h
  split at h
  · exact ⟨_, fun k' => rfl, h⟩
  · exact ⟨_, fun k' => rfl, h⟩
  · exact ⟨_, fun k' => rfl, h⟩
  · cases h
theorem convV_nat {src dst : TypeId} {x : V} {k : V → Option R} (h : convV P src dst x k = some r) : ∃ v, (∀ {S : Type} (k' : V → Option S), convV P src dst x k' = k' v) ∧ k v = some r := by
  unfold convV at h
  split at h
  · rename_i h1 h2; exact ⟨_, fun k' => by simp only [convV, h1, h2], h⟩
  · rename_i h1 h2; exact ⟨_, fun k' => by simp only [convV, h1, h2], h⟩
  · rename_i h1 h2; exact ⟨_, fun k' => by simp only [convV, h1, h2], h⟩
  · cases h
end Go.PM
/- The pure machine: what an operation hands on, continued. -/
namespace Go.PM
open Go
variable {P : Program} {R : Type} {r : R}
def Nat3 {R : Type} (F : {S : Type} → (V → Loc → List Nat → Option S) → Option S) (k : V → Loc → List Nat → Option R) (r : R) : Prop :=
  ∃ x l ks, (∀ {S : Type} (k' : V → Loc → List Nat → Option S), F k' = k' x l ks) ∧ k x l ks = some r
section
variable {l : Loc} {k : V → Loc → List Nat → Option R}
theorem pickK_nat {c a b : V} (h : pickK l k c a b = some r) : Nat3 (fun k' => pickK l k' c a b) k r := by
  unfold pickK at h
  split at h
  · exact ⟨_, _, _, fun k' => rfl, h⟩
  · cases h
theorem boxK_nat {strict own : Bool} {t : TypeId} {d : Nat} {x : V} (h : boxK P l k strict own t d x = some r) : Nat3 (fun k' => boxK P l k' strict own t d x) k r := by
  unfold boxK at h
  split at h
  · split at h
    · exact ⟨_, _, _, fun k' => by simp only [boxK], h⟩
    · rename_i hno
      obtain ⟨cs, l', h1, h2⟩ := pur_nat h
      obtain ⟨h3, h4⟩ := need_nat h2
      refine ⟨_, _, _, fun {S} k' => ?_, h4⟩
      unfold boxK
      simp only
      rw [h1]; simp only [h3]
  · cases h
  · obtain ⟨cs, l', h1, h2⟩ := pur_nat h
    exact ⟨_, _, _, fun k' => by simp only [boxK, h1], h2⟩
theorem buildK_nat {strict : Bool} {t : TypeId} {is : List Nat} {xs : List V} (h : buildK P l k strict t is xs = some r) : Nat3 (fun k' => buildK P l k' strict t is xs) k r := by
  unfold buildK at h
  split at h
  · rename_i hT hz
    obtain ⟨h0, h⟩ := need_nat h
    obtain ⟨ps, l', h1, h2⟩ := purL_nat h
    obtain ⟨cs, h3, h4⟩ := fillK_nat h2
    exact ⟨_, _, _, fun k' => by simp only [buildK, hT, hz, h0, h1, h3], h4⟩
  · rename_i hT hz
    obtain ⟨h0, h⟩ := need_nat h
    obtain ⟨ps, l', h1, h2⟩ := purL_nat h
    obtain ⟨cs, h3, h4⟩ := fillK_nat h2
    exact ⟨_, _, _, fun k' => by simp only [buildK, hT, hz, h0, h1, h3], h4⟩
  · cases h
theorem buildMx_nat {t : TypeId} {is : List Nat} {xs : List V} (h : buildMx P l k t is xs = some r) : Nat3 (fun k' => buildMx P l k' t is xs) k r := by
  unfold buildMx at h
  split at h
  · rename_i hT hz hp
    obtain ⟨h0, h⟩ := need_nat h
    obtain ⟨cs, h3, h4⟩ := fillV_nat h
    exact ⟨_, _, _, fun k' => by simp only [buildMx, hT, hz, hp, h0, h3], h4⟩
  · cases h
theorem buildSliceK_nat {strict own full : Bool} {t : TypeId} {n d : Nat} {is : List Nat} {xs : List V} (h : buildSliceK P l k strict own full t n d is xs = some r) : Nat3 (fun k' => buildSliceK P l k' strict own full t n d is xs) k r := by
  unfold buildSliceK at h
  split at h
  · rename_i hT
    split at h
    · rename_i hz
      obtain ⟨ps, l', h1, h2⟩ := purL_nat h
      obtain ⟨cs, h3, h4⟩ := fillK_nat h2
      obtain ⟨h5, h6⟩ := need_nat h4
      split at h6
      · exact ⟨_, _, _, fun k' => by simp only [buildSliceK, hT, hz, h1, h3, h5], h6⟩
      · cases h6
      · exact ⟨_, _, _, fun k' => by simp only [buildSliceK, hT, hz, h1, h3, h5], h6⟩
    · cases h
  · cases h
theorem buildSliceM_nat {t : TypeId} {n d : Nat} {is : List Nat} {xs : List V} (h : buildSliceM P l k t n d is xs = some r) : Nat3 (fun k' => buildSliceM P l k' t n d is xs) k r := by
  unfold buildSliceM at h
  split at h
  · rename_i hT
    split at h
    · rename_i hz hp
      obtain ⟨cs, h3, h4⟩ := fillV_nat h
      obtain ⟨h5, h6⟩ := need_nat h4
      exact ⟨_, _, _, fun k' => by simp only [buildSliceM, hT, hz, hp, h3, h5], h6⟩
    · cases h
  · cases h
theorem buildSliceD_nat {strict own full : Bool} {t : TypeId} {n d : Nat} {is : List Nat} {xs : List V} (h : buildSliceD P l k strict own full t n d is xs = some r) : Nat3 (fun k' => buildSliceD P l k' strict own full t n d is xs) k r := by
  cases own <;> cases full <;> cases strict
  case true.true.false => simp only [buildSliceD] at h ⊢; exact buildSliceM_nat h
  all_goals (simp only [buildSliceD] at h ⊢; exact buildSliceK_nat h)
theorem oneK_nat {t : TypeId} {x : V} (h : oneK P l k t x = some r) : Nat3 (fun k' => oneK P l k' t x) k r := by
  unfold oneK at h
  split at h
  · obtain ⟨v, h3, h4⟩ := ldC_nat h
    exact ⟨_, _, _, fun k' => by simp only [oneK, h3], h4⟩
  · obtain ⟨h3, h4⟩ := need_nat h
    exact ⟨_, _, _, fun k' => by simp only [oneK, h3], h4⟩
  · obtain ⟨h3, h4⟩ := need_nat h
    exact ⟨_, _, _, fun k' => by simp only [oneK, h3], h4⟩
  · cases h
theorem loadK_nat {strict : Bool} {t : TypeId} {a : V} (h : loadK P l k strict t a = some r) : Nat3 (fun k' => loadK P l k' strict t a) k r := by
  unfold loadK at h
  split at h
  · obtain ⟨cs, h1, h2⟩ := asP_nat h
    obtain ⟨v, h3, h4⟩ := ldC_nat h2
    exact ⟨_, _, _, fun k' => by simp only [loadK, h1, h3], h4⟩
  · split at h
    · rename_i hl
      obtain ⟨v, h3, h4⟩ := ldC_nat h
      exact ⟨_, _, _, fun k' => by simp only [loadK, hl, h3], h4⟩
    · rename_i hl
      obtain ⟨v, h3, h4⟩ := ldC_nat h
      exact ⟨_, _, _, fun k' => by simp only [loadK, hl, h3], h4⟩
    · rename_i hl
      split at h
      · rename_i ha
        obtain ⟨h1, h2⟩ := need_nat h
        obtain ⟨cs, l', h3, h4⟩ := purs_nat h2
        obtain ⟨v, h5, h6⟩ := ldC_nat h4
        exact ⟨_, _, _, fun k' => by simp only [loadK, hl, ha, h1, h3, h5], h6⟩
      · rename_i ha
        split at h
        · rename_i hx
          obtain ⟨v, l', ks, h1, h2⟩ := oneK_nat h
          exact ⟨v, l', ks, fun k' => by simp only [loadK, hl, ha, hx]; exact h1 k', h2⟩
        · cases h
    · cases h
  · cases h
theorem loadM_nat {t : TypeId} {a : V} (h : loadM P l k t a = some r) : Nat3 (fun k' => loadM P l k' t a) k r := by
  unfold loadM at h
  split at h
  · split at h
    · rename_i hl
      obtain ⟨h3, h4⟩ := need_nat h
      exact ⟨_, _, _, fun k' => by simp only [loadM, hl, h3], h4⟩
    · cases h
  · cases h
theorem loadD_nat {mag strict : Bool} {t : TypeId} {a : V} (h : loadD P l k mag strict t a = some r) : Nat3 (fun k' => loadD P l k' mag strict t a) k r := by
  cases mag <;> cases strict
  · exact loadK_nat (show loadK P l k false t a = some r from h)
  · exact loadK_nat (show loadK P l k true t a = some r from h)
  · exact loadM_nat (show loadM P l k t a = some r from h)
  · exact loadK_nat (show loadK P l k true t a = some r from h)
theorem storeMx_nat {t : TypeId} {s off : Nat} {t' : TypeId} {xs : List V} {x : V} (h : storeMx P l k t s off t' xs x = some r) : Nat3 (fun k' => storeMx P l k' t s off t' xs x) k r := by
  unfold storeMx at h
  split at h
  · obtain ⟨h3, h4⟩ := need_nat h
    exact ⟨_, _, _, fun k' => by simp only [storeMx, h3], h4⟩
  · obtain ⟨h3, h4⟩ := need_nat h
    exact ⟨_, _, _, fun k' => by simp only [storeMx, h3], h4⟩
  · obtain ⟨h3, h4⟩ := need_nat h
    exact ⟨_, _, _, fun k' => by simp only [storeMx, h3], h4⟩
  · obtain ⟨h3, h4⟩ := need_nat h
    exact ⟨_, _, _, fun k' => by simp only [storeMx, h3], h4⟩
  · obtain ⟨h3, h4⟩ := need_nat h
    exact ⟨_, _, _, fun k' => by simp only [storeMx, h3], h4⟩
  · cases h
theorem storeOb_nat {strict : Bool} {t : TypeId} {s off : Nat} {x : V} (h : storeOb P l k strict t s off x = some r) : Nat3 (fun k' => storeOb P l k' strict t s off x) k r := by
  unfold storeOb at h
  obtain ⟨cs, l', h1, h2⟩ := pur_nat h
  split at h2
  · rename_i hl
    obtain ⟨h3, h4⟩ := need_nat h2
    exact ⟨_, _, _, fun k' => by simp only [storeOb, h1, hl, h3], h4⟩
  · rename_i hl
    obtain ⟨h3, h4⟩ := need_nat h2
    exact ⟨_, _, _, fun k' => by simp only [storeOb, h1, hl, h3], h4⟩
  · cases h2
theorem storeK_nat {strict mix : Bool} {t : TypeId} {a x : V} (h : storeK P l k strict mix t a x = some r) : Nat3 (fun k' => storeK P l k' strict mix t a x) k r := by
  unfold storeK at h
  split at h
  · split at h
    · rename_i t' fz cs hl
      cases hb : (isOwn x && (Nat.beq cs.length 1 || mix) && Nat.beq fz 0) with
      | true =>
        rw [hb] at h
        obtain ⟨y, l', ks, h1, h2⟩ := storeMx_nat h
        exact ⟨y, l', ks, fun k' => by simp only [storeK, hl, hb, cond_true]; exact h1 k', h2⟩
      | false =>
        rw [hb] at h
        obtain ⟨y, l', ks, h1, h2⟩ := storeOb_nat h
        exact ⟨y, l', ks, fun k' => by simp only [storeK, hl, hb, cond_false]; exact h1 k', h2⟩
    · rename_i hl
      obtain ⟨y, l', ks, h1, h2⟩ := storeOb_nat h
      exact ⟨y, l', ks, fun k' => by simp only [storeK, hl]; exact h1 k', h2⟩
    · rename_i hl
      obtain ⟨y, l', ks, h1, h2⟩ := storeMx_nat h
      exact ⟨y, l', ks, fun k' => by simp only [storeK, hl]; exact h1 k', h2⟩
    · cases h
  · cases h
theorem cellsV_nat {x : V} {k : List C → Option R} (h : cellsV x k = some r) : ∃ cs, (∀ {S : Type} (k' : List C → Option S), cellsV x k' = k' cs) ∧ k cs = some r := by
  unfold cellsV at h
  split at h
  · exact ⟨_, fun k' => rfl, h⟩
  · exact ⟨_, fun k' => rfl, h⟩
  · cases h
theorem rangeRowsK_nat {t : TypeId} {x : V} {d : Nat} (h : rangeRowsK P l k t x d = some r) : Nat3 (fun k' => rangeRowsK P l k' t x d) k r := by
  unfold rangeRowsK at h
  split at h
  case h_2 => cases h
  case h_1 kt et s hT =>
  split at h
  case h_2 => cases h
  case h_1 kt' et' te es hl =>
  obtain ⟨h1, h2⟩ := need_nat h
  exact ⟨_, _, _, fun k' => by simp only [rangeRowsK, hT, hl, h1], h2⟩
theorem rangeOpK_nat {t : TypeId} {x : V} {d : Nat} (h : rangeOpK P l k t x d = some r) : Nat3 (fun k' => rangeOpK P l k' t x d) k r := by
  unfold rangeOpK at h
  split at h
  case h_2 => cases h
  case h_1 kt et hT =>
  obtain ⟨h1, h2⟩ := need_nat h
  obtain ⟨cs, l1, h3, h4⟩ := pur_nat h2
  split at h4
  case h_2 => cases h4
  case h_1 c =>
  unfold asMp at h4
  split at h4
  case h_2 => cases h4
  case h_1 kt' et' ka' va' es =>
  obtain ⟨h5, h6⟩ := need_nat h4
  exact ⟨_, _, _, fun k' => by simp only [rangeOpK, hT, h1, h3, asMp, h5], h6⟩
theorem rangeD_nat {own : Bool} {t : TypeId} {x : V} {d : Nat} (h : rangeD P l k own t x d = some r) : Nat3 (fun k' => rangeD P l k' own t x d) k r := by
  cases own with
  | true => exact rangeRowsK_nat h
  | false => exact rangeOpK_nat h
theorem makeMapK_nat {own : Bool} {t : TypeId} {d : Nat} {q : Option V} (h : makeMapK P l k own t d q = some r) : Nat3 (fun k' => makeMapK P l k' own t d q) k r := by
  unfold makeMapK at h
  split at h
  · rename_i h1
    obtain ⟨h3, h4⟩ := need_nat h
    exact ⟨_, _, _, fun k' => by simp only [makeMapK, h1, h3], h4⟩
  · rename_i h1
    split at h
    · rename_i h2
      obtain ⟨h3, h4⟩ := need_nat h
      exact ⟨_, _, _, fun k' => by simp only [makeMapK, h1, h2, h3], h4⟩
    · cases h
  · cases h
theorem mapEntryK_nat {T : TypeId} {x i : V} {d : Nat} (h : mapEntryK P l k T x i d = some r) : Nat3 (fun k' => mapEntryK P l k' T x i d) k r := by
  unfold mapEntryK at h
  split at h
  · rename_i hT
    split at h
    · rename_i hl
      obtain ⟨h1, h2⟩ := need_nat h
      obtain ⟨kc, h3, h4⟩ := cellsV_nat h2
      obtain ⟨q, hq, h7⟩ := Option.bind_eq_some_iff.1 h4
      exact ⟨_, _, _, fun k' => by simp only [mapEntryK, hT, hl, h1, h3, hq, Option.bind_some], h7⟩
    · cases h
  · cases h
theorem entryStoreK_nat {x i v : V} (h : entryStoreK P l k x i v = some r) : Nat3 (fun k' => entryStoreK P l k' x i v) k r := by
  unfold entryStoreK at h
  split at h
  · split at h
    · rename_i hl
      split at h
      · split at h
        · rename_i hl2
          obtain ⟨h1, h2⟩ := need_nat h
          exact ⟨_, _, _, fun k' => by simp only [entryStoreK, hl, hl2, h1], h2⟩
        · cases h
      · cases h
    · cases h
  · cases h
theorem lookupM_nat {kt et : TypeId} {es : List (List C × List C)} {i : V} {ok : Bool} (h : lookupM P l k kt et es i ok = some r) : ∃ x, (∀ {S : Type} (l2 : Loc) (k' : V → Loc → List Nat → Option S), lookupM P l2 k' kt et es i ok = k' x l2 []) ∧ k x l [] = some r := by
  unfold lookupM at h
  obtain ⟨kc, h3, h4⟩ := cellsV_nat h
  obtain ⟨q, hq, h5⟩ := Option.bind_eq_some_iff.1 h4
  split at h5
  · rename_i hz
    cases ok with
    | false =>
      obtain ⟨v, h7, h8⟩ := ldC_nat h5
      exact ⟨_, fun l2 k' => by simp only [lookupM, h3, hq, Option.bind_some, hz, h7], h8⟩
    | true =>
      obtain ⟨v, h7, h8⟩ := ldC_nat h5
      exact ⟨_, fun l2 k' => by simp only [lookupM, h3, hq, Option.bind_some, hz, h7], h8⟩
  · cases h5
theorem lookupK_nat {T : TypeId} {x i : V} {ok : Bool} (h : lookupK P l k T x i ok = some r) : Nat3 (fun k' => lookupK P l k' T x i ok) k r := by
  unfold lookupK at h
  split at h
  · rename_i hT
    split at h
    · rename_i hl
      obtain ⟨h1, h2⟩ := need_nat h
      obtain ⟨x, h3, h4⟩ := lookupM_nat h2
      exact ⟨_, _, _, fun k' => by simp only [lookupK, hT, hl, h1, h3], h4⟩
    · cases h
  · rename_i hT
    unfold asMp at h
    split at h
    · obtain ⟨h0, h⟩ := need_nat h
      obtain ⟨h1, h2⟩ := need_nat h
      obtain ⟨x, h3, h4⟩ := lookupM_nat h2
      exact ⟨_, _, _, fun k' => by simp only [lookupK, hT, asMp, h0, h1, h3], h4⟩
    · cases h
  · cases h
theorem lookupC_nat {T : TypeId} {x i : V} {ok : Bool} (h : lookupC P l k T x i ok = some r) : ∃ x', (∀ {S : Type} (l2 : Loc) (k' : V → Loc → List Nat → Option S), lookupC P l2 k' T x i ok = k' x' l2 []) ∧ k x' l [] = some r := by
  unfold lookupC at h
  split at h
  · unfold lookupK at h
    split at h
    · rename_i e; cases e
    · rename_i hT e
      injection e with e; subst e
      unfold asMp at h
      split at h
      · obtain ⟨h0, h⟩ := need_nat h
        obtain ⟨h1, h2⟩ := need_nat h
        obtain ⟨x, h3, h4⟩ := lookupM_nat h2
        exact ⟨_, fun l2 k' => by simp only [lookupC, lookupK, hT, asMp, h0, h1, h3], h4⟩
      · cases h
    · cases h
  · cases h
theorem mapUpdateK_nat {T : TypeId} {x i v : V} (h : mapUpdateK P l k T x i v = some r) : Nat3 (fun k' => mapUpdateK P l k' T x i v) k r := by
  unfold mapUpdateK at h
  split at h
  · rename_i hT
    split at h
    · rename_i hl
      obtain ⟨h1, h2⟩ := need_nat h
      obtain ⟨kc, h3, h4⟩ := cellsV_nat h2
      obtain ⟨vc, h5, h6⟩ := cellsV_nat h4
      obtain ⟨q, hq, h7⟩ := Option.bind_eq_some_iff.1 h6
      exact ⟨_, _, _, fun k' => by simp only [mapUpdateK, hT, hl, h1, h3, h5, hq, Option.bind_some], h7⟩
    · cases h
  · cases h
theorem nilK_nat {x : V} (h : nilK l k x = some r) : Nat3 (fun k' => nilK l k' x) k r := by
  unfold nilK at h
  split at h
  · obtain ⟨h3, h4⟩ := need_nat h
    exact ⟨_, _, _, fun k' => by simp only [nilK, h3], h4⟩
  · split at h
    · exact ⟨_, _, _, fun k' => rfl, h⟩
    · exact ⟨_, _, _, fun k' => rfl, h⟩
    · cases h
  · cases h
theorem makeSliceK_nat {t : TypeId} {d : Nat} {n c : V} (h : makeSliceK P l k t d n c = some r) : Nat3 (fun k' => makeSliceK P l k' t d n c) k r := by
  unfold makeSliceK at h
  split at h
  · rename_i h1 h2 h3
    split at h
    · rename_i h4 h5
      obtain ⟨h6, h7⟩ := need_nat h
      exact ⟨_, _, _, fun k' => by simp only [makeSliceK, h1, h2, h3, h4, h5, h6], h7⟩
    · cases h
  · cases h
theorem sliceC_nat {sz : Nat} {c : C} {lo hi : Option V} {k : C → Option R} (h : sliceC sz lo hi c k = some r) : ∃ c', (∀ {S : Type} (k' : C → Option S), sliceC sz lo hi c k' = k' c') ∧ k c' = some r := by
  unfold sliceC at h
  split at h
  · obtain ⟨a, h3, h4⟩ := bound_nat h
    obtain ⟨b, h5, h6⟩ := bound_nat h4
    exact ⟨_, fun k' => by simp only [sliceC, h3, h5], h6⟩
  · obtain ⟨a, h3, h4⟩ := bound_nat h
    obtain ⟨b, h5, h6⟩ := bound_nat h4
    exact ⟨_, fun k' => by simp only [sliceC, h3, h5], h6⟩
  · cases h
theorem sliceK_nat {t : TypeId} {x : V} {lo hi : Option V} (h : sliceK P l k t x lo hi = some r) : Nat3 (fun k' => sliceK P l k' t x lo hi) k r := by
  unfold sliceK at h
  split at h
  · rename_i hT
    split at h
    · obtain ⟨s, h1, h2⟩ := asS_nat h
      obtain ⟨a, h3, h4⟩ := bound_nat h2
      obtain ⟨b, h5, h6⟩ := bound_nat h4
      exact ⟨_, _, _, fun k' => by simp only [sliceK, hT, h1, h3, h5], h6⟩
    · cases h
  · rename_i hT
    split at h
    · rename_i hi'
      split at h
      · obtain ⟨c', h1, h2⟩ := sliceC_nat h
        exact ⟨_, _, _, fun k' => by simp only [sliceK, hT, hi', h1], h2⟩
      · split at h
        · rename_i hl
          obtain ⟨h1, h2⟩ := need_nat h
          obtain ⟨a, h3, h4⟩ := bound_nat h2
          obtain ⟨b, h5, h6⟩ := bound_nat h4
          exact ⟨_, _, _, fun k' => by simp only [sliceK, hT, hi', hl, h1, h3, h5], h6⟩
        · cases h
      · cases h
    · cases h
  · rename_i hT
    split at h
    · rename_i h1
      obtain ⟨cs, h2, h3⟩ := asP_nat h
      obtain ⟨h4, h5⟩ := need_nat h3
      exact ⟨_, _, _, fun k' => by simp only [sliceK, hT, h1, h2, h4], h5⟩
    · cases h
  · cases h
theorem fieldAddrK_nat {T : TypeId} {f : Nat} {x : V} (h : fieldAddrK P l k T f x = some r) : Nat3 (fun k' => fieldAddrK P l k' T f x) k r := by
  unfold fieldAddrK at h
  split at h
  · rename_i hf
    obtain ⟨h1, h2⟩ := need_nat h
    split at h2
    · obtain ⟨h3, h4⟩ := need_nat h2
      exact ⟨_, _, _, fun k' => by simp only [fieldAddrK, hf, h1, h3], h4⟩
    · obtain ⟨cs, h3, h4⟩ := asP_nat h2
      exact ⟨_, _, _, fun k' => by simp only [fieldAddrK, hf, h1, h3], h4⟩
    · cases h2
  · cases h
theorem fieldK_nat {T : TypeId} {f : Nat} {x : V} (h : fieldK P l k T f x = some r) : Nat3 (fun k' => fieldK P l k' T f x) k r := by
  unfold fieldK at h
  split at h
  · rename_i hf
    obtain ⟨v, h3, h4⟩ := ldC_nat h
    exact ⟨_, _, _, fun k' => by simp only [fieldK, hf, h3], h4⟩
  · cases h
theorem indexAddrK_nat {T : TypeId} {x i : V} (h : indexAddrK P l k T x i = some r) : Nat3 (fun k' => indexAddrK P l k' T x i) k r := by
  unfold indexAddrK at h
  split at h
  · rename_i h1 h2
    split at h
    · rename_i h3
      split at h
      · obtain ⟨n, cs, h4, h5⟩ := asSl_nat h
        obtain ⟨h6, h7⟩ := need_nat h5
        exact ⟨_, _, _, fun k' => by simp only [indexAddrK, h1, h2, h3, h4, h6], h7⟩
      · split at h
        · rename_i hl
          obtain ⟨h6, h7⟩ := need_nat h
          exact ⟨_, _, _, fun k' => by simp only [indexAddrK, h1, h2, h3, hl, h6], h7⟩
        · cases h
      · obtain ⟨h6, h7⟩ := need_nat h
        exact ⟨_, _, _, fun k' => by simp only [indexAddrK, h1, h2, h3, h6], h7⟩
      · cases h
    · cases h
  · rename_i h1 h2
    split at h
    · rename_i h3
      split at h
      · obtain ⟨h6, h7⟩ := need_nat h
        exact ⟨_, _, _, fun k' => by simp only [indexAddrK, h1, h2, h3, h6], h7⟩
      · obtain ⟨cs, h4, h5⟩ := asP_nat h
        obtain ⟨h6, h7⟩ := need_nat h5
        exact ⟨_, _, _, fun k' => by simp only [indexAddrK, h1, h2, h3, h4, h6], h7⟩
      · cases h
    · cases h
  · cases h
theorem indexK_nat {T : TypeId} {x i : V} (h : indexK P l k T x i = some r) : Nat3 (fun k' => indexK P l k' T x i) k r := by
  unfold indexK at h
  split at h
  · rename_i h1 h2
    split at h
    · rename_i h3
      split at h
      · obtain ⟨h6, h7⟩ := need_nat h
        obtain ⟨v, h8, h9⟩ := ldC_nat h7
        exact ⟨_, _, _, fun k' => by simp only [indexK, h1, h2, h3, h6, h8], h9⟩
      · cases h
    · cases h
  · rename_i h1 h2
    split at h
    · obtain ⟨s, h3, h4⟩ := asS_nat h
      obtain ⟨h6, h7⟩ := need_nat h4
      exact ⟨_, _, _, fun k' => by simp only [indexK, h1, h2, h3, h6], h7⟩
    · cases h
  · cases h
theorem extractK_nat {i : Nat} {x : V} (h : extractK l k i x = some r) : Nat3 (fun k' => extractK l k' i x) k r := by
  unfold extractK at h
  split at h
  · split at h
    · exact ⟨_, _, _, fun k' => rfl, h⟩
    · exact ⟨_, _, _, fun k' => rfl, h⟩
    · cases h
  · split at h
    · exact ⟨_, _, _, fun k' => rfl, h⟩
    · cases h
  · split at h
    · rename_i h1; exact ⟨_, _, _, fun k' => by simp only [extractK, h1], h⟩
    · cases h
  · cases h
theorem capK_nat {T : TypeId} {x : V} (h : capK P l k T x = some r) : Nat3 (fun k' => capK P l k' T x) k r := by
  unfold capK at h
  split at h
  · rename_i hT
    exact ⟨_, _, _, fun k' => by simp only [capK, hT], h⟩
  · cases h
theorem lenK_nat {T : TypeId} {x : V} (h : lenK P l k T x = some r) : Nat3 (fun k' => lenK P l k' T x) k r := by
  unfold lenK at h
  split at h
  · rename_i hT
    obtain ⟨n, cs, h1, h2⟩ := asSl_nat h
    exact ⟨_, _, _, fun k' => by simp only [lenK, hT, h1], h2⟩
  · rename_i hT
    obtain ⟨s, h1, h2⟩ := asS_nat h
    exact ⟨_, _, _, fun k' => by simp only [lenK, hT, h1], h2⟩
  · rename_i hT
    split at h
    · rename_i hl; exact ⟨_, _, _, fun k' => by simp only [lenK, hT, hl], h⟩
    · cases h
  · rename_i hT
    split at h
    · rename_i hl; exact ⟨_, _, _, fun k' => by simp only [lenK, hT, hl], h⟩
    · rename_i hl; exact ⟨_, _, _, fun k' => by simp only [lenK, hT, hl], h⟩
    · cases h
  · rename_i hT
    split at h
    · exact ⟨_, _, _, fun k' => by simp only [lenK, hT], h⟩
    · cases h
  · rename_i hT
    obtain ⟨h6, h7⟩ := need_nat h
    exact ⟨_, _, _, fun k' => by simp only [lenK, hT, h6], h7⟩
  · rename_i x1 x2 n el hT
    refine ⟨_, _, _, fun k' => ?_, h⟩
    cases x1 <;> simp only [lenK, hT]
  · cases h
theorem makeFuncK_nat {strict : Bool} {f : FuncId} {xs : List V} (h : makeFuncK P l k strict f xs = some r) : Nat3 (fun k' => makeFuncK P l k' strict f xs) k r := by
  unfold makeFuncK at h
  obtain ⟨ps, l', h1, h2⟩ := purL_nat h
  obtain ⟨h3, h4⟩ := need_nat h2
  exact ⟨_, _, _, fun k' => by simp only [makeFuncK, h1, h3], h4⟩
theorem maxK_nat {lt : Bool} {xs : List V} (h : maxK l k lt xs = some r) : Nat3 (fun k' => maxK l k' lt xs) k r := by
  unfold maxK at h
  split at h
  · obtain ⟨v, h1, h2⟩ := foldMax_nat h
    exact ⟨_, _, _, fun k' => by simp only [maxK, h1], h2⟩
  · cases h
theorem appendK_nat {cf : Cfg} {T : TypeId} {s x : V} {d : Nat} (h : appendK cf T s x d l k = some r) : Nat3 (fun k' => appendK cf T s x d l k') k r := by
  unfold appendK at h
  split at h
  · rename_i hT
    split at h
    · rename_i hi hz
      obtain ⟨m, cs, h1, h2⟩ := newsK_nat h
      split at h2
      · obtain ⟨h3, h4⟩ := need_nat h2
        exact ⟨_, _, _, fun k' => by simp only [appendK, hT, hi, hz, h1, h3], h4⟩
      · split at h2
        · rename_i hl
          obtain ⟨h3, h4⟩ := need_nat h2
          exact ⟨_, _, _, fun k' => by simp only [appendK, hT, hi, hz, h1, hl, h3], h4⟩
        · rename_i hl
          obtain ⟨h3, h4⟩ := need_nat h2
          exact ⟨_, _, _, fun k' => by simp only [appendK, hT, hi, hz, h1, hl, h3], h4⟩
        · cases h2
      · obtain ⟨n1, olds, h3, h4⟩ := newsK_nat h2
        split at h4
        · rename_i ho
          obtain ⟨h5, h6⟩ := need_nat h4
          exact ⟨_, _, _, fun k' => by simp only [appendK, hT, hi, hz, h1, h3, ho, h5], h6⟩
        · rename_i ho
          obtain ⟨h5, h6⟩ := need_nat h4
          exact ⟨_, _, _, fun k' => by simp only [appendK, hT, hi, hz, h1, h3, ho, h5], h6⟩
      · cases h2
    · cases h
  · cases h
theorem slice3K_nat {strict : Bool} {t : TypeId} {x : V} {lo hi m : Option V} (h : slice3K P l k strict t x lo hi m = some r) : Nat3 (fun k' => slice3K P l k' strict t x lo hi m) k r := by
  unfold slice3K at h
  split at h
  · rename_i hT
    split at h
    · rename_i h1 h2 h3
      obtain ⟨h4, h5⟩ := need_nat h
      obtain ⟨cs, l', h6, h7⟩ := pur_nat h5
      split at h7
      · obtain ⟨n, cs', h8, h9⟩ := asSl_nat h7
        obtain ⟨h10, h11⟩ := need_nat h9
        exact ⟨_, _, _, fun k' => by simp only [slice3K, hT, h1, h2, h3, h4, h6, h8, h10], h11⟩
      · cases h7
    · cases h
  · cases h
theorem appMakeK_nat {P : Program} {T T' : TypeId} {s x : V} {d : Nat} (h : appMakeK P l k T T' s x d = some r) : Nat3 (fun k' => appMakeK P l k' T T' s x d) k r := by
  unfold appMakeK at h
  split at h
  · rename_i h1 h2 h3
    split at h
    · rename_i h4 h5
      obtain ⟨h6, h7⟩ := need_nat h
      exact ⟨_, _, _, fun k' => by simp only [appMakeK, h1, h2, h3, h4, h5, h6], h7⟩
    · cases h
  · cases h
theorem takeK_nat {m d : Nat} {xo : List (Option TypeId)} {ty : TypeId} {v : V} {os : List Obj} {l : Loc} (h : takeK P m d xo ty v os l k = some r) : Nat3 (fun k' => takeK P m d xo ty v os l k') k r := by
  unfold takeK at h
  split at h
  · rename_i ts hts
    unfold rT at h
    split at h
    · obtain ⟨ys, l2, ks, h1, h2⟩ := takeL_nat h
      exact ⟨_, _, _, fun k' => by simp only [takeK, hts, rT, h1], h2⟩
    · cases h
  · rename_i hne
    split at h
    · rename_i cts h0
      obtain ⟨zs, rfl, h⟩ := rG_eq h
      obtain ⟨zs, l2, ks, h1, h2⟩ := takeM_nat h
      refine ⟨_, _, _, fun k' => ?_, h2⟩
      simp only [takeK, h0, rG]
      exact h1 _
    · rename_i hno
      obtain ⟨y, i2, os2, l2, ks, h1, h2⟩ := take1_nat h
      refine ⟨_, _, _, fun k' => ?_, h2⟩
      simp only [takeK, hno]
      exact h1 _
theorem callK_nat {cf : Cfg} {strict : Bool} {hd : List Nat} {xo : List (Option TypeId)} {f : FuncId} {xs : List V} {ty : TypeId} {dst : Option Nat} (h : callK cf strict hd xo f xs ty dst l k = some r) : Nat3 (fun k' => callK cf strict hd xo f xs ty dst l k') k r := by
  unfold callK at h
  obtain ⟨ys, l1, ss, h1, h2⟩ := marsh_nat h
  obtain ⟨h3, h4⟩ := need_nat h2
  rw [Option.bind_eq_some_iff] at h4
  obtain ⟨out, h5, h6⟩ := h4
  obtain ⟨ro, l2, h7, h8⟩ := backK_nat h6
  split at h8
  · obtain ⟨x, l3, ks, h9, h10⟩ := takeK_nat h8
    exact ⟨x, l3, ks, fun k' => by simp only [callK, h1, h3, h5, Option.bind_some, h7]; exact h9 k', h10⟩
  · rename_i hne
    obtain ⟨v, h9, h10⟩ := retK_nat h8
    refine ⟨_, _, _, fun k' => ?_, h10⟩
    simp only [callK, h1, h3, h5, Option.bind_some, h7]
    exact h9 _
theorem yieldK_nat {P : Program} {strict : Bool} {n : Nat} {xs : List V} (h : yieldK P strict n xs l k = some r) : Nat3 (fun k' => yieldK P strict n xs l k') k r := by
  unfold yieldK at h
  split at h
  · cases h
  obtain ⟨ys, l1, ss, h1, h2⟩ := marsh_nat h
  cases ss with
  | cons s ss => cases h2
  | nil =>
    cases hlog : l1.log with
    | none => rw [hlog] at h2; cases h2
    | some lg =>
      rw [hlog] at h2
      obtain ⟨h3, h4⟩ := need_nat h2
      cases hrest : lg.rest with
      | nil => rw [hrest] at h4; cases h4
      | cons x rest =>
        rw [hrest] at h4
        dsimp only at h4
        obtain ⟨h5, h6⟩ := need_nat h4
        exact ⟨_, _, _, fun k' => by simp only [yieldK, h1, hlog, h3, hrest, h5], h6⟩
theorem opK_nat {cf : Cfg} {strict : Bool} {o : Oper} {e : Operand → V} (h : opK cf strict o e l k = some r) : Nat3 (fun k' => opK cf strict o e l k') k r := by
  unfold opK at h
  have fin : ∀ {F : {S : Type} → (V → Loc → List Nat → Option S) → Option S}, Nat3 F k r → (∀ {S : Type} (k' : V → Loc → List Nat → Option S), opK cf strict o e l k' = F k') → Nat3 (fun k' => opK cf strict o e l k') k r := by
    intro F hF he
    obtain ⟨x, l', ks, h1, h2⟩ := hF
    exact ⟨x, l', ks, fun k' => by simp only [he, h1], h2⟩
  split at h
  case h_1 x ho => exact ⟨_, _, _, fun k' => by simp only [opK, ho], h⟩
  case h_2 x ho => exact ⟨_, _, _, fun k' => by simp only [opK, ho], h⟩
  case h_3 c a b ho => exact fin (pickK_nat h) fun k' => by simp only [opK, ho]
  case h_4 t ho =>
    split at h
    case h_2 => cases h
    case h_1 d hd => exact ⟨_, _, _, fun k' => by simp only [opK, ho, hd], h⟩
  case h_5 t x ho =>
    split at h
    case h_2 => cases h
    case h_1 d hd => exact fin (boxK_nat h) fun k' => by simp only [opK, ho, hd]
  case h_6 t parts ho =>
    split at h
    · rename_i hm
      split at h
      · exact fin (buildMx_nat h) fun k' => by simp only [opK, ho, hm]
      · cases h
    · rename_i hm
      exact fin (buildK_nat h) fun k' => by simp only [opK, ho, hm]
  case h_7 t n parts ho =>
    split at h
    case h_2 => cases h
    case h_1 d hd => exact fin (buildSliceD_nat h) fun k' => by simp only [opK, ho, hd]
  case h_8 t a ho => exact fin (loadD_nat h) fun k' => by simp only [opK, ho]
  case h_9 t a x ho => exact fin (storeK_nat h) fun k' => by simp only [opK, ho]
  case h_10 x ho => exact fin (nilK_nat h) fun k' => by simp only [opK, ho]
  case h_11 op t x y yt ho =>
    obtain ⟨v, h1, h2⟩ := binV_nat h
    exact ⟨_, _, _, fun k' => by simp only [opK, ho, h1], h2⟩
  case h_12 op t x ho =>
    obtain ⟨v, h1, h2⟩ := unV_nat h
    exact ⟨_, _, _, fun k' => by simp only [opK, ho, h1], h2⟩
  case h_13 src dst x ho =>
    obtain ⟨v, h1, h2⟩ := convV_nat h
    exact ⟨_, _, _, fun k' => by simp only [opK, ho, h1], h2⟩
  case h_14 fn first cap ho =>
    split at h
    case h_2 => cases h
    case h_1 f hf =>
      obtain ⟨h1, h2⟩ := need_nat h
      exact fin (makeFuncK_nat h2) fun k' => by simp only [opK, ho, hf, h1]
  case h_15 t q ho =>
    split at h
    case h_2 => cases h
    case h_1 d hd => exact fin (makeMapK_nat h) fun k' => by simp only [opK, ho, hd]
  case h_16 t x i ok ho =>
    split at h
    case h_2 =>
      obtain ⟨x', h1, h2⟩ := lookupC_nat h
      exact ⟨_, _, _, fun k' => by simp only [opK, ho]; exact h1 l k', h2⟩
    case h_1 => exact fin (lookupK_nat h) fun k' => by simp only [opK, ho]
  case h_17 t x i v ho =>
    split at h
    case h_2 => cases h
    case h_1 => exact fin (mapUpdateK_nat h) fun k' => by simp only [opK, ho]
  case h_18 t n c ho =>
    split at h
    case h_2 => cases h
    case h_1 d hd => exact fin (makeSliceK_nat h) fun k' => by simp only [opK, ho, hd]
  case h_19 t x lo hi mx ho =>
    split at h
    · split at h
      · exact fin (slice3K_nat h) fun k' => by simp only [opK, ho]
      · cases h
    · exact fin (sliceK_nat h) fun k' => by simp only [opK, ho]
  case h_20 T x f ho => exact fin (fieldAddrK_nat h) fun k' => by simp only [opK, ho]
  case h_21 T x f ho => exact fin (fieldK_nat h) fun k' => by simp only [opK, ho]
  case h_22 T x i ho => exact fin (indexAddrK_nat h) fun k' => by simp only [opK, ho]
  case h_23 T x i ho => exact fin (indexK_nat h) fun k' => by simp only [opK, ho]
  case h_24 x i ho => exact fin (extractK_nat h) fun k' => by simp only [opK, ho]
  case h_25 c ho =>
    split at h
    case h_1 hc =>
      split at h
      case h_2 => cases h
      case h_1 x T ha hT => exact fin (lenK_nat h) fun k' => by simp only [opK, ho, hc, ha, hT]
    case h_2 hc =>
      split at h
      case h_2 => cases h
      case h_1 d s x T T' hd ha hT =>
        cases hb : Nat.beq T T' with
        | false => rw [hb] at h; exact fin (appMakeK_nat h) fun k' => by simp only [opK, ho, hc, hd, ha, hT, hb, cond_false]
        | true => rw [hb] at h; exact fin (appendK_nat h) fun k' => by simp only [opK, ho, hc, hd, ha, hT, hb, cond_true]
    case h_3 hc =>
      split at h
      case h_2 => cases h
      case h_1 x T ha hT => exact fin (capK_nat h) fun k' => by simp only [opK, ho, hc, ha, hT]
    case h_4 hc => exact fin (maxK_nat h) fun k' => by simp only [opK, ho, hc]
    case h_5 hc => exact fin (maxK_nat h) fun k' => by simp only [opK, ho, hc]
    case h_6 => cases h
    case h_7 => cases h
    case h_8 f hc =>
      split at h
      case h_1 f' => exact fin (callK_nat h) fun k' => by simp only [opK, ho, hc]
      case h_2 hne =>
        split at h
        case h_2 => cases h
        case h_1 c' hx =>
          unfold asYF at h
          split at h
          · refine fin (callK_nat h) fun k' => ?_
            cases f with
            | func f'' => exact absurd rfl (hne f'')
            | _ => simp only [opK, ho, hc, hx, asYF]
          · refine fin (yieldK_nat h) fun k' => ?_
            cases f with
            | func f'' => exact absurd rfl (hne f'')
            | _ => simp only [opK, ho, hc, hx, asYF]
          · cases h
  case h_26 t x i ho =>
    split at h
    case h_2 => cases h
    case h_1 d hd => exact fin (mapEntryK_nat h) fun k' => by simp only [opK, ho, hd]
  case h_27 t x i v ho =>
    split at h
    case h_2 => cases h
    case h_1 => exact fin (entryStoreK_nat h) fun k' => by simp only [opK, ho]
  case h_28 t x ho =>
    split at h
    case h_2 => cases h
    case h_1 d hd => exact fin (rangeD_nat h) fun k' => by simp only [opK, ho, hd]
  case h_29 x ho =>
    unfold entryK at h
    split at h
    case h_2 => cases h
    case h_1 t kv vv t' he =>
      obtain ⟨ht, hk⟩ := need_nat h
      split at hk
      · rename_i s n te
        split at hk
        · rename_i te' fz cs hst hls
          obtain ⟨h3, hk⟩ := need_nat hk
          exact ⟨_, _, _, fun k' => by simp only [opK, ho, entryK, he, ht, hls, h3], hk⟩
        · cases hk
      · rename_i hne
        exact ⟨_, _, _, fun k' => by simp only [opK, ho, entryK, he, ht], hk⟩
  case h_30 => cases h
end
end Go.PM
/- The pure machine: a region's operations, in the order of the text and in any order that its edges allow. -/
namespace Go.PM
open Go
variable {P : Program}
noncomputable def gop (cf : Cfg) (strict : Bool) (dsts : Nat → Option Nat) (o : Oper) (σ : St) : Option St :=
  match o.guard with
  | none => opK cf (cf.str strict o) o (σ.ev cf.glob) σ.loc fun x l ks => need (okKz (cf.stz strict o) ks && sepK cf strict o (σ.ev cf.glob)) (some (σ.after o.dst x l ks))
  | some (j, want) =>
    match dsts j with
    | none => none
    | some d =>
      match σ.get d with
      | .c (.v (.bool q)) => bif q == want then opK cf (cf.str strict o) o (σ.ev cf.glob) σ.loc (fun x l ks => need (okKz (cf.stz strict o) ks && sepK cf strict o (σ.ev cf.glob)) (some (σ.after o.dst x l ks))) else some (σ.after o.dst .un σ.loc [])
      | .un => some (σ.after o.dst .un σ.loc [])
      | _ => none
noncomputable def runG (cf : Cfg) (strict : Bool) (dsts : Nat → Option Nat) : List Oper → St → Option St
  | [], σ => some σ
  | o :: os, σ => (gop cf strict dsts o σ).bind (runG cf strict dsts os)
theorem set_get {l : Sl} {d : Nat} {x : V} (h : l.get d = x) (hx : x ≠ .und) : l.set d x = l := by
  by_cases hd : d < l.length
  · rw [Sl.get_lt hd] at h
    cases l with
    | mk f n =>
      simp only [Sl.set]
      congr 1
      funext t
      cases e : Nat.beq t d
      · rfl
      · rw [Nat.eq_of_beq_eq_true e]; exact h.symm
  · rw [Sl.get_ge hd] at h; exact absurd h.symm hx
theorem put_get {σ : St} {d : Nat} {x : V} (h : σ.get d = x) (hx : x ≠ .und) : σ.put (some d) x σ.loc = σ := by
  cases σ with
  | mk sl l => simp only [St.put]; rw [set_get h hx]
theorem opsK_ref {R : Type} {r : R} {cf : Cfg} {strict : Bool} {dsts : Nat → Option Nat} : ∀ {os : List Oper} {σ : St} {k : St → Option R} (_ : opsK cf strict dsts os σ k = some r), ∃ σ', runG cf strict dsts os σ = some σ' ∧ k σ' = some r
  | [], σ, k, h => ⟨σ, rfl, h⟩
  | o :: os, σ, k, h => by
    unfold opsK at h
    have step : ∀ {σ0 : St}, opK cf (cf.str strict o) o (σ0.ev cf.glob) σ0.loc (fun x l ks => need (okKz (cf.stz strict o) ks && sepK cf strict o (σ0.ev cf.glob)) (opsK cf strict dsts os (σ0.after o.dst x l ks) k)) = some r → ∃ σ1, opK cf (cf.str strict o) o (σ0.ev cf.glob) σ0.loc (fun x l ks => need (okKz (cf.stz strict o) ks && sepK cf strict o (σ0.ev cf.glob)) (some (σ0.after o.dst x l ks))) = some σ1 ∧ ∃ σ', runG cf strict dsts os σ1 = some σ' ∧ k σ' = some r := by
      intro σ0 h
      obtain ⟨x, l', ks, h1, h2⟩ := opK_nat h
      obtain ⟨h3, h4⟩ := need_some h2
      exact ⟨_, (h1 _).trans (by rw [h3]; rfl), opsK_ref h4⟩
    split at h
    · rename_i hg
      obtain ⟨σ1, h1, σ', h2, h3⟩ := step h
      exact ⟨σ', by simp only [runG, gop, hg, h1, Option.bind_some]; exact h2, h3⟩
    · rename_i j want hg
      split at h
      · cases h
      · rename_i d hd
        split at h
        · rename_i q hq
          have hb : ∀ b : Bool, σ.get d = B b → σ.put (some d) (B b) σ.loc = σ := fun b hb => put_get hb (by simp)
          have yes : q = want → opK cf (cf.str strict o) o (σ.ev cf.glob) σ.loc (fun x l ks => need (okKz (cf.stz strict o) ks && sepK cf strict o (σ.ev cf.glob)) (opsK cf strict dsts os (σ.after o.dst x l ks) k)) = some r → ∃ σ', runG cf strict dsts (o :: os) σ = some σ' ∧ k σ' = some r := by
            intro hqw h
            obtain ⟨σ1, h1, σ', h2, h3⟩ := step h
            refine ⟨σ', ?_, h3⟩
            have : (q == want) = true := by simp [hqw]
            simp only [runG, gop, hg, hd, hq, this, cond_true, h1, Option.bind_some]; exact h2
          have no : q ≠ want → opsK cf strict dsts os (σ.after o.dst .un σ.loc []) k = some r → ∃ σ', runG cf strict dsts (o :: os) σ = some σ' ∧ k σ' = some r := by
            intro hqw h
            obtain ⟨σ', h2, h3⟩ := opsK_ref h
            refine ⟨σ', ?_, h3⟩
            have : (q == want) = false := by simp [hqw]
            simp only [runG, gop, hg, hd, hq, this, cond_false, Option.bind_some]; exact h2
          cases want <;> cases q <;> simp only [cond_true, cond_false] at h
          · rw [hb false hq] at h; exact yes rfl h
          · rw [hb true hq] at h; exact no (by simp) h
          · rw [hb false hq] at h; exact no (by simp) h
          · rw [hb true hq] at h; exact yes rfl h
        · rename_i hq
          obtain ⟨σ', h2, h3⟩ := opsK_ref h
          exact ⟨σ', by simp only [runG, gop, hg, hd, hq, Option.bind_some]; exact h2, h3⟩
        · cases h
structure RelR (P : Program) (cf : Cfg) (A : Fr) (σ : St) (pend : Nat → Prop) (a : Act) (w : World) : Prop where
  ex : ∃ E, E.w = w ∧ Rel P A E σ pend a
theorem okKz_ok {strict : Bool} {ks : List Nat} (h : okKz strict ks = true) : okKs ks = true := (Bool.and_eq_true_iff.1 h).1
theorem okKz_nil {ks : List Nat} (h : okKz true ks = true) : ks = [] := by
  cases ks with
  | nil => rfl
  | cons s ks => have := (Bool.and_eq_true_iff.1 h).2; cases this
theorem rv_ev {A : Fr} {E : Env} {σ : St} {pend : Nat → Prop} {a : Act} {G : Nat → Option (List C)} (hgl : GlobOk G A.w0 A.Pr0) (h : Rel P A E σ pend a) (y : Operand) : RV P E σ.loc (σ.ev G y) (a.eval y) := by
  cases y with
  | tmp t =>
    by_cases ht : t < σ.slots.length
    · exact h.slots t ht
    · show RV P E σ.loc (σ.get t) _
      have : σ.get t = .und := Sl.get_ge ht
      rw [this]; exact .und
  | const x =>
    show RV P E σ.loc (constV x) x
    unfold constV
    split
    · rename_i cs
      split
      · rename_i l hl
        have := RV.agg (P := P) (E := E) (l := σ.loc) (us := cs.toList) (constCs_rc hl)
        simpa using this
      · exact .und
    · split
      · rename_i c hc; exact .c (constC_rc hc)
      · exact .und
  | global g =>
    show RV P E σ.loc (match G g with | some cs => .c (.cp cs) | none => .und) _
    cases hg : G g with
    | none => exact .und
    | some cs => exact .c ((hgl g cs hg).held h.good.pr0)
  | func f => exact .c (.fn (us := []) rfl (by simp))
theorem gh_at {s k : Nat} (h : s < OUT) : (V.gh (OUT + k)).at s = false := by
  show Nat.beq (OUT + k) s = false
  cases e : Nat.beq (OUT + k) s
  · rfl
  · have := Nat.eq_of_beq_eq_true e; omega
theorem rel_after {A : Fr} {E : Env} {σ : St} {pend pend' : Nat → Prop} {a : Act} (h : Rel P A E σ pend a) {x : V} {l' : Loc} {ks : List Nat} {u : Value} {w' : World} {dst : Option Nat} (htm : ∀ d, dst = some d → A.tm d = none) (hks : okKs ks = true) (hup : Up P A E σ.loc pend' x l' ks u w') :
    ∃ E', E'.w = w' ∧ Rel P A E' (σ.after dst x l' ks) pend' (a.put dst u) := by
  obtain ⟨E', h1, ⟨h2, h2d⟩, h3, h4⟩ := hup
  have hk : ∀ (ks : List Nat) (sl : Sl), (killAll ks sl).length = sl.length := by
    intro ks sl
    induction ks with
    | nil => rfl
    | cons s ks ih => simp only [killAll, List.foldr_cons, Sl.map_length]; exact ih
  have hkg : ∀ (ks : List Nat) (sl : Sl) (t : Nat) (v : Value), t < sl.length → RV P E σ.loc (sl.get t) v → ∃ y, (killAll ks sl).get t = y ∧ RV P E σ.loc y v ∧ ∀ s ∈ ks, y.at s = false := by
    intro ks sl t v ht hv
    induction ks with
    | nil => exact ⟨_, rfl, hv, by simp⟩
    | cons s ks ih =>
      obtain ⟨y, e, hy, hat⟩ := ih
      have hl : t < (killAll ks sl).length := by rw [hk]; exact ht
      refine ⟨y.kill s, ?_, hy.kill s, fun s' hs' => ?_⟩
      · show ((killAll ks sl).map (V.kill s)).get t = y.kill s
        rw [Sl.map_lt hl, e]
      · rcases List.mem_cons.1 hs' with rfl | hs'
        · exact at_kill s' y
        · unfold V.kill
          cases y.at s
          · exact hat s' hs'
          · cases y <;> rfl
  have hloc : (σ.after dst x l' ks).loc = l' := by cases dst <;> rfl
  refine ⟨E', h1, ?_, ?_, ?_, ?_, ?_, ?_, ?_⟩
  · rw [hloc]; exact h2
  · rw [hloc]
    intro t ht
    have hlen : t < σ.slots.length := by
      cases dst <;> simp [St.after, St.put, hk] at ht <;> exact ht
    have base : ∀ v, RV P E σ.loc (σ.get t) v → RV P E' l' ((killAll ks σ.slots).get t) v := by
      intro v hv
      obtain ⟨y, e, hy, hat⟩ := hkg ks σ.slots t v hlen hv
      rw [e]; exact h4 y v hy hat
    cases dst with
    | none => exact base _ (h.slots t hlen)
    | some d =>
      by_cases hd : d = t
      · subst hd
        have hkl : d < (killAll ks σ.slots).length := by rw [hk]; exact hlen
        have e1 : (σ.after (some d) x l' ks).get d = x := Sl.set_self hkl
        have hal : d < a.tmps.size := by rw [h.size]; exact hlen
        have e2 : (a.put (some d) u).tmps.getD d undef = u := by simp [Act.put, Array.getD, hal]
        rw [e1, e2]; exact h3
      · have e1 : (σ.after (some d) x l' ks).get t = (killAll ks σ.slots).get t := Sl.set_ne hd
        have e2 : (a.put (some d) u).tmps.getD t undef = a.tmps.getD t undef := by
          simp only [Act.put, Array.getD, Array.size_setIfInBounds]
          by_cases hlt : t < a.tmps.size
          · simp [hlt, Array.getElem_setIfInBounds_ne, hd]
          · simp [hlt]
        rw [e1, e2]; exact base _ (h.slots t hlen)
  · cases dst <;> simp [Act.put, St.after, St.put, hk, h.size]
  · rw [h2d]; cases dst <;> exact h.defers
  · intro t v hv
    have := h.tm t v hv
    cases dst with
    | none => exact this
    | some d =>
      have hd : d ≠ t := fun e => by subst e; rw [htm d rfl] at hv; cases hv
      have e2 : (a.put (some d) u).tmps.getD t undef = a.tmps.getD t undef := by
        simp only [Act.put, Array.getD, Array.size_setIfInBounds]
        by_cases hlt : t < a.tmps.size
        · simp [hlt, Array.getElem_setIfInBounds_ne, hd]
        · simp [hlt]
      rw [e2]; exact this
  · rw [← h.len]; cases dst <;> simp [St.after, St.put, hk]
  · intro k g n hk'
    rw [hloc]
    exact h4 _ _ (h.outs k g n hk') fun s hs => gh_at (Nat.le_of_ble_eq_true (List.all_eq_true.1 hks s hs))
end Go.PM
/- The pure machine: regions. -/
namespace Go.PM
open Go
variable {P : Program}
def EntR (P : Program) (A : Fr) (vv : V) (u : Value) : Prop :=
  match vv with
  | .ent s n te => s = OUT ∧ ∃ g cap size, A.outs 0 = some (g, size) ∧ u = .slice (some ⟨g, 0, none⟩) n cap ∧ n ≤ cap ∧ cap ≤ maxLen ∧ cap * szOf P te = size
  | v => RI A.w0 A.Pr0 v u
def EntOk (P : Program) (cf : Cfg) (A : Fr) : Prop :=
  ∀ t kv vv, cf.ent = some (t, kv, vv) → ∃ (r bm since clock : Nat) (seen : Array Nat) (ms : Array MapEntry) (e : MapEntry), A.tm t = some (.pointer (some ⟨r, 0, none⟩)) ∧ (∀ Y Pr lg w, A.jt.J Y Pr lg w → Held A.w0 A.Pr0 w Pr → w.heap[r]? = some (.mapIter (some bm) since (seen.push e.born) clock) ∧ mapAt w bm = some (ms, clock)) ∧
    e ∈ ms.toList ∧ (ms.toList.map (·.born)).Nodup ∧ RI A.w0 A.Pr0 kv e.key ∧ EntR P A vv e.val
theorem RI.held {w w' : World} {Pr Pr' : Nat → Nat → Prop} (hx : Held w Pr w' Pr') {v : V} {u : Value} (h : RI w Pr v u) : RI w' Pr' v u := by
  cases h with
  | c h => exact .c (h.held hx)
  | agg h => exact .agg (h.held hx)
theorem RI.rv {E : Env} {l : Loc} {v : V} {u : Value} (h : RI E.w E.Pr v u) : RV P E l v u := by
  cases h with
  | c h => exact .c h
  | agg h => exact .agg h
theorem EntR.run {A : Fr} {vv : V} {u : Value} (h : EntR P A vv u) {E : Env} {σ : St} {pend : Nat → Prop} {a : Act} (hr : Rel P A E σ pend a) : EntV P E σ.loc vv u := by
  unfold EntR at h
  unfold EntV
  split at h
  · rename_i s n te
    obtain ⟨rfl, g, cap, size, h1, rfl, h3, h4, h5⟩ := h
    intro fz cs hl
    have h6 := hr.outs 0 g size h1
    rw [Nat.add_zero] at h6
    generalize hv : ghv g size = v at h6
    cases h6 with
    | ghDead hd => rw [hl] at hd; cases hd
    | @gh _ g2 n2 h7 h8 =>
      simp only [ghv, Value.tuple.injEq] at hv
      simp at hv
      obtain ⟨e1, e2⟩ := hv
      have e1 : g = g2 := by omega
      have e2 : size = n2 := by omega
      subst e1 e2
      exact .own h7 (by rw [hl]; rfl) h3 h4 (by rw [h8, Nat.zero_add]; exact h5)
  · rename_i hne
    have := (h.held hr.good.pr0).rv (P := P) (l := σ.loc)
    cases vv <;> first | exact this | exact absurd rfl (hne _ _ _)
theorem EntOk.run {cf : Cfg} {A : Fr} (h : EntOk P cf A) {E : Env} {σ : St} {pend : Nat → Prop} {a : Act} (hr : Rel P A E σ pend a) : ∀ t kv vv, cf.ent = some (t, kv, vv) → ∃ ku vu, (Instr.entry (a.eval (.tmp t))).run P E.w = .ok (.tuple #[ku, vu]) E.w ∧ RV P E σ.loc kv ku ∧ EntV P E σ.loc vv vu := by
  intro t kv vv he
  obtain ⟨r, bm, since, clock, seen, ms, e, h1, h2, h5, h6, h7, h8⟩ := h t kv vv he
  have hx := hr.good.pr0
  have e1 : a.eval (.tmp t) = .pointer (some ⟨r, 0, none⟩) := hr.tm t _ h1
  have e2 := h2 _ _ _ _ hr.good.jf hx
  have e3 : E.w.heap[bm]? = some (.map ms clock) := mapAt_map.1 e2.2
  refine ⟨e.key, e.val, ?_, (h7.held hx).rv, h8.run hr⟩
  rw [e1]
  exact run_entry_at E.w r bm since seen ms clock e e2.1 e3 h5 h6
structure CfgOk (P : Program) (cf : Cfg) (A : Fr) : Prop where
  hP : cf.P = P
  con : ∀ f args objs out, cf.call f args objs = some out → ConAt P cf.glob f args objs out
  fn : ∀ f args objs out, cf.call f args objs = some out → ∃ fn, P.funcs[f]? = some fn ∧ fn.body ≠ none ∧ (fn.name == "runtime.NumGoroutine") = false
  mixed : P.follows .mixedOrders = true
  iter : ∀ f caps xs, cf.iter f caps = some xs → ∀ l go, ∃ out lg, cf.call f (.c (.yl l go xs) :: caps.map .c) [] = some out ∧ out.log = some lg ∧ (lg.st = true ∨ lg.rest = [])
  gl : GlobOk cf.glob A.w0 A.Pr0
  ent : EntOk P cf A
def FW (ro : Option Nat) : Fence := { Fence.wide with round := ro }
def doOp (ro : Option Nat) (P : Program) (o : Oper) (b : Bool) (a : Act) (w : World) (K : Act → World → Prop) (Q : Exit → Act → World → Prop) : Prop :=
  if b then o.wpIn (FW ro) 0 P a w K Q else (∀ f, o.about P w a.eval = some f → (FW ro).fn f) ∧ K (a.put o.dst undef) w
theorem gives_wp {ro : Option Nat} {o : Oper} {a : Act} {w : World} {Φ : Value → World → Prop} {K : Act → World → Prop} {Q : Exit → Act → World → Prop} (hnd : ∀ c, o.op ≠ .defer c)
    (h : Gives P ((execOp a.eval o).run P w) Φ) (hK : ∀ u w', Φ u w' → K (a.put o.dst u) w') : o.wpIn (FW ro) 0 P a w K Q := by
  unfold Oper.wpIn
  refine ⟨fun _ _ => trivial, ?_⟩
  rw [Oper.semAt_eq (FW ro).round a.eval o hnd]
  generalize (execOp a.eval o).run P w = r at h ⊢
  cases r with
  | ok n w' =>
    cases n with
    | value u => exact hK _ _ h
    | skip => exact hK _ _ h
    | enter f args =>
      have h1 : CallsIn (FW ro) 0 P f args w' (fun e w'' => ∃ u, e = .returned u ∧ Φ u w'') := callsIn_wide.2 h
      refine ⟨fun e => (by cases e), CallsIn.mono h1 fun e w'' he => ?_⟩
      obtain ⟨u, rfl, hu⟩ := he
      exact hK _ _ hu
    | round l f tmps assign body =>
      have h1 : RoundIn (FW ro) 0 P l f tmps assign body w' (fun e w'' => ∃ u, e = .returned u ∧ Φ u w'') := h
      refine ⟨fun e => (by cases e), RoundIn.mono h1 fun e w'' he => ?_⟩
      obtain ⟨u, rfl, hu⟩ := he
      exact hK _ _ hu
    | _ => exact h.elim
  | halt x w' => exact h.elim
theorem opK_nodefer {cf : Cfg} {strict : Bool} {o : Oper} {e : Operand → V} {l : Loc} {R : Type} {k : V → Loc → List Nat → Option R} {r : R} (h : opK cf strict o e l k = some r) (c : Call) : o.op ≠ .defer c := by
  intro ho
  unfold opK at h
  rw [ho] at h
  cases h
section
variable {cf : Cfg} {strict : Bool} {ops : Array Oper} {A : Fr} {Q : Exit → Act → World → Prop}
structure Fixed (A : Fr) (ops : Array Oper) : Prop where
  pt : ∀ (i : Nat) (o : Oper) (t : TypeId) (d : Nat), ops[i]? = some o → o.op = .alloc t → o.dst = some d → A.pt d = t
  gd : ∀ (i : Nat) (o : Oper), ops[i]? = some o → isAlloc o = true → o.guard = none
theorem gop_step {ro : Option Nat} (hc : CfgOk P cf A) {o : Oper} (hgd : isAlloc o = true → o.guard = none) (hpt : ∀ t d, o.op = .alloc t → o.dst = some d → A.pt d = t) {E : Env} {σ : St} {pend : Nat → Prop} {a : Act} (h : Rel P A E σ pend a)
    (htm : ∀ d, o.dst = some d → A.tm d = none) (hal : isAlloc o = true → ∀ d, o.dst = some d → pend d) (hnd : isAlloc o = false → ∀ d, o.dst = some d → ¬ pend d) {σ1 : St}
    (hg : gop cf strict (fun j => (ops[j]?).bind (·.dst)) o σ = some σ1) {K : Act → World → Prop} (hK : ∀ E' a', Rel P A E' σ1 (pendAfter pend o) a' → K a' E'.w) :
    doOp ro P o (Region.wanted o (yielded ops a.tmps)) a E.w K Q := by
  have run : Region.wanted o (yielded ops a.tmps) = true → opK cf (cf.str strict o) o (σ.ev cf.glob) σ.loc (fun x l ks => need (okKz (cf.stz strict o) ks && sepK cf strict o (σ.ev cf.glob)) (some (σ.after o.dst x l ks))) = some σ1 → doOp ro P o (Region.wanted o (yielded ops a.tmps)) a E.w K Q := by
    intro hw hk
    unfold doOp
    rw [if_pos hw]
    obtain ⟨x, l', ks, h1, h2⟩ := opK_sound (P := P) (ρ := a.eval) h.good hc.hP hc.con (hc.gl.held h.good.pr0) hc.fn (fun y _ => rv_ev hc.gl h y) (fun f => rfl)
      (fun t d ho hd => ⟨hal (by simp [isAlloc, ho]) d hd, hpt t d ho hd⟩) hnd (hc.ent.run h) hk
    refine gives_wp (opK_nodefer hk) h2 fun u w' hu => ?_
    obtain ⟨hks, h1⟩ := need_some h1
    obtain ⟨E', e1, h3⟩ := rel_after (dst := o.dst) h htm (okKz_ok (Bool.and_eq_true_iff.1 hks).1) hu
    injection h1 with h1
    rw [h1] at h3
    rw [← e1]; exact hK E' _ h3
  have idle : isAlloc o = false → Region.wanted o (yielded ops a.tmps) = false → some (σ.after o.dst .un σ.loc []) = some σ1 → doOp ro P o (Region.wanted o (yielded ops a.tmps)) a E.w K Q := by
    intro hna hw hk
    unfold doOp
    rw [if_neg (by simp [hw])]
    refine ⟨fun _ _ => trivial, ?_⟩
    obtain ⟨E', e1, h3⟩ := rel_after (dst := o.dst) (x := .un) (l' := σ.loc) (ks := []) (u := undef) (w' := E.w) (pend' := pend) h htm rfl ⟨E, rfl, ⟨h.good, rfl⟩, .un, fun _ _ h _ => h⟩
    injection hk with hk
    rw [hk] at h3
    rw [← e1]
    refine hK E' _ ?_
    rw [pendAfter_eq hna]; exact h3
  unfold gop at hg
  split at hg
  · rename_i hn
    exact run (by simp [Region.wanted, hn]) hg
  · rename_i j want hj
    have hna : isAlloc o = false := by
      cases e : isAlloc o
      · rfl
      · rw [hgd e] at hj; cases hj
    split at hg
    · cases hg
    · rename_i d hd
      have hd' : (ops[j]?).bind (·.dst) = some d := hd
      have hr := rv_ev hc.gl h (.tmp d)
      split at hg
      · rename_i q hq
        have hv : a.tmps.getD d undef = .bool q := by
          have : RV P E σ.loc (σ.get d) (a.tmps.getD d undef) := hr
          rw [hq] at this
          generalize a.tmps.getD d undef = u at this ⊢
          cases this with
          | c h => cases h; rfl
        have hy : yielded ops a.tmps j = some q := by
          unfold yielded
          rw [hd']
          by_cases hlt : d < a.tmps.size
          · have e : a.tmps[d] = .bool q := by simpa [Array.getD, hlt] using hv
            simp [hlt, e]
          · simp [Array.getD, hlt, undef] at hv
        cases hb : (q == want)
        · rw [hb] at hg
          refine idle hna ?_ hg
          unfold Region.wanted
          rw [hj]
          simp only [hy]
          simpa using hb
        · rw [hb] at hg
          refine run ?_ hg
          unfold Region.wanted
          rw [hj]
          simp only [hy]
          simpa using hb
      · rename_i hq
        have hv : a.tmps.getD d undef = undef := by
          have : RV P E σ.loc (σ.get d) (a.tmps.getD d undef) := hr
          rw [hq] at this
          generalize a.tmps.getD d undef = u at this ⊢
          cases this; rfl
        have hy : yielded ops a.tmps j = none := by
          unfold yielded
          rw [hd']
          by_cases hlt : d < a.tmps.size
          · have e : a.tmps[d] = undef := by simpa [Array.getD, hlt] using hv
            simp [hlt, e, undef]
          · simp [hlt]
        refine idle hna ?_ hg
        unfold Region.wanted
        rw [hj]
        simp [hy]
      · cases hg
theorem Good.pend {E : Env} {l : Loc} {pend : Nat → Prop} (h : Good P A E l pend) {d : Nat} {t : TypeId} {cs : List C} (hd : l d = .dead) (hp : ¬ pend d) (ht : A.pt d = t) (hz : zeroCs P t = some cs)
    (href : ∀ s', ∀ x ∈ (l s').refs, x.at d = false) : Good P A E (l.put d (.ob t 0 cs)) (fun s => pend s ∨ s = d) := by
  have hr : E.rho d = none := by
    have := h.obj d hp
    rw [hd] at this
    cases this; assumption
  refine ⟨fun s hs => ?_, fun s hs => ?_, h.inj, h.base, fun b k hb => ⟨(h.prot b k hb).1, fun s hs => ?_⟩, h.jf, h.pr0, h.prN, h.size, h.os, h.tape, h.output, h.dr, h.yok, h.yown, h.ylt, h.dm, h.rbo⟩
  · have hne : s ≠ d := fun e => hs (.inr e)
    rw [put_other _ _ hne]
    refine (h.obj s fun e => hs (.inl e)).keep (.refl _ _) rfl rfl (fun _ _ => rfl) fun x u hm hv => ?_
    refine hv.mono (fun s => s = d) (.refl _ _) (fun s' hne' => ?_) (fun s' e => by subst e; exact href s x hm)
    by_cases hd' : l s' = .dead
    · exact .inl (by rw [put_other _ _ hne']; exact hd')
    · exact .inr ⟨hd', rfl, rfl, .same (put_other _ _ hne')⟩
  · by_cases e : s = d
    · subst e; exact ⟨hr, cs, by rw [ht]; exact hz, by rw [put_same, ht]⟩
    · rw [put_other _ _ e]; exact h.pnd s (hs.resolve_right e)
  · have hne : s ≠ d := fun e => by rw [e, hr] at hs; cases hs
    rw [put_other _ _ hne]; exact (h.prot b k hb).2 s hs
theorem any_beq {d : Nat} {l : List Nat} : l.any (Nat.beq d) = true ↔ d ∈ l := by
  rw [List.any_eq_true]
  constructor
  · rintro ⟨x, hx, e⟩; rw [Nat.eq_of_beq_eq_true e]; exact hx
  · exact fun h => ⟨d, h, Nat.beq_refl d⟩
theorem allocDsts_cons (o : Oper) (os : List Oper) : allocDsts (o :: os) = (match allocDst o with | some d => d :: allocDsts os | none => allocDsts os) := by
  simp only [allocDsts, List.filterMap_cons]
  cases allocDst o <;> rfl
theorem allocs_sound : ∀ (os : List Oper) {E : Env} {σ : St} {pend : Nat → Prop} {a : Act} {σ1 : St} (_ : Rel P A E σ pend a) (_ : ∀ d ∈ allocDsts os, ¬ pend d) (_ : nodupB (allocDsts os) = true)
    (_ : ∀ o ∈ os, ∀ t d, o.op = .alloc t → o.dst = some d → A.pt d = t) (_ : allocs P os σ = some σ1),
    ∃ E', E'.w = E.w ∧ Rel P A E' σ1 (fun s => pend s ∨ s ∈ allocDsts os) a ∧ ∀ o ∈ os, isAlloc o = true → o.guard = none
  | [], E, σ, pend, a, σ1, h, _, _, _, hk => by
    injection hk with hk
    subst hk
    refine ⟨E, rfl, ?_, by simp⟩
    have : (fun s => pend s ∨ s ∈ allocDsts []) = pend := by funext s; simp [allocDsts]
    rw [this]; exact h
  | o :: os, E, σ, pend, a, σ1, h, hp, hn, hpt, hk => by
    rw [allocDsts_cons] at hp hn ⊢
    unfold allocs at hk
    split at hk
    case h_1 t d ho hd hgd =>
      have e1 : allocDst o = some d := by simp [allocDst, isAlloc, ho, hd]
      rw [e1] at hp hn ⊢
      simp only [nodupB, Bool.and_eq_true, Bool.not_eq_true'] at hn
      have hnd : d ∉ allocDsts os := fun e => by have := any_beq.2 e; rw [hn.1] at this; cases this
      split at hk
      case h_2 => cases hk
      case h_1 zs hz =>
        obtain ⟨hlt, hk⟩ := need_some hk
        have hlt : d < OUT := Nat.le_of_ble_eq_true hlt
        have hG := h.good.kill (hp d (by simp))
        have hG2 := hG.pend (d := d) (t := t) (cs := zs) (by simp [Loc.kill]) (hp d (by simp)) (hpt o (by simp) t d ho hd) hz (kill_ref d σ.loc)
        have h2 : Rel P A (E.kill σ.loc d) ⟨σ.slots.map (V.kill d), (σ.loc.kill d).put d (.ob t 0 zs)⟩ (fun s => pend s ∨ s = d) a := by
          refine ⟨hG2, fun t' ht' => ?_, by rw [h.size]; simp, h.defers, h.tm, by rw [← h.len]; simp, fun k g n hk' => ?_⟩
          · have hlt : t' < σ.slots.length := by simpa using ht'
            have e : St.get ⟨σ.slots.map (V.kill d), (σ.loc.kill d).put d (.ob t 0 zs)⟩ t' = (σ.get t').kill d := Sl.map_lt hlt
            rw [e]
            have r1 : RV P (E.kill σ.loc d) (σ.loc.kill d) ((σ.get t').kill d) (a.tmps.getD t' undef) := RV.mono0 (E := E) (l := σ.loc) (E' := E.kill σ.loc d) (l' := σ.loc.kill d) (.refl _ _) (fun s => .kill E σ.loc d s) ((h.slots t' hlt).kill d)
            refine r1.mono (fun s => s = d) (.refl _ _) (fun s' hne' => ?_) (fun s' e => by subst e; exact at_kill _ _)
            by_cases hd' : σ.loc.kill d s' = .dead
            · exact .inl (by simp only; rw [put_other _ _ hne']; exact hd')
            · exact .inr ⟨hd', rfl, rfl, .same (put_other _ _ hne')⟩
          · have r1 : RV P (E.kill σ.loc d) (σ.loc.kill d) (.gh (OUT + k)) (ghv g n) := RV.mono0 (E := E) (l := σ.loc) (E' := E.kill σ.loc d) (l' := σ.loc.kill d) (.refl _ _) (fun s => .kill E σ.loc d s) (h.outs k g n hk')
            refine r1.mono (fun s => s = d) (.refl _ _) (fun s' hne' => ?_) (fun s' e => by subst e; exact gh_at hlt)
            by_cases hd' : σ.loc.kill d s' = .dead
            · exact .inl (by simp only; rw [put_other _ _ hne']; exact hd')
            · exact .inr ⟨hd', rfl, rfl, .same (put_other _ _ hne')⟩
        obtain ⟨E', g1, g2, g3⟩ := allocs_sound os h2 (fun d' hd' e => by
          rcases e with e | e
          · exact hp d' (List.mem_cons_of_mem _ hd') e
          · subst e; exact hnd hd') hn.2 (fun o ho => hpt o (List.mem_cons_of_mem _ ho)) hk
        refine ⟨E', g1, ?_, fun o' ho' hi' => ?_⟩
        · have : (fun s => pend s ∨ s ∈ d :: allocDsts os) = (fun s => (pend s ∨ s = d) ∨ s ∈ allocDsts os) := by funext s; simp [or_assoc]
          rw [this]; exact g2
        · rcases List.mem_cons.1 ho' with rfl | ho'
          · exact hgd
          · exact g3 o' ho' hi'
    case h_2 => cases hk
    case h_3 hne1 hne2 =>
      have hna : isAlloc o = false := by
        unfold isAlloc
        split
        · rename_i t ho; exact (hne1 t ho).elim
        · rfl
      have e1 : allocDst o = none := by simp [allocDst, hna]
      rw [e1] at hp hn ⊢
      obtain ⟨E', g1, g2, g3⟩ := allocs_sound os h hp hn (fun o ho => hpt o (List.mem_cons_of_mem _ ho)) hk
      refine ⟨E', g1, g2, fun o' ho' hi' => ?_⟩
      rcases List.mem_cons.1 ho' with rfl | ho'
      · rw [hna] at hi'; cases hi'
      · exact g3 o' ho' hi'
end
end Go.PM
/- The pure machine: what an operation of a drawn region may change, and what it looks at. -/
namespace Go.PM
open Go
variable {P : Program} {R : Type} {r : R}
theorem pur_strict {x : V} {l : Loc} {k : List C → Loc → Option R} (h : pur P true x l k = some r) : ∃ cs, (∀ {S : Type} (l2 : Loc) (k' : List C → Loc → Option S), pur P true x l2 k' = k' cs l2) ∧ k cs l = some r := by
  cases x with
  | c c => exact ⟨_, fun l2 k' => rfl, h⟩
  | agg cs => exact ⟨_, fun l2 k' => rfl, h⟩
  | ptr s off =>
    unfold pur at h
    simp only at h
    split at h
    · cases h
    · simp [pur0] at h
  | _ => simp [pur, pur0] at h
theorem purL_strict : ∀ {xs : List V} {l : Loc} {k : List (List C) → Loc → Option R} (_ : purL P true xs l k = some r), ∃ ps, (∀ {S : Type} (l2 : Loc) (k' : List (List C) → Loc → Option S), purL P true xs l2 k' = k' ps l2) ∧ k ps l = some r
  | [], l, k, h => ⟨[], fun l2 k' => rfl, h⟩
  | x :: xs, l, k, h => by
    obtain ⟨cs, h1, h2⟩ := pur_strict (show pur P true x l (fun cs l1 => purL P true xs l1 fun ps l2 => k (cs :: ps) l2) = some r from h)
    obtain ⟨ps, h3, h4⟩ := purL_strict h2
    exact ⟨cs :: ps, fun l2 k' => by simp only [purL, h1, h3], h4⟩
theorem hand1_strict (hd : List Nat) : hand1 true hd = false := by cases hd <;> rfl
theorem marsh_strict : ∀ {hd : List Nat} {xs : List V} {l : Loc} {ss : List Nat} {k : List V → Loc → List Nat → Option R} (_ : marsh P true hd xs l ss k = some r),
    ∃ ys, (∀ {S : Type} (l2 : Loc) (k' : List V → Loc → List Nat → Option S), marsh P true hd xs l2 ss k' = k' ys l2 ss) ∧ k ys l ss = some r
  | hd, [], l, ss, k, h => ⟨[], fun l2 k' => by simp [marsh], by simpa [marsh] using h⟩
  | hd, x :: xs, l, ss, k, h => by
    unfold marsh at h
    split at h
    · obtain ⟨ys, h1, h2⟩ := marsh_strict h
      exact ⟨_, fun l2 k' => by simp only [marsh, h1], h2⟩
    · obtain ⟨ys, h1, h2⟩ := marsh_strict h
      exact ⟨_, fun l2 k' => by simp only [marsh, h1], h2⟩
    · simp [pur, pur0, hand1_strict] at h
    · cases h
    · cases h
def EffQ {R : Type} (F : {S : Type} → Loc → (V → Loc → List Nat → Option S) → Option S) (l : Loc) (k : V → Loc → List Nat → Option R) (r : R) : Prop :=
  ∃ x, (∀ {S : Type} (l2 : Loc) (k' : V → Loc → List Nat → Option S), F l2 k' = k' x l2 []) ∧ k x l [] = some r
def EffR {R : Type} (F : {S : Type} → (V → Loc → List Nat → Option S) → Option S) (l : Loc) (k : V → Loc → List Nat → Option R) (r : R) : Prop :=
  ∃ x, (∀ {S : Type} (k' : V → Loc → List Nat → Option S), F k' = k' x l []) ∧ k x l [] = some r
def EffW {R : Type} (F : {S : Type} → (V → Loc → List Nat → Option S) → Option S) (k : V → Loc → List Nat → Option R) (r : R) : Prop :=
  ∃ x l', (∀ {S : Type} (k' : V → Loc → List Nat → Option S), F k' = k' x l' []) ∧ k x l' [] = some r
section
variable {l : Loc} {k : V → Loc → List Nat → Option R}
theorem pickK_eff {c a b : V} (h : pickK l k c a b = some r) : EffQ (fun l k' => pickK l k' c a b) l k r := by
  unfold pickK at h
  split at h
  · exact ⟨_, fun l2 k' => rfl, h⟩
  · cases h
theorem boxK_eff {own : Bool} {t : TypeId} {d : Nat} {x : V} (h : boxK P l k true own t d x = some r) : EffQ (fun l k' => boxK P l k' true own t d x) l k r := by
  cases own
  · unfold boxK at h
    obtain ⟨cs, h1, h2⟩ := pur_strict h
    exact ⟨_, fun l2 k' => by simp only [boxK, h1], h2⟩
  · cases h
theorem buildK_eff  {t : TypeId} {is : List Nat} {xs : List V} (h : buildK P l k true t is xs = some r) : EffQ (fun l k' => buildK P l k' true t is xs) l k r := by
  unfold buildK at h
  split at h
  · rename_i hT hz
    obtain ⟨h0, h⟩ := need_nat h
    obtain ⟨ps, h1, h2⟩ := purL_strict h
    obtain ⟨cs, h3, h4⟩ := fillK_nat h2
    exact ⟨_, fun l2 k' => by simp only [buildK, hT, hz, h0, h1, h3], h4⟩
  · rename_i hT hz
    obtain ⟨h0, h⟩ := need_nat h
    obtain ⟨ps, h1, h2⟩ := purL_strict h
    obtain ⟨cs, h3, h4⟩ := fillK_nat h2
    exact ⟨_, fun l2 k' => by simp only [buildK, hT, hz, h0, h1, h3], h4⟩
  · cases h
theorem buildSliceK_eff {own full : Bool} {t : TypeId} {n d : Nat} {is : List Nat} {xs : List V} (h : buildSliceK P l k true own full t n d is xs = some r) : EffQ (fun l k' => buildSliceK P l k' true own full t n d is xs) l k r := by
  unfold buildSliceK at h
  split at h
  · rename_i hT
    split at h
    · rename_i hz
      obtain ⟨ps, h1, h2⟩ := purL_strict h
      obtain ⟨cs, h3, h4⟩ := fillK_nat h2
      obtain ⟨h5, h6⟩ := need_nat h4
      cases own
      · exact ⟨_, fun l2 k' => by simp only [buildSliceK, hT, hz, h1, h3, h5], h6⟩
      · cases h6
    · cases h
  · cases h
theorem buildSliceD_strict {own full : Bool} {t : TypeId} {n d : Nat} {is : List Nat} {xs : List V} : buildSliceD P l k true own full t n d is xs = buildSliceK P l k true own full t n d is xs := by
  cases own <;> cases full <;> simp only [buildSliceD]
theorem fieldK_eff {T : TypeId} {f : Nat} {x : V} (h : fieldK P l k T f x = some r) : EffQ (fun l k' => fieldK P l k' T f x) l k r := by
  unfold fieldK at h
  split at h
  · rename_i hf
    obtain ⟨v, h3, h4⟩ := ldC_nat h
    exact ⟨_, fun l2 k' => by simp only [fieldK, hf, h3], h4⟩
  · cases h
theorem indexK_eff {T : TypeId} {x i : V} (h : indexK P l k T x i = some r) : EffQ (fun l k' => indexK P l k' T x i) l k r := by
  unfold indexK at h
  split at h
  · rename_i h1 h2
    split at h
    · rename_i h3
      split at h
      · obtain ⟨h6, h7⟩ := need_nat h
        obtain ⟨v, h8, h9⟩ := ldC_nat h7
        exact ⟨_, fun l2 k' => by simp only [indexK, h1, h2, h3, h6, h8], h9⟩
      · cases h
    · cases h
  · rename_i h1 h2
    split at h
    · obtain ⟨s, h3, h4⟩ := asS_nat h
      obtain ⟨h6, h7⟩ := need_nat h4
      exact ⟨_, fun l2 k' => by simp only [indexK, h1, h2, h3, h6], h7⟩
    · cases h
  · cases h
theorem capK_eff {T : TypeId} {x : V} (h : capK P l k T x = some r) : EffQ (fun l k' => capK P l k' T x) l k r := by
  unfold capK at h
  split at h
  · rename_i hT
    exact ⟨_, fun l2 k' => by simp only [capK, hT], h⟩
  · cases h
theorem extractK_eff {i : Nat} {x : V} (h : extractK l k i x = some r) : EffQ (fun l k' => extractK l k' i x) l k r := by
  unfold extractK at h
  split at h
  · split at h
    · exact ⟨_, fun l2 k' => rfl, h⟩
    · exact ⟨_, fun l2 k' => rfl, h⟩
    · cases h
  · split at h
    · exact ⟨_, fun l2 k' => rfl, h⟩
    · cases h
  · split at h
    · rename_i h1; exact ⟨_, fun l2 k' => by simp only [extractK, h1], h⟩
    · cases h
  · cases h
theorem makeFuncK_eff  {f : FuncId} {xs : List V} (h : makeFuncK P l k true f xs = some r) : EffQ (fun l k' => makeFuncK P l k' true f xs) l k r := by
  unfold makeFuncK at h
  obtain ⟨ps, h1, h2⟩ := purL_strict h
  obtain ⟨h3, h4⟩ := need_nat h2
  exact ⟨_, fun l2 k' => by simp only [makeFuncK, h1, h3], h4⟩
theorem maxK_eff {lt : Bool} {xs : List V} (h : maxK l k lt xs = some r) : EffQ (fun l k' => maxK l k' lt xs) l k r := by
  unfold maxK at h
  split at h
  · obtain ⟨v, h1, h2⟩ := foldMax_nat h
    exact ⟨_, fun l2 k' => by simp only [maxK, h1], h2⟩
  · cases h
theorem purs_strict : ∀ {xs : List V} {l : Loc} {k : List C → Loc → Option R} (_ : purs P true xs l k = some r), ∃ cs, (∀ {S : Type} (l2 : Loc) (k' : List C → Loc → Option S), purs P true xs l2 k' = k' cs l2) ∧ k cs l = some r
  | [], l, k, h => ⟨[], fun l2 k' => rfl, h⟩
  | x :: xs, l, k, h => by
    cases x with
    | c c =>
      obtain ⟨cs, h1, h2⟩ := purs_strict (xs := xs) (k := fun cs l2 => k (c :: cs) l2) h
      exact ⟨c :: cs, fun l2 k' => by simp only [purs, h1], h2⟩
    | own s off n => simp [purs, pur0] at h
    | mp s => simp [purs, pur0] at h
    | _ => cases h
theorem oneK_eff {t : TypeId} {x : V} (h : oneK P l k t x = some r) : EffQ (fun l k' => oneK P l k' t x) l k r := by
  unfold oneK at h
  split at h
  · obtain ⟨v, h3, h4⟩ := ldC_nat h
    exact ⟨_, fun l2 k' => by simp only [oneK, h3], h4⟩
  · obtain ⟨h3, h4⟩ := need_nat h
    exact ⟨_, fun l2 k' => by simp only [oneK, h3], h4⟩
  · obtain ⟨h3, h4⟩ := need_nat h
    exact ⟨_, fun l2 k' => by simp only [oneK, h3], h4⟩
  · cases h
theorem loadD_true {P : Program} {l : Loc} {R : Type} {k : V → Loc → List Nat → Option R} {mag : Bool} {t : TypeId} {a : V} : loadD P l k mag true t a = loadK P l k true t a := by cases mag <;> rfl
theorem loadK_eff {t : TypeId} {a : V} (h : loadK P l k true t a = some r) : EffR (fun k' => loadK P l k' true t a) l k r := by
  unfold loadK at h
  split at h
  · obtain ⟨cs, h1, h2⟩ := asP_nat h
    obtain ⟨v, h3, h4⟩ := ldC_nat h2
    exact ⟨_, fun k' => by simp only [loadK, h1, h3], h4⟩
  · split at h
    · rename_i hl
      obtain ⟨v, h3, h4⟩ := ldC_nat h
      exact ⟨_, fun k' => by simp only [loadK, hl, h3], h4⟩
    · rename_i hl
      obtain ⟨v, h3, h4⟩ := ldC_nat h
      exact ⟨_, fun k' => by simp only [loadK, hl, h3], h4⟩
    · rename_i hl
      split at h
      · rename_i ha
        obtain ⟨h1, h2⟩ := need_nat h
        obtain ⟨cs, h3, h4⟩ := purs_strict h2
        obtain ⟨v, h5, h6⟩ := ldC_nat h4
        exact ⟨_, fun k' => by simp only [loadK, hl, ha, h1, h3, h5], h6⟩
      · rename_i ha
        split at h
        · rename_i hx
          obtain ⟨v, h1, h2⟩ := oneK_eff h
          exact ⟨v, fun k' => by simp only [loadK, hl, ha, hx]; exact h1 l k', h2⟩
        · cases h
    · cases h
  · cases h
theorem nilK_eff {x : V} (h : nilK l k x = some r) : EffR (fun k' => nilK l k' x) l k r := by
  unfold nilK at h
  split at h
  · obtain ⟨h3, h4⟩ := need_nat h
    exact ⟨_, fun k' => by simp only [nilK, h3], h4⟩
  · split at h
    · exact ⟨_, fun k' => rfl, h⟩
    · exact ⟨_, fun k' => rfl, h⟩
    · cases h
  · cases h
theorem sliceK_eff {t : TypeId} {x : V} {lo hi : Option V} (h : sliceK P l k t x lo hi = some r) : EffR (fun k' => sliceK P l k' t x lo hi) l k r := by
  unfold sliceK at h
  split at h
  · rename_i hT
    split at h
    · obtain ⟨s, h1, h2⟩ := asS_nat h
      obtain ⟨a, h3, h4⟩ := bound_nat h2
      obtain ⟨b, h5, h6⟩ := bound_nat h4
      exact ⟨_, fun k' => by simp only [sliceK, hT, h1, h3, h5], h6⟩
    · cases h
  · rename_i hT
    split at h
    · rename_i hi'
      split at h
      · obtain ⟨c', h1, h2⟩ := sliceC_nat h
        exact ⟨_, fun k' => by simp only [sliceK, hT, hi', h1], h2⟩
      · split at h
        · rename_i hl
          obtain ⟨h1, h2⟩ := need_nat h
          obtain ⟨a, h3, h4⟩ := bound_nat h2
          obtain ⟨b, h5, h6⟩ := bound_nat h4
          exact ⟨_, fun k' => by simp only [sliceK, hT, hi', hl, h1, h3, h5], h6⟩
        · cases h
      · cases h
    · cases h
  · rename_i hT
    split at h
    · rename_i h1
      obtain ⟨cs, h2, h3⟩ := asP_nat h
      obtain ⟨h4, h5⟩ := need_nat h3
      exact ⟨_, fun k' => by simp only [sliceK, hT, h1, h2, h4], h5⟩
    · cases h
  · cases h
theorem fieldAddrK_eff {T : TypeId} {f : Nat} {x : V} (h : fieldAddrK P l k T f x = some r) : EffR (fun k' => fieldAddrK P l k' T f x) l k r := by
  unfold fieldAddrK at h
  split at h
  · rename_i hf
    obtain ⟨h1, h2⟩ := need_nat h
    split at h2
    · obtain ⟨h3, h4⟩ := need_nat h2
      exact ⟨_, fun k' => by simp only [fieldAddrK, hf, h1, h3], h4⟩
    · obtain ⟨cs, h3, h4⟩ := asP_nat h2
      exact ⟨_, fun k' => by simp only [fieldAddrK, hf, h1, h3], h4⟩
    · cases h2
  · cases h
theorem indexAddrK_eff {T : TypeId} {x i : V} (h : indexAddrK P l k T x i = some r) : EffR (fun k' => indexAddrK P l k' T x i) l k r := by
  unfold indexAddrK at h
  split at h
  · rename_i h1 h2
    split at h
    · rename_i h3
      split at h
      · obtain ⟨n, cs, h4, h5⟩ := asSl_nat h
        obtain ⟨h6, h7⟩ := need_nat h5
        exact ⟨_, fun k' => by simp only [indexAddrK, h1, h2, h3, h4, h6], h7⟩
      · split at h
        · rename_i hl
          obtain ⟨h6, h7⟩ := need_nat h
          exact ⟨_, fun k' => by simp only [indexAddrK, h1, h2, h3, hl, h6], h7⟩
        · cases h
      · obtain ⟨h6, h7⟩ := need_nat h
        exact ⟨_, fun k' => by simp only [indexAddrK, h1, h2, h3, h6], h7⟩
      · cases h
    · cases h
  · rename_i h1 h2
    split at h
    · rename_i h3
      split at h
      · obtain ⟨h6, h7⟩ := need_nat h
        exact ⟨_, fun k' => by simp only [indexAddrK, h1, h2, h3, h6], h7⟩
      · obtain ⟨cs, h4, h5⟩ := asP_nat h
        obtain ⟨h6, h7⟩ := need_nat h5
        exact ⟨_, fun k' => by simp only [indexAddrK, h1, h2, h3, h4, h6], h7⟩
      · cases h
    · cases h
  · cases h
theorem lenK_eff {T : TypeId} {x : V} (h : lenK P l k T x = some r) : EffR (fun k' => lenK P l k' T x) l k r := by
  unfold lenK at h
  split at h
  · rename_i hT
    obtain ⟨n, cs, h1, h2⟩ := asSl_nat h
    exact ⟨_, fun k' => by simp only [lenK, hT, h1], h2⟩
  · rename_i hT
    obtain ⟨s, h1, h2⟩ := asS_nat h
    exact ⟨_, fun k' => by simp only [lenK, hT, h1], h2⟩
  · rename_i hT
    split at h
    · rename_i hl; exact ⟨_, fun k' => by simp only [lenK, hT, hl], h⟩
    · cases h
  · rename_i hT
    split at h
    · rename_i hl; exact ⟨_, fun k' => by simp only [lenK, hT, hl], h⟩
    · rename_i hl; exact ⟨_, fun k' => by simp only [lenK, hT, hl], h⟩
    · cases h
  · rename_i hT
    split at h
    · exact ⟨_, fun k' => by simp only [lenK, hT], h⟩
    · cases h
  · rename_i hT
    obtain ⟨h6, h7⟩ := need_nat h
    exact ⟨_, fun k' => by simp only [lenK, hT, h6], h7⟩
  · rename_i x1 x2 n el hT
    refine ⟨_, fun k' => ?_, h⟩
    cases x1 <;> simp only [lenK, hT]
  · cases h
theorem storeMx_eff {t : TypeId} {s off : Nat} {t' : TypeId} {xs : List V} {x : V} (h : storeMx P l k t s off t' xs x = some r) : EffW (fun k' => storeMx P l k' t s off t' xs x) k r := by
  unfold storeMx at h
  split at h
  · obtain ⟨h3, h4⟩ := need_nat h
    exact ⟨_, _, fun k' => by simp only [storeMx, h3], h4⟩
  · obtain ⟨h3, h4⟩ := need_nat h
    exact ⟨_, _, fun k' => by simp only [storeMx, h3], h4⟩
  · obtain ⟨h3, h4⟩ := need_nat h
    exact ⟨_, _, fun k' => by simp only [storeMx, h3], h4⟩
  · obtain ⟨h3, h4⟩ := need_nat h
    exact ⟨_, _, fun k' => by simp only [storeMx, h3], h4⟩
  · obtain ⟨h3, h4⟩ := need_nat h
    exact ⟨_, _, fun k' => by simp only [storeMx, h3], h4⟩
  · cases h
theorem storeOb_eff  {t : TypeId} {s off : Nat} {x : V} (h : storeOb P l k true t s off x = some r) : EffW (fun k' => storeOb P l k' true t s off x) k r := by
  unfold storeOb at h
  obtain ⟨cs, h1, h2⟩ := pur_strict h
  split at h2
  · rename_i hl
    obtain ⟨h3, h4⟩ := need_nat h2
    exact ⟨_, _, fun k' => by simp only [storeOb, h1, hl, h3], h4⟩
  · rename_i hl
    obtain ⟨h3, h4⟩ := need_nat h2
    exact ⟨_, _, fun k' => by simp only [storeOb, h1, hl, h3], h4⟩
  · cases h2
theorem storeK_eff  {mix : Bool} {t : TypeId} {a x : V} (h : storeK P l k true mix t a x = some r) : EffW (fun k' => storeK P l k' true mix t a x) k r := by
  unfold storeK at h
  split at h
  · split at h
    · rename_i t' fz cs hl
      cases hb : (isOwn x && (Nat.beq cs.length 1 || mix) && Nat.beq fz 0) with
      | true =>
        rw [hb] at h
        obtain ⟨y, l', h1, h2⟩ := storeMx_eff h
        exact ⟨y, l', fun k' => by simp only [storeK, hl, hb, cond_true]; exact h1 k', h2⟩
      | false =>
        rw [hb] at h
        obtain ⟨y, l', h1, h2⟩ := storeOb_eff h
        exact ⟨y, l', fun k' => by simp only [storeK, hl, hb, cond_false]; exact h1 k', h2⟩
    · rename_i hl
      obtain ⟨y, l', h1, h2⟩ := storeOb_eff h
      exact ⟨y, l', fun k' => by simp only [storeK, hl]; exact h1 k', h2⟩
    · rename_i hl
      obtain ⟨y, l', h1, h2⟩ := storeMx_eff h
      exact ⟨y, l', fun k' => by simp only [storeK, hl]; exact h1 k', h2⟩
    · cases h
  · cases h
theorem callK_eff {cf : Cfg} {hd : List Nat} {xo : List (Option TypeId)} {f : FuncId} {xs : List V} {ty : TypeId} {dst : Option Nat} (h : callK cf true hd xo f xs ty dst l k = some r) : EffQ (fun l k' => callK cf true hd xo f xs ty dst l k') l k r := by
  unfold callK at h
  obtain ⟨ys, h1, h2⟩ := marsh_strict h
  obtain ⟨h3, h4⟩ := need_nat h2
  rw [Option.bind_eq_some_iff] at h4
  obtain ⟨out, h5, h6⟩ := h4
  have h8 : retK cf.P ty out.r (fun v => k v l []) = some r := by
    simp only [backK, thaw_same] at h6
    exact h6
  obtain ⟨v, h9, h10⟩ := retK_nat h8
  refine ⟨v, fun l2 k' => ?_, h10⟩
  simp only [callK, h1, List.map_nil] at h5 ⊢
  have h3' : noYl ys = true := by
    cases hn : noYl ys
    · rw [hn] at h2; simp [need, allOb] at h2
    · rfl
  simp only [allOb, h3', Bool.true_and, need, cond_true, h5, Option.bind_some, backK, thaw_same]
  exact h9 _
theorem opK_congr {cf : Cfg} {strict : Bool} {o : Oper} {e e' : Operand → V} {S : Type} {l : Loc} {k : V → Loc → List Nat → Option S} (h : ∀ y ∈ o.op.operands, e y = e' y) : opK cf strict o e l k = opK cf strict o e' l k := by
  obtain ⟨dst, op, type, pos, after, guard⟩ := o
  have pairs : ∀ ps : Array (Nat × Operand), (∀ x ∈ ps.map (·.2), e x = e' x) → (ps.toList.map fun p => e p.2) = (ps.toList.map fun p => e' p.2) := fun ps hp =>
    List.map_congr_left fun p hm => hp p.2 (Array.mem_map.2 ⟨p, by simpa using hm, rfl⟩)
  cases op <;> simp only [Op.operands] at h <;> simp only [opK]
  case build t ps => rw [pairs ps fun x hx => h x (by simpa using hx)]
  case buildSlice t n ps => rw [pairs ps fun x hx => h x (by simpa using hx)]
  case makeFunc fn first captured =>
    have e1 : captured.toList.map e = captured.toList.map e' := List.map_congr_left fun x hx => h x (by simp at hx ⊢; exact .inr hx)
    rw [e1]
  case makeMap t rs =>
    have e1 : rs.map e = rs.map e' := by cases rs <;> simp_all
    rw [e1]
  case slice t x lo hi mx =>
    have e0 : e x = e' x := h x (by simp)
    have e1 : lo.map e = lo.map e' := by cases lo <;> simp_all
    have e2 : hi.map e = hi.map e' := by cases hi <;> simp_all
    rw [e0, e1, e2]
    cases mx with
    | none => rfl
    | some m => simp only [h m (by simp)]
  case call c =>
    have e1 : c.args.toList.map e = c.args.toList.map e' := List.map_congr_left fun x hx => h x (by simp [Call.operands] at hx ⊢; exact .inr hx)
    rw [e1]
    cases hc : c.callee with
    | builtin b =>
      cases b <;> simp only
      case len =>
        split
        · rename_i x T hx hT
          have : e x = e' x := h x (by simp [Call.operands]; right; have : x ∈ c.args.toList := by simp [hx]
                                       simpa using this)
          rw [this]
        · rfl
      case cap =>
        split
        · rename_i x T hx hT
          have : e x = e' x := h x (by simp [Call.operands]; right; have : x ∈ c.args.toList := by simp [hx]
                                       simpa using this)
          rw [this]
        · rfl
      case append =>
        split
        · rename_i d s x T T' hx hT
          have h1 : e s = e' s := h s (by simp [Call.operands]; right; have : s ∈ c.args.toList := by simp [hx]
                                          simpa using this)
          have h2 : e x = e' x := h x (by simp [Call.operands]; right; have : x ∈ c.args.toList := by simp [hx]
                                          simpa using this)
          rw [h1, h2]
        · rfl
    | invoke => rfl
    | value f =>
      have h1 : e f = e' f := h f (by simp [Call.operands, hc])
      simp only
      cases f <;> simp only [h1]
  all_goals (first | rfl | (simp_all; done))
theorem opK_eff {cf : Cfg} {o : Oper} {e : Operand → V} (h : opK cf true o e l k = some r) :
    ∃ x l', (isWriter o.op = false → l' = l) ∧ (∀ {S : Type} (l2 : Loc) (k' : V → Loc → List Nat → Option S), l2 = l ∨ isQuiet o.op = true → opK cf true o e l2 k' = k' x (bif isWriter o.op then l' else l2) []) ∧ k x l' [] = some r := by
  have fq : ∀ {F : {S : Type} → Loc → (V → Loc → List Nat → Option S) → Option S}, isWriter o.op = false → EffQ F l k r → (∀ {S : Type} (l2 : Loc) (k' : V → Loc → List Nat → Option S), opK cf true o e l2 k' = F l2 k') →
      ∃ x l', (isWriter o.op = false → l' = l) ∧ (∀ {S : Type} (l2 : Loc) (k' : V → Loc → List Nat → Option S), l2 = l ∨ isQuiet o.op = true → opK cf true o e l2 k' = k' x (bif isWriter o.op then l' else l2) []) ∧ k x l' [] = some r := by
    intro F hw hF he
    obtain ⟨x, h1, h2⟩ := hF
    exact ⟨x, l, fun _ => rfl, fun l2 k' _ => by rw [he, hw]; exact h1 l2 k', h2⟩
  have fr : ∀ {F : {S : Type} → (V → Loc → List Nat → Option S) → Option S}, isWriter o.op = false → isQuiet o.op = false → EffR F l k r → (∀ {S : Type} (k' : V → Loc → List Nat → Option S), opK cf true o e l k' = F k') →
      ∃ x l', (isWriter o.op = false → l' = l) ∧ (∀ {S : Type} (l2 : Loc) (k' : V → Loc → List Nat → Option S), l2 = l ∨ isQuiet o.op = true → opK cf true o e l2 k' = k' x (bif isWriter o.op then l' else l2) []) ∧ k x l' [] = some r := by
    intro F hw hq hF he
    obtain ⟨x, h1, h2⟩ := hF
    refine ⟨x, l, fun _ => rfl, fun l2 k' hl => ?_, h2⟩
    rcases hl with rfl | hl
    · rw [he, hw]; exact h1 k'
    · rw [hq] at hl; cases hl
  unfold opK at h
  split at h
  case h_1 x ho => exact fq (F := fun l k => k (e x) l []) (by simp [isWriter, ho]) ⟨_, fun l2 k' => rfl, h⟩ fun l2 k' => by simp only [opK, ho]
  case h_2 x ho => exact fq (F := fun l k => k (e x) l []) (by simp [isWriter, ho]) ⟨_, fun l2 k' => rfl, h⟩ fun l2 k' => by simp only [opK, ho]
  case h_3 c a b ho => exact fq (by simp [isWriter, ho]) (pickK_eff h) fun l2 k' => by simp only [opK, ho]
  case h_4 t ho =>
    split at h
    case h_2 => cases h
    case h_1 d hd => exact fq (F := fun l k => k (.ptr d 0) l []) (by simp [isWriter, ho]) ⟨_, fun l2 k' => rfl, h⟩ fun l2 k' => by simp only [opK, ho, hd]
  case h_5 t x ho =>
    split at h
    case h_2 => cases h
    case h_1 d hd => exact fq (by simp [isWriter, ho]) (boxK_eff h) fun l2 k' => by simp only [opK, ho, hd]
  case h_6 t parts ho =>
    split at h
    · cases h
    · rename_i hm
      exact fq (by simp [isWriter, ho]) (buildK_eff h) fun l2 k' => by simp only [opK, ho, hm]
  case h_7 t n parts ho =>
    split at h
    case h_2 => cases h
    case h_1 d hd => exact fq (by simp [isWriter, ho]) (buildSliceK_eff (by rw [buildSliceD_strict] at h; exact h)) fun l2 k' => by simp only [opK, ho, hd, buildSliceD_strict]
  case h_8 t a ho => exact fr (by simp [isWriter, ho]) (by simp [isQuiet, ho]) (loadK_eff (by rw [loadD_true] at h; exact h)) fun k' => by simp only [opK, ho, loadD_true]
  case h_9 t a x ho =>
    obtain ⟨x, l', h1, h2⟩ := storeK_eff h
    refine ⟨x, l', fun hw => by simp [isWriter, ho] at hw, fun l2 k' hl => ?_, h2⟩
    rcases hl with rfl | hl
    · simp only [opK, ho, isWriter, cond_true]; exact h1 k'
    · simp [isQuiet, ho] at hl
  case h_10 x ho => exact fr (by simp [isWriter, ho]) (by simp [isQuiet, ho]) (nilK_eff h) fun k' => by simp only [opK, ho]
  case h_11 op t x y yt ho =>
    obtain ⟨v, h1, h2⟩ := binV_nat h
    exact fq (F := fun l k => k v l []) (by simp [isWriter, ho]) ⟨v, fun l2 k' => rfl, h2⟩ fun l2 k' => by simp only [opK, ho, h1]
  case h_12 op t x ho =>
    obtain ⟨v, h1, h2⟩ := unV_nat h
    exact fq (F := fun l k => k v l []) (by simp [isWriter, ho]) ⟨v, fun l2 k' => rfl, h2⟩ fun l2 k' => by simp only [opK, ho, h1]
  case h_13 src dst x ho =>
    obtain ⟨v, h1, h2⟩ := convV_nat h
    exact fq (F := fun l k => k v l []) (by simp [isWriter, ho]) ⟨v, fun l2 k' => rfl, h2⟩ fun l2 k' => by simp only [opK, ho, h1]
  case h_14 fn first cap ho =>
    split at h
    case h_2 => cases h
    case h_1 f hf =>
      obtain ⟨h1, h2⟩ := need_nat h
      exact fq (by simp [isWriter, ho]) (makeFuncK_eff h2) fun l2 k' => by simp only [opK, ho, hf, h1]
  case h_15 t q ho =>
    split at h
    case h_2 => cases h
    case h_1 => contradiction
  case h_16 t x i ok ho =>
    split at h
    case h_2 => exact fq (by simp [isWriter, ho]) (lookupC_nat h) fun l2 k' => by simp only [opK, ho]
    case h_1 => contradiction
  case h_17 t x i v ho =>
    split at h
    case h_2 => cases h
    case h_1 => contradiction
  case h_18 t n c ho =>
    split at h
    case h_2 => cases h
    case h_1 => contradiction
  case h_19 t x lo hi mx ho =>
    split at h
    · cases h
    · exact fr (by simp [isWriter, ho]) (by simp [isQuiet, ho]) (sliceK_eff h) fun k' => by simp only [opK, ho]
  case h_20 T x f ho => exact fr (by simp [isWriter, ho]) (by simp [isQuiet, ho]) (fieldAddrK_eff h) fun k' => by simp only [opK, ho]
  case h_21 T x f ho => exact fq (by simp [isWriter, ho]) (fieldK_eff h) fun l2 k' => by simp only [opK, ho]
  case h_22 T x i ho => exact fr (by simp [isWriter, ho]) (by simp [isQuiet, ho]) (indexAddrK_eff h) fun k' => by simp only [opK, ho]
  case h_23 T x i ho => exact fq (by simp [isWriter, ho]) (indexK_eff h) fun l2 k' => by simp only [opK, ho]
  case h_24 x i ho => exact fq (by simp [isWriter, ho]) (extractK_eff h) fun l2 k' => by simp only [opK, ho]
  case h_25 c ho =>
    split at h
    case h_1 hc =>
      split at h
      case h_2 => cases h
      case h_1 x T ha hT => exact fr (by simp [isWriter, ho]) (by simp [isQuiet, ho, hc]) (lenK_eff h) fun k' => by simp only [opK, ho, hc, ha, hT]
    case h_2 hc =>
      split at h
      case h_2 => cases h
      case h_1 => contradiction
    case h_3 hc =>
      split at h
      case h_2 => cases h
      case h_1 x T ha hT => exact fq (by simp [isWriter, ho]) (capK_eff h) fun l2 k' => by simp only [opK, ho, hc, ha, hT]
    case h_4 hc => exact fq (by simp [isWriter, ho]) (maxK_eff h) fun l2 k' => by simp only [opK, ho, hc]
    case h_5 hc => exact fq (by simp [isWriter, ho]) (maxK_eff h) fun l2 k' => by simp only [opK, ho, hc]
    case h_6 => cases h
    case h_7 => cases h
    case h_8 f hc =>
      split at h
      case h_1 f' => exact fq (by simp [isWriter, ho]) (callK_eff h) fun l2 k' => by simp only [opK, ho, hc]
      case h_2 hne =>
        split at h
        case h_2 => cases h
        case h_1 c' hc' =>
          unfold asYF at h
          split at h
          · refine fq (by simp [isWriter, ho]) (callK_eff h) fun l2 k' => ?_
            cases f with
            | func f'' => exact absurd rfl (hne f'')
            | _ => simp only [opK, ho, hc, hc', asYF]
          · cases h
          · cases h
  case h_26 t x i ho =>
    split at h
    case h_2 => cases h
    case h_1 => contradiction
  case h_27 t x i v ho =>
    split at h
    case h_2 => cases h
    case h_1 => contradiction
  case h_28 t x ho =>
    split at h
    case h_2 => cases h
    case h_1 => contradiction
  case h_29 x ho =>
    refine fq (F := fun l k => entryK l k true cf.ent x) (by simp [isWriter, ho]) ?_ fun l2 k' => by simp only [opK, ho]
    unfold entryK at h
    split at h
    case h_2 => cases h
    case h_1 t kv vv t' he =>
      obtain ⟨ht, hk⟩ := need_nat h
      split at hk
      · cases hk
      · exact ⟨_, fun l2 k' => by simp only [entryK, he, ht], hk⟩
  case h_30 => cases h
def EffS {R : Type} (L : List Nat) (F : {S : Type} → Loc → (V → Loc → List Nat → Option S) → Option S) (l : Loc) (k : V → Loc → List Nat → Option R) (r : R) : Prop :=
  ∃ x, (∀ {S : Type} (l2 : Loc) (k' : V → Loc → List Nat → Option S), (∀ s, L.any (Nat.beq s) = false → l2 s = l s) → F l2 k' = k' x l2 []) ∧ k x l [] = some r
theorem offS_ptr {L : List Nat} {s off : Nat} (h : offS L (.ptr s off) = true) : L.any (Nat.beq s) = false := by simpa [offS] using h
theorem offS_own {L : List Nat} {s off n : Nat} (h : offS L (.own s off n) = true) : L.any (Nat.beq s) = false := by simpa [offS] using h
theorem offS_mp {L : List Nat} {s : Nat} (h : offS L (.mp s) = true) : L.any (Nat.beq s) = false := by simpa [offS] using h
theorem offS_ws {L : List Nat} {s n : Nat} (h : offS L (.ws s n) = true) : L.any (Nat.beq s) = false := by simpa [offS] using h
theorem loadK_sep {L : List Nat} {t : TypeId} {a : V} (h : loadK P l k true t a = some r) (hs : offS L a = true) : EffS L (fun l k' => loadK P l k' true t a) l k r := by
  unfold loadK at h
  split at h
  · obtain ⟨cs, h1, h2⟩ := asP_nat h
    obtain ⟨v, h3, h4⟩ := ldC_nat h2
    exact ⟨_, fun l2 k' _ => by simp only [loadK, h1, h3], h4⟩
  · have hs := offS_ptr hs
    split at h
    · rename_i hl
      obtain ⟨v, h3, h4⟩ := ldC_nat h
      exact ⟨_, fun l2 k' e => by simp only [loadK, e _ hs, hl, h3], h4⟩
    · rename_i hl
      obtain ⟨v, h3, h4⟩ := ldC_nat h
      exact ⟨_, fun l2 k' e => by simp only [loadK, e _ hs, hl, h3], h4⟩
    · rename_i hl
      split at h
      · rename_i ha
        obtain ⟨h1, h2⟩ := need_nat h
        obtain ⟨cs, h3, h4⟩ := purs_strict h2
        obtain ⟨v, h5, h6⟩ := ldC_nat h4
        exact ⟨_, fun l2 k' e => by simp only [loadK, e _ hs, hl, ha, h1, h3, h5], h6⟩
      · rename_i ha
        split at h
        · rename_i hx
          obtain ⟨v, h1, h2⟩ := oneK_eff h
          exact ⟨v, fun l2 k' e => by simp only [loadK, e _ hs, hl, ha, hx]; exact h1 l2 k', h2⟩
        · cases h
    · cases h
  · cases h
theorem nilK_sep {L : List Nat} {x : V} (h : nilK l k x = some r) (hs : offS L x = true) : EffS L (fun l k' => nilK l k' x) l k r := by
  unfold nilK at h
  split at h
  · have hs := offS_ptr hs
    obtain ⟨h3, h4⟩ := need_nat h
    exact ⟨_, fun l2 k' e => by simp only [nilK, e _ hs, h3], h4⟩
  · split at h
    · exact ⟨_, fun l2 k' _ => rfl, h⟩
    · exact ⟨_, fun l2 k' _ => rfl, h⟩
    · cases h
  · cases h
theorem sliceK_sep {L : List Nat} {t : TypeId} {x : V} {lo hi : Option V} (h : sliceK P l k t x lo hi = some r) (hs : offS L x = true) : EffS L (fun l k' => sliceK P l k' t x lo hi) l k r := by
  unfold sliceK at h
  split at h
  · rename_i hT
    split at h
    · obtain ⟨s, h1, h2⟩ := asS_nat h
      obtain ⟨a, h3, h4⟩ := bound_nat h2
      obtain ⟨b, h5, h6⟩ := bound_nat h4
      exact ⟨_, fun l2 k' _ => by simp only [sliceK, hT, h1, h3, h5], h6⟩
    · cases h
  · rename_i hT
    split at h
    · rename_i hi'
      split at h
      · obtain ⟨c', h1, h2⟩ := sliceC_nat h
        exact ⟨_, fun l2 k' _ => by simp only [sliceK, hT, hi', h1], h2⟩
      · have hs := offS_own hs
        split at h
        · rename_i hl
          obtain ⟨h1, h2⟩ := need_nat h
          obtain ⟨a, h3, h4⟩ := bound_nat h2
          obtain ⟨b, h5, h6⟩ := bound_nat h4
          exact ⟨_, fun l2 k' e => by simp only [sliceK, hT, hi', e _ hs, hl, h1, h3, h5], h6⟩
        · cases h
      · cases h
    · cases h
  · rename_i hT
    split at h
    · rename_i h1
      obtain ⟨cs, h2, h3⟩ := asP_nat h
      obtain ⟨h4, h5⟩ := need_nat h3
      exact ⟨_, fun l2 k' _ => by simp only [sliceK, hT, h1, h2, h4], h5⟩
    · cases h
  · cases h
theorem fieldAddrK_sep {L : List Nat} {T : TypeId} {f : Nat} {x : V} (h : fieldAddrK P l k T f x = some r) (hs : offS L x = true) : EffS L (fun l k' => fieldAddrK P l k' T f x) l k r := by
  unfold fieldAddrK at h
  split at h
  · rename_i hf
    obtain ⟨h1, h2⟩ := need_nat h
    split at h2
    · have hs := offS_ptr hs
      obtain ⟨h3, h4⟩ := need_nat h2
      exact ⟨_, fun l2 k' e => by simp only [fieldAddrK, hf, h1, e _ hs, h3], h4⟩
    · obtain ⟨cs, h3, h4⟩ := asP_nat h2
      exact ⟨_, fun l2 k' _ => by simp only [fieldAddrK, hf, h1, h3], h4⟩
    · cases h2
  · cases h
theorem indexAddrK_sep {L : List Nat} {T : TypeId} {x i : V} (h : indexAddrK P l k T x i = some r) (hs : offS L x = true) : EffS L (fun l k' => indexAddrK P l k' T x i) l k r := by
  unfold indexAddrK at h
  split at h
  · rename_i h1 h2
    split at h
    · rename_i h3
      split at h
      · obtain ⟨n, cs, h4, h5⟩ := asSl_nat h
        obtain ⟨h6, h7⟩ := need_nat h5
        exact ⟨_, fun l2 k' _ => by simp only [indexAddrK, h1, h2, h3, h4, h6], h7⟩
      · have hs := offS_own hs
        split at h
        · rename_i hl
          obtain ⟨h6, h7⟩ := need_nat h
          exact ⟨_, fun l2 k' e => by simp only [indexAddrK, h1, h2, h3, e _ hs, hl, h6], h7⟩
        · cases h
      · have hs := offS_ws hs
        obtain ⟨h6, h7⟩ := need_nat h
        exact ⟨_, fun l2 k' e => by simp only [indexAddrK, h1, h2, h3, e _ hs, h6], h7⟩
      · cases h
    · cases h
  · rename_i h1 h2
    split at h
    · rename_i h3
      split at h
      · have hs := offS_ptr hs
        obtain ⟨h6, h7⟩ := need_nat h
        exact ⟨_, fun l2 k' e => by simp only [indexAddrK, h1, h2, h3, e _ hs, h6], h7⟩
      · obtain ⟨cs, h4, h5⟩ := asP_nat h
        obtain ⟨h6, h7⟩ := need_nat h5
        exact ⟨_, fun l2 k' _ => by simp only [indexAddrK, h1, h2, h3, h4, h6], h7⟩
      · cases h
    · cases h
  · cases h
theorem lenK_sep {L : List Nat} {T : TypeId} {x : V} (h : lenK P l k T x = some r) (hs : offS L x = true) : EffS L (fun l k' => lenK P l k' T x) l k r := by
  unfold lenK at h
  split at h
  · rename_i hT
    obtain ⟨n, cs, h1, h2⟩ := asSl_nat h
    exact ⟨_, fun l2 k' _ => by simp only [lenK, hT, h1], h2⟩
  · rename_i hT
    obtain ⟨s, h1, h2⟩ := asS_nat h
    exact ⟨_, fun l2 k' _ => by simp only [lenK, hT, h1], h2⟩
  · rename_i hT
    have hs := offS_own hs
    split at h
    · rename_i hl; exact ⟨_, fun l2 k' e => by simp only [lenK, hT, e _ hs, hl], h⟩
    · cases h
  · rename_i hT
    have hs := offS_mp hs
    split at h
    · rename_i hl; exact ⟨_, fun l2 k' e => by simp only [lenK, hT, e _ hs, hl], h⟩
    · rename_i hl; exact ⟨_, fun l2 k' e => by simp only [lenK, hT, e _ hs, hl], h⟩
    · cases h
  · rename_i hT
    split at h
    · exact ⟨_, fun l2 k' _ => by simp only [lenK, hT], h⟩
    · cases h
  · rename_i hT
    have hs := offS_ws hs
    obtain ⟨h6, h7⟩ := need_nat h
    exact ⟨_, fun l2 k' e => by simp only [lenK, hT, e _ hs, h6], h7⟩
  · rename_i x1 x2 n el hT
    refine ⟨_, fun l2 k' _ => ?_, h⟩
    cases x1 <;> simp only [lenK, hT]
  · cases h
theorem opK_sep {L : List Nat} {cf : Cfg} {o : Oper} {e : Operand → V} (h : opK cf true o e l k = some r) (hw : isWriter o.op = false) (hs : sepOk L o.op e = true) : EffS L (fun l2 k' => opK cf true o e l2 k') l k r := by
  cases hq : isQuiet o.op with
  | true =>
    obtain ⟨x, l', h1, h2, h3⟩ := opK_eff h
    obtain rfl := h1 hw
    exact ⟨x, fun l2 k' _ => by show opK cf true o e l2 k' = _; rw [h2 l2 k' (.inr hq), hw]; rfl, h3⟩
  | false =>
    have go : ∀ {F : {S : Type} → Loc → (V → Loc → List Nat → Option S) → Option S}, EffS L F l k r → (∀ {S : Type} (l2 : Loc) (k' : V → Loc → List Nat → Option S), opK cf true o e l2 k' = F l2 k') → EffS L (fun l2 k' => opK cf true o e l2 k') l k r := by
      intro F hF he
      obtain ⟨x, h1, h2⟩ := hF
      exact ⟨x, fun l2 k' hl => by show opK cf true o e l2 k' = _; rw [he]; exact h1 l2 k' hl, h2⟩
    unfold opK at h
    split at h
    case h_8 t a ho => rw [ho] at hs; exact go (loadK_sep (by rw [loadD_true] at h; exact h) hs) fun l2 k' => by simp only [opK, ho, loadD_true]
    case h_9 t a x ho => simp [isWriter, ho] at hw
    case h_10 x ho => rw [ho] at hs; exact go (nilK_sep h hs) fun l2 k' => by simp only [opK, ho]
    case h_19 t x lo hi mx ho =>
      rw [ho] at hs
      split at h
      · cases h
      · exact go (sliceK_sep h hs) fun l2 k' => by simp only [opK, ho]
    case h_20 T x f ho => rw [ho] at hs; exact go (fieldAddrK_sep h hs) fun l2 k' => by simp only [opK, ho]
    case h_22 T x i ho => rw [ho] at hs; exact go (indexAddrK_sep h hs) fun l2 k' => by simp only [opK, ho]
    case h_25 c ho =>
      split at h
      case h_1 hc =>
        split at h
        case h_2 => cases h
        case h_1 x T ha hT =>
          rw [ho] at hs
          have hx : offS L (e x) = true := List.all_eq_true.1 hs x (by simp [ha])
          exact go (lenK_sep h hx) fun l2 k' => by simp only [opK, ho, hc, ha, hT]
      all_goals first | (cases h; done) | (rename_i hc; simp [isQuiet, ho, hc] at hq; done) | (rename_i hc _; simp [isQuiet, ho, hc] at hq; done) | (simp_all [isQuiet]; done)
    all_goals (rename_i ho; simp [isQuiet, ho] at hq)
theorem marsh_off {L : List Nat} : ∀ {hd : List Nat} {xs : List V} {l : Loc} {ss : List Nat} {k : List V → Loc → List Nat → Option R} (_ : marsh P false hd xs l ss k = some r) (_ : xs.all (argOk L) = true),
    ∃ ys ss', k ys l ss' = some r ∧ (∀ s ∈ ss', s ∈ ss ∨ L.any (Nat.beq s) = true)
  | hd, [], l, ss, k, h, _ => ⟨[], ss, by simpa [marsh] using h, fun s hs => .inl hs⟩
  | hd, x :: xs, l, ss, k, h, ha => by
    rw [List.all_cons, Bool.and_eq_true] at ha
    cases x with
    | c c =>
      obtain ⟨ys, ss', h1, h2⟩ := marsh_off (show marsh P false hd.tail xs l ss (fun ys l' ss' => k (.c (nrm1 hd c) :: ys) l' ss') = some r from h) ha.2
      exact ⟨_, ss', h1, h2⟩
    | agg cs =>
      obtain ⟨ys, ss', h1, h2⟩ := marsh_off (show marsh P false hd.tail xs l ss (fun ys l' ss' => k (.agg cs :: ys) l' ss') = some r from h) ha.2
      exact ⟨_, ss', h1, h2⟩
    | ptr s off =>
      have hL : L.any (Nat.beq s) = true := ha.1
      unfold marsh at h
      simp only at h
      split at h
      · rename_i i hi
        obtain ⟨ys, ss', h1, h2⟩ := marsh_off h ha.2
        exact ⟨_, ss', h1, h2⟩
      · rename_i hi
        obtain ⟨ys, ss', h1, h2⟩ := marsh_off h ha.2
        refine ⟨_, ss', h1, fun s' hs' => ?_⟩
        rcases h2 s' hs' with h3 | h3
        · rcases List.mem_append.1 h3 with h3 | h3
          · exact .inl h3
          · simp at h3; subst h3; exact .inr hL
        · exact .inr h3
    | _ => cases ha.1
theorem callK_off {cf : Cfg} {L : List Nat} {hd : List Nat} {f : FuncId} {xs : List V} {ty : TypeId} {dst : Option Nat} {l : Loc} {x : V} {l' : Loc} {ks : List Nat}
    (h : callK cf false hd [] f xs ty dst l (fun x l ks => some (x, l, ks)) = some (x, l', ks)) (ha : xs.all (argOk L) = true) : ∀ s, L.any (Nat.beq s) = false → l' s = l s := by
  unfold callK at h
  obtain ⟨ys, ss, h1, h2⟩ := marsh_off h ha
  obtain ⟨_, h3⟩ := need_some h1
  obtain ⟨out, _, h4⟩ := Option.bind_eq_some_iff.1 h3
  have key : ∀ {ss : List Nat} {os : List Obj} {lv : Loc} {k : List Obj → Loc → Option (V × Loc × List Nat)}, backK cf.P (cf.fzb f) ss os lv k = some (x, l', ks) → ∃ rest l2, k rest l2 = some (x, l', ks) ∧ ∀ s, s ∉ ss → l2 s = lv s := by
    intro ss
    induction ss with
    | nil => intro os lv k h; exact ⟨os, lv, h, fun _ _ => rfl⟩
    | cons s ss ih =>
      intro os lv k h
      have fin : ∀ (os' : List Obj) (o' : Obj), backK cf.P (cf.fzb f) ss os' (lv.put s o') k = some (x, l', ks) → ∃ rest l2, k rest l2 = some (x, l', ks) ∧ ∀ a, a ∉ s :: ss → l2 a = lv a := by
        intro os' o' h'
        obtain ⟨rest, l2, q1, q2⟩ := ih h'
        refine ⟨rest, l2, q1, fun a ha => ?_⟩
        have ha' : a ≠ s ∧ a ∉ ss := by simpa using ha
        rw [q2 a ha'.2, put_other lv _ ha'.1]
      unfold backK at h
      split at h
      case h_3 => cases h
      case h_1 t fz cs hl =>
        obtain ⟨o, os', rfl, h1⟩ := uncO_eq h
        obtain ⟨cs', rfl, h2⟩ := rO_eq h1
        split at h2
        · obtain ⟨_, h3⟩ := need_some h2
          exact fin _ _ (getLfs_eq h3).2
        · exact fin _ _ (need_some h2).2
      case h_2 t fz cs hl =>
        obtain ⟨o, os', rfl, h1⟩ := uncO_eq h
        split at h1
        · obtain ⟨cs', rfl, h2⟩ := rS_eq h1
          exact fin _ _ (need_some h2).2
        · obtain ⟨fz', cs', rfl, hle, h2⟩ := rF_eq h1
          exact fin _ _ (need_some h2).2
  obtain ⟨rest, l2, h5, h6⟩ := key h4
  intro s hs
  have hns : s ∉ ss := fun hm => by
    rcases h2 s hm with e | e
    · cases e
    · rw [hs] at e; cases e
  simp only at h5
  obtain ⟨v, h7, h8⟩ := retK_nat h5
  injection h8 with h8
  injection h8 with _ h8
  injection h8 with h8 _
  rw [← h8]
  unfold thaw
  split
  · rfl
  · exact h6 s hns
theorem opK_off {cf : Cfg} {o : Oper} {e : Operand → V} {l : Loc} {x : V} {l' : Loc} {ks : List Nat} (h : opK cf false o e l (fun x l ks => some (x, l, ks)) = some (x, l', ks)) (ha : loudOk cf o.op e = true) : ∀ s, cf.lh.any (Nat.beq s) = false → l' s = l s := by
  unfold loudOk at ha
  split at ha
  case h_3 => cases ha
  case h_2 t a y ho =>
    rw [Bool.and_eq_true] at ha
    obtain ⟨ha1, ha2⟩ := ha
    simp only [opK, ho] at h
    generalize e a = va at h ha1
    generalize e y = vy at h ha2
    have hmx : ∀ s off t' xs, storeMx cf.P l (fun x l ks => some (x, l, ks)) t s off t' xs vy = some (x, l', ks) → ∃ o', l' = l.put s o' := by
      intro s off t' xs h
      unfold storeMx at h
      split at h <;> first | (cases h; done) | (obtain ⟨_, h⟩ := need_some h; injection h with h; injection h with _ h; injection h with h _; exact ⟨_, h.symm⟩)
    have hob : ∀ s off, storeOb cf.P l (fun x l ks => some (x, l, ks)) false t s off vy = some (x, l', ks) → ∃ o', l' = l.put s o' := by
      intro s off h
      unfold storeOb at h
      have fin : ∀ xs : List C, (match l s with
          | .ob t' fz cs => need (Nat.beq xs.length (szOf cf.P t) && Nat.ble fz off && Nat.ble (off + xs.length) cs.length && (cf.P.info? t).isSome) (some (V.und, l.put s (.ob t' fz (putAt cs off xs)), ([] : List Nat)))
          | .sb t' fz cs => need (Nat.beq xs.length (szOf cf.P t) && Nat.ble fz off && Nat.ble (off + xs.length) cs.length && (cf.P.info? t).isSome) (some (V.und, l.put s (.sb t' fz (putAt cs off xs)), ([] : List Nat)))
          | _ => none) = some (x, l', ks) → ∃ o', l' = l.put s o' := by
        intro xs h
        split at h <;> first | (cases h; done) | (obtain ⟨_, h⟩ := need_some h; injection h with h; injection h with _ h; injection h with h _; exact ⟨_, h.symm⟩)
      cases vy with
      | c c => exact fin _ h
      | agg cs => exact fin _ h
      | _ => cases ha2
    intro s hs
    unfold storeK at h
    cases va with
    | ptr s1 off =>
      have hne : s ≠ s1 := fun e => by
        have h1 : cf.lh.any (Nat.beq s1) = true := ha1
        rw [← e, hs] at h1; cases h1
      have : ∃ o', l' = l.put s1 o' := by
        simp only at h
        split at h
        · cases hb : (isOwn vy && (Nat.beq _ 1 || mixAt cf (.ptr s1 off)) && Nat.beq _ 0) with
          | true => rw [hb] at h; exact hmx _ _ _ _ h
          | false => rw [hb] at h; exact hob _ _ h
        · exact hob _ _ h
        · exact hmx _ _ _ _ h
        · cases h
      obtain ⟨o', rfl⟩ := this
      exact put_other _ _ hne
    | _ => cases ha1
  case h_1 c ho =>
    split at ha
    case h_2 => cases ha
    case h_1 f hc =>
      rw [Bool.and_eq_true] at ha
      obtain ⟨hx, ha⟩ := ha
      have hx : cf.xo f = [] := by cases hq : cf.xo f with
        | nil => rfl
        | cons a b => rw [hq] at hx; cases hx
      simp only [opK, ho, hc, hx] at h
      exact callK_off h (by rw [List.all_map]; exact ha)
end
end Go.PM
