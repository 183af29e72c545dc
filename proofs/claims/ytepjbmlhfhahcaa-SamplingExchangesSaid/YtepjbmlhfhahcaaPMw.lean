/- The pure machine: regions that draw their order, and those that do not. -/
import Derived.Test.YtepjbmlhfhahcaaPMv
set_option linter.unusedVariables false
set_option linter.unusedSimpArgs false
namespace Go.PM
open Go

variable {P : Program}

theorem writer_loud {o : Op} (h : isWriter o = true) : isQuiet o = false := by cases o <;> simp_all [isWriter, isQuiet]

section
variable {cf : Cfg} {ops : Array Oper} {A : Fr} {Q : Exit → Act → World → Prop}

theorem after_nil (σ : St) (d : Option Nat) (x : V) (l : Loc) : σ.after d x l [] = σ.put d x l := by cases d <;> rfl

theorem gop_eff {o : Oper} {σ σ1 : St} (h : gop cf true (fun j => (ops[j]?).bind (·.dst)) o σ = some σ1) :
    ∃ x l', σ1 = σ.put o.dst x l' ∧ (isWriter o.op = false → l' = σ.loc) ∧ ∀ σ2 : St, (∀ t ∈ o.looksAt ops, σ2.get t = σ.get t) → (σ2.loc = σ.loc ∨ isQuiet o.op = true) →
      gop cf true (fun j => (ops[j]?).bind (·.dst)) o σ2 = some (σ2.put o.dst x (bif isWriter o.op then l' else σ2.loc)) := by
  have run : opK cf true o σ.ev σ.loc (fun x l ks => need (okKs ks) (some (σ.after o.dst x l ks))) = some σ1 → ∃ x l', σ1 = σ.put o.dst x l' ∧ (isWriter o.op = false → l' = σ.loc) ∧ ∀ σ2 : St, (∀ t ∈ o.looksAt ops, σ2.get t = σ.get t) → (σ2.loc = σ.loc ∨ isQuiet o.op = true) →
      opK cf true o σ2.ev σ2.loc (fun x l ks => need (okKs ks) (some (σ2.after o.dst x l ks))) = some (σ2.put o.dst x (bif isWriter o.op then l' else σ2.loc)) := by
    intro hk
    obtain ⟨x, l', h1, h2, h3⟩ := opK_eff hk
    have h3 : some (σ.after o.dst x l' []) = some σ1 := h3
    injection h3 with h3
    refine ⟨x, l', by rw [← h3, after_nil], h1, fun σ2 ht hl => ?_⟩
    rw [opK_congr (e' := σ.ev) fun y hy => ?_, h2 σ2.loc _ hl]
    · show some (σ2.after o.dst x _ []) = _
      rw [after_nil]
    cases y with
    | tmp t => exact ht t (List.mem_append_left _ (List.mem_filterMap.2 ⟨.tmp t, by simpa using hy, rfl⟩))
    | _ => rfl
  have idle : some (σ.after o.dst .un σ.loc []) = some σ1 → ∃ x l', σ1 = σ.put o.dst x l' ∧ (isWriter o.op = false → l' = σ.loc) ∧ ∀ σ2 : St, (∀ t ∈ o.looksAt ops, σ2.get t = σ.get t) → (σ2.loc = σ.loc ∨ isQuiet o.op = true) →
      some (σ2.after o.dst .un σ2.loc []) = some (σ2.put o.dst x (bif isWriter o.op then l' else σ2.loc)) := by
    intro hk
    injection hk with hk
    refine ⟨.un, σ.loc, by rw [← hk, after_nil], fun _ => rfl, fun σ2 _ hl => ?_⟩
    rw [after_nil]
    cases hw : isWriter o.op
    · rfl
    · rcases hl with hl | hl
      · rw [hl]; rfl
      · rw [writer_loud hw] at hl; cases hl
  unfold gop at h
  split at h
  · rename_i hn
    obtain ⟨x, l', h1, h2, h3⟩ := run h
    exact ⟨x, l', h1, h2, fun σ2 ht hl => by simp only [gop, hn]; exact h3 σ2 ht hl⟩
  · rename_i j want hj
    split at h
    · cases h
    · rename_i d hd
      have hin : d ∈ o.looksAt ops := by
        refine List.mem_append_right _ ?_
        rw [hj]
        have hd' : (ops[j]?).bind (·.dst) = some d := hd
        simp only [hd']; simp
      split at h
      · rename_i q hq
        cases hb : (q == want)
        · rw [hb] at h
          obtain ⟨x, l', h1, h2, h3⟩ := idle h
          exact ⟨x, l', h1, h2, fun σ2 ht hl => by simp only [gop, hj, hd, ht d hin, hq, hb, cond_false]; exact h3 σ2 ht hl⟩
        · rw [hb] at h
          obtain ⟨x, l', h1, h2, h3⟩ := run h
          exact ⟨x, l', h1, h2, fun σ2 ht hl => by simp only [gop, hj, hd, ht d hin, hq, hb, cond_true]; exact h3 σ2 ht hl⟩
      · rename_i hq
        obtain ⟨x, l', h1, h2, h3⟩ := idle h
        exact ⟨x, l', h1, h2, fun σ2 ht hl => by simp only [gop, hj, hd, ht d hin, hq]; exact h3 σ2 ht hl⟩
      · cases h

theorem get_put_ne {σ : St} {d : Option Nat} {x : V} {l : Loc} {t : Nat} (h : ∀ d', d = some d' → d' ≠ t) : (σ.put d x l).get t = σ.get t := by
  cases d with
  | none => rfl
  | some d =>
    have := h d rfl
    exact Sl.set_ne this

theorem put_comm {σ : St} {d d' : Option Nat} {x x' : V} {l l' l1 l2 : Loc} (h : ∀ e, d = some e → d' ≠ some e) (hl : l' = l2) : (σ.put d x l).put d' x' l' = (σ.put d' x' l1).put d x l2 := by
  cases d with
  | none => cases d' <;> simp [St.put, hl]
  | some e =>
    cases d' with
    | none => simp [St.put, hl]
    | some e' =>
      have hne : e ≠ e' := fun he => h e rfl (he ▸ rfl)
      simp only [St.put, hl]
      rw [Sl.set_comm _ _ _ hne]

theorem loc_put (σ : St) (d : Option Nat) (x : V) (l : Loc) : (σ.put d x l).loc = l := by cases d <;> rfl

theorem gop_swap {x y : Oper} (hi : indep ops x y = true) {σ σ1 σ2 : St} (h1 : gop cf true (fun j => (ops[j]?).bind (·.dst)) x σ = some σ1) (h2 : gop cf true (fun j => (ops[j]?).bind (·.dst)) y σ1 = some σ2) :
    ∃ τ, gop cf true (fun j => (ops[j]?).bind (·.dst)) y σ = some τ ∧ gop cf true (fun j => (ops[j]?).bind (·.dst)) x τ = some σ2 := by
  unfold indep at hi
  simp only [Bool.and_eq_true, Bool.or_eq_true, Bool.not_eq_true'] at hi
  obtain ⟨hap, hq⟩ := hi
  obtain ⟨a1, a2, a3⟩ := Oper.apart_spec hap
  obtain ⟨vx, lx, e1, wx, fx⟩ := gop_eff h1
  obtain ⟨vy, ly, e2, wy, fy⟩ := gop_eff h2
  have l1 : σ1.loc = lx := by rw [e1, loc_put]
  have qx : isQuiet x.op = true → isWriter x.op = false := fun h => by
    cases hw : isWriter x.op
    · rfl
    · rw [writer_loud hw] at h; cases h
  have qy : isQuiet y.op = true → isWriter y.op = false := fun h => by
    cases hw : isWriter y.op
    · rfl
    · rw [writer_loud hw] at h; cases h
  have g1 := fy σ (fun t ht => by rw [e1, get_put_ne fun d hd e => a1 d hd (e ▸ ht)]) (by
    rcases hq with (hq | hq) | hq
    · exact .inl (by rw [l1]; exact (wx (qx hq)).symm)
    · exact .inr hq
    · exact .inl (by rw [l1]; exact (wx hq.1).symm))
  refine ⟨_, g1, ?_⟩
  have g2 := fx (σ.put y.dst vy (bif isWriter y.op then ly else σ.loc)) (fun t ht => get_put_ne fun d hd e => a3 d hd (e ▸ ht)) (by
    rw [loc_put]
    rcases hq with (hq | hq) | hq
    · exact .inr hq
    · rw [qy hq]; exact .inl rfl
    · rw [hq.2]; exact .inl rfl)
  rw [g2, e2, e1, put_comm (l1 := (bif isWriter y.op then ly else σ.loc)) (l2 := ly) (fun d hd => a2 d hd) rfl]
  congr 2
  rw [loc_put]
  cases hw : isWriter x.op with
  | true =>
    rcases hq with (hq | hq) | hq
    · rw [writer_loud hw] at hq; cases hq
    · rw [wy (qy hq), l1]; rfl
    · rw [hw] at hq; cases hq.1
  | false =>
    cases hw' : isWriter y.op with
    | true => rfl
    | false => rw [wy hw', l1, wx hw]; rfl

/-- Operations by their numbers. -/
noncomputable def runI (cf : Cfg) (ops : Array Oper) : List Nat → St → Option St
  | [], σ => some σ
  | i :: is, σ => match ops[i]? with
    | none => none
    | some o => (gop cf true (fun j => (ops[j]?).bind (·.dst)) o σ).bind (runI cf ops is)

theorem runI_list (l : List Oper) : ∀ k, (∀ j, l[j]? = ops[k + j]?) → ∀ σ, runI cf ops (List.range' k l.length) σ = runG cf true (fun j => (ops[j]?).bind (·.dst)) l σ := by
  induction l with
  | nil => intro k _ σ; simp [runI, runG]
  | cons o l ih =>
    intro k h σ
    have h0 : ops[k]? = some o := by simpa using (h 0).symm
    have ih' := ih (k + 1) (fun j => by have := h (j + 1); simpa [Nat.add_assoc, Nat.add_comm 1 j] using this)
    simp only [List.length_cons, List.range'_succ, runI, h0, runG]
    cases gop cf true (fun j => (ops[j]?).bind (·.dst)) o σ with
    | none => rfl
    | some σ1 => exact ih' σ1

theorem runI_front {i : Nat} {oi : Oper} (hi : ops[i]? = some oi) {post : List Nat} {σ' : St} : ∀ (pre : List Nat) {σ : St}, (∀ x ∈ pre, ∀ ox, ops[x]? = some ox → indep ops ox oi = true) → runI cf ops (pre ++ i :: post) σ = some σ' →
    ∃ σ1, gop cf true (fun j => (ops[j]?).bind (·.dst)) oi σ = some σ1 ∧ runI cf ops (pre ++ post) σ1 = some σ'
  | [], σ, _, h => by
    simp only [List.nil_append, runI, hi] at h
    exact Option.bind_eq_some_iff.1 h
  | x :: pre, σ, hx, h => by
    simp only [List.cons_append, runI] at h
    split at h
    · cases h
    · rename_i ox hox
      obtain ⟨σx, h1, h2⟩ := Option.bind_eq_some_iff.1 h
      obtain ⟨σ1, h3, h4⟩ := runI_front hi pre (fun x hx' => hx x (by simp [hx'])) h2
      obtain ⟨τ, h5, h6⟩ := gop_swap (hx x (by simp) ox hox) h1 h3
      exact ⟨τ, h5, by simp only [List.cons_append, runI, hox, h6, Option.bind_some]; exact h4⟩

theorem testBit_anc {acc : List Nat} {o : Oper} {x : Nat} (h : (ancOf acc o).testBit x = true) : ∃ e ∈ o.after, Region.binds .any e = true ∧ (x = e.on ∨ (acc.getD e.on 0).testBit x = true) := by
  unfold ancOf at h
  have : ∀ es : List Edge, (es.foldr (fun e s => bif Region.binds .any e then (2 ^ e.on ||| acc.getD e.on 0) ||| s else s) 0).testBit x = true → ∃ e ∈ es, Region.binds .any e = true ∧ (x = e.on ∨ (acc.getD e.on 0).testBit x = true) := by
    intro es
    induction es with
    | nil => intro h; simp at h
    | cons e es ih =>
      intro h
      simp only [List.foldr_cons] at h
      cases hb : Region.binds .any e
      · rw [hb] at h
        obtain ⟨e', h1, h2⟩ := ih h
        exact ⟨e', by simp [h1], h2⟩
      · rw [hb] at h
        simp only [cond_true, Nat.testBit_or, Bool.or_eq_true, Nat.testBit_two_pow, decide_eq_true_eq] at h
        rcases h with (h | h) | h
        · exact ⟨e, by simp, hb, .inl h.symm⟩
        · exact ⟨e, by simp, hb, .inr h⟩
        · obtain ⟨e', h1, h2⟩ := ih h
          exact ⟨e', by simp [h1], h2⟩
  obtain ⟨e, h1, h2⟩ := this _ h
  exact ⟨e, by simpa using h1, h2⟩

/-- Forerunners of what is ready are listed. -/
theorem anc_listed {L : Nat → Prop} (hL : ∀ k o, ops[k]? = some o → L k → ∀ e ∈ o.after, Region.binds .any e = true → L e.on) : ∀ (os : List Oper) (acc : List Nat), (∀ j, os[j]? = ops[acc.length + j]?) →
    (∀ k o, ops[k]? = some o → k < acc.length → (∀ e ∈ o.after, Region.binds .any e = true → L e.on) → ∀ x, (acc.getD k 0).testBit x = true → L x) →
    ∀ k o, ops[k]? = some o → k < (ancsGo os acc).length → (∀ e ∈ o.after, Region.binds .any e = true → L e.on) → ∀ x, ((ancsGo os acc).getD k 0).testBit x = true → L x
  | [], acc, _, h => h
  | o :: os, acc, ho, h => by
    refine anc_listed hL os (acc ++ [ancOf acc o]) (fun j => by have := ho (j + 1); simpa [Nat.add_assoc, Nat.add_comm 1 j] using this) ?_
    intro k ok hk hlt hall x hx
    by_cases hk' : k < acc.length
    · have e1 : (acc ++ [ancOf acc o]).getD k 0 = acc.getD k 0 := by simp only [List.getD, List.getElem?_append_left hk']
      rw [e1] at hx
      exact h k ok hk hk' hall x hx
    · have hk'' : k = acc.length := by simp at hlt; omega
      subst hk''
      have h0 : ops[acc.length]? = some o := by simpa using (ho 0).symm
      rw [hk] at h0
      injection h0 with h0
      subst h0
      have e1 : (acc ++ [ancOf acc ok]).getD acc.length 0 = ancOf acc ok := by simp [List.getD]
      rw [e1] at hx
      obtain ⟨e, he, hb, hx⟩ := testBit_anc hx
      have hle := hall e he hb
      rcases hx with rfl | hx
      · exact hle
      · by_cases hlt' : e.on < acc.length
        · have hso : ∃ oe, ops[e.on]? = some oe := by
            have : acc.length < ops.size := (Array.getElem?_eq_some_iff.1 hk).1
            exact ⟨_, Array.getElem?_eq_getElem (by omega)⟩
          obtain ⟨oe, hoe⟩ := hso
          exact h e.on oe hoe hlt' (hL e.on oe hoe hle) x hx
        · simp [List.getD, List.getElem?_eq_none (Nat.le_of_not_lt hlt')] at hx

theorem backOk_spec : ∀ (os : List Oper) (p : Nat), backOk os p = true → ∀ j o, os[j]? = some o → ∀ e ∈ o.after, Region.binds .any e = true → e.on < p + j
  | [], p, _, j, o, hj => by simp at hj
  | o :: os, p, h, j, oj, hj => by
    simp only [backOk, Bool.and_eq_true, List.all_eq_true] at h
    cases j with
    | zero =>
      simp at hj
      subst hj
      intro e he hb
      have := h.1 e (by simpa using he)
      simp only [hb, Bool.not_true, Bool.false_or] at this
      have := Nat.le_of_ble_eq_true this
      omega
    | succ j =>
      intro e he hb
      have := backOk_spec os (p + 1) h.2 j oj (by simpa using hj) e he hb
      omega

/-- What an order's check says. -/
theorem orderOk_spec (h : orderOk ops = true) : (∀ j o, ops[j]? = some o → ∀ e ∈ o.after, Region.binds .any e = true → e.on < j) ∧
    ∀ (j i : Nat) oi oj, ops[i]? = some oi → ops[j]? = some oj → i < j → ((ancsGo ops.toList []).getD j 0).testBit i = true ∨ indep ops oi oj = true := by
  unfold orderOk at h
  simp only [Bool.and_eq_true, List.all_eq_true, List.mem_range] at h
  refine ⟨fun j o hj e he hb => ?_, fun j i oi oj hi hj hlt => ?_⟩
  · have := backOk_spec ops.toList 0 h.1 j o (by simpa using hj) e he hb
    omega
  · have := h.2 j (Array.getElem?_eq_some_iff.1 hj).1 i hlt
    simp only [hi, hj, Bool.or_eq_true] at this
    exact this

theorem ancsGo_length : ∀ (os : List Oper) (acc : List Nat), (ancsGo os acc).length = acc.length + os.length
  | [], acc => rfl
  | o :: os, acc => by simp only [ancsGo]; rw [ancsGo_length os]; simp; omega

/-- What of a region's variables is yet to be made. -/
def pendOf (ops : Array Oper) (rest : List Nat) : Nat → Prop := fun s => ∃ i ∈ rest, ∃ o, ops[i]? = some o ∧ allocDst o = some s

structure Facts (A : Fr) (ops : Array Oper) : Prop where
  pt : ∀ (i : Nat) (o : Oper) (t : TypeId) (d : Nat), ops[i]? = some o → o.op = .alloc t → o.dst = some d → A.pt d = t
  gd : ∀ (i : Nat) (o : Oper), ops[i]? = some o → isAlloc o = true → o.guard = none
  one : ∀ (i j : Nat) (o o' : Oper) (d : Nat), ops[i]? = some o → ops[j]? = some o' → allocDst o = some d → allocDst o' = some d → i = j
  tm : ∀ (i : Nat) (o : Oper) (d : Nat), ops[i]? = some o → o.dst = some d → A.tm d = none
  other : ∀ (i j : Nat) (o o' : Oper) (d : Nat), ops[i]? = some o → ops[j]? = some o' → isAlloc o = false → o.dst = some d → allocDst o' ≠ some d

theorem pend_step {i : Nat} {o : Oper} (F : Facts A ops) (hi : ops[i]? = some o) {rest rest' : List Nat} (hr : ∀ j, j ∈ rest' ↔ j ∈ rest ∧ j ≠ i) : pendAfter (pendOf ops rest) o = pendOf ops rest' := by
  funext s
  refine propext ⟨fun ⟨⟨j, hj, oj, hoj, hd⟩, hn⟩ => ?_, fun ⟨j, hj, oj, hoj, hd⟩ => ⟨⟨j, ((hr j).1 hj).1, oj, hoj, hd⟩, fun ⟨ha, hd'⟩ => ?_⟩⟩
  · refine ⟨j, (hr j).2 ⟨hj, fun e => hn ?_⟩, oj, hoj, hd⟩
    subst e
    rw [hi] at hoj
    injection hoj with hoj
    subst hoj
    unfold allocDst at hd
    cases ha : isAlloc o
    · rw [ha] at hd; cases hd
    · rw [ha] at hd; exact ⟨rfl, hd⟩
  · have : allocDst o = some s := by simp [allocDst, ha, hd']
    exact ((hr j).1 hj).2 (F.one j i oj o s hoj hi hd this)

theorem op_at {ro : Option Nat} (hc : CfgOk P cf) (F : Facts A ops) {strict : Bool} {i : Nat} {o : Oper} (hi : ops[i]? = some o) {rest rest' : List Nat} (hin : i ∈ rest) (hr : ∀ j, j ∈ rest' ↔ j ∈ rest ∧ j ≠ i) {E : Env} {σ σ1 : St} {a : Act}
    (h : Rel P A E σ (pendOf ops rest) a) (hg : gop cf strict (fun j => (ops[j]?).bind (·.dst)) o σ = some σ1) {K : Act → World → Prop} (hK : ∀ E' a', Rel P A E' σ1 (pendOf ops rest') a' → K a' E'.w) :
    doOp ro P o (Region.wanted o (yielded ops a.tmps)) a E.w K Q := by
  refine gop_step hc (F.gd i o hi) (fun t d ho hd => F.pt i o t d hi ho hd) h (fun d hd => F.tm i o d hi hd) (fun ha d hd => ⟨i, hin, o, hi, by simp [allocDst, ha, hd]⟩) (fun hna d hd hp => ?_) hg (fun E' a' h' => hK E' a' (by rw [← pend_step F hi hr]; exact h'))
  obtain ⟨j, _, oj, hoj, hd'⟩ := hp
  exact F.other i j o oj d hi hoj hna hd hd'

theorem pendOf_nil : pendOf ops [] = fun _ => False := by funext s; simp [pendOf]

/-- A region as it stands. -/
theorem run_plain {ro : Option Nat} (hc : CfgOk P cf) (F : Facts A ops) {σ' : St} (hQ : ∀ E' a', Rel P A E' σ' (fun _ => False) a' → Q .normal a' E'.w) : ∀ (os : List Oper) (p : Nat) (_ : ∀ j, os[j]? = ops[p + j]?) {E : Env} {σ : St} {a : Act} (_ : Rel P A E σ (pendOf ops (List.range' p os.length)) a)
    (_ : runG cf false (fun j => (ops[j]?).bind (·.dst)) os σ = some σ'), wpListIn (FW ro) 0 P ops Q os a E.w
  | [], p, _, E, σ, a, h, hk => by
    injection hk with hk
    subst hk
    refine hQ E a ?_
    have : pendOf ops (List.range' p ([] : List Oper).length) = fun _ => False := pendOf_nil
    rw [this] at h; exact h
  | o :: os, p, ho, E, σ, a, h, hk => by
    have h0 : ops[p]? = some o := by simpa using (ho 0).symm
    simp only [runG] at hk
    obtain ⟨σ1, h1, h2⟩ := Option.bind_eq_some_iff.1 hk
    refine wpListIn_step fun K hK => ?_
    refine op_at hc F h0 (rest' := List.range' (p + 1) os.length) (by simp) (fun j => ?_) h h1 fun E' a' h' => hK _ _ ?_
    · simp only [List.mem_range'_1, List.length_cons]; omega
    · exact run_plain hc F hQ os (p + 1) (fun j => by have := ho (j + 1); simpa [Nat.add_assoc, Nat.add_comm 1 j] using this) h' h2

/-- ... and in any order that its edges allow. -/
theorem run_any {ro : Option Nat} (hc : CfgOk P cf) (F : Facts A ops) (hord : orderOk ops = true) {σ' : St} (hQ : ∀ E' a', Rel P A E' σ' (fun _ => False) a' → Q .normal a' E'.w) : ∀ (fuel : Nat) (listed : Array Bool) (rest : List Nat) {E : Env} {σ : St} {a : Act}
    (_ : listed.size = ops.size) (_ : rest.length = fuel) (_ : rest.Pairwise (· < ·)) (_ : ∀ j, j ∈ rest ↔ j < ops.size ∧ listed.getD j true = false)
    (_ : ∀ k o, ops[k]? = some o → listed.getD k false = true → ∀ e ∈ o.after, Region.binds .any e = true → listed.getD e.on false = true)
    (_ : Rel P A E σ (pendOf ops rest) a) (_ : runI cf ops rest σ = some σ'), wpAnyIn (FW ro) 0 P .any ops Q fuel listed a E.w
  | 0, listed, rest, E, σ, a, hs, hl, hp, hm, hcl, h, hk => by
    have : rest = [] := List.length_eq_zero_iff.1 hl
    subst this
    injection hk with hk
    subst hk
    refine ⟨?_, hQ E a (by rw [pendOf_nil] at h; exact h)⟩
    rw [List.eq_nil_iff_forall_not_mem]
    intro i hi
    obtain ⟨h0, o, ho, _⟩ := mem_ready.1 hi
    have := (hm i).2 ⟨(Array.getElem?_eq_some_iff.1 ho).1, h0⟩
    simp at this
  | fuel + 1, listed, rest, E, σ, a, hs, hl, hp, hm, hcl, h, hk => by
    obtain ⟨hback, hpair⟩ := orderOk_spec hord
    have hgd : ∀ j, j < ops.size → (listed.getD j true = false ↔ listed.getD j false = false) := fun j hj => by
      have : j < listed.size := by rw [hs]; exact hj
      simp [this]
    refine ⟨fun hnil => ?_, fun i hi => ?_⟩
    · exfalso
      cases rest with
      | nil => simp at hl
      | cons j rest' =>
        obtain ⟨hj1, hj2⟩ := (hm j).1 (by simp)
        have : j ∈ Region.ready .any ops listed := by
          refine mem_ready.2 ⟨hj2, ops[j], Array.getElem?_eq_getElem hj1, fun e he hb => ?_⟩
          have hlt := hback j _ (Array.getElem?_eq_getElem hj1) e he hb
          cases hc' : listed.getD e.on false with
          | true => rfl
          | false =>
            have h1 := (hm e.on).2 ⟨by omega, (hgd _ (by omega)).2 hc'⟩
            rcases List.mem_cons.1 h1 with h1 | h1
            · omega
            · have := (List.pairwise_cons.1 hp).1 _ h1
              omega
        rw [hnil] at this
        cases this
    · obtain ⟨hi0, oi, hoi, hall⟩ := mem_ready.1 hi
      have hin : i ∈ rest := (hm i).2 ⟨(Array.getElem?_eq_some_iff.1 hoi).1, hi0⟩
      obtain ⟨pre, post, rfl⟩ := List.append_of_mem hin
      have hpre : ∀ x ∈ pre, x < i := fun x hx => by
        have := (List.pairwise_append.1 hp).2.2 x hx i (by simp)
        exact this
      have hpost : ∀ x ∈ post, i < x := fun x hx => by
        have := (List.pairwise_append.1 hp).2.1
        exact (List.pairwise_cons.1 this).1 x hx
      have hsz : i < listed.size := by rw [hs]; exact (Array.getElem?_eq_some_iff.1 hoi).1
      obtain ⟨σ1, g1, g2⟩ := runI_front hoi pre (fun x hx ox hox => by
        rcases hpair i x ox oi hox hoi (hpre x hx) with hb | hb
        · exfalso
          have hL := anc_listed (ops := ops) (L := fun k => listed.getD k false = true) hcl ops.toList [] (fun j => by simp) (fun k o _ hk => by simp at hk) i oi hoi (by rw [ancsGo_length]; simp; exact (Array.getElem?_eq_some_iff.1 hoi).1) hall x hb
          have hx2 := ((hm x).1 (by simp [hx])).2
          rw [(hgd x (Array.getElem?_eq_some_iff.1 hox).1).1 hx2] at hL
          cases hL
        · exact hb) hk
      have hmem : ∀ j, j ∈ pre ++ post ↔ j ∈ pre ++ i :: post ∧ j ≠ i := fun j => by
        simp only [List.mem_append, List.mem_cons]
        constructor
        · rintro (hj | hj)
          · exact ⟨.inl hj, by have := hpre j hj; omega⟩
          · exact ⟨.inr (.inr hj), by have := hpost j hj; omega⟩
        · rintro ⟨hj | hj | hj, hne⟩
          · exact .inl hj
          · exact absurd hj hne
          · exact .inr hj
      unfold wpOpIn
      simp only [hoi]
      have key := op_at (ro := ro) (K := wpAnyIn (FW ro) 0 P .any ops Q fuel (listed.setIfInBounds i true)) (Q := Q) hc F hoi (rest' := pre ++ post) hin hmem h g1 fun E' a' h' => by
        refine run_any hc F hord hQ fuel _ (pre ++ post) (by simp [hs]) (by simp at hl ⊢; omega) ?_ (fun j => ?_) (fun k o ho hk' e he hb => ?_) h' g2
        · rw [List.pairwise_append] at hp ⊢
          exact ⟨hp.1, (List.pairwise_cons.1 hp.2.1).2, fun x hx y hy => hp.2.2 x hx y (by simp [hy])⟩
        · rw [hmem, hm]
          by_cases hji : i = j
          · subst hji; simp [hsz]
          · rw [getD_set_ne true hji]; simp [Ne.symm hji]
        · by_cases hki : i = k
          · subst hki
            rw [hoi] at ho
            injection ho with ho
            subst ho
            exact getD_set_true (hall e he hb)
          · rw [getD_set_ne false hki] at hk'
            exact getD_set_true (hcl k o ho hk' e he hb)
      exact key
end

end Go.PM
