/- The pure machine: what an operation of a drawn region may change, and what it looks at. -/
import Derived.Test.YtepjbmlhfhahcaaPMu
set_option linter.unusedVariables false
set_option linter.unusedSimpArgs false
namespace Go.PM
open Go

variable {P : Program} {R : Type} {r : R}

theorem pur_strict {x : V} {l : Loc} {k : List C → Loc → Option R} (h : pur P true x l k = some r) : ∃ cs, (∀ {S : Type} (l2 : Loc) (k' : List C → Loc → Option S), pur P true x l2 k' = k' cs l2) ∧ k cs l = some r := by
  cases x with
  | c c => exact ⟨_, fun l2 k' => rfl, h⟩
  | agg cs => exact ⟨_, fun l2 k' => rfl, h⟩
  | _ => simp [pur] at h

theorem purL_strict : ∀ {xs : List V} {l : Loc} {k : List (List C) → Loc → Option R} (_ : purL P true xs l k = some r), ∃ ps, (∀ {S : Type} (l2 : Loc) (k' : List (List C) → Loc → Option S), purL P true xs l2 k' = k' ps l2) ∧ k ps l = some r
  | [], l, k, h => ⟨[], fun l2 k' => rfl, h⟩
  | x :: xs, l, k, h => by
    obtain ⟨cs, h1, h2⟩ := pur_strict (show pur P true x l (fun cs l1 => purL P true xs l1 fun ps l2 => k (cs :: ps) l2) = some r from h)
    obtain ⟨ps, h3, h4⟩ := purL_strict h2
    exact ⟨cs :: ps, fun l2 k' => by simp only [purL, h1, h3], h4⟩

theorem hand1_strict (hd : List Nat) : hand1 true hd = false := by cases hd <;> rfl
theorem marsh_strict : ∀ {hd : List Nat} {xs : List V} {l : Loc} {ss : List Nat} {k : List V → Loc → List Nat → Option R} (_ : marsh P true hd xs l ss k = some r),
    ∃ ys, (∀ {S : Type} (l2 : Loc) (k' : List V → Loc → List Nat → Option S), marsh P true hd xs l2 ss k' = k' ys l2 ss) ∧ k ys l ss = some r
  | hd, [], l, ss, k, h => ⟨[], fun l2 k' => by simp [marsh], by simpa [marsh] using h⟩
  | hd, x :: xs, l, ss, k, h => by
    unfold marsh at h
    split at h
    · obtain ⟨ys, h1, h2⟩ := marsh_strict h
      exact ⟨_, fun l2 k' => by simp only [marsh, h1], h2⟩
    · obtain ⟨ys, h1, h2⟩ := marsh_strict h
      exact ⟨_, fun l2 k' => by simp only [marsh, h1], h2⟩
    · simp [pur, hand1_strict] at h
    · cases h
    · cases h

/-- What looks at no object, and changes none. -/
def EffQ {R : Type} (F : {S : Type} → Loc → (V → Loc → List Nat → Option S) → Option S) (l : Loc) (k : V → Loc → List Nat → Option R) (r : R) : Prop :=
  ∃ x, (∀ {S : Type} (l2 : Loc) (k' : V → Loc → List Nat → Option S), F l2 k' = k' x l2 []) ∧ k x l [] = some r
/-- What changes none. -/
def EffR {R : Type} (F : {S : Type} → (V → Loc → List Nat → Option S) → Option S) (l : Loc) (k : V → Loc → List Nat → Option R) (r : R) : Prop :=
  ∃ x, (∀ {S : Type} (k' : V → Loc → List Nat → Option S), F k' = k' x l []) ∧ k x l [] = some r
/-- What strikes none. -/
def EffW {R : Type} (F : {S : Type} → (V → Loc → List Nat → Option S) → Option S) (k : V → Loc → List Nat → Option R) (r : R) : Prop :=
  ∃ x l', (∀ {S : Type} (k' : V → Loc → List Nat → Option S), F k' = k' x l' []) ∧ k x l' [] = some r

section
variable {l : Loc} {k : V → Loc → List Nat → Option R}

theorem pickK_eff {c a b : V} (h : pickK l k c a b = some r) : EffQ (fun l k' => pickK l k' c a b) l k r := by
  unfold pickK at h
  split at h
  · exact ⟨_, fun l2 k' => rfl, h⟩
  · cases h

theorem boxK_eff {own : Bool} {t : TypeId} {d : Nat} {x : V} (h : boxK P l k true own t d x = some r) : EffQ (fun l k' => boxK P l k' true own t d x) l k r := by
  cases own
  · unfold boxK at h
    obtain ⟨cs, h1, h2⟩ := pur_strict h
    exact ⟨_, fun l2 k' => by simp only [boxK, h1], h2⟩
  · cases h

theorem buildK_eff  {t : TypeId} {is : List Nat} {xs : List V} (h : buildK P l k true t is xs = some r) : EffQ (fun l k' => buildK P l k' true t is xs) l k r := by
  unfold buildK at h
  split at h
  · rename_i hT hz
    obtain ⟨h0, h⟩ := need_nat h
    obtain ⟨ps, h1, h2⟩ := purL_strict h
    obtain ⟨cs, h3, h4⟩ := fillK_nat h2
    exact ⟨_, fun l2 k' => by simp only [buildK, hT, hz, h0, h1, h3], h4⟩
  · rename_i hT hz
    obtain ⟨h0, h⟩ := need_nat h
    obtain ⟨ps, h1, h2⟩ := purL_strict h
    obtain ⟨cs, h3, h4⟩ := fillK_nat h2
    exact ⟨_, fun l2 k' => by simp only [buildK, hT, hz, h0, h1, h3], h4⟩
  · cases h

theorem buildSliceK_eff {own : Bool} {t : TypeId} {n d : Nat} {is : List Nat} {xs : List V} (h : buildSliceK P l k true own t n d is xs = some r) : EffQ (fun l k' => buildSliceK P l k' true own t n d is xs) l k r := by
  unfold buildSliceK at h
  split at h
  · rename_i hT
    split at h
    · rename_i hz
      obtain ⟨ps, h1, h2⟩ := purL_strict h
      obtain ⟨cs, h3, h4⟩ := fillK_nat h2
      obtain ⟨h5, h6⟩ := need_nat h4
      cases own
      · exact ⟨_, fun l2 k' => by simp only [buildSliceK, hT, hz, h1, h3, h5], h6⟩
      · cases h6
    · cases h
  · cases h

theorem fieldK_eff {T : TypeId} {f : Nat} {x : V} (h : fieldK P l k T f x = some r) : EffQ (fun l k' => fieldK P l k' T f x) l k r := by
  unfold fieldK at h
  split at h
  · rename_i hf
    obtain ⟨v, h3, h4⟩ := ldC_nat h
    exact ⟨_, fun l2 k' => by simp only [fieldK, hf, h3], h4⟩
  · cases h

theorem indexK_eff {T : TypeId} {x i : V} (h : indexK P l k T x i = some r) : EffQ (fun l k' => indexK P l k' T x i) l k r := by
  unfold indexK at h
  split at h
  · rename_i h1 h2
    split at h
    · rename_i h3
      split at h
      · obtain ⟨h6, h7⟩ := need_nat h
        obtain ⟨v, h8, h9⟩ := ldC_nat h7
        exact ⟨_, fun l2 k' => by simp only [indexK, h1, h2, h3, h6, h8], h9⟩
      · cases h
    · cases h
  · rename_i h1 h2
    split at h
    · obtain ⟨s, h3, h4⟩ := asS_nat h
      obtain ⟨h6, h7⟩ := need_nat h4
      exact ⟨_, fun l2 k' => by simp only [indexK, h1, h2, h3, h6], h7⟩
    · cases h
  · cases h

theorem capK_eff {T : TypeId} {x : V} (h : capK P l k T x = some r) : EffQ (fun l k' => capK P l k' T x) l k r := by
  unfold capK at h
  split at h
  · rename_i hT
    exact ⟨_, fun l2 k' => by simp only [capK, hT], h⟩
  · cases h

theorem extractK_eff {i : Nat} {x : V} (h : extractK l k i x = some r) : EffQ (fun l k' => extractK l k' i x) l k r := by
  unfold extractK at h
  split at h
  · split at h
    · rename_i h1; exact ⟨_, fun l2 k' => by simp only [extractK, h1], h⟩
    · cases h
  · cases h

theorem makeFuncK_eff  {f : FuncId} {xs : List V} (h : makeFuncK P l k true f xs = some r) : EffQ (fun l k' => makeFuncK P l k' true f xs) l k r := by
  unfold makeFuncK at h
  obtain ⟨ps, h1, h2⟩ := purL_strict h
  obtain ⟨h3, h4⟩ := need_nat h2
  exact ⟨_, fun l2 k' => by simp only [makeFuncK, h1, h3], h4⟩

theorem maxK_eff {lt : Bool} {xs : List V} (h : maxK l k lt xs = some r) : EffQ (fun l k' => maxK l k' lt xs) l k r := by
  unfold maxK at h
  split at h
  · obtain ⟨v, h1, h2⟩ := foldMax_nat h
    exact ⟨_, fun l2 k' => by simp only [maxK, h1], h2⟩
  · cases h

theorem loadK_eff {t : TypeId} {a : V} (h : loadK P l k t a = some r) : EffR (fun k' => loadK P l k' t a) l k r := by
  unfold loadK at h
  split at h
  · obtain ⟨cs, h1, h2⟩ := asP_nat h
    obtain ⟨v, h3, h4⟩ := ldC_nat h2
    exact ⟨_, fun k' => by simp only [loadK, h1, h3], h4⟩
  · split at h
    · rename_i hl
      obtain ⟨v, h3, h4⟩ := ldC_nat h
      exact ⟨_, fun k' => by simp only [loadK, hl, h3], h4⟩
    · rename_i hl
      obtain ⟨v, h3, h4⟩ := ldC_nat h
      exact ⟨_, fun k' => by simp only [loadK, hl, h3], h4⟩
    · rename_i hl
      obtain ⟨h3, h4⟩ := need_nat h
      exact ⟨_, fun k' => by simp only [loadK, hl, h3], h4⟩
    · cases h
  · cases h

theorem nilK_eff {x : V} (h : nilK l k x = some r) : EffR (fun k' => nilK l k' x) l k r := by
  unfold nilK at h
  split at h
  · obtain ⟨h3, h4⟩ := need_nat h
    exact ⟨_, fun k' => by simp only [nilK, h3], h4⟩
  · split at h
    · exact ⟨_, fun k' => rfl, h⟩
    · exact ⟨_, fun k' => rfl, h⟩
    · cases h
  · cases h

theorem sliceK_eff {t : TypeId} {x : V} {lo hi : Option V} (h : sliceK P l k t x lo hi = some r) : EffR (fun k' => sliceK P l k' t x lo hi) l k r := by
  unfold sliceK at h
  split at h
  · rename_i hT
    split at h
    · obtain ⟨s, h1, h2⟩ := asS_nat h
      obtain ⟨a, h3, h4⟩ := bound_nat h2
      obtain ⟨b, h5, h6⟩ := bound_nat h4
      exact ⟨_, fun k' => by simp only [sliceK, hT, h1, h3, h5], h6⟩
    · cases h
  · rename_i hT
    split at h
    · rename_i hi'
      split at h
      · obtain ⟨c', h1, h2⟩ := sliceC_nat h
        exact ⟨_, fun k' => by simp only [sliceK, hT, hi', h1], h2⟩
      · split at h
        · rename_i hl
          obtain ⟨h1, h2⟩ := need_nat h
          obtain ⟨a, h3, h4⟩ := bound_nat h2
          obtain ⟨b, h5, h6⟩ := bound_nat h4
          exact ⟨_, fun k' => by simp only [sliceK, hT, hi', hl, h1, h3, h5], h6⟩
        · cases h
      · cases h
    · cases h
  · cases h

theorem fieldAddrK_eff {T : TypeId} {f : Nat} {x : V} (h : fieldAddrK P l k T f x = some r) : EffR (fun k' => fieldAddrK P l k' T f x) l k r := by
  unfold fieldAddrK at h
  split at h
  · rename_i hf
    obtain ⟨h1, h2⟩ := need_nat h
    split at h2
    · obtain ⟨h3, h4⟩ := need_nat h2
      exact ⟨_, fun k' => by simp only [fieldAddrK, hf, h1, h3], h4⟩
    · obtain ⟨cs, h3, h4⟩ := asP_nat h2
      exact ⟨_, fun k' => by simp only [fieldAddrK, hf, h1, h3], h4⟩
    · cases h2
  · cases h

theorem indexAddrK_eff {T : TypeId} {x i : V} (h : indexAddrK P l k T x i = some r) : EffR (fun k' => indexAddrK P l k' T x i) l k r := by
  unfold indexAddrK at h
  split at h
  · rename_i h1 h2
    split at h
    · rename_i h3
      split at h
      · obtain ⟨n, cs, h4, h5⟩ := asSl_nat h
        obtain ⟨h6, h7⟩ := need_nat h5
        exact ⟨_, fun k' => by simp only [indexAddrK, h1, h2, h3, h4, h6], h7⟩
      · split at h
        · rename_i hl
          obtain ⟨h6, h7⟩ := need_nat h
          exact ⟨_, fun k' => by simp only [indexAddrK, h1, h2, h3, hl, h6], h7⟩
        · cases h
      · cases h
    · cases h
  · rename_i h1 h2
    split at h
    · rename_i h3
      split at h
      · obtain ⟨h6, h7⟩ := need_nat h
        exact ⟨_, fun k' => by simp only [indexAddrK, h1, h2, h3, h6], h7⟩
      · obtain ⟨cs, h4, h5⟩ := asP_nat h
        obtain ⟨h6, h7⟩ := need_nat h5
        exact ⟨_, fun k' => by simp only [indexAddrK, h1, h2, h3, h4, h6], h7⟩
      · cases h
    · cases h
  · cases h

theorem lenK_eff {T : TypeId} {x : V} (h : lenK P l k T x = some r) : EffR (fun k' => lenK P l k' T x) l k r := by
  unfold lenK at h
  split at h
  · rename_i hT
    obtain ⟨n, cs, h1, h2⟩ := asSl_nat h
    exact ⟨_, fun k' => by simp only [lenK, hT, h1], h2⟩
  · rename_i hT
    obtain ⟨s, h1, h2⟩ := asS_nat h
    exact ⟨_, fun k' => by simp only [lenK, hT, h1], h2⟩
  · rename_i hT
    split at h
    · rename_i hl; exact ⟨_, fun k' => by simp only [lenK, hT, hl], h⟩
    · cases h
  · rename_i x1 x2 o n el hT
    refine ⟨_, fun k' => ?_, h⟩
    cases x1 <;> simp only [lenK, hT]
  · cases h

theorem storeRf_eff {t : TypeId} {s off : Nat} {t' : TypeId} {x : V} (h : storeRf P l k t s off t' x = some r) : EffW (fun k' => storeRf P l k' t s off t' x) k r := by
  unfold storeRf at h
  split at h
  · obtain ⟨h3, h4⟩ := need_nat h
    exact ⟨_, _, fun k' => by simp only [storeRf, h3], h4⟩
  · obtain ⟨h3, h4⟩ := need_nat h
    exact ⟨_, _, fun k' => by simp only [storeRf, h3], h4⟩
  · cases h

theorem storeOb_eff  {t : TypeId} {s off : Nat} {x : V} (h : storeOb P l k true t s off x = some r) : EffW (fun k' => storeOb P l k' true t s off x) k r := by
  unfold storeOb at h
  obtain ⟨cs, h1, h2⟩ := pur_strict h
  split at h2
  · rename_i hl
    obtain ⟨h3, h4⟩ := need_nat h2
    exact ⟨_, _, fun k' => by simp only [storeOb, h1, hl, h3], h4⟩
  · rename_i hl
    obtain ⟨h3, h4⟩ := need_nat h2
    exact ⟨_, _, fun k' => by simp only [storeOb, h1, hl, h3], h4⟩
  · cases h2

theorem storeK_eff  {t : TypeId} {a x : V} (h : storeK P l k true t a x = some r) : EffW (fun k' => storeK P l k' true t a x) k r := by
  unfold storeK at h
  split at h
  · split at h
    · rename_i t' fz cs hl
      cases hb : (isOwn x && Nat.beq cs.length 1 && Nat.beq fz 0) with
      | true =>
        rw [hb] at h
        obtain ⟨y, l', h1, h2⟩ := storeRf_eff h
        exact ⟨y, l', fun k' => by simp only [storeK, hl, hb, cond_true]; exact h1 k', h2⟩
      | false =>
        rw [hb] at h
        obtain ⟨y, l', h1, h2⟩ := storeOb_eff h
        exact ⟨y, l', fun k' => by simp only [storeK, hl, hb, cond_false]; exact h1 k', h2⟩
    · rename_i hl
      obtain ⟨y, l', h1, h2⟩ := storeOb_eff h
      exact ⟨y, l', fun k' => by simp only [storeK, hl]; exact h1 k', h2⟩
    · rename_i hl
      obtain ⟨y, l', h1, h2⟩ := storeRf_eff h
      exact ⟨y, l', fun k' => by simp only [storeK, hl]; exact h1 k', h2⟩
    · cases h
  · cases h

theorem callK_eff {cf : Cfg} {hd : List Nat} {xo : List (Option TypeId)} {f : FuncId} {xs : List V} {ty : TypeId} {dst : Option Nat} (h : callK cf true hd xo f xs ty dst l k = some r) : EffQ (fun l k' => callK cf true hd xo f xs ty dst l k') l k r := by
  unfold callK at h
  obtain ⟨ys, h1, h2⟩ := marsh_strict h
  obtain ⟨h3, h4⟩ := need_nat h2
  rw [Option.bind_eq_some_iff] at h4
  obtain ⟨out, h5, h6⟩ := h4
  have h8 : retK cf.P ty out.r (fun v => k v l []) = some r := by
    simp only [backK, thaw_same] at h6
    exact h6
  obtain ⟨v, h9, h10⟩ := retK_nat h8
  refine ⟨v, fun l2 k' => ?_, h10⟩
  simp only [callK, h1, List.map_nil] at h5 ⊢
  have h3' : noYl ys = true := by
    cases hn : noYl ys
    · rw [hn] at h2; simp [need, allOb] at h2
    · rfl
  simp only [allOb, h3', Bool.true_and, need, cond_true, h5, Option.bind_some, backK, thaw_same]
  exact h9 _

theorem opK_congr {cf : Cfg} {strict : Bool} {o : Oper} {e e' : Operand → V} {S : Type} {l : Loc} {k : V → Loc → List Nat → Option S} (h : ∀ y ∈ o.op.operands, e y = e' y) : opK cf strict o e l k = opK cf strict o e' l k := by
  obtain ⟨dst, op, type, pos, after, guard⟩ := o
  have pairs : ∀ ps : Array (Nat × Operand), (∀ x ∈ ps.map (·.2), e x = e' x) → (ps.toList.map fun p => e p.2) = (ps.toList.map fun p => e' p.2) := fun ps hp =>
    List.map_congr_left fun p hm => hp p.2 (Array.mem_map.2 ⟨p, by simpa using hm, rfl⟩)
  cases op <;> simp only [Op.operands] at h <;> simp only [opK]
  case build t ps => rw [pairs ps fun x hx => h x (by simpa using hx)]
  case buildSlice t n ps => rw [pairs ps fun x hx => h x (by simpa using hx)]
  case makeFunc fn first captured =>
    have e1 : captured.toList.map e = captured.toList.map e' := List.map_congr_left fun x hx => h x (by simp at hx ⊢; exact .inr hx)
    rw [e1]
  case slice t x lo hi mx =>
    have e0 : e x = e' x := h x (by simp)
    have e1 : lo.map e = lo.map e' := by cases lo <;> simp_all
    have e2 : hi.map e = hi.map e' := by cases hi <;> simp_all
    rw [e0, e1, e2]
  case call c =>
    have e1 : c.args.toList.map e = c.args.toList.map e' := List.map_congr_left fun x hx => h x (by simp [Call.operands] at hx ⊢; exact .inr hx)
    rw [e1]
    cases hc : c.callee with
    | builtin b =>
      cases b <;> simp only
      case len =>
        split
        · rename_i x T hx hT
          have : e x = e' x := h x (by simp [Call.operands]; right; have : x ∈ c.args.toList := by simp [hx]
                                       simpa using this)
          rw [this]
        · rfl
      case cap =>
        split
        · rename_i x T hx hT
          have : e x = e' x := h x (by simp [Call.operands]; right; have : x ∈ c.args.toList := by simp [hx]
                                       simpa using this)
          rw [this]
        · rfl
      case append =>
        split
        · rename_i d s x T T' hx hT
          have h1 : e s = e' s := h s (by simp [Call.operands]; right; have : s ∈ c.args.toList := by simp [hx]
                                          simpa using this)
          have h2 : e x = e' x := h x (by simp [Call.operands]; right; have : x ∈ c.args.toList := by simp [hx]
                                          simpa using this)
          rw [h1, h2]
        · rfl
    | invoke => rfl
    | value f =>
      have h1 : e f = e' f := h f (by simp [Call.operands, hc])
      simp only
      cases f <;> simp only [h1]
  all_goals (first | rfl | (simp_all; done))

theorem opK_eff {cf : Cfg} {o : Oper} {e : Operand → V} (h : opK cf true o e l k = some r) :
    ∃ x l', (isWriter o.op = false → l' = l) ∧ (∀ {S : Type} (l2 : Loc) (k' : V → Loc → List Nat → Option S), l2 = l ∨ isQuiet o.op = true → opK cf true o e l2 k' = k' x (bif isWriter o.op then l' else l2) []) ∧ k x l' [] = some r := by
  have fq : ∀ {F : {S : Type} → Loc → (V → Loc → List Nat → Option S) → Option S}, isWriter o.op = false → EffQ F l k r → (∀ {S : Type} (l2 : Loc) (k' : V → Loc → List Nat → Option S), opK cf true o e l2 k' = F l2 k') →
      ∃ x l', (isWriter o.op = false → l' = l) ∧ (∀ {S : Type} (l2 : Loc) (k' : V → Loc → List Nat → Option S), l2 = l ∨ isQuiet o.op = true → opK cf true o e l2 k' = k' x (bif isWriter o.op then l' else l2) []) ∧ k x l' [] = some r := by
    intro F hw hF he
    obtain ⟨x, h1, h2⟩ := hF
    exact ⟨x, l, fun _ => rfl, fun l2 k' _ => by rw [he, hw]; exact h1 l2 k', h2⟩
  have fr : ∀ {F : {S : Type} → (V → Loc → List Nat → Option S) → Option S}, isWriter o.op = false → isQuiet o.op = false → EffR F l k r → (∀ {S : Type} (k' : V → Loc → List Nat → Option S), opK cf true o e l k' = F k') →
      ∃ x l', (isWriter o.op = false → l' = l) ∧ (∀ {S : Type} (l2 : Loc) (k' : V → Loc → List Nat → Option S), l2 = l ∨ isQuiet o.op = true → opK cf true o e l2 k' = k' x (bif isWriter o.op then l' else l2) []) ∧ k x l' [] = some r := by
    intro F hw hq hF he
    obtain ⟨x, h1, h2⟩ := hF
    refine ⟨x, l, fun _ => rfl, fun l2 k' hl => ?_, h2⟩
    rcases hl with rfl | hl
    · rw [he, hw]; exact h1 k'
    · rw [hq] at hl; cases hl
  unfold opK at h
  split at h
  case h_1 x ho => exact fq (F := fun l k => k (e x) l []) (by simp [isWriter, ho]) ⟨_, fun l2 k' => rfl, h⟩ fun l2 k' => by simp only [opK, ho]
  case h_2 x ho => exact fq (F := fun l k => k (e x) l []) (by simp [isWriter, ho]) ⟨_, fun l2 k' => rfl, h⟩ fun l2 k' => by simp only [opK, ho]
  case h_3 c a b ho => exact fq (by simp [isWriter, ho]) (pickK_eff h) fun l2 k' => by simp only [opK, ho]
  case h_4 t ho =>
    split at h
    case h_2 => cases h
    case h_1 d hd => exact fq (F := fun l k => k (.ptr d 0) l []) (by simp [isWriter, ho]) ⟨_, fun l2 k' => rfl, h⟩ fun l2 k' => by simp only [opK, ho, hd]
  case h_5 t x ho =>
    split at h
    case h_2 => cases h
    case h_1 d hd => exact fq (by simp [isWriter, ho]) (boxK_eff h) fun l2 k' => by simp only [opK, ho, hd]
  case h_6 t parts ho => exact fq (by simp [isWriter, ho]) (buildK_eff h) fun l2 k' => by simp only [opK, ho]
  case h_7 t n parts ho =>
    split at h
    case h_2 => cases h
    case h_1 d hd => exact fq (by simp [isWriter, ho]) (buildSliceK_eff h) fun l2 k' => by simp only [opK, ho, hd]
  case h_8 t a ho => exact fr (by simp [isWriter, ho]) (by simp [isQuiet, ho]) (loadK_eff h) fun k' => by simp only [opK, ho]
  case h_9 t a x ho =>
    obtain ⟨x, l', h1, h2⟩ := storeK_eff h
    refine ⟨x, l', fun hw => by simp [isWriter, ho] at hw, fun l2 k' hl => ?_, h2⟩
    rcases hl with rfl | hl
    · simp only [opK, ho, isWriter, cond_true]; exact h1 k'
    · simp [isQuiet, ho] at hl
  case h_10 x ho => exact fr (by simp [isWriter, ho]) (by simp [isQuiet, ho]) (nilK_eff h) fun k' => by simp only [opK, ho]
  case h_11 op t x y yt ho =>
    obtain ⟨v, h1, h2⟩ := binV_nat h
    exact fq (F := fun l k => k v l []) (by simp [isWriter, ho]) ⟨v, fun l2 k' => rfl, h2⟩ fun l2 k' => by simp only [opK, ho, h1]
  case h_12 op t x ho =>
    obtain ⟨v, h1, h2⟩ := unV_nat h
    exact fq (F := fun l k => k v l []) (by simp [isWriter, ho]) ⟨v, fun l2 k' => rfl, h2⟩ fun l2 k' => by simp only [opK, ho, h1]
  case h_13 src dst x ho =>
    obtain ⟨v, h1, h2⟩ := convV_nat h
    exact fq (F := fun l k => k v l []) (by simp [isWriter, ho]) ⟨v, fun l2 k' => rfl, h2⟩ fun l2 k' => by simp only [opK, ho, h1]
  case h_14 fn first cap ho =>
    split at h
    case h_2 => cases h
    case h_1 f hf =>
      obtain ⟨h1, h2⟩ := need_nat h
      exact fq (by simp [isWriter, ho]) (makeFuncK_eff h2) fun l2 k' => by simp only [opK, ho, hf, h1]
  case h_15 t n c ho =>
    split at h
    case h_2 => cases h
    case h_1 => contradiction
  case h_16 t x lo hi mx ho =>
    split at h
    · cases h
    · exact fr (by simp [isWriter, ho]) (by simp [isQuiet, ho]) (sliceK_eff h) fun k' => by simp only [opK, ho]
  case h_17 T x f ho => exact fr (by simp [isWriter, ho]) (by simp [isQuiet, ho]) (fieldAddrK_eff h) fun k' => by simp only [opK, ho]
  case h_18 T x f ho => exact fq (by simp [isWriter, ho]) (fieldK_eff h) fun l2 k' => by simp only [opK, ho]
  case h_19 T x i ho => exact fr (by simp [isWriter, ho]) (by simp [isQuiet, ho]) (indexAddrK_eff h) fun k' => by simp only [opK, ho]
  case h_20 T x i ho => exact fq (by simp [isWriter, ho]) (indexK_eff h) fun l2 k' => by simp only [opK, ho]
  case h_21 x i ho => exact fq (by simp [isWriter, ho]) (extractK_eff h) fun l2 k' => by simp only [opK, ho]
  case h_22 c ho =>
    split at h
    case h_1 hc =>
      split at h
      case h_2 => cases h
      case h_1 x T ha hT => exact fr (by simp [isWriter, ho]) (by simp [isQuiet, ho, hc]) (lenK_eff h) fun k' => by simp only [opK, ho, hc, ha, hT]
    case h_2 hc =>
      split at h
      case h_2 => cases h
      case h_1 => contradiction
    case h_3 hc =>
      split at h
      case h_2 => cases h
      case h_1 x T ha hT => exact fq (by simp [isWriter, ho]) (capK_eff h) fun l2 k' => by simp only [opK, ho, hc, ha, hT]
    case h_4 hc => exact fq (by simp [isWriter, ho]) (maxK_eff h) fun l2 k' => by simp only [opK, ho, hc]
    case h_5 hc => exact fq (by simp [isWriter, ho]) (maxK_eff h) fun l2 k' => by simp only [opK, ho, hc]
    case h_6 => cases h
    case h_7 => cases h
    case h_8 f hc =>
      split at h
      case h_1 f' => exact fq (by simp [isWriter, ho]) (callK_eff h) fun l2 k' => by simp only [opK, ho, hc]
      case h_2 hne =>
        split at h
        case h_2 => cases h
        case h_1 c' hc' =>
          unfold asYF at h
          split at h
          · refine fq (by simp [isWriter, ho]) (callK_eff h) fun l2 k' => ?_
            cases f with
            | func f'' => exact absurd rfl (hne f'')
            | _ => simp only [opK, ho, hc, hc', asYF]
          · cases h
          · cases h
  case h_23 => cases h
end

end Go.PM
