/- The pure machine: what an operation hands on, continued. -/
import Derived.Test.YtepjbmlhfhahcaaPMr
set_option linter.unusedVariables false
set_option linter.unusedSimpArgs false
namespace Go.PM
open Go

variable {P : Program} {R : Type} {r : R}

/-- What is handed on is one thing. -/
def Nat3 {R : Type} (F : {S : Type} → (V → Loc → List Nat → Option S) → Option S) (k : V → Loc → List Nat → Option R) (r : R) : Prop :=
  ∃ x l ks, (∀ {S : Type} (k' : V → Loc → List Nat → Option S), F k' = k' x l ks) ∧ k x l ks = some r

section
variable {l : Loc} {k : V → Loc → List Nat → Option R}

theorem pickK_nat {c a b : V} (h : pickK l k c a b = some r) : Nat3 (fun k' => pickK l k' c a b) k r := by
  unfold pickK at h
  split at h
  · exact ⟨_, _, _, fun k' => rfl, h⟩
  · cases h
theorem boxK_nat {strict own : Bool} {t : TypeId} {d : Nat} {x : V} (h : boxK P l k strict own t d x = some r) : Nat3 (fun k' => boxK P l k' strict own t d x) k r := by
  unfold boxK at h
  split at h
  · obtain ⟨cs, l', h1, h2⟩ := pur_nat h
    obtain ⟨h3, h4⟩ := need_nat h2
    exact ⟨_, _, _, fun k' => by simp only [boxK, h1, h3], h4⟩
  · cases h
  · obtain ⟨cs, l', h1, h2⟩ := pur_nat h
    exact ⟨_, _, _, fun k' => by simp only [boxK, h1], h2⟩
theorem buildK_nat {strict : Bool} {t : TypeId} {is : List Nat} {xs : List V} (h : buildK P l k strict t is xs = some r) : Nat3 (fun k' => buildK P l k' strict t is xs) k r := by
  unfold buildK at h
  split at h
  · rename_i hT hz
    obtain ⟨h0, h⟩ := need_nat h
    obtain ⟨ps, l', h1, h2⟩ := purL_nat h
    obtain ⟨cs, h3, h4⟩ := fillK_nat h2
    exact ⟨_, _, _, fun k' => by simp only [buildK, hT, hz, h0, h1, h3], h4⟩
  · rename_i hT hz
    obtain ⟨h0, h⟩ := need_nat h
    obtain ⟨ps, l', h1, h2⟩ := purL_nat h
    obtain ⟨cs, h3, h4⟩ := fillK_nat h2
    exact ⟨_, _, _, fun k' => by simp only [buildK, hT, hz, h0, h1, h3], h4⟩
  · cases h
theorem buildSliceK_nat {strict own : Bool} {t : TypeId} {n d : Nat} {is : List Nat} {xs : List V} (h : buildSliceK P l k strict own t n d is xs = some r) : Nat3 (fun k' => buildSliceK P l k' strict own t n d is xs) k r := by
  unfold buildSliceK at h
  split at h
  · rename_i hT
    split at h
    · rename_i hz
      obtain ⟨ps, l', h1, h2⟩ := purL_nat h
      obtain ⟨cs, h3, h4⟩ := fillK_nat h2
      obtain ⟨h5, h6⟩ := need_nat h4
      split at h6
      · exact ⟨_, _, _, fun k' => by simp only [buildSliceK, hT, hz, h1, h3, h5], h6⟩
      · cases h6
      · exact ⟨_, _, _, fun k' => by simp only [buildSliceK, hT, hz, h1, h3, h5], h6⟩
    · cases h
  · cases h
theorem loadK_nat {t : TypeId} {a : V} (h : loadK P l k t a = some r) : Nat3 (fun k' => loadK P l k' t a) k r := by
  unfold loadK at h
  split at h
  · obtain ⟨cs, h1, h2⟩ := asP_nat h
    obtain ⟨v, h3, h4⟩ := ldC_nat h2
    exact ⟨_, _, _, fun k' => by simp only [loadK, h1, h3], h4⟩
  · split at h
    · rename_i hl
      obtain ⟨v, h3, h4⟩ := ldC_nat h
      exact ⟨_, _, _, fun k' => by simp only [loadK, hl, h3], h4⟩
    · rename_i hl
      obtain ⟨v, h3, h4⟩ := ldC_nat h
      exact ⟨_, _, _, fun k' => by simp only [loadK, hl, h3], h4⟩
    · rename_i hl
      obtain ⟨h3, h4⟩ := need_nat h
      exact ⟨_, _, _, fun k' => by simp only [loadK, hl, h3], h4⟩
    · cases h
  · cases h
theorem storeRf_nat {t : TypeId} {s off : Nat} {t' : TypeId} {x : V} (h : storeRf P l k t s off t' x = some r) : Nat3 (fun k' => storeRf P l k' t s off t' x) k r := by
  unfold storeRf at h
  split at h
  · obtain ⟨h3, h4⟩ := need_nat h
    exact ⟨_, _, _, fun k' => by simp only [storeRf, h3], h4⟩
  · obtain ⟨h3, h4⟩ := need_nat h
    exact ⟨_, _, _, fun k' => by simp only [storeRf, h3], h4⟩
  · cases h
theorem storeOb_nat {strict : Bool} {t : TypeId} {s off : Nat} {x : V} (h : storeOb P l k strict t s off x = some r) : Nat3 (fun k' => storeOb P l k' strict t s off x) k r := by
  unfold storeOb at h
  obtain ⟨cs, l', h1, h2⟩ := pur_nat h
  split at h2
  · rename_i hl
    obtain ⟨h3, h4⟩ := need_nat h2
    exact ⟨_, _, _, fun k' => by simp only [storeOb, h1, hl, h3], h4⟩
  · rename_i hl
    obtain ⟨h3, h4⟩ := need_nat h2
    exact ⟨_, _, _, fun k' => by simp only [storeOb, h1, hl, h3], h4⟩
  · cases h2
theorem storeK_nat {strict : Bool} {t : TypeId} {a x : V} (h : storeK P l k strict t a x = some r) : Nat3 (fun k' => storeK P l k' strict t a x) k r := by
  unfold storeK at h
  split at h
  · split at h
    · rename_i t' fz cs hl
      cases hb : (isOwn x && Nat.beq cs.length 1 && Nat.beq fz 0) with
      | true =>
        rw [hb] at h
        obtain ⟨y, l', ks, h1, h2⟩ := storeRf_nat h
        exact ⟨y, l', ks, fun k' => by simp only [storeK, hl, hb, cond_true]; exact h1 k', h2⟩
      | false =>
        rw [hb] at h
        obtain ⟨y, l', ks, h1, h2⟩ := storeOb_nat h
        exact ⟨y, l', ks, fun k' => by simp only [storeK, hl, hb, cond_false]; exact h1 k', h2⟩
    · rename_i hl
      obtain ⟨y, l', ks, h1, h2⟩ := storeOb_nat h
      exact ⟨y, l', ks, fun k' => by simp only [storeK, hl]; exact h1 k', h2⟩
    · rename_i hl
      obtain ⟨y, l', ks, h1, h2⟩ := storeRf_nat h
      exact ⟨y, l', ks, fun k' => by simp only [storeK, hl]; exact h1 k', h2⟩
    · cases h
  · cases h
theorem nilK_nat {x : V} (h : nilK l k x = some r) : Nat3 (fun k' => nilK l k' x) k r := by
  unfold nilK at h
  split at h
  · obtain ⟨h3, h4⟩ := need_nat h
    exact ⟨_, _, _, fun k' => by simp only [nilK, h3], h4⟩
  · split at h
    · exact ⟨_, _, _, fun k' => rfl, h⟩
    · exact ⟨_, _, _, fun k' => rfl, h⟩
    · cases h
  · cases h
theorem makeSliceK_nat {t : TypeId} {d : Nat} {n c : V} (h : makeSliceK P l k t d n c = some r) : Nat3 (fun k' => makeSliceK P l k' t d n c) k r := by
  unfold makeSliceK at h
  split at h
  · rename_i h1 h2 h3
    split at h
    · rename_i h4 h5
      obtain ⟨h6, h7⟩ := need_nat h
      exact ⟨_, _, _, fun k' => by simp only [makeSliceK, h1, h2, h3, h4, h5, h6], h7⟩
    · cases h
  · cases h
theorem sliceC_nat {sz : Nat} {c : C} {lo hi : Option V} {k : C → Option R} (h : sliceC sz lo hi c k = some r) : ∃ c', (∀ {S : Type} (k' : C → Option S), sliceC sz lo hi c k' = k' c') ∧ k c' = some r := by
  unfold sliceC at h
  split at h
  · obtain ⟨a, h3, h4⟩ := bound_nat h
    obtain ⟨b, h5, h6⟩ := bound_nat h4
    exact ⟨_, fun k' => by simp only [sliceC, h3, h5], h6⟩
  · obtain ⟨a, h3, h4⟩ := bound_nat h
    obtain ⟨b, h5, h6⟩ := bound_nat h4
    exact ⟨_, fun k' => by simp only [sliceC, h3, h5], h6⟩
  · cases h
theorem sliceK_nat {t : TypeId} {x : V} {lo hi : Option V} (h : sliceK P l k t x lo hi = some r) : Nat3 (fun k' => sliceK P l k' t x lo hi) k r := by
  unfold sliceK at h
  split at h
  · rename_i hT
    split at h
    · obtain ⟨s, h1, h2⟩ := asS_nat h
      obtain ⟨a, h3, h4⟩ := bound_nat h2
      obtain ⟨b, h5, h6⟩ := bound_nat h4
      exact ⟨_, _, _, fun k' => by simp only [sliceK, hT, h1, h3, h5], h6⟩
    · cases h
  · rename_i hT
    split at h
    · rename_i hi'
      split at h
      · obtain ⟨c', h1, h2⟩ := sliceC_nat h
        exact ⟨_, _, _, fun k' => by simp only [sliceK, hT, hi', h1], h2⟩
      · split at h
        · rename_i hl
          obtain ⟨h1, h2⟩ := need_nat h
          obtain ⟨a, h3, h4⟩ := bound_nat h2
          obtain ⟨b, h5, h6⟩ := bound_nat h4
          exact ⟨_, _, _, fun k' => by simp only [sliceK, hT, hi', hl, h1, h3, h5], h6⟩
        · cases h
      · cases h
    · cases h
  · cases h
theorem fieldAddrK_nat {T : TypeId} {f : Nat} {x : V} (h : fieldAddrK P l k T f x = some r) : Nat3 (fun k' => fieldAddrK P l k' T f x) k r := by
  unfold fieldAddrK at h
  split at h
  · rename_i hf
    obtain ⟨h1, h2⟩ := need_nat h
    split at h2
    · obtain ⟨h3, h4⟩ := need_nat h2
      exact ⟨_, _, _, fun k' => by simp only [fieldAddrK, hf, h1, h3], h4⟩
    · obtain ⟨cs, h3, h4⟩ := asP_nat h2
      exact ⟨_, _, _, fun k' => by simp only [fieldAddrK, hf, h1, h3], h4⟩
    · cases h2
  · cases h
theorem fieldK_nat {T : TypeId} {f : Nat} {x : V} (h : fieldK P l k T f x = some r) : Nat3 (fun k' => fieldK P l k' T f x) k r := by
  unfold fieldK at h
  split at h
  · rename_i hf
    obtain ⟨v, h3, h4⟩ := ldC_nat h
    exact ⟨_, _, _, fun k' => by simp only [fieldK, hf, h3], h4⟩
  · cases h
theorem indexAddrK_nat {T : TypeId} {x i : V} (h : indexAddrK P l k T x i = some r) : Nat3 (fun k' => indexAddrK P l k' T x i) k r := by
  unfold indexAddrK at h
  split at h
  · rename_i h1 h2
    split at h
    · rename_i h3
      split at h
      · obtain ⟨n, cs, h4, h5⟩ := asSl_nat h
        obtain ⟨h6, h7⟩ := need_nat h5
        exact ⟨_, _, _, fun k' => by simp only [indexAddrK, h1, h2, h3, h4, h6], h7⟩
      · split at h
        · rename_i hl
          obtain ⟨h6, h7⟩ := need_nat h
          exact ⟨_, _, _, fun k' => by simp only [indexAddrK, h1, h2, h3, hl, h6], h7⟩
        · cases h
      · cases h
    · cases h
  · rename_i h1 h2
    split at h
    · rename_i h3
      split at h
      · obtain ⟨h6, h7⟩ := need_nat h
        exact ⟨_, _, _, fun k' => by simp only [indexAddrK, h1, h2, h3, h6], h7⟩
      · obtain ⟨cs, h4, h5⟩ := asP_nat h
        obtain ⟨h6, h7⟩ := need_nat h5
        exact ⟨_, _, _, fun k' => by simp only [indexAddrK, h1, h2, h3, h4, h6], h7⟩
      · cases h
    · cases h
  · cases h
theorem indexK_nat {T : TypeId} {x i : V} (h : indexK P l k T x i = some r) : Nat3 (fun k' => indexK P l k' T x i) k r := by
  unfold indexK at h
  split at h
  · rename_i h1 h2
    split at h
    · rename_i h3
      split at h
      · obtain ⟨h6, h7⟩ := need_nat h
        obtain ⟨v, h8, h9⟩ := ldC_nat h7
        exact ⟨_, _, _, fun k' => by simp only [indexK, h1, h2, h3, h6, h8], h9⟩
      · cases h
    · cases h
  · rename_i h1 h2
    split at h
    · obtain ⟨s, h3, h4⟩ := asS_nat h
      obtain ⟨h6, h7⟩ := need_nat h4
      exact ⟨_, _, _, fun k' => by simp only [indexK, h1, h2, h3, h6], h7⟩
    · cases h
  · cases h
theorem extractK_nat {i : Nat} {x : V} (h : extractK l k i x = some r) : Nat3 (fun k' => extractK l k' i x) k r := by
  unfold extractK at h
  split at h
  · split at h
    · rename_i h1; exact ⟨_, _, _, fun k' => by simp only [extractK, h1], h⟩
    · cases h
  · cases h
theorem capK_nat {T : TypeId} {x : V} (h : capK P l k T x = some r) : Nat3 (fun k' => capK P l k' T x) k r := by
  unfold capK at h
  split at h
  · rename_i hT
    exact ⟨_, _, _, fun k' => by simp only [capK, hT], h⟩
  · cases h
theorem lenK_nat {T : TypeId} {x : V} (h : lenK P l k T x = some r) : Nat3 (fun k' => lenK P l k' T x) k r := by
  unfold lenK at h
  split at h
  · rename_i hT
    obtain ⟨n, cs, h1, h2⟩ := asSl_nat h
    exact ⟨_, _, _, fun k' => by simp only [lenK, hT, h1], h2⟩
  · rename_i hT
    obtain ⟨s, h1, h2⟩ := asS_nat h
    exact ⟨_, _, _, fun k' => by simp only [lenK, hT, h1], h2⟩
  · rename_i hT
    split at h
    · rename_i hl; exact ⟨_, _, _, fun k' => by simp only [lenK, hT, hl], h⟩
    · cases h
  · rename_i x1 x2 o n el hT
    refine ⟨_, _, _, fun k' => ?_, h⟩
    cases x1 <;> simp only [lenK, hT]
  · cases h
theorem makeFuncK_nat {strict : Bool} {f : FuncId} {xs : List V} (h : makeFuncK P l k strict f xs = some r) : Nat3 (fun k' => makeFuncK P l k' strict f xs) k r := by
  unfold makeFuncK at h
  obtain ⟨ps, l', h1, h2⟩ := purL_nat h
  obtain ⟨h3, h4⟩ := need_nat h2
  exact ⟨_, _, _, fun k' => by simp only [makeFuncK, h1, h3], h4⟩
theorem maxK_nat {lt : Bool} {xs : List V} (h : maxK l k lt xs = some r) : Nat3 (fun k' => maxK l k' lt xs) k r := by
  unfold maxK at h
  split at h
  · obtain ⟨v, h1, h2⟩ := foldMax_nat h
    exact ⟨_, _, _, fun k' => by simp only [maxK, h1], h2⟩
  · cases h
theorem appendK_nat {cf : Cfg} {T : TypeId} {s x : V} {d : Nat} (h : appendK cf T s x d l k = some r) : Nat3 (fun k' => appendK cf T s x d l k') k r := by
  unfold appendK at h
  split at h
  · rename_i hT
    split at h
    · rename_i hi hz
      obtain ⟨m, cs, h1, h2⟩ := newsK_nat h
      split at h2
      · obtain ⟨h3, h4⟩ := need_nat h2
        exact ⟨_, _, _, fun k' => by simp only [appendK, hT, hi, hz, h1, h3], h4⟩
      · split at h2
        · rename_i hl
          obtain ⟨h3, h4⟩ := need_nat h2
          exact ⟨_, _, _, fun k' => by simp only [appendK, hT, hi, hz, h1, hl, h3], h4⟩
        · rename_i hl
          obtain ⟨h3, h4⟩ := need_nat h2
          exact ⟨_, _, _, fun k' => by simp only [appendK, hT, hi, hz, h1, hl, h3], h4⟩
        · cases h2
      · cases h2
    · cases h
  · cases h

theorem appMakeK_nat {P : Program} {T T' : TypeId} {s x : V} {d : Nat} (h : appMakeK P l k T T' s x d = some r) : Nat3 (fun k' => appMakeK P l k' T T' s x d) k r := by
  unfold appMakeK at h
  split at h
  · rename_i h1 h2 h3
    split at h
    · rename_i h4 h5
      obtain ⟨h6, h7⟩ := need_nat h
      exact ⟨_, _, _, fun k' => by simp only [appMakeK, h1, h2, h3, h4, h5, h6], h7⟩
    · cases h
  · cases h

theorem takeK_nat {m d : Nat} {xo : List (Option TypeId)} {ty : TypeId} {v : V} {os : List Obj} {l : Loc} (h : takeK P m d xo ty v os l k = some r) : Nat3 (fun k' => takeK P m d xo ty v os l k') k r := by
  unfold takeK at h
  split at h
  · rename_i ts hts
    unfold rT at h
    split at h
    · obtain ⟨ys, l2, ks, h1, h2⟩ := takeL_nat h
      exact ⟨_, _, _, fun k' => by simp only [takeK, hts, rT, h1], h2⟩
    · cases h
  · rename_i hne
    obtain ⟨y, i2, os2, l2, ks, h1, h2⟩ := take1_nat h
    refine ⟨_, _, _, fun k' => ?_, h2⟩
    simp only [takeK]
    exact h1 _

theorem callK_nat {cf : Cfg} {strict : Bool} {hd : List Nat} {xo : List (Option TypeId)} {f : FuncId} {xs : List V} {ty : TypeId} {dst : Option Nat} (h : callK cf strict hd xo f xs ty dst l k = some r) : Nat3 (fun k' => callK cf strict hd xo f xs ty dst l k') k r := by
  unfold callK at h
  obtain ⟨ys, l1, ss, h1, h2⟩ := marsh_nat h
  obtain ⟨h3, h4⟩ := need_nat h2
  rw [Option.bind_eq_some_iff] at h4
  obtain ⟨out, h5, h6⟩ := h4
  obtain ⟨ro, l2, h7, h8⟩ := backK_nat h6
  split at h8
  · obtain ⟨x, l3, ks, h9, h10⟩ := takeK_nat h8
    exact ⟨x, l3, ks, fun k' => by simp only [callK, h1, h3, h5, Option.bind_some, h7]; exact h9 k', h10⟩
  · rename_i hne
    obtain ⟨v, h9, h10⟩ := retK_nat h8
    refine ⟨_, _, _, fun k' => ?_, h10⟩
    simp only [callK, h1, h3, h5, Option.bind_some, h7]
    exact h9 _

theorem yieldK_nat {P : Program} {strict : Bool} {n : Nat} {xs : List V} (h : yieldK P strict n xs l k = some r) : Nat3 (fun k' => yieldK P strict n xs l k') k r := by
  unfold yieldK at h
  split at h
  · cases h
  obtain ⟨ys, l1, ss, h1, h2⟩ := marsh_nat h
  cases ss with
  | cons s ss => cases h2
  | nil =>
    cases hlog : l1.log with
    | none => rw [hlog] at h2; cases h2
    | some lg =>
      rw [hlog] at h2
      obtain ⟨h3, h4⟩ := need_nat h2
      cases hrest : lg.rest with
      | nil => rw [hrest] at h4; cases h4
      | cons x rest =>
        rw [hrest] at h4
        dsimp only at h4
        obtain ⟨h5, h6⟩ := need_nat h4
        exact ⟨_, _, _, fun k' => by simp only [yieldK, h1, hlog, h3, hrest, h5], h6⟩

theorem opK_nat {cf : Cfg} {strict : Bool} {o : Oper} {e : Operand → V} (h : opK cf strict o e l k = some r) : Nat3 (fun k' => opK cf strict o e l k') k r := by
  unfold opK at h
  have fin : ∀ {F : {S : Type} → (V → Loc → List Nat → Option S) → Option S}, Nat3 F k r → (∀ {S : Type} (k' : V → Loc → List Nat → Option S), opK cf strict o e l k' = F k') → Nat3 (fun k' => opK cf strict o e l k') k r := by
    intro F hF he
    obtain ⟨x, l', ks, h1, h2⟩ := hF
    exact ⟨x, l', ks, fun k' => by simp only [he, h1], h2⟩
  split at h
  case h_1 x ho => exact ⟨_, _, _, fun k' => by simp only [opK, ho], h⟩
  case h_2 x ho => exact ⟨_, _, _, fun k' => by simp only [opK, ho], h⟩
  case h_3 c a b ho => exact fin (pickK_nat h) fun k' => by simp only [opK, ho]
  case h_4 t ho =>
    split at h
    case h_2 => cases h
    case h_1 d hd => exact ⟨_, _, _, fun k' => by simp only [opK, ho, hd], h⟩
  case h_5 t x ho =>
    split at h
    case h_2 => cases h
    case h_1 d hd => exact fin (boxK_nat h) fun k' => by simp only [opK, ho, hd]
  case h_6 t parts ho => exact fin (buildK_nat h) fun k' => by simp only [opK, ho]
  case h_7 t n parts ho =>
    split at h
    case h_2 => cases h
    case h_1 d hd => exact fin (buildSliceK_nat h) fun k' => by simp only [opK, ho, hd]
  case h_8 t a ho => exact fin (loadK_nat h) fun k' => by simp only [opK, ho]
  case h_9 t a x ho => exact fin (storeK_nat h) fun k' => by simp only [opK, ho]
  case h_10 x ho => exact fin (nilK_nat h) fun k' => by simp only [opK, ho]
  case h_11 op t x y yt ho =>
    obtain ⟨v, h1, h2⟩ := binV_nat h
    exact ⟨_, _, _, fun k' => by simp only [opK, ho, h1], h2⟩
  case h_12 op t x ho =>
    obtain ⟨v, h1, h2⟩ := unV_nat h
    exact ⟨_, _, _, fun k' => by simp only [opK, ho, h1], h2⟩
  case h_13 src dst x ho =>
    obtain ⟨v, h1, h2⟩ := convV_nat h
    exact ⟨_, _, _, fun k' => by simp only [opK, ho, h1], h2⟩
  case h_14 fn first cap ho =>
    split at h
    case h_2 => cases h
    case h_1 f hf =>
      obtain ⟨h1, h2⟩ := need_nat h
      exact fin (makeFuncK_nat h2) fun k' => by simp only [opK, ho, hf, h1]
  case h_15 t n c ho =>
    split at h
    case h_2 => cases h
    case h_1 d hd => exact fin (makeSliceK_nat h) fun k' => by simp only [opK, ho, hd]
  case h_16 t x lo hi mx ho =>
    split at h
    · cases h
    · exact fin (sliceK_nat h) fun k' => by simp only [opK, ho]
  case h_17 T x f ho => exact fin (fieldAddrK_nat h) fun k' => by simp only [opK, ho]
  case h_18 T x f ho => exact fin (fieldK_nat h) fun k' => by simp only [opK, ho]
  case h_19 T x i ho => exact fin (indexAddrK_nat h) fun k' => by simp only [opK, ho]
  case h_20 T x i ho => exact fin (indexK_nat h) fun k' => by simp only [opK, ho]
  case h_21 x i ho => exact fin (extractK_nat h) fun k' => by simp only [opK, ho]
  case h_22 c ho =>
    split at h
    case h_1 hc =>
      split at h
      case h_2 => cases h
      case h_1 x T ha hT => exact fin (lenK_nat h) fun k' => by simp only [opK, ho, hc, ha, hT]
    case h_2 hc =>
      split at h
      case h_2 => cases h
      case h_1 d s x T T' hd ha hT =>
        cases hb : Nat.beq T T' with
        | false => rw [hb] at h; exact fin (appMakeK_nat h) fun k' => by simp only [opK, ho, hc, hd, ha, hT, hb, cond_false]
        | true => rw [hb] at h; exact fin (appendK_nat h) fun k' => by simp only [opK, ho, hc, hd, ha, hT, hb, cond_true]
    case h_3 hc =>
      split at h
      case h_2 => cases h
      case h_1 x T ha hT => exact fin (capK_nat h) fun k' => by simp only [opK, ho, hc, ha, hT]
    case h_4 hc => exact fin (maxK_nat h) fun k' => by simp only [opK, ho, hc]
    case h_5 hc => exact fin (maxK_nat h) fun k' => by simp only [opK, ho, hc]
    case h_6 => cases h
    case h_7 => cases h
    case h_8 f hc =>
      split at h
      case h_1 f' => exact fin (callK_nat h) fun k' => by simp only [opK, ho, hc]
      case h_2 hne =>
        split at h
        case h_2 => cases h
        case h_1 c' hx =>
          unfold asYF at h
          split at h
          · refine fin (callK_nat h) fun k' => ?_
            cases f with
            | func f'' => exact absurd rfl (hne f'')
            | _ => simp only [opK, ho, hc, hx, asYF]
          · refine fin (yieldK_nat h) fun k' => ?_
            cases f with
            | func f'' => exact absurd rfl (hne f'')
            | _ => simp only [opK, ho, hc, hx, asYF]
          · cases h
  case h_23 => cases h

end
end Go.PM
