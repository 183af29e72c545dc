/- The pure machine: what an operation hands on does not depend on what is done with it. -/
import Derived.Test.YtepjbmlhfhahcaaPMq
set_option linter.unusedVariables false
set_option linter.unusedSimpArgs false
namespace Go.PM
open Go

variable {P : Program} {R : Type} {r : R}

theorem ldC_nat {t : TypeId} {cs : List C} {k : V → Option R} (h : ldC P t cs k = some r) : ∃ v, (∀ {S : Type} (k' : V → Option S), ldC P t cs k' = k' v) ∧ k v = some r := by
  unfold ldC at h
  cases hi : P.info? t with
  | none => rw [hi] at h; cases h
  | some i =>
    rw [hi] at h
    cases ha : aggB P t with
    | true =>
      rw [ha] at h
      cases hl : leaves P 20 t with
      | none =>
        rw [hl] at h
        obtain ⟨h1, h2⟩ := need_nat h
        exact ⟨_, fun k' => by simp only [ldC, hi, ha, hl, h1], h2⟩
      | some ls =>
        rw [hl] at h
        obtain ⟨h1, h2⟩ := need_nat h
        obtain ⟨cs', h3, h4⟩ := getLfs_nat h2
        exact ⟨_, fun k' => by simp only [ldC, hi, ha, hl, h1, h3], h4⟩
    | false =>
      rw [ha] at h
      cases hl : leaves P 20 t with
      | none => rw [hl] at h; cases h
      | some ls =>
        rw [hl] at h
        match ls, hl, h with
        | [], _, h => cases h
        | _ :: _ :: _, _, h => cases h
        | [f], hl, h =>
          cases cs with
          | nil => cases h
          | cons c rest =>
            obtain ⟨c', h1, h2⟩ := getLf_nat (show getLf f c (fun c' => k (.c c')) = some r from h)
            exact ⟨_, fun k' => by simp only [ldC, hi, ha, hl, unc, h1], h2⟩

theorem pur_nat {strict : Bool} {x : V} {l : Loc} {k : List C → Loc → Option R} (h : pur P strict x l k = some r) : ∃ cs l', (∀ {S : Type} (k' : List C → Loc → Option S), pur P strict x l k' = k' cs l') ∧ k cs l' = some r := by
  cases x with
  | c c => exact ⟨_, _, fun k' => rfl, h⟩
  | agg cs => exact ⟨_, _, fun k' => rfl, h⟩
  | own s off n =>
    simp only [pur] at h
    split at h
    · rename_i t fz cs ho
      obtain ⟨h1, h2⟩ := need_nat h
      exact ⟨_, _, fun k' => by simp only [pur, ho, h1], h2⟩
    · cases h
  | ptr s off =>
    simp only [pur] at h
    split at h
    · rename_i t fz cs ho
      exact ⟨_, _, fun k' => by simp only [pur, ho], h⟩
    · cases h
  | _ => cases h

theorem purL_nat {strict : Bool} : ∀ {xs : List V} {l : Loc} {k : List (List C) → Loc → Option R} (_ : purL P strict xs l k = some r), ∃ ps l', (∀ {S : Type} (k' : List (List C) → Loc → Option S), purL P strict xs l k' = k' ps l') ∧ k ps l' = some r
  | [], l, k, h => ⟨[], l, fun k' => rfl, h⟩
  | x :: xs, l, k, h => by
    obtain ⟨cs, l1, h1, h2⟩ := pur_nat (show pur P strict x l (fun cs l1 => purL P strict xs l1 fun ps l2 => k (cs :: ps) l2) = some r from h)
    obtain ⟨ps, l2, h3, h4⟩ := purL_nat h2
    exact ⟨cs :: ps, l2, fun k' => by show pur P strict x l _ = _; rw [h1, h3], h4⟩

theorem fillK_nat {place : Nat → Option (Nat × Nat)} : ∀ {is : List Nat} {ps : List (List C)} {cs : List C} {k : List C → Option R} (_ : fillK place is ps cs k = some r), ∃ cs', (∀ {S : Type} (k' : List C → Option S), fillK place is ps cs k' = k' cs') ∧ k cs' = some r
  | [], ps, cs, k, h => ⟨cs, fun k' => by simp [fillK], by simpa [fillK] using h⟩
  | i :: is, [], cs, k, h => ⟨cs, fun k' => by simp [fillK], by simpa [fillK] using h⟩
  | i :: is, p :: ps, cs, k, h => by
    simp only [fillK] at h
    split at h
    · cases h
    · rename_i off sz hp
      obtain ⟨h1, h2⟩ := need_nat h
      obtain ⟨cs', h3, h4⟩ := fillK_nat h2
      exact ⟨cs', fun k' => by simp only [fillK, hp, h1, h3], h4⟩

theorem marsh_nat {strict : Bool} : ∀ {hd : List Nat} {xs : List V} {l : Loc} {ss : List Nat} {k : List V → Loc → List Nat → Option R} (_ : marsh P strict hd xs l ss k = some r),
    ∃ ys l' ss', (∀ {S : Type} (k' : List V → Loc → List Nat → Option S), marsh P strict hd xs l ss k' = k' ys l' ss') ∧ k ys l' ss' = some r
  | hd, [], l, ss, k, h => ⟨[], l, ss, fun k' => by simp [marsh], by simpa [marsh] using h⟩
  | hd, x :: xs, l, ss, k, h => by
    unfold marsh at h
    cases x with
    | c c =>
      obtain ⟨ys, l', ss', h1, h2⟩ := marsh_nat h
      exact ⟨_, _, _, fun k' => by simp only [marsh, h1], h2⟩
    | agg cs =>
      obtain ⟨ys, l', ss', h1, h2⟩ := marsh_nat h
      exact ⟨_, _, _, fun k' => by simp only [marsh, h1], h2⟩
    | own s off n =>
      simp only at h
      cases hh : hand1 strict hd with
      | true =>
        rw [hh] at h
        simp only at h
        split at h
        · rename_i i hi
          obtain ⟨ys, l', ss', h3, h4⟩ := marsh_nat h
          exact ⟨_, _, _, fun k' => by simp only [marsh, hh, hi, h3], h4⟩
        · rename_i hi
          obtain ⟨ys, l', ss', h3, h4⟩ := marsh_nat h
          exact ⟨_, _, _, fun k' => by simp only [marsh, hh, hi, h3], h4⟩
      | false =>
        rw [hh] at h
        simp only at h
        obtain ⟨cs, l1, h1, h2⟩ := pur_nat h
        split at h2
        · obtain ⟨ys, l', ss', h3, h4⟩ := marsh_nat h2
          exact ⟨_, _, _, fun k' => by simp only [marsh, hh, h1, h3], h4⟩
        · cases h2
    | ptr s off =>
      simp only at h
      cases strict with
      | true => cases h
      | false =>
        simp only at h
        split at h
        · rename_i i hi
          obtain ⟨ys, l', ss', h3, h4⟩ := marsh_nat h
          exact ⟨_, _, _, fun k' => by simp only [marsh, hi, h3], h4⟩
        · rename_i hi
          obtain ⟨ys, l', ss', h3, h4⟩ := marsh_nat h
          exact ⟨_, _, _, fun k' => by simp only [marsh, hi, h3], h4⟩
    | _ => cases h

theorem backK_nat : ∀ {ss : List Nat} {os : List Obj} {l : Loc} {k : List Obj → Loc → Option R} (_ : backK P ss os l k = some r),
    ∃ rest l', (∀ {S : Type} (k' : List Obj → Loc → Option S), backK P ss os l k' = k' rest l') ∧ k rest l' = some r
  | [], os, l, k, h => ⟨os, l, fun k' => rfl, h⟩
  | s :: ss, os, l, k, h => by
    unfold backK at h
    split at h
    case h_3 => cases h
    case h_2 t fz cs hl =>
      obtain ⟨o, os', rfl, h1⟩ := uncO_eq h
      obtain ⟨cs', rfl, h2⟩ := rS_eq h1
      obtain ⟨h3, h4⟩ := need_nat h2
      obtain ⟨rest, l', h7, h8⟩ := backK_nat h4
      exact ⟨rest, l', fun k' => by simp only [backK, hl, uncO, rS_self, h7, h3], h8⟩
    case h_1 t fz cs hl =>
      obtain ⟨o, os', rfl, h1⟩ := uncO_eq h
      obtain ⟨cs', rfl, h2⟩ := rO_eq h1
      split at h2
      · rename_i ls hls
        obtain ⟨h3, h4⟩ := need_nat h2
        obtain ⟨cs2, h5, h6⟩ := getLfs_nat h4
        obtain ⟨rest, l', h7, h8⟩ := backK_nat h6
        exact ⟨rest, l', fun k' => by simp only [backK, hl, uncO, rO, hls, h3, h5, h7, Nat.beq_refl, Bool.and_self, need, cond_true] <;> simp only [← need.eq_1, h3], h8⟩
      · rename_i hls
        obtain ⟨h3, h4⟩ := need_nat h2
        obtain ⟨rest, l', h7, h8⟩ := backK_nat h4
        exact ⟨rest, l', fun k' => by simp only [backK, hl, uncO, rO, hls, h7, Nat.beq_refl, Bool.and_self, need, cond_true] <;> simp only [← need.eq_1, h3], h8⟩

theorem foldMax_nat {lt : Bool} : ∀ {xs : List V} {kd : IntKind} {a : Int} {k : V → Option R} (_ : foldMax lt xs kd a k = some r), ∃ v, (∀ {S : Type} (k' : V → Option S), foldMax lt xs kd a k' = k' v) ∧ k v = some r
  | [], kd, a, k, h => ⟨_, fun k' => rfl, h⟩
  | x :: xs, kd, a, k, h => by
    match x, h with
    | .c (.v (.int kd' b)), h =>
      simp only [foldMax] at h
      cases hk : decide (kd' = kd) with
      | false => rw [hk] at h; cases h
      | true =>
        rw [hk] at h
        obtain ⟨v, h1, h2⟩ := foldMax_nat h
        exact ⟨v, fun k' => by simp only [foldMax, hk, cond_true, h1], h2⟩

theorem bound_nat {x : Option V} {d y : Nat} {k : Nat → Option R} (h : bound x d y k = some r) : ∃ n, (∀ {S : Type} (k' : Nat → Option S), bound x d y k' = k' n) ∧ k n = some r := by
  unfold bound at h
  split at h
  · exact ⟨d, fun k' => rfl, h⟩
  · split at h
    · obtain ⟨h1, h2⟩ := need_nat h
      exact ⟨_, fun k' => by simp only [bound, h1], h2⟩
    · cases h
  · cases h

theorem newsK_nat {e : TypeId} {x : V} {l : Loc} {k : Nat → List C → Option R} (h : newsK P e x l k = some r) : ∃ m cs, (∀ {S : Type} (k' : Nat → List C → Option S), newsK P e x l k' = k' m cs) ∧ k m cs = some r := by
  unfold newsK at h
  split at h
  · obtain ⟨m, cs, h1, h2⟩ := asSl_nat h
    obtain ⟨h3, h4⟩ := need_nat h2
    exact ⟨m, cs, fun k' => by simp only [newsK, h1, h3], h4⟩
  · split at h
    · rename_i ho
      obtain ⟨h3, h4⟩ := need_nat h
      exact ⟨_, _, fun k' => by simp only [newsK, ho, h3], h4⟩
    · cases h
  · cases h

theorem binInt_nat {op : BinOp} {kd : IntKind} {a b : Int} {k : V → Option R} (h : binInt op kd a b k = some r) : ∃ v, (∀ {S : Type} (k' : V → Option S), binInt op kd a b k' = k' v) ∧ k v = some r := by
  cases op <;> simp only [binInt] at h ⊢ <;> first
    | (cases h; done)
    | exact ⟨_, fun k' => rfl, h⟩
    | (obtain ⟨h1, h2⟩ := need_nat h; exact ⟨_, fun k' => h1 _, h2⟩)
theorem shInt_nat {op : BinOp} {kd : IntKind} {a b : Int} {k : V → Option R} (h : shInt op kd a b k = some r) : ∃ v, (∀ {S : Type} (k' : V → Option S), shInt op kd a b k' = k' v) ∧ k v = some r := by
  cases op <;> simp only [shInt] at h ⊢ <;> first
    | (cases h; done)
    | (obtain ⟨h1, h2⟩ := need_nat h; exact ⟨_, fun k' => h1 _, h2⟩)
theorem binStr_nat {op : BinOp} {a b : ByteArray} {k : V → Option R} (h : binStr op a b k = some r) : ∃ v, (∀ {S : Type} (k' : V → Option S), binStr op a b k' = k' v) ∧ k v = some r := by
  cases op <;> simp only [binStr] at h ⊢ <;> first
    | (cases h; done)
    | exact ⟨_, fun k' => rfl, h⟩
    | (obtain ⟨h1, h2⟩ := need_nat h; exact ⟨_, fun k' => h1 _, h2⟩)

theorem binV_nat {op : BinOp} {t : TypeId} {x y : V} {k : V → Option R} (h : binV P op t x y k = some r) : ∃ v, (∀ {S : Type} (k' : V → Option S), binV P op t x y k' = k' v) ∧ k v = some r := by
  unfold binV at h
  split at h
  · split at h
    · obtain ⟨v, h1, h2⟩ := shInt_nat h; exact ⟨v, fun k' => by simp only [binV, h1], h2⟩
    · obtain ⟨v, h1, h2⟩ := shInt_nat h; exact ⟨v, fun k' => by simp only [binV, h1], h2⟩
    · rename_i n1 n2
      split at h
      · rename_i hk
        obtain ⟨v, h1, h2⟩ := binInt_nat h
        refine ⟨v, fun k' => ?_, h2⟩
        cases op <;> first
          | exact absurd rfl n1
          | exact absurd rfl n2
          | (simp only [binV, if_pos hk]; exact h1 k')
      · cases h
  · obtain ⟨v, h1, h2⟩ := binStr_nat h; exact ⟨v, fun k' => by simp only [binV, h1], h2⟩
  · split at h
    · rename_i hu; exact ⟨_, fun k' => by simp only [binV, hu], h⟩
    · rename_i hu; exact ⟨_, fun k' => by simp only [binV, hu], h⟩
    · cases h
  · split at h
    · rename_i b h1 h2 h3
      split at h
      · exact ⟨_, fun k' => by simp only [binV, h1, h2, h3], h⟩
      · exact ⟨_, fun k' => by simp only [binV, h1, h2, h3], h⟩
      · cases h
    · cases h
  · cases h

theorem unV_nat {op : UnOp} {x : V} {k : V → Option R} (h : unV op x k = some r) : ∃ v, (∀ {S : Type} (k' : V → Option S), unV op x k' = k' v) ∧ k v = some r := by
  unfold unV at h
  split at h
  · exact ⟨_, fun k' => rfl, h⟩
  · exact ⟨_, fun k' => rfl, h⟩
  · cases h

theorem convV_nat {src dst : TypeId} {x : V} {k : V → Option R} (h : convV P src dst x k = some r) : ∃ v, (∀ {S : Type} (k' : V → Option S), convV P src dst x k' = k' v) ∧ k v = some r := by
  unfold convV at h
  split at h
  · rename_i h1 h2; exact ⟨_, fun k' => by simp only [convV, h1, h2], h⟩
  · rename_i h1 h2; exact ⟨_, fun k' => by simp only [convV, h1, h2], h⟩
  · cases h

end Go.PM
