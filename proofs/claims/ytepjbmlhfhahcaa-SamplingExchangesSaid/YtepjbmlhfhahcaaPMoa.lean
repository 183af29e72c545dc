/- The pure machine: results, and that what is handed on does not depend on what is done with it. -/
import Derived.Test.YtepjbmlhfhahcaaPMn
set_option linter.unusedVariables false
set_option linter.unusedSimpArgs false
namespace Go.PM
open Go

variable {P : Program} {R : Type} {r : R}

theorem asI_nat {kd : IntKind} {c : C} {k : Int → Option R} (h : asI kd c k = some r) : ∃ n, (∀ {S : Type} (k' : Int → Option S), asI kd c k' = k' n) ∧ k n = some r := by
  unfold asI at h
  split at h
  · rename_i kd' n
    split at h
    · rename_i hk; exact ⟨n, fun k' => by simp [asI, hk], h⟩
    · cases h
  · cases h
theorem asB_nat {c : C} {k : Bool → Option R} (h : asB c k = some r) : ∃ n, (∀ {S : Type} (k' : Bool → Option S), asB c k' = k' n) ∧ k n = some r := by
  unfold asB at h
  split at h
  · exact ⟨_, fun k' => rfl, h⟩
  · cases h
theorem asS_nat {c : C} {k : ByteArray → Option R} (h : asS c k = some r) : ∃ n, (∀ {S : Type} (k' : ByteArray → Option S), asS c k' = k' n) ∧ k n = some r := by
  unfold asS at h
  split at h
  · exact ⟨_, fun k' => rfl, h⟩
  · cases h
theorem asSl_nat {c : C} {k : Nat → List C → Option R} (h : asSl c k = some r) : ∃ n cs, (∀ {S : Type} (k' : Nat → List C → Option S), asSl c k' = k' n cs) ∧ k n cs = some r := by
  unfold asSl at h
  split at h
  · exact ⟨_, _, fun k' => rfl, h⟩
  · exact ⟨_, _, fun k' => rfl, h⟩
  · cases h
theorem asP_nat {c : C} {k : List C → Option R} (h : asP c k = some r) : ∃ cs, (∀ {S : Type} (k' : List C → Option S), asP c k' = k' cs) ∧ k cs = some r := by
  unfold asP at h
  split at h
  · exact ⟨_, fun k' => rfl, h⟩
  · cases h
theorem asFn_nat {c : C} {k : FuncId → List C → Option R} (h : asFn c k = some r) : ∃ n cs, (∀ {S : Type} (k' : FuncId → List C → Option S), asFn c k' = k' n cs) ∧ k n cs = some r := by
  unfold asFn at h
  split at h
  · exact ⟨_, _, fun k' => rfl, h⟩
  · cases h
theorem need_nat {b : Bool} {x : Option R} (h : need b x = some r) : (∀ {S : Type} (y : Option S), need b y = y) ∧ x = some r := by
  obtain ⟨h1, h2⟩ := need_some h
  exact ⟨fun y => by rw [h1]; rfl, h2⟩

theorem getLf_nat {l : Lf} {c : C} {k : C → Option R} (h : getLf l c k = some r) : ∃ c', (∀ {S : Type} (k' : C → Option S), getLf l c k' = k' c') ∧ k c' = some r := by
  cases l with
  | i kd => obtain ⟨n, h1, h2⟩ := asI_nat h; exact ⟨_, fun k' => h1 _, h2⟩
  | b => obtain ⟨n, h1, h2⟩ := asB_nat h; exact ⟨_, fun k' => h1 _, h2⟩
  | s => obtain ⟨n, h1, h2⟩ := asS_nat h; exact ⟨_, fun k' => h1 _, h2⟩
  | o => exact ⟨c, fun k' => rfl, h⟩

theorem getLfs_nat : ∀ {ls : List Lf} {cs : List C} {k : List C → Option R} (_ : getLfs ls cs k = some r), ∃ cs', (∀ {S : Type} (k' : List C → Option S), getLfs ls cs k' = k' cs') ∧ k cs' = some r
  | [], cs, k, h => ⟨[], fun k' => rfl, h⟩
  | l :: ls, [], k, h => by cases h
  | l :: ls, c :: cs, k, h => by
    obtain ⟨c', h1, h2⟩ := getLf_nat (show getLf l c (fun c' => getLfs ls cs fun cs' => k (c' :: cs')) = some r from h)
    obtain ⟨cs', h3, h4⟩ := getLfs_nat h2
    exact ⟨c' :: cs', fun k' => by simp only [getLfs, unc, h1, h3], h4⟩

theorem retV_nat {t : TypeId} {x : V} {k : V → Option R} (h : retV P t x k = some r) : ∃ v, (∀ {S : Type} (k' : V → Option S), retV P t x k' = k' v) ∧ k v = some r := by
  unfold retV at h
  split at h
  · rename_i ha
    unfold rA at h
    split at h
    · rename_i cs
      split at h
      · rename_i ls hl
        obtain ⟨h1, h2⟩ := need_nat h
        obtain ⟨cs', h3, h4⟩ := getLfs_nat h2
        exact ⟨_, fun k' => by simp only [retV, ha, rA, hl, h1, h3], h4⟩
      · rename_i hl
        exact ⟨_, fun k' => by simp only [retV, ha, rA, hl], h⟩
    · cases h
  · rename_i ha
    split at h
    · rename_i lf hl
      unfold rC at h
      split at h
      · rename_i c
        obtain ⟨c', h1, h2⟩ := getLf_nat (k := fun c' => k (.c c')) h
        exact ⟨_, fun k' => by simp only [retV, ha, hl, rC, h1], h2⟩
      · cases h
    · cases h

theorem retL_nat : ∀ {ts : List TypeId} {xs : List V} {k : List V → Option R} (_ : retL P ts xs k = some r), ∃ vs, (∀ {S : Type} (k' : List V → Option S), retL P ts xs k' = k' vs) ∧ k vs = some r
  | [], xs, k, h => by
    unfold retL at h
    split at h
    · exact ⟨[], fun k' => by simp [retL], h⟩
    · cases h
  | t :: ts, [], k, h => by cases h
  | t :: ts, x :: xs, k, h => by
    obtain ⟨v, h1, h2⟩ := retV_nat (show retV P t x (fun v => retL P ts xs fun vs => k (v :: vs)) = some r from h)
    obtain ⟨vs, h3, h4⟩ := retL_nat h2
    exact ⟨v :: vs, fun k' => by simp only [retL, uncV, h1, h3], h4⟩

theorem retK_nat {t : TypeId} {x : V} {k : V → Option R} (h : retK P t x k = some r) : ∃ v, (∀ {S : Type} (k' : V → Option S), retK P t x k' = k' v) ∧ k v = some r := by
  unfold retK at h
  split at h
  · rename_i ts hT
    split at h
    · rename_i hts
      exact ⟨_, fun k' => by simp only [retK, hT, hts], h⟩
    · rename_i hts
      unfold rT at h
      split at h
      · rename_i vs
        obtain ⟨vs', h1, h2⟩ := retL_nat h
        exact ⟨.tup vs', fun k' => by
          simp only [retK, hT, rT, h1], h2⟩
      · cases h
  · rename_i hT
    obtain ⟨v, h1, h2⟩ := retV_nat h
    exact ⟨v, fun k' => by
      unfold retK
      split
      · rename_i ts hts; exact absurd hts (hT ts)
      · exact h1 k', h2⟩

theorem uncO_eq {xs : List Obj} {k : Obj → List Obj → Option R} (h : uncO xs k = some r) : ∃ o os, xs = o :: os ∧ k o os = some r := by
  cases xs with
  | nil => cases h
  | cons o os => exact ⟨o, os, rfl, h⟩
theorem rO_eq {o : Obj} {t fz : Nat} {k : List C → Option R} (h : rO o t fz k = some r) : ∃ cs, o = .ob t fz cs ∧ k cs = some r := by
  unfold rO at h
  split at h
  · obtain ⟨hb, hq⟩ := need_some h
    rw [Bool.and_eq_true] at hb
    have e1 := Nat.eq_of_beq_eq_true hb.1
    have e2 := Nat.eq_of_beq_eq_true hb.2
    subst e1 e2
    exact ⟨_, rfl, hq⟩
  · cases h

theorem rS_eq {o : Obj} {t fz : Nat} {k : List C → Option R} (h : rS o t fz k = some r) : ∃ cs, o = .sb t fz cs ∧ k cs = some r := by
  unfold rS at h
  split at h
  · obtain ⟨hb, hq⟩ := need_some h
    rw [Bool.and_eq_true] at hb
    have e1 := Nat.eq_of_beq_eq_true hb.1
    have e2 := Nat.eq_of_beq_eq_true hb.2
    subst e1 e2
    exact ⟨_, rfl, hq⟩
  · cases h
theorem rW_eq {x : V} {m : Nat} {k : Nat → Option R} (h : rW x m k = some r) : ∃ n, x = .own (OUT + m) 0 n ∧ k n = some r := by
  unfold rW at h
  split at h
  · obtain ⟨hb, hq⟩ := need_some h
    rw [Bool.and_eq_true] at hb
    have e1 := Nat.eq_of_beq_eq_true hb.1
    have e2 := Nat.eq_of_beq_eq_true hb.2
    subst e1 e2
    exact ⟨_, rfl, hq⟩
  · cases h
theorem rP_eq {x : V} {m : Nat} {k : Option R} (h : rP x m k = some r) : x = .ptr (OUT + m) 0 ∧ k = some r := by
  unfold rP at h
  split at h
  · obtain ⟨hb, hq⟩ := need_some h
    rw [Bool.and_eq_true] at hb
    have e1 := Nat.eq_of_beq_eq_true hb.1
    have e2 := Nat.eq_of_beq_eq_true hb.2
    subst e1 e2
    exact ⟨rfl, hq⟩
  · cases h
theorem rS_self {t fz : Nat} {cs : List C} {k : List C → Option R} : rS (.sb t fz cs) t fz k = k cs := by simp [rS, need]
theorem rW_self {m n : Nat} {k : Nat → Option R} : rW (.own (OUT + m) 0 n) m k = k n := by simp [rW, need]
theorem rP_self {m : Nat} {k : Option R} : rP (.ptr (OUT + m) 0) m k = k := by simp [rP, need]

theorem rO_self {t fz : Nat} {cs : List C} {k : List C → Option R} : rO (.ob t fz cs) t fz k = k cs := by simp [rO, need]

theorem thaw_eq {ss : List Nat} {b : Bool} {l l2 : Loc} (h : ¬ (ss = [] ∧ b = true)) : thaw ss b l l2 = l2 := by
  unfold thaw
  split
  · exact absurd ⟨rfl, rfl⟩ h
  · rfl
theorem thaw_same (ss : List Nat) (b : Bool) (l : Loc) : thaw ss b l l = l := by unfold thaw; split <;> rfl

theorem take1_nat {m site i : Nat} {x : Option TypeId} {ty : TypeId} {v : V} {os : List Obj} {l : Loc} {k : V → Nat → List Obj → Loc → List Nat → Option R} (h : take1 P m site i x ty v os l k = some r) :
    ∃ y i2 os2 l2 ks, (∀ {S : Type} (k' : V → Nat → List Obj → Loc → List Nat → Option S), take1 P m site i x ty v os l k' = k' y i2 os2 l2 ks) ∧ k y i2 os2 l2 ks = some r := by
  unfold take1 at h
  split at h
  · obtain ⟨y, h1, h2⟩ := retV_nat h
    exact ⟨y, i, os, l, [], fun k' => by simp only [take1, h1], h2⟩
  · rename_i te
    obtain ⟨h0, h⟩ := need_nat h
    split at h
    · rename_i q hty
      obtain ⟨rfl, h1⟩ := rP_eq h
      obtain ⟨o, os', rfl, h2⟩ := uncO_eq h1
      obtain ⟨cs, rfl, h3⟩ := rO_eq h2
      split at h3
      · rename_i ls hls
        obtain ⟨h4, h5⟩ := need_nat h3
        obtain ⟨cs2, h6, h7⟩ := getLfs_nat h5
        exact ⟨_, _, _, _, _, fun k' => by simp only [take1, h0, hty, rP_self, uncO, rO_self, hls, h4, h6], h7⟩
      · rename_i hls
        exact ⟨_, _, _, _, _, fun k' => by simp only [take1, h0, hty, rP_self, uncO, rO_self, hls], h3⟩
    · rename_i q hty
      obtain ⟨n, rfl, h1⟩ := rW_eq h
      obtain ⟨o, os', rfl, h2⟩ := uncO_eq h1
      obtain ⟨cs, rfl, h3⟩ := rS_eq h2
      obtain ⟨h4, h5⟩ := need_nat h3
      exact ⟨_, _, _, _, _, fun k' => by simp only [take1, h0, hty, rW_self, uncO, rS_self, h4], h5⟩
    · cases h

theorem takeL_nat {m d : Nat} : ∀ {ts : List TypeId} {j i : Nat} {xo : List (Option TypeId)} {xs : List V} {os : List Obj} {l : Loc} {k : List V → Loc → List Nat → Option R} (_ : takeL P m d j i xo ts xs os l k = some r),
    ∃ ys l2 ks, (∀ {S : Type} (k' : List V → Loc → List Nat → Option S), takeL P m d j i xo ts xs os l k' = k' ys l2 ks) ∧ k ys l2 ks = some r
  | [], j, i, xo, xs, os, l, k, h => by
    unfold takeL at h
    split at h
    · exact ⟨[], l, [], fun k' => by simp [takeL], h⟩
    · cases h
  | t :: ts, j, i, xo, [], os, l, k, h => by cases h
  | t :: ts, j, i, xo, x :: xs, os, l, k, h => by
    obtain ⟨h0, h⟩ := need_nat (show need (!live (l (nsite d j))) (take1 P m (nsite d j) i (xo.headD none) t x os l (fun y i' os' l' ks => takeL P m d (j + 1) i' xo.tail ts xs os' l' fun ys' l2 ks2 => k (y :: ys') l2 (ks ++ ks2))) = some r from h)
    obtain ⟨y, i2, os2, l2, ks, h1, h2⟩ := take1_nat h
    obtain ⟨ys, l3, ks3, h3, h4⟩ := takeL_nat h2
    exact ⟨y :: ys, l3, ks ++ ks3, fun k' => by simp only [takeL, uncV, h0, h1, h3], h4⟩

end Go.PM
