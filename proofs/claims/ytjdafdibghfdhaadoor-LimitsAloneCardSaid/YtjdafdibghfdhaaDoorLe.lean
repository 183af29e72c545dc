/- The sanity check of the chapter; and what the rejected elements are. -/
import Derived.Test.YtjdafdibghfdhaaDoorLd
set_option linter.unusedVariables false
set_option linter.unusedSimpArgs false
namespace Go.Proofs.YtjdafdibghfdhaaDoor
open Go Go.PM

theorem sp_Ints (fu d : Nat) (hf : 18446744073709551616 ≤ fu) (a : List Int) (hn : a.length ≤ 1000000) :
    cl fu (d + 1) fn_synoptickeep_Ints [V.c (C.sl a.length (ints a)), V.c (C.sl a.length (ints a))] [] = some ⟨B true, [], none⟩ := by
  rw [eq_synoptickeep_Ints, show (((a.length : Nat) : Int) != ((a.length : Nat) : Int)) = false by simp]
  simp only [cf]
  rw [show (false, (0 : Int), ()) = (fun j : Nat => (false, (j : Int), ())) 0 from rfl, iter_run (fun j : Nat => (false, (j : Int), ())) 0 (false, (a.length : Int), ()) a.length 0 fu ?_ ?_ (by omega)]
  · rfl
  · intro j _ hj
    have hj : j < a.length := by omega
    simp only [lt_yes (show (j : Int) < (a.length : Int) by omega), ct, inR_nat hj, need_true, Int.toNat_natCast, Nat.mul_one, unc_ik hj, asI_int, bne_self_eq_false, cf]
    rw [IntWalk.i64_in ((j : Int) + 1) ⟨by omega, by omega⟩]
    rfl
  · simp

theorem mem_grossL {x : List (Int × Int)} {e : Int} : e ∈ grossL x ↔ ∃ r ∈ x, grossB r.1 r.2 = false ∧ r.1 = e := by
  unfold grossL
  simp only [List.mem_map, List.mem_filter, Bool.not_eq_true']
  constructor
  · rintro ⟨r, ⟨h1, h2⟩, h3⟩; exact ⟨r, h1, h2, h3⟩
  · rintro ⟨r, h1, h2, h3⟩; exact ⟨r, ⟨h1, h2⟩, h3⟩
theorem mem_chk {x : List (Int × Int)} {e : Int} : e ∈ chk x ↔ (∃ r ∈ x, grossB r.1 r.2 = false ∧ r.1 = e) ∨ (wetB x = true ∧ (e = 2 ∨ e = 3)) ∨ (stormB x = true ∧ (e = 4 ∨ e = 5)) := by
  unfold chk
  rw [mem_setI, List.mem_append, List.mem_append, mem_grossL, or_assoc]
  cases wetB x <;> cases stormB x <;> simp
theorem chk_lt (x : List (Int × Int)) : (chk x).Pairwise (· < ·) := setI_lt _
theorem chk_length (x : List (Int × Int)) : (chk x).length ≤ x.length + 4 := by
  have h1 := setI_length (grossL x ++ (if wetB x then [2, 3] else []) ++ (if stormB x then [4, 5] else []))
  have h2 := grossL_length x
  unfold chk
  refine Nat.le_trans h1 ?_
  simp only [List.length_append]
  have h3 : (if wetB x then ([2, 3] : List Int) else []).length ≤ 2 := by cases wetB x <;> simp
  have h4 : (if stormB x then ([4, 5] : List Int) else []).length ≤ 2 := by cases stormB x <;> simp
  omega
theorem chk_eq {x : List (Int × Int)} {l : List Int} (hl : l.Pairwise (· < ·)) (h : ∀ e, e ∈ chk x ↔ e ∈ l) : chk x = l := asc_ext (chk_lt x) hl h

theorem sp_awake (fu d : Nat) (hf : 18446744073709551616 ≤ fu) : cl fu (d + 6) fn_synopticlaw14_awake [] [] = some ⟨B true, [], none⟩ := by
  have c1 : chk [(2, 2800), (3, 2810)] = [2, 3] := chk_eq (by decide) fun e => by
    rw [mem_chk, show wetB [(2, 2800), (3, 2810)] = true by decide, show stormB [(2, 2800), (3, 2810)] = false by decide]
    simp [show grossB 2 2800 = true by decide, show grossB 3 2810 = true by decide]
  have c2 : chk [(2, 2800), (3, 2800)] = [] := chk_eq (by decide) fun e => by
    rw [mem_chk, show wetB [(2, 2800), (3, 2800)] = false by decide, show stormB [(2, 2800), (3, 2800)] = false by decide]
    simp [show grossB 2 2800 = true by decide, show grossB 3 2800 = true by decide]
  have c3 : chk [(4, 700), (5, 700)] = [4, 5] := chk_eq (by decide) fun e => by
    rw [mem_chk, show wetB [(4, 700), (5, 700)] = false by decide, show stormB [(4, 700), (5, 700)] = true by decide]
    simp [show grossB 4 700 = true by decide, show grossB 5 700 = true by decide]
  have h1 := sp_Check fu d hf [(2, 2800), (3, 2810)] (by decide)
  have h2 := sp_Check fu d hf [(2, 2800), (3, 2800)] (by decide)
  have h3 := sp_Check fu d hf [(4, 700), (5, 700)] (by decide)
  rw [c1] at h1
  rw [c2] at h2
  rw [c3] at h3
  have i1 := sp_Ints fu (d + 4) hf [2, 3] (by decide)
  have i2 := sp_Ints fu (d + 4) hf [4, 5] (by decide)
  have h1' : cl fu (d + 5) fn_limits_Check [V.c (C.sl 2 ([C.v (.int .i64 2), C.v (.int .i64 2800), C.v (.int .i64 3), C.v (.int .i64 2810)]))] [] = some ⟨V.c (C.sl 2 [C.v (.int .i64 2), C.v (.int .i64 3)]), [], none⟩ := h1
  have h2' : cl fu (d + 5) fn_limits_Check [V.c (C.sl 2 ([C.v (.int .i64 2), C.v (.int .i64 2800), C.v (.int .i64 3), C.v (.int .i64 2800)]))] [] = some ⟨V.c (C.sl 0 []), [], none⟩ := h2
  have h3' : cl fu (d + 5) fn_limits_Check [V.c (C.sl 2 ([C.v (.int .i64 4), C.v (.int .i64 700), C.v (.int .i64 5), C.v (.int .i64 700)]))] [] = some ⟨V.c (C.sl 2 [C.v (.int .i64 4), C.v (.int .i64 5)]), [], none⟩ := h3
  have i1' : cl fu (d + 5) fn_synoptickeep_Ints [V.c (C.sl 2 [C.v (.int .i64 2), C.v (.int .i64 3)]), V.c (C.sl 2 [C.v (.int .i64 2), C.v (.int .i64 3)])] [] = some ⟨B true, [], none⟩ := i1
  have i2' : cl fu (d + 5) fn_synoptickeep_Ints [V.c (C.sl 2 [C.v (.int .i64 4), C.v (.int .i64 5)]), V.c (C.sl 2 [C.v (.int .i64 4), C.v (.int .i64 5)])] [] = some ⟨B true, [], none⟩ := i2
  rw [eq_synopticlaw14_awake, h1', h2', h3']
  simp only [obs, rC_c, nrm_sl, noYl_sl, need_true, i1', i2', asB_bool, ct, asSl_sl, show (((0 : Nat) : Int) == 0) = true from rfl]

/-! Valid readings. -/
theorem valid_find {x : List (Int × Int)} (hv : validL x) {e v : Int} (h : (e, v) ∈ x) : findR x e = some v := by
  have hp := hv.1
  clear hv
  induction x with
  | nil => cases h
  | cons r x ih =>
    rw [findR_cons]
    rw [List.pairwise_cons] at hp
    rcases List.mem_cons.1 h with h | h
    · subst h; simp
    · have := hp.1 _ h
      simp only at this
      rw [if_neg (by omega)]
      exact ih h hp.2
theorem findR_mem {x : List (Int × Int)} {e v : Int} (h : findR x e = some v) : (e, v) ∈ x := by
  unfold findR at h
  obtain ⟨r, h1, h2⟩ := Option.map_eq_some_iff.1 h
  have h3 := List.mem_of_find?_eq_some h1
  have h4 := List.find?_some (p := fun r : Int × Int => r.1 == e) h1
  have h4 : r.1 = e := by simpa using h4
  rw [← h4, ← h2]; exact h3
theorem valid_fl {x : List (Int × Int)} (hv : validL x) (e : Int) : fl x e = (findR x e).isSome := by
  unfold fl
  cases h : findR x e with
  | none => rfl
  | some v =>
    have := (hv.2 _ (findR_mem h)).2
    simp only at this
    show (decide (v ≥ -100000) && decide (v ≤ 100000)) = true
    rw [decide_eq_true (show v ≥ -100000 from this.1), decide_eq_true this.2]; rfl
theorem mem_chk_valid {x : List (Int × Int)} (hv : validL x) {e v : Int} (h : (e, v) ∈ x) : e ∈ chk x ↔ grossB e v = false ∨ (wetB x = true ∧ (e = 2 ∨ e = 3)) ∨ (stormB x = true ∧ (e = 4 ∨ e = 5)) := by
  rw [mem_chk]
  refine or_congr_left ?_
  constructor
  · rintro ⟨r, h1, h2, h3⟩
    have h4 := valid_find hv h
    have h5 := valid_find hv (show (r.1, r.2) ∈ x from h1)
    rw [h3, h4] at h5
    injection h5 with h5
    rw [← h3, h5]; exact h2
  · exact fun h2 => ⟨(e, v), h, h2, rfl⟩

/-- Without what was rejected nothing is rejected. -/
theorem findR_without (x : List (Int × Int)) (bad : List Int) (e : Int) : findR (without x bad) e = if e ∈ bad then none else findR x e := by
  induction x with
  | nil => simp [without, findR]
  | cons r x ih =>
    have hw : without (r :: x) bad = if r.1 ∈ bad then without x bad else r :: without x bad := by
      unfold without
      by_cases h : r.1 ∈ bad <;> simp [h]
    rw [hw, findR_cons]
    by_cases h : r.1 ∈ bad
    · rw [if_pos h, ih]
      by_cases he : e ∈ bad
      · rw [if_pos he, if_pos he]
      · rw [if_neg he, if_neg he, if_neg (fun e' : r.1 = e => he (e' ▸ h))]
    · rw [if_neg h, findR_cons, ih]
      by_cases he : r.1 = e
      · rw [if_pos he, if_pos he, if_neg (he ▸ h)]
      · rw [if_neg he, if_neg he]
theorem chk_without (x : List (Int × Int)) : chk (without x (chk x)) = [] := by
  refine chk_eq (by simp) fun e => ?_
  rw [mem_chk]
  simp only [List.not_mem_nil, iff_false, not_or]
  have hf : ∀ c, fl (without x (chk x)) c = true → c ∉ chk x ∧ fl x c = true ∧ fv (without x (chk x)) c = fv x c := by
    intro c h
    by_cases hc : c ∈ chk x
    · unfold fl at h
      rw [findR_without, if_pos hc] at h
      cases h
    · refine ⟨hc, ?_, ?_⟩
      · unfold fl at h ⊢
        rw [findR_without, if_neg hc] at h
        exact h
      · unfold fv
        rw [findR_without, if_neg hc]
  refine ⟨?_, ?_, ?_⟩
  · rintro ⟨r, h1, h2, h3⟩
    unfold without at h1
    rw [List.mem_filter] at h1
    have h4 : r.1 ∉ chk x := by simpa using h1.2
    exact h4 (mem_chk.2 (.inl ⟨r, h1.1, h2, rfl⟩))
  · rintro ⟨h, _⟩
    unfold wetB at h
    simp only [Bool.and_eq_true, decide_eq_true_eq] at h
    obtain ⟨a1, a2, a3⟩ := hf 2 h.1.1
    obtain ⟨b1, b2, b3⟩ := hf 3 h.1.2
    refine a1 (mem_chk.2 (.inr (.inl ⟨?_, .inl rfl⟩)))
    unfold wetB
    rw [a2, b2, Bool.and_self, Bool.true_and, decide_eq_true_eq, ← a3, ← b3]
    exact h.2
  · rintro ⟨h, _⟩
    unfold stormB at h
    simp only [Bool.and_eq_true, decide_eq_true_eq] at h
    obtain ⟨a1, a2, a3⟩ := hf 4 h.1.1
    obtain ⟨b1, b2, b3⟩ := hf 5 h.1.2
    refine a1 (mem_chk.2 (.inr (.inr ⟨?_, .inl rfl⟩)))
    unfold stormB
    rw [a2, b2, Bool.and_self, Bool.true_and, decide_eq_true_eq, ← a3, ← b3]
    exact h.2

end Go.Proofs.YtjdafdibghfdhaaDoor
