/- The elements' ranges and gross limits; what checking one reading comes to. -/
import Derived.Test.YtjdafdibghfdhaaDoorKa
import Derived.Test.YtjdafdibghfdhaaDoorQc
set_option linter.unusedVariables false
set_option linter.unusedSimpArgs false
namespace Go.Proofs.YtjdafdibghfdhaaDoor
open Go Go.PM

/-- The range of an element, and its gross limits. -/
def rng (c : Int) : Int × Int := [(8000, 11000), (1800, 3300), (1800, 3300), (-1000, 1000), (-1000, 1000), (900, 1700), (2000, 3200), (2400, 3400), (2000, 3000), (4400, 6200), (2000, 2900)].getD (c - 1).toNat (0, 0)
def grs (c : Int) : Int × Int := [(8700, 10850), (1830, 3300), (1830, 3100), (-900, 900), (-900, 900), (1000, 1650), (2100, 3150), (2500, 3350), (2050, 2950), (4700, 6050), (2050, 2850)].getD (c - 1).toNat (0, 0)
/-- Whether a reading is within the gross limits. -/
def grossB (e v : Int) : Bool := decide (1 ≤ e) && decide (e ≤ 11) && (decide ((grs e).1 ≤ v) && decide (v ≤ (grs e).2))

theorem cases11 {p : Int → Prop} (h : p 1 ∧ p 2 ∧ p 3 ∧ p 4 ∧ p 5 ∧ p 6 ∧ p 7 ∧ p 8 ∧ p 9 ∧ p 10 ∧ p 11) (c : Int) (hc : 1 ≤ c ∧ c ≤ 11) : p c := by
  obtain ⟨h1, h2, h3, h4, h5, h6, h7, h8, h9, h10, h11⟩ := h
  have : c = 1 ∨ c = 2 ∨ c = 3 ∨ c = 4 ∨ c = 5 ∨ c = 6 ∨ c = 7 ∨ c = 8 ∨ c = 9 ∨ c = 10 ∨ c = 11 := by omega
  rcases this with rfl | rfl | rfl | rfl | rfl | rfl | rfl | rfl | rfl | rfl | rfl <;> assumption

theorem rng_bounds (c : Int) (hc : 1 ≤ c ∧ c ≤ 11) : -1000 ≤ (rng c).1 ∧ (rng c).1 ≤ (grs c).1 ∧ (grs c).1 ≤ (grs c).2 ∧ (grs c).2 ≤ (rng c).2 ∧ (rng c).2 ≤ 11000 :=
  cases11 (p := fun c => -1000 ≤ (rng c).1 ∧ (rng c).1 ≤ (grs c).1 ∧ (grs c).1 ≤ (grs c).2 ∧ (grs c).2 ≤ (rng c).2 ∧ (rng c).2 ≤ 11000) (by decide) c hc

theorem sp_Describe (fu d : Nat) (c : Int) (hc : 1 ≤ c ∧ c ≤ 11) : ∃ s g, cl fu (d + 1) fn_synopticref04_Describe [I c] [] = some ⟨V.tup [V.agg [C.v (.string s), C.v (.int .i64 (rng c).1), C.v (.int .i64 (rng c).2), C.v (.int .i64 g)], I 0], [], none⟩ := by
  refine cases11 (p := fun c => ∃ s g, cl fu (d + 1) fn_synopticref04_Describe [I c] [] = some ⟨V.tup [V.agg [C.v (.string s), C.v (.int .i64 (rng c).1), C.v (.int .i64 (rng c).2), C.v (.int .i64 g)], I 0], [], none⟩) ?_ c hc
  refine ⟨?_, ?_, ?_, ?_, ?_, ?_, ?_, ?_, ?_, ?_, ?_⟩ <;> (rw [eq_synopticref04_Describe]; exact ⟨_, _, rfl⟩)

theorem sp_Gross (fu d : Nat) (e v : Int) : cl fu (d + 1) fn_limits_Gross [V.agg [C.v (.int .i64 e), C.v (.int .i64 v)]] [] = some ⟨B (grossB e v), [], none⟩ := by
  by_cases h : 1 ≤ e ∧ e ≤ 11
  · have key : ∀ (lo hi : Int), (bif decide (v ≥ lo) then some (⟨B (decide (v ≤ hi)), [], none⟩ : Out) else some ⟨B false, [], none⟩) = some ⟨B (decide (lo ≤ v) && decide (v ≤ hi)), [], none⟩ := by
      intro lo hi
      by_cases hv : lo ≤ v
      · rw [decide_eq_true (show v ≥ lo from hv)]; rfl
      · rw [decide_eq_false (show ¬ v ≥ lo from hv)]; rfl
    refine cases11 (p := fun e => cl fu (d + 1) fn_limits_Gross [V.agg [C.v (.int .i64 e), C.v (.int .i64 v)]] [] = some ⟨B (grossB e v), [], none⟩) ?_ e h
    refine ⟨?_, ?_, ?_, ?_, ?_, ?_, ?_, ?_, ?_, ?_, ?_⟩ <;> (rw [eq_limits_Gross]; exact key _ _)
  · have hg : grossB e v = false := by
      unfold grossB
      by_cases h1 : 1 ≤ e
      · rw [decide_eq_false (show ¬ e ≤ 11 by omega), Bool.and_false, Bool.false_and]
      · rw [decide_eq_false h1, Bool.false_and, Bool.false_and]
    rw [eq_limits_Gross, hg]
    by_cases h1 : e < 1
    · rw [decide_eq_true h1]; rfl
    · rw [decide_eq_false h1, decide_eq_true (show e ≥ 12 by omega)]; rfl

theorem sp_ref_Gross (fu d : Nat) (e v : Int) : cl fu (d + 1) fn_synopticref14_Gross [V.agg [C.v (.int .i64 e), C.v (.int .i64 v)]] [] = some ⟨B (grossB e v), [], none⟩ := by
  by_cases h : 1 ≤ e ∧ e ≤ 11
  · have key : ∀ (lo hi : Int), (bif decide (v ≥ lo) then some (⟨B (decide (v ≤ hi)), [], none⟩ : Out) else some ⟨B false, [], none⟩) = some ⟨B (decide (lo ≤ v) && decide (v ≤ hi)), [], none⟩ := by
      intro lo hi
      by_cases hv : lo ≤ v
      · rw [decide_eq_true (show v ≥ lo from hv)]; rfl
      · rw [decide_eq_false (show ¬ v ≥ lo from hv)]; rfl
    refine cases11 (p := fun e => cl fu (d + 1) fn_synopticref14_Gross [V.agg [C.v (.int .i64 e), C.v (.int .i64 v)]] [] = some ⟨B (grossB e v), [], none⟩) ?_ e h
    refine ⟨?_, ?_, ?_, ?_, ?_, ?_, ?_, ?_, ?_, ?_, ?_⟩ <;> (rw [eq_synopticref14_Gross]; exact key _ _)
  · have hg : grossB e v = false := by
      unfold grossB
      by_cases h1 : 1 ≤ e
      · rw [decide_eq_false (show ¬ e ≤ 11 by omega), Bool.and_false, Bool.false_and]
      · rw [decide_eq_false h1, Bool.false_and, Bool.false_and]
    rw [eq_synopticref14_Gross, hg]
    by_cases h1 : e < 1
    · rw [decide_eq_true h1]; rfl
    · rw [decide_eq_false h1, decide_eq_true (show e > 11 by omega)]; rfl

/-- The value of the first reading of an element. -/
def findR (x : List (Int × Int)) (c : Int) : Option Int := (x.find? fun r => r.1 == c).map (·.2)
theorem findR_cons (r : Int × Int) (x : List (Int × Int)) (c : Int) : findR (r :: x) c = if r.1 = c then some r.2 else findR x c := by
  unfold findR
  rw [List.find?_cons]
  by_cases h : r.1 = c
  · simp [h]
  · rw [if_neg h, show (r.1 == c) = false by simpa using h]

theorem sp_ref_Find (fu d : Nat) (hf : 18446744073709551616 ≤ fu) (x : List (Int × Int)) (c : Int) (hn : x.length ≤ 1000000000000) :
    cl fu (d + 1) fn_synopticref04_Find [V.c (C.sl x.length (prs x)), I c] [] = some ⟨V.tup [I ((findR x c).getD 0), B (findR x c).isSome], [], none⟩ := by
  rw [eq_synopticref04_Find]
  have step : ∀ j (hj : j < x.length), (bif decide ((j : Int) < (x.length : Int)) then need (inR (j : Int) x.length) <| unc (List.drop (((j : Int).toNat) * 2) (prs x)) fun cc _ => asI .i64 cc fun i => bif i == c then need (inR (j : Int) x.length) <| unc (List.drop 1 (List.drop (((j : Int).toNat) * 2) (prs x))) fun c1 _ => asI .i64 c1 fun i1 => some (2, (i1, true, (j : Int), ())) else some (0, ((0 : Int), false, IntKind.i64.wrap ((j : Int) + 1), ())) else some (1, (0, false, (j : Int), ()))) = bif x[j].1 == c then some (2, (x[j].2, true, (j : Int), ())) else some (0, (0, false, ((j + 1 : Nat) : Int), ())) := by
    intro j hj
    have e2 : List.drop 1 (List.drop (j * 2) (prs x)) = .v (.int .i64 x[j].2) :: prs (x.drop (j + 1)) := by
      rw [prs_drop, List.drop_eq_getElem_cons hj]; rfl
    simp only [lt_yes (show (j : Int) < (x.length : Int) by omega), ct, inR_nat hj, need_true, Int.toNat_natCast, unc_prs hj, e2, unc_cons, asI_int]
    rw [IntWalk.i64_in ((j : Int) + 1) ⟨by omega, by omega⟩]
    rfl
  cases hx : x.find? (fun r => r.1 == c) with
  | some r =>
    have hlt : x.findIdx (fun r => r.1 == c) < x.length := by
      rw [List.findIdx_lt_length]
      exact ⟨r, List.mem_of_find?_eq_some hx, List.find?_some (p := fun r : Int × Int => r.1 == c) hx⟩
    have hr : x[x.findIdx (fun r => r.1 == c)] = r := by
      have h1 := List.find?_eq_some_iff_getElem.1 hx
      obtain ⟨_, i, hi, h2, h3⟩ := h1
      have h4 : x.findIdx (fun r => r.1 == c) = i := by
        rw [List.findIdx_eq hi]
        refine ⟨by rw [h2]; exact List.find?_some (p := fun r : Int × Int => r.1 == c) hx, fun j hj => by simpa using h3 j hj⟩
      subst h4
      exact h2
    have hfr : findR x c = some r.2 := by unfold findR; rw [hx]; rfl
    rw [hfr, show ((0 : Int), false, (0 : Int), ()) = (fun j : Nat => ((0 : Int), false, (j : Int), ())) 0 from rfl, iter_run (fun j : Nat => ((0 : Int), false, (j : Int), ())) 1 (r.2, true, (x.findIdx (fun r => r.1 == c) : Int), ()) (x.findIdx (fun r => r.1 == c)) 0 fu ?_ ?_ (by omega)]
    · rfl
    · intro j _ hj
      have hj : j < x.findIdx (fun r => r.1 == c) := by omega
      have hq := List.not_of_lt_findIdx hj
      refine (step j (by omega)).trans ?_
      have hq : (x[j].1 == c) = false := by simpa using hq
      rw [hq]; rfl
    · simp only [Nat.zero_add]
      refine (step _ hlt).trans ?_
      rw [hr, show (r.1 == c) = true from List.find?_some (p := fun r : Int × Int => r.1 == c) hx]
      rfl
  | none =>
    have hno := List.find?_eq_none.1 hx
    have hfr : findR x c = none := by unfold findR; rw [hx]; rfl
    rw [hfr, show ((0 : Int), false, (0 : Int), ()) = (fun j : Nat => ((0 : Int), false, (j : Int), ())) 0 from rfl, iter_run (fun j : Nat => ((0 : Int), false, (j : Int), ())) 0 (0, false, (x.length : Int), ()) x.length 0 fu ?_ ?_ (by omega)]
    · rfl
    · intro j _ hj
      have hj : j < x.length := by omega
      refine (step j hj).trans ?_
      have : (x[j].1 == c) = false := by simpa using hno _ (List.getElem_mem hj)
      rw [this]
      rfl
    · simp

end Go.Proofs.YtjdafdibghfdhaaDoor
