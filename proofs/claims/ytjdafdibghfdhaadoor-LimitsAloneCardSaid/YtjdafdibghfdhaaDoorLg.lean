/- The statements that the gross limits are narrow, and that the other elements are checked alone: their functions answer true. -/
import Derived.Test.YtjdafdibghfdhaaDoorLf
set_option linter.unusedVariables false
set_option linter.unusedSimpArgs false
namespace Go.Proofs.YtjdafdibghfdhaaDoor
open Go Go.PM

/-- The least and the greatest value that is within the limits, among those below v. -/
def nlo (L H g1 v : Int) : Int := if v ≤ g1 then H + 1 else g1
def nhi (L g1 g2 v : Int) : Int := if v ≤ g1 then L - 1 else if v - 1 ≤ g2 then v - 1 else g2

theorem grossB_in (c v : Int) (hc : 1 ≤ c ∧ c ≤ 11) : grossB c v = (decide ((grs c).1 ≤ v) && decide (v ≤ (grs c).2)) := by
  unfold grossB
  rw [decide_eq_true hc.1, decide_eq_true hc.2]; rfl

theorem sp_LimitsNarrow (fu d : Nat) (hf : 18446744073709551616 ≤ fu) (a b : Int) :
    cl fu (d + 7) fn_synopticlaw14_LimitsNarrow [I a, I b] [] = some ⟨B true, [], none⟩ := by
  obtain ⟨m, h1, h2, h3⟩ := sp_Mod fu (d + 5) a 11 (by omega)
  have hw : IntKind.i64.wrap (1 + m) = 1 + m := IntWalk.i64_in _ ⟨by omega, by omega⟩
  obtain ⟨s, g, hd⟩ := sp_Describe fu (d + 5) (1 + m) (by omega)
  have hr := rng_bounds (1 + m) (by omega)
  have hcc : 1 ≤ 1 + m ∧ 1 + m ≤ 11 := ⟨by omega, by omega⟩
  have hg := fun v => grossB_in (1 + m) v hcc
  rw [eq_synopticlaw14_LimitsNarrow, h1]
  simp only [obs, rC_c, asI_int, hw, hd, rT_tup, uncV_cons, rA_agg, List.length_cons, List.length_nil, Nat.zero_add, Nat.reduceAdd, beqN_self, need_true, unc_cons, asS_string, nilV_nil, sp_Gross, asB_bool, sp_awake fu d hf]
  generalize 1 + m = c at *
  generalize (rng c).1 = L at *
  generalize (rng c).2 = H at *
  generalize (grs c).1 = g1 at *
  generalize (grs c).2 = g2 at *
  rw [IntWalk.i64_in (H + 1) ⟨by omega, by omega⟩, IntWalk.i64_in (L - 1) ⟨by omega, by omega⟩]
  obtain ⟨n, hn⟩ : ∃ n : Nat, H - L + 3 = n := ⟨(H - L + 3).toNat, by omega⟩
  rw [show (H + 1, L - 1, L - 1, ()) = (fun j : Nat => (nlo L H g1 (L - 1 + j), nhi L g1 g2 (L - 1 + j), L - 1 + (j : Int), ())) 0 by
      show (H + 1, L - 1, L - 1, ()) = (nlo L H g1 (L - 1 + ((0 : Nat) : Int)), nhi L g1 g2 (L - 1 + ((0 : Nat) : Int)), L - 1 + ((0 : Nat) : Int), ())
      rw [show L - 1 + ((0 : Nat) : Int) = L - 1 by omega]
      unfold nlo nhi
      rw [if_pos (by omega), if_pos (by omega)], iter_run (fun j : Nat => (nlo L H g1 (L - 1 + j), nhi L g1 g2 (L - 1 + j), L - 1 + (j : Int), ())) 0 (g1, g2, H + 2, ()) n 0 fu ?_ ?_ (by omega)]
  · simp only [obs]
    rw [decide_eq_false (show ¬ g1 > g2 by omega), decide_eq_false (show ¬ g1 < L by omega), decide_eq_false (show ¬ g2 > H by omega)]
    simp only [cf, hg b]
    by_cases hb : g1 ≤ b
    · rw [decide_eq_true (show b ≥ g1 from hb)]
      simp
    · rw [decide_eq_false (show ¬ b ≥ g1 from hb)]
      simp
  · intro j _ hj
    have hj : j < n := by omega
    simp only [decide_eq_true (show L - 1 + (j : Int) ≤ H + 1 by omega), ct, hg (L - 1 + (j : Int))]
    rw [IntWalk.i64_in (L - 1 + (j : Int) + 1) ⟨by omega, by omega⟩, show L - 1 + (j : Int) + 1 = L - 1 + ((j + 1 : Nat) : Int) by omega]
    by_cases hin : g1 ≤ L - 1 + (j : Int) ∧ L - 1 + (j : Int) ≤ g2
    · rw [decide_eq_true hin.1, decide_eq_true hin.2]
      simp only [Bool.and_self, ct, Option.some.injEq, Prod.mk.injEq, true_and, and_true]
      unfold nlo nhi
      constructor <;> (repeat' split) <;> omega
    · have : (decide (g1 ≤ L - 1 + (j : Int)) && decide (L - 1 + (j : Int) ≤ g2)) = false := by
        rw [Bool.and_eq_false_iff, decide_eq_false_iff_not, decide_eq_false_iff_not]
        omega
      rw [this]
      simp only [cf, Option.some.injEq, Prod.mk.injEq, true_and, and_true]
      unfold nlo nhi
      constructor <;> (repeat' split) <;> omega
  · simp only [Nat.zero_add, decide_eq_false (show ¬ L - 1 + (n : Int) ≤ H + 1 by omega), cf, Option.some.injEq, Prod.mk.injEq, true_and, and_true]
    unfold nlo nhi
    refine ⟨?_, ?_, by omega⟩ <;> (repeat' split) <;> omega

/-- One reading alone is rejected if it is outside of the gross limits. -/
theorem chk_one (e v : Int) : (decide ((((chk [(e, v)]).length : Nat) : Int) > 0)) = !grossB e v := by
  have hm : ∀ y, y ∈ chk [(e, v)] ↔ grossB e v = false ∧ e = y := by
    intro y
    rw [mem_chk]
    have f2 : ∀ c c' : Int, c ≠ c' → ¬ (fl [(e, v)] c = true ∧ fl [(e, v)] c' = true) := by
      rintro c c' hne ⟨h1, h2⟩
      unfold fl at h1 h2
      rw [findR_cons] at h1 h2
      by_cases ec : e = c
      · rw [if_neg (by omega)] at h2; simp [findR] at h2
      · rw [if_neg ec] at h1; simp [findR] at h1
    have w : wetB [(e, v)] = false := by
      cases h : wetB [(e, v)] with
      | false => rfl
      | true => exact absurd ⟨((wet_iff _).1 h).1, ((wet_iff _).1 h).2.1⟩ (f2 2 3 (by omega))
    have s : stormB [(e, v)] = false := by
      cases h : stormB [(e, v)] with
      | false => rfl
      | true => exact absurd ⟨((storm_iff _).1 h).1, ((storm_iff _).1 h).2.1⟩ (f2 4 5 (by omega))
    rw [w, s]
    simp
  cases hg : grossB e v with
  | true =>
    have : chk [(e, v)] = [] := List.eq_nil_iff_forall_not_mem.2 fun y hy => by
      have := ((hm y).1 hy).1
      rw [hg] at this; cases this
    rw [this]; rfl
  | false =>
    have : e ∈ chk [(e, v)] := (hm e).2 ⟨hg, rfl⟩
    have := List.length_pos_of_mem this
    rw [decide_eq_true (by omega)]; rfl

theorem sp_LimitsAlone (fu d : Nat) (hf : 18446744073709551616 ≤ fu) (l : List Int) :
    cl fu (d + 7) fn_synopticlaw14_LimitsAlone [V.c (C.sl l.length (ints l))] [] = some ⟨B true, [], none⟩ := by
  have hN := sp_New fu (d + 5) l
  obtain ⟨x, j, hL, hv, hx⟩ := sp_List fu (d + 1) hf (l.take 2000) 0 (by simp; omega)
  have hb := chk_length x
  have hC1 := sp_Check fu (d + 1) hf x (by omega)
  unfold srcO srcC at hN hL
  rw [eq_synopticlaw14_LimitsAlone, hN]
  simp only [obs, rP_ptr, show (Nat.beq 1000000 (OUT + 0)) = true from rfl, beqN_self, Bool.and_self, need_true, uncO_cons, rN_ob, List.length_cons, List.length_nil, Nat.zero_add, Nat.reduceAdd, unc_cons, asI_int, hL, rO_ob, rC_c, nrm_sl, noYl_sl, hC1, asSl_sl]
  generalize hbad : chk x = bad at *
  rw [show (false, (0 : Int), ()) = (fun i : Nat => (false, (i : Int), ())) 0 from rfl, iter_run (fun i : Nat => (false, (i : Int), ())) 0 (false, (x.length : Int), ()) x.length 0 fu ?_ ?_ (by omega)]
  · simp only [obs, natD_zero, sp_awake fu d hf, rC_c, asB_bool]
  · intro i _ hi
    have hi : i < x.length := by omega
    have hm := mem_chk_valid hv (show (x[i].1, x[i].2) ∈ x from List.getElem_mem hi)
    rw [hbad] at hm
    have hC2 : cl fu (d + 6) fn_limits_Check [V.c (C.sl 1 [C.v (.int .i64 x[i].1), C.v (.int .i64 x[i].2)])] [] = some ⟨V.c (C.sl (chk [(x[i].1, x[i].2)]).length (ints (chk [(x[i].1, x[i].2)]))), [], none⟩ := sp_Check fu (d + 1) hf [(x[i].1, x[i].2)] (by simp)
    have hone := chk_one x[i].1 x[i].2
    simp only [lt_yes (show (i : Int) < (x.length : Int) by omega), ct, inR_nat hi, need_true, Int.toNat_natCast, unc_prs hi, unc_cons, asI_int, hC2, sp_Gross, obs, rC_c, asB_bool, asSl_sl, hone, sp_In fu (d + 5) hf bad _ (show bad.length ≤ 1000000000000 by omega)]
    rw [IntWalk.i64_in ((i : Int) + 1) ⟨by omega, by omega⟩]
    generalize hdec : decide (x[i].1 ∈ bad) = inb
    have hm2 : inb = true ↔ _ := (by rw [← hdec, decide_eq_true_eq] : inb = true ↔ x[i].1 ∈ bad).trans hm
    clear hm hdec hone hC2
    generalize grossB x[i].1 x[i].2 = g at *
    generalize x[i].1 = e at *
    by_cases h2 : e ≥ 2
    · by_cases h5 : e ≤ 5
      · rw [decide_eq_true h2, decide_eq_true h5]
        cases g with
        | true => rfl
        | false =>
          have : inb = true := hm2.2 (.inl rfl)
          subst this
          rfl
      · rw [decide_eq_true h2, decide_eq_false h5]
        have : inb = !g := by
          rw [Bool.eq_iff_iff, hm2, Bool.not_eq_true']
          constructor
          · rintro (h | ⟨_, h⟩ | ⟨_, h⟩)
            · exact h
            · omega
            · omega
          · exact .inl
        subst this
        cases g <;> rfl
    · rw [decide_eq_false h2]
      have : inb = !g := by
        rw [Bool.eq_iff_iff, hm2, Bool.not_eq_true']
        constructor
        · rintro (h | ⟨_, h⟩ | ⟨_, h⟩)
          · exact h
          · omega
          · omega
        · exact .inl
      subst this
      cases g <;> rfl
  · simp

end Go.Proofs.YtjdafdibghfdhaaDoor
