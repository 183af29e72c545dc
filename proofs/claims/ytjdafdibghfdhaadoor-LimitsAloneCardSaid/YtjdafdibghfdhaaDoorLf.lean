/- The statement that without the rejected elements nothing is rejected: its function answers true, at any list. -/
import Derived.Test.YtjdafdibghfdhaaDoorLe
set_option linter.unusedVariables false
set_option linter.unusedSimpArgs false
namespace Go.Proofs.YtjdafdibghfdhaaDoor
open Go Go.PM

theorem wet_iff (x : List (Int × Int)) : wetB x = true ↔ fl x 2 = true ∧ fl x 3 = true ∧ fv x 3 > fv x 2 := by
  unfold wetB
  rw [Bool.and_eq_true, Bool.and_eq_true, decide_eq_true_iff, and_assoc]
theorem storm_iff (x : List (Int × Int)) : stormB x = true ↔ fl x 4 = true ∧ fl x 5 = true ∧ fv x 4 * fv x 4 + fv x 5 * fv x 5 > 810000 := by
  unfold stormB
  rw [Bool.and_eq_true, Bool.and_eq_true, decide_eq_true_iff, and_assoc]

set_option maxHeartbeats 4000000 in
theorem sp_LimitsClean (fu d : Nat) (hf : 18446744073709551616 ≤ fu) (l : List Int) :
    cl fu (d + 7) fn_synopticlaw14_LimitsClean [V.c (C.sl l.length (ints l))] [] = some ⟨B true, [], none⟩ := by
  have hN := sp_New fu (d + 5) l
  obtain ⟨x, j, hL, hv, hx⟩ := sp_List fu (d + 1) hf (l.take 2000) 0 (by simp; omega)
  have hw := without_length x (chk x)
  have hb := chk_length x
  have hC1 := sp_Check fu (d + 1) hf x (by omega)
  have hW := sp_Without fu (d + 4) hf x (chk x) (by omega) (by omega)
  have hC2 := sp_Check fu (d + 1) hf (without x (chk x)) (by omega)
  rw [chk_without] at hC2
  unfold srcO srcC at hN hL
  rw [eq_synopticlaw14_LimitsClean, hN]
  simp only [obs, rP_ptr, show (Nat.beq 1000000 (OUT + 0)) = true from rfl, beqN_self, Bool.and_self, need_true, uncO_cons, rN_ob, List.length_cons, List.length_nil, Nat.zero_add, Nat.reduceAdd, unc_cons, asI_int, hL, rO_ob, rC_c, nrm_sl, noYl_sl, hC1, hW, hC2, ik_nil, asSl_sl, show decide (((0 : Nat) : Int) > 0) = false from rfl, cf]
  have hlt := chk_lt x
  generalize hbad : chk x = bad at *
  have hloop1 : ∀ (body : Bool × Int × Unit → Option (Nat × Bool × Int × Unit)), (∀ i : Nat, body (false, (i : Int), ()) = if h : i < bad.length then (if i = 0 then body (false, 0, ()) else some (0, (false, ((i + 1 : Nat) : Int), ()))) else some (1, (false, (i : Int), ()))) → iter body fu (false, 1, ()) = some (0, (false, ((max 1 bad.length : Nat) : Int), ())) := by
    intro body hbody
    by_cases h1 : 1 ≤ bad.length
    · have h := iter_run (body := body) (fun i : Nat => (false, (i : Int), ())) 0 (false, (bad.length : Int), ()) (bad.length - 1) 1 fu (fun i h1 h2 => by
        rw [hbody i, dif_pos (by omega), if_neg (by omega)]) (by
        rw [show 1 + (bad.length - 1) = bad.length by omega, hbody, dif_neg (by omega)]) (by omega)
      rw [show max 1 bad.length = bad.length by omega]
      exact h
    · have h := iter_run (body := body) (fun i : Nat => (false, (i : Int), ())) 0 (false, 1, ()) 0 1 fu (fun i h1 h2 => by omega) (by
        rw [Nat.add_zero, hbody, dif_neg (by omega)]; rfl) (by omega)
      rw [show max 1 bad.length = 1 by omega]
      exact h
  rw [hloop1]
  · simp only [obs, natD_zero]
    rw [show (false, (0 : Int), ()) = (fun i : Nat => (false, (i : Int), ())) 0 from rfl, iter_run (fun i : Nat => (false, (i : Int), ())) 0 (false, (x.length : Int), ()) x.length 0 fu ?_ ?_ (by omega)]
    · simp only [obs, natD_zero, sp_awake fu d hf, rC_c, asB_bool]
    · intro i _ hi
      have hi : i < x.length := by omega
      have hm := mem_chk_valid hv (show (x[i].1, x[i].2) ∈ x from List.getElem_mem hi)
      rw [hbad] at hm
      simp only [lt_yes (show (i : Int) < (x.length : Int) by omega), ct, inR_nat hi, need_true, Int.toNat_natCast, unc_prs hi, unc_cons, asI_int, sp_ref_Gross, obs, rC_c, asB_bool, sp_ref_Find fu (d + 5) hf x _ (show x.length ≤ 1000000000000 by omega), rT_tup, uncV_cons, nilV_nil, sp_In fu (d + 5) hf bad _ (show bad.length ≤ 1000000000000 by omega)]
      have hfv : ∀ c, -100000 ≤ (findR x c).getD 0 ∧ (findR x c).getD 0 ≤ 100000 := fun c => by
        cases h : findR x c with
        | none => simp
        | some v => exact (hv.2 _ (findR_mem h)).2
      obtain ⟨⟨q1, q2⟩, q3, q4⟩ := sq_bound (hfv 4) (hfv 5)
      rw [wet_iff, storm_iff, valid_fl hv, valid_fl hv, valid_fl hv, valid_fl hv] at hm
      unfold fv at hm
      generalize (findR x 2).isSome = s2 at *
      generalize (findR x 3).isSome = s3 at *
      generalize (findR x 4).isSome = s4 at *
      generalize (findR x 5).isSome = s5 at *
      generalize (findR x 2).getD 0 = v2 at *
      generalize (findR x 3).getD 0 = v3 at *
      generalize (findR x 4).getD 0 = v4 at *
      generalize (findR x 5).getD 0 = v5 at *
      rw [IntWalk.i64_in ((i : Int) + 1) ⟨by omega, by omega⟩, IntWalk.i64_in (v4 * v4) ⟨by omega, by omega⟩, IntWalk.i64_in (v5 * v5) ⟨by omega, by omega⟩, IntWalk.i64_in (v4 * v4 + v5 * v5) ⟨by omega, by omega⟩]
      generalize hdec : decide (x[i].1 ∈ bad) = inb
      have hm2 : inb = true ↔ _ := (by rw [← hdec, decide_eq_true_eq] : inb = true ↔ x[i].1 ∈ bad).trans hm
      clear hm hdec
      generalize grossB x[i].1 x[i].2 = g at *
      generalize x[i].1 = e at *
      generalize hdw : decide (v3 > v2) = dw at *
      generalize hst : decide (v4 * v4 + v5 * v5 > 810000) = st at *
      have hdw' : v3 > v2 ↔ dw = true := by rw [← hdw, decide_eq_true_eq]
      have hst' : v4 * v4 + v5 * v5 > 810000 ↔ st = true := by rw [← hst, decide_eq_true_eq]
      rw [hdw', hst'] at hm2
      have e2 : e = 2 ↔ (e == 2) = true := by simp
      have e3 : e = 3 ↔ (e == 3) = true := by simp
      have e4 : e = 4 ↔ (e == 4) = true := by simp
      have e5 : e = 5 ↔ (e == 5) = true := by simp
      rw [e2, e3, e4, e5] at hm2
      generalize (e == 2) = b2 at *
      generalize (e == 3) = b3 at *
      generalize (e == 4) = b4 at *
      generalize (e == 5) = b5 at *
      clear e2 e3 e4 e5 hdw hst hdw' hst'
      have hin : inb = (!g || (s2 && s3 && dw && (b2 || b3)) || (s4 && s5 && st && (b4 || b5))) := by
        rw [Bool.eq_iff_iff, hm2]
        simp only [Bool.or_eq_true, Bool.and_eq_true, Bool.not_eq_true', and_assoc, or_assoc]
      subst hin
      clear hm2
      cases g
      · simp
      · cases s2 <;> cases s3 <;> cases dw <;> cases s4 <;> cases s5 <;> cases st <;> cases b2 <;> cases b3 <;> cases b4 <;> cases b5 <;> rfl
    · simp
  · intro i
    by_cases hi : i < bad.length
    · rw [dif_pos hi]
      by_cases h0 : i = 0
      · subst h0; rw [if_pos rfl]; rfl
      · rw [if_neg h0]
        have h1 : bad[i - 1] < bad[i] := List.pairwise_iff_getElem.1 hlt (i - 1) i (by omega) hi (by omega)
        simp only [lt_yes (show (i : Int) < (bad.length : Int) by omega), ct]
        rw [show IntKind.i64.wrap ((i : Int) - 1) = ((i - 1 : Nat) : Int) by rw [IntWalk.i64_in _ ⟨by omega, by omega⟩]; omega]
        simp only [inR_nat (show i - 1 < bad.length by omega), inR_nat hi, need_true, Int.toNat_natCast, Nat.mul_one, unc_ik (show i - 1 < bad.length by omega), unc_ik hi, asI_int]
        rw [decide_eq_false (show ¬ bad[i - 1] ≥ bad[i] by omega), IntWalk.i64_in ((i : Int) + 1) ⟨by omega, by omega⟩]
        rfl
    · rw [dif_neg hi, decide_eq_false (show ¬ (i : Int) < (bad.length : Int) by omega)]
      rfl

end Go.Proofs.YtjdafdibghfdhaaDoor
