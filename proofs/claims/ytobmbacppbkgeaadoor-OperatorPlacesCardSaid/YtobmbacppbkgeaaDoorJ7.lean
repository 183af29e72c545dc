/- Parts put together: Oe, Of, Og, Oh, Oi, Gm, Oj, Ok. -/
import Derived.Test.YtobmbacppbkgeaaDoorJ6
set_option linter.unusedSimpArgs false
set_option linter.unusedVariables false
/- Rows applied to values: what the program's functions come to for rows that are valid. -/
namespace Go.Proofs.YtobmbacppbkgeaaDoor
open Go Go.PM Go.Grid

/-! Plain. -/
def at0 (x : List Int) (k : Nat) : Int := x.getD k 0
theorem at0_eq {x : List Int} {k : Nat} (h : k < x.length) : x[k] = at0 x k := by simp [at0, h]
def dotR (sh : List (Nat × Nat)) (x : List Int) : Int := (sh.map fun s => (s.2 : Int) * at0 x s.1).sum
def wsum (sh : List (Nat × Nat)) : Int := (sh.map fun s => (s.2 : Int)).sum
def bd0 (b : Int) (x : List Int) : Prop := ∀ v ∈ x, -b ≤ v ∧ v ≤ b
theorem at0_bd {b : Int} (hb : 0 ≤ b) {x : List Int} (h : bd0 b x) (k : Nat) : -b ≤ at0 x k ∧ at0 x k ≤ b := by
  by_cases hk : k < x.length
  · rw [← at0_eq hk]; exact h _ (List.getElem_mem hk)
  · have : at0 x k = 0 := by unfold at0; rw [List.getD_eq_getElem?_getD, List.getElem?_eq_none (by omega)]; rfl
    rw [this]; omega
theorem mul_bd {b w v : Int} (hw : 0 ≤ w) (h : -b ≤ v ∧ v ≤ b) : -(w * b) ≤ w * v ∧ w * v ≤ w * b := by
  have h1 := Int.mul_le_mul_of_nonneg_left h.1 hw
  have h2 := Int.mul_le_mul_of_nonneg_left h.2 hw
  rw [Int.mul_neg] at h1
  exact ⟨h1, h2⟩
theorem dotR_bd {b : Int} (hb : 0 ≤ b) {x : List Int} (h : bd0 b x) : ∀ sh : List (Nat × Nat), -(wsum sh * b) ≤ dotR sh x ∧ dotR sh x ≤ wsum sh * b
  | [] => by simp [dotR, wsum]
  | s :: sh => by
    have ih := dotR_bd hb h sh
    have h1 := mul_bd (w := (s.2 : Int)) (by omega) (at0_bd hb h s.1)
    simp only [dotR, wsum, List.map_cons, List.sum_cons] at ih ⊢
    rw [Int.add_mul]
    omega
theorem dotR_snoc (sh : List (Nat × Nat)) (s : Nat × Nat) (x : List Int) : dotR (sh ++ [s]) x = dotR sh x + (s.2 : Int) * at0 x s.1 := by simp [dotR]
theorem wsum_snoc (sh : List (Nat × Nat)) (s : Nat × Nat) : wsum (sh ++ [s]) = wsum sh + (s.2 : Int) := by simp [wsum]
theorem wsum_nat (sh : List (Nat × Nat)) : wsum sh = (((sh.map (·.2)).sum : Nat) : Int) := by
  induction sh with
  | nil => rfl
  | cons s r ih => simp only [wsum, List.map_cons, List.sum_cons] at ih ⊢; rw [ih]; omega
theorem wsum_append (a b : List (Nat × Nat)) : wsum (a ++ b) = wsum a + wsum b := by simp [wsum]
theorem wsum_take (sh : List (Nat × Nat)) (j : Nat) : 0 ≤ wsum (sh.take j) ∧ wsum (sh.take j) ≤ wsum sh := by
  have e : wsum sh = wsum (sh.take j) + wsum (sh.drop j) := by
    rw [← wsum_append, List.take_append_drop]
  have h1 := wsum_nat (sh.take j)
  have h2 := wsum_nat (sh.drop j)
  omega
theorem okRow_sum {m : Nat} {x : Rw} (h : okRow m x) : wsum x.sh = 840 := by rw [wsum_nat, h.2.2.1]; rfl

/-! The functions. -/
theorem sp_weighted (fu d : Nat) (w : Int) (h : 1 ≤ w ∧ w ≤ 1000) : cl fu (d + 1) fn_operator_weighted [I w] [] = OK (B true) := by
  rw [eq_operator_weighted]; simp (disch := omega) only [obs, rC_c, rA_agg, rT_tup, rP_ptr, rW_own, rS_sb, rF_sb, uncV_cons, uncO_cons, nilV_nil, rO_ob, rN_ob, unc_cons, asI_int, asB_bool, asS_string, asSl_sl, asSl_nl, asFn_fn, asP_cp, nrm_sl, nrm_nl, need_true, ct, cf, bd_eq, natD_zero, natD_succ, natD_one, noYl_v, noYl_sl, noYl_nl, noYl_cp, noYl_fn, Bool.and_true, Bool.true_and, Bool.and_self, beqN_self, Bool.not_true, Bool.not_false, Bool.and_false, Bool.false_and, Bool.or_false, Bool.false_or, Bool.or_true, Bool.true_or, wrap_in, dlt_t, dlt_f, dle_t, dle_f, dgt_t, dgt_f, dge_t, dge_f, ibeq_t, ibeq_f, ibne_t, ibne_f, inR_int, beqN_eq, bleN_le]
theorem sp_valid (fu d : Nat) (hf : 18446744073709551616 ≤ fu) (m : Nat) (x : Rw) (h : okRow m x) : cl fu (d + 2) fn_operator_valid [V.agg (rwc x), I (m : Int)] [] = OK (B true) := by
  obtain ⟨h1, h2, h3, h4, h5, h6⟩ := h
  have hw := wsum_nat x.sh
  rw [h3] at hw
  unfold rwc
  rw [eq_operator_valid]
  simp only [obs, rC_c, rA_agg, rT_tup, rP_ptr, rW_own, rS_sb, rF_sb, uncV_cons, uncO_cons, nilV_nil, rO_ob, rN_ob, unc_cons, asI_int, asB_bool, asS_string, asSl_sl, asSl_nl, asFn_fn, asP_cp, nrm_sl, nrm_nl, need_true, ct, cf, bd_eq, natD_zero, natD_succ, natD_one, noYl_v, noYl_sl, noYl_nl, noYl_cp, noYl_fn, Bool.and_true, Bool.true_and, Bool.and_self, beqN_self, Bool.not_true, Bool.not_false, Bool.and_false, Bool.false_and, Bool.or_false, Bool.false_or, Bool.or_true, Bool.true_or]
  rw [iter_runx (fun j : Nat => (false, wsum (x.sh.take j), (j : Int), ())) 0 (false, wsum x.sh, (x.sh.length : Int), ()) x.sh.length ?_ ?_ ?_ (by omega)]
  · simp (disch := omega) only [obs, rC_c, rA_agg, rT_tup, rP_ptr, rW_own, rS_sb, rF_sb, uncV_cons, uncO_cons, nilV_nil, rO_ob, rN_ob, unc_cons, asI_int, asB_bool, asS_string, asSl_sl, asSl_nl, asFn_fn, asP_cp, nrm_sl, nrm_nl, need_true, ct, cf, bd_eq, natD_zero, natD_succ, natD_one, noYl_v, noYl_sl, noYl_nl, noYl_cp, noYl_fn, Bool.and_true, Bool.true_and, Bool.and_self, beqN_self, Bool.not_true, Bool.not_false, Bool.and_false, Bool.false_and, Bool.or_false, Bool.false_or, Bool.or_true, Bool.true_or, wrap_in, dlt_t, dlt_f, dle_t, dle_f, dgt_t, dgt_f, dge_t, dge_f, ibeq_t, ibeq_f, ibne_t, ibne_f, inR_int, beqN_eq, bleN_le, sp_weighted fu d x.w h5]
  · rfl
  · intro j hj
    have hat := fl_at shc_length hj
    obtain ⟨g1, g2, g3⟩ := h2 _ (List.getElem_mem hj)
    have hb := wsum_take x.sh j
    rw [List.take_succ_eq_append_getElem hj, wsum_snoc]
    by_cases h0 : 0 < j
    · have hat2 := fl_at (l := x.sh) shc_length (show j - 1 < x.sh.length by omega)
      have hlt : x.sh[j - 1].1 < x.sh[j].1 := List.pairwise_iff_getElem.1 h1 (j - 1) j (by omega) hj (by omega)
      have hc : ((j : Int) - 1) = ((j - 1 : Nat) : Int) := by omega
      simp (disch := omega) only [obs, rC_c, rA_agg, rT_tup, rP_ptr, rW_own, rS_sb, rF_sb, uncV_cons, uncO_cons, nilV_nil, rO_ob, rN_ob, unc_cons, asI_int, asB_bool, asS_string, asSl_sl, asSl_nl, asFn_fn, asP_cp, nrm_sl, nrm_nl, need_true, ct, cf, bd_eq, natD_zero, natD_succ, natD_one, noYl_v, noYl_sl, noYl_nl, noYl_cp, noYl_fn, Bool.and_true, Bool.true_and, Bool.and_self, beqN_self, Bool.not_true, Bool.not_false, Bool.and_false, Bool.false_and, Bool.or_false, Bool.false_or, Bool.or_true, Bool.true_or, wrap_in, dlt_t, dlt_f, dle_t, dle_f, dgt_t, dgt_f, dge_t, dge_f, ibeq_t, ibeq_f, ibne_t, ibne_f, inR_int, beqN_eq, bleN_le, Int.toNat_natCast, hat, shc, List.cons_append, List.nil_append, hc, hat2, Int.natCast_add, Int.natCast_one]
    · simp (disch := omega) only [obs, rC_c, rA_agg, rT_tup, rP_ptr, rW_own, rS_sb, rF_sb, uncV_cons, uncO_cons, nilV_nil, rO_ob, rN_ob, unc_cons, asI_int, asB_bool, asS_string, asSl_sl, asSl_nl, asFn_fn, asP_cp, nrm_sl, nrm_nl, need_true, ct, cf, bd_eq, natD_zero, natD_succ, natD_one, noYl_v, noYl_sl, noYl_nl, noYl_cp, noYl_fn, Bool.and_true, Bool.true_and, Bool.and_self, beqN_self, Bool.not_true, Bool.not_false, Bool.and_false, Bool.false_and, Bool.or_false, Bool.false_or, Bool.or_true, Bool.true_or, wrap_in, dlt_t, dlt_f, dle_t, dle_f, dgt_t, dgt_f, dge_t, dge_f, ibeq_t, ibeq_f, ibne_t, ibne_f, inR_int, beqN_eq, bleN_le, Int.toNat_natCast, hat, shc, List.cons_append, List.nil_append, Int.natCast_add, Int.natCast_one]
  · rw [List.take_of_length_le (Nat.le_refl _)]
    simp (disch := omega) only [obs, rC_c, rA_agg, rT_tup, rP_ptr, rW_own, rS_sb, rF_sb, uncV_cons, uncO_cons, nilV_nil, rO_ob, rN_ob, unc_cons, asI_int, asB_bool, asS_string, asSl_sl, asSl_nl, asFn_fn, asP_cp, nrm_sl, nrm_nl, need_true, ct, cf, bd_eq, natD_zero, natD_succ, natD_one, noYl_v, noYl_sl, noYl_nl, noYl_cp, noYl_fn, Bool.and_true, Bool.true_and, Bool.and_self, beqN_self, Bool.not_true, Bool.not_false, Bool.and_false, Bool.false_and, Bool.or_false, Bool.false_or, Bool.or_true, Bool.true_or, wrap_in, dlt_t, dlt_f, dle_t, dle_f, dgt_t, dgt_f, dge_t, dge_f, ibeq_t, ibeq_f, ibne_t, ibne_f, inR_int, beqN_eq, bleN_le]
theorem sp_invalid (fu d : Nat) (hf : 18446744073709551616 ≤ fu) (m : Nat) (L : List Rw) (hL : L.length ≤ 1000000) (h : ∀ x ∈ L, okRow m x) : cl fu (d + 6) fn_operator_invalid [V.c (C.sl L.length (fl rwc L)), I (m : Int)] [] = OK (B false) := by
  rw [eq_operator_invalid, eq1_slices_ContainsFunc_sapi_Row_api_Row, eq1_slices_IndexFunc_sapi_Row_api_Row]
  rw [iter_runx (fun j : Nat => ((0 : Int), (j : Int), ())) 0 ((0 : Int), (L.length : Int), ()) L.length ?_ ?_ ?_ (by omega)]
  · simp (disch := omega) only [obs, rC_c, rA_agg, rT_tup, rP_ptr, rW_own, rS_sb, rF_sb, uncV_cons, uncO_cons, nilV_nil, rO_ob, rN_ob, unc_cons, asI_int, asB_bool, asS_string, asSl_sl, asSl_nl, asFn_fn, asP_cp, nrm_sl, nrm_nl, need_true, ct, cf, bd_eq, natD_zero, natD_succ, natD_one, noYl_v, noYl_sl, noYl_nl, noYl_cp, noYl_fn, Bool.and_true, Bool.true_and, Bool.and_self, beqN_self, Bool.not_true, Bool.not_false, Bool.and_false, Bool.false_and, Bool.or_false, Bool.false_or, Bool.or_true, Bool.true_or, wrap_in, dlt_t, dlt_f, dle_t, dle_f, dgt_t, dgt_f, dge_t, dge_f, ibeq_t, ibeq_f, ibne_t, ibne_f, inR_int, beqN_eq, bleN_le]
  · rfl
  · intro j hj
    have hat := fl_at rwc_length hj
    have hv := sp_valid fu d hf m L[j] (h _ (List.getElem_mem hj))
    simp only [rwc] at hv
    simp (disch := omega) only [obs, rC_c, rA_agg, rT_tup, rP_ptr, rW_own, rS_sb, rF_sb, uncV_cons, uncO_cons, nilV_nil, rO_ob, rN_ob, unc_cons, asI_int, asB_bool, asS_string, asSl_sl, asSl_nl, asFn_fn, asP_cp, nrm_sl, nrm_nl, need_true, ct, cf, bd_eq, natD_zero, natD_succ, natD_one, noYl_v, noYl_sl, noYl_nl, noYl_cp, noYl_fn, Bool.and_true, Bool.true_and, Bool.and_self, beqN_self, Bool.not_true, Bool.not_false, Bool.and_false, Bool.false_and, Bool.or_false, Bool.false_or, Bool.or_true, Bool.true_or, wrap_in, dlt_t, dlt_f, dle_t, dle_f, dgt_t, dgt_f, dge_t, dge_f, ibeq_t, ibeq_f, ibne_t, ibne_f, inR_int, beqN_eq, bleN_le, Int.toNat_natCast, hat, rwc, List.cons_append, List.nil_append, eq_operator_invalid_1, hv, Int.natCast_add, Int.natCast_one]
  · simp (disch := omega) only [obs, rC_c, rA_agg, rT_tup, rP_ptr, rW_own, rS_sb, rF_sb, uncV_cons, uncO_cons, nilV_nil, rO_ob, rN_ob, unc_cons, asI_int, asB_bool, asS_string, asSl_sl, asSl_nl, asFn_fn, asP_cp, nrm_sl, nrm_nl, need_true, ct, cf, bd_eq, natD_zero, natD_succ, natD_one, noYl_v, noYl_sl, noYl_nl, noYl_cp, noYl_fn, Bool.and_true, Bool.true_and, Bool.and_self, beqN_self, Bool.not_true, Bool.not_false, Bool.and_false, Bool.false_and, Bool.or_false, Bool.false_or, Bool.or_true, Bool.true_or, wrap_in, dlt_t, dlt_f, dle_t, dle_f, dgt_t, dgt_f, dge_t, dge_f, ibeq_t, ibeq_f, ibne_t, ibne_f, inR_int, beqN_eq, bleN_le]
theorem sp_small (fu d : Nat) (hf : 18446744073709551616 ≤ fu) (x : List Int) (hl : x.length ≤ 1000000) (h : bd0 1099511627776 x) : cl fu (d + 4) fn_operator_small [V.c (C.sl x.length (ints x))] [] = OK (B true) := by
  rw [eq_operator_small, eq_slices_ContainsFunc_sint_int, eq_slices_IndexFunc_sint_int]
  rw [iter_runx (fun j : Nat => ((0 : Int), (j : Int), ())) 0 ((0 : Int), (x.length : Int), ()) x.length ?_ ?_ ?_ (by omega)]
  · simp (disch := omega) only [obs, rC_c, rA_agg, rT_tup, rP_ptr, rW_own, rS_sb, rF_sb, uncV_cons, uncO_cons, nilV_nil, rO_ob, rN_ob, unc_cons, asI_int, asB_bool, asS_string, asSl_sl, asSl_nl, asFn_fn, asP_cp, nrm_sl, nrm_nl, need_true, ct, cf, bd_eq, natD_zero, natD_succ, natD_one, noYl_v, noYl_sl, noYl_nl, noYl_cp, noYl_fn, Bool.and_true, Bool.true_and, Bool.and_self, beqN_self, Bool.not_true, Bool.not_false, Bool.and_false, Bool.false_and, Bool.or_false, Bool.false_or, Bool.or_true, Bool.true_or, wrap_in, dlt_t, dlt_f, dle_t, dle_f, dgt_t, dgt_f, dge_t, dge_f, ibeq_t, ibeq_f, ibne_t, ibne_f, inR_int, beqN_eq, bleN_le]
  · rfl
  · intro j hj
    have hv := h _ (List.getElem_mem hj)
    simp (disch := omega) only [obs, rC_c, rA_agg, rT_tup, rP_ptr, rW_own, rS_sb, rF_sb, uncV_cons, uncO_cons, nilV_nil, rO_ob, rN_ob, unc_cons, asI_int, asB_bool, asS_string, asSl_sl, asSl_nl, asFn_fn, asP_cp, nrm_sl, nrm_nl, need_true, ct, cf, bd_eq, natD_zero, natD_succ, natD_one, noYl_v, noYl_sl, noYl_nl, noYl_cp, noYl_fn, Bool.and_true, Bool.true_and, Bool.and_self, beqN_self, Bool.not_true, Bool.not_false, Bool.and_false, Bool.false_and, Bool.or_false, Bool.false_or, Bool.or_true, Bool.true_or, wrap_in, dlt_t, dlt_f, dle_t, dle_f, dgt_t, dgt_f, dge_t, dge_f, ibeq_t, ibeq_f, ibne_t, ibne_f, inR_int, beqN_eq, bleN_le, Int.toNat_natCast, Nat.mul_one, unc_ik hj, eq_operator_small_1, Int.natCast_add, Int.natCast_one]
  · simp (disch := omega) only [obs, rC_c, rA_agg, rT_tup, rP_ptr, rW_own, rS_sb, rF_sb, uncV_cons, uncO_cons, nilV_nil, rO_ob, rN_ob, unc_cons, asI_int, asB_bool, asS_string, asSl_sl, asSl_nl, asFn_fn, asP_cp, nrm_sl, nrm_nl, need_true, ct, cf, bd_eq, natD_zero, natD_succ, natD_one, noYl_v, noYl_sl, noYl_nl, noYl_cp, noYl_fn, Bool.and_true, Bool.true_and, Bool.and_self, beqN_self, Bool.not_true, Bool.not_false, Bool.and_false, Bool.false_and, Bool.or_false, Bool.false_or, Bool.or_true, Bool.true_or, wrap_in, dlt_t, dlt_f, dle_t, dle_f, dgt_t, dgt_f, dge_t, dge_f, ibeq_t, ibeq_f, ibne_t, ibne_f, inR_int, beqN_eq, bleN_le]
theorem sp_value (fu d : Nat) (hf : 18446744073709551616 ≤ fu) (m : Nat) (r : Rw) (h : okRow m r) (x : List Int) (hx : x.length = m) (hb : bd0 1099511627776 x) : cl fu (d + 1) fn_operator_value [V.agg (rwc r), V.c (C.sl x.length (ints x))] [] = OK (I (dotR r.sh x)) := by
  have hs := okRow_sum h
  have h6 := h.2.2.2.2.2
  unfold rwc
  rw [eq_operator_value]
  simp only [obs, rC_c, rA_agg, rT_tup, rP_ptr, rW_own, rS_sb, rF_sb, uncV_cons, uncO_cons, nilV_nil, rO_ob, rN_ob, unc_cons, asI_int, asB_bool, asS_string, asSl_sl, asSl_nl, asFn_fn, asP_cp, nrm_sl, nrm_nl, need_true, ct, cf, bd_eq, natD_zero, natD_succ, natD_one, noYl_v, noYl_sl, noYl_nl, noYl_cp, noYl_fn, Bool.and_true, Bool.true_and, Bool.and_self, beqN_self, Bool.not_true, Bool.not_false, Bool.and_false, Bool.false_and, Bool.or_false, Bool.false_or, Bool.or_true, Bool.true_or]
  rw [iter_runx (fun j : Nat => (dotR (r.sh.take j) x, (j : Int), ())) 0 (dotR r.sh x, (r.sh.length : Int), ()) r.sh.length ?_ ?_ ?_ (by omega)]
  · simp only [obs, rC_c, rA_agg, rT_tup, rP_ptr, rW_own, rS_sb, rF_sb, uncV_cons, uncO_cons, nilV_nil, rO_ob, rN_ob, unc_cons, asI_int, asB_bool, asS_string, asSl_sl, asSl_nl, asFn_fn, asP_cp, nrm_sl, nrm_nl, need_true, ct, cf, bd_eq, natD_zero, natD_succ, natD_one, noYl_v, noYl_sl, noYl_nl, noYl_cp, noYl_fn, Bool.and_true, Bool.true_and, Bool.and_self, beqN_self, Bool.not_true, Bool.not_false, Bool.and_false, Bool.false_and, Bool.or_false, Bool.false_or, Bool.or_true, Bool.true_or]
  · rfl
  · intro j hj
    have hat := fl_at shc_length hj
    obtain ⟨g1, g2, g3⟩ := h.2.1 _ (List.getElem_mem hj)
    have hk : r.sh[j].1 < x.length := by omega
    have hv := at0_bd (by decide) hb r.sh[j].1
    have hp := mul_bd (w := (r.sh[j].2 : Int)) (by omega) hv
    have hw1 := wsum_take r.sh j
    have hw2 := wsum_take r.sh (j + 1)
    have hd1 := dotR_bd (by decide) hb (r.sh.take j)
    have hd2 := dotR_bd (by decide) hb (r.sh.take (j + 1))
    rw [List.take_succ_eq_append_getElem hj, dotR_snoc, wsum_snoc] at hd2
    rw [List.take_succ_eq_append_getElem hj, wsum_snoc] at hw2
    rw [List.take_succ_eq_append_getElem hj, dotR_snoc]
    have hg := at0_eq hk
    have hq : IntKind.i64.wrap ((r.sh[j].2 : Int) * x[r.sh[j].1]) = (r.sh[j].2 : Int) * at0 x r.sh[j].1 := by
      rw [hg]
      generalize (r.sh[j].2 : Int) * at0 x r.sh[j].1 = q at *
      exact wrap_in (by omega) (by omega)
    have hq2 : IntKind.i64.wrap (dotR (r.sh.take j) x + (r.sh[j].2 : Int) * at0 x r.sh[j].1) = dotR (r.sh.take j) x + (r.sh[j].2 : Int) * at0 x r.sh[j].1 := by
      generalize (r.sh[j].2 : Int) * at0 x r.sh[j].1 = q at *
      exact wrap_in (by omega) (by omega)
    simp (disch := omega) only [obs, rC_c, rA_agg, rT_tup, rP_ptr, rW_own, rS_sb, rF_sb, uncV_cons, uncO_cons, nilV_nil, rO_ob, rN_ob, unc_cons, asI_int, asB_bool, asS_string, asSl_sl, asSl_nl, asFn_fn, asP_cp, nrm_sl, nrm_nl, need_true, ct, cf, bd_eq, natD_zero, natD_succ, natD_one, noYl_v, noYl_sl, noYl_nl, noYl_cp, noYl_fn, Bool.and_true, Bool.true_and, Bool.and_self, beqN_self, Bool.not_true, Bool.not_false, Bool.and_false, Bool.false_and, Bool.or_false, Bool.false_or, Bool.or_true, Bool.true_or, wrap_in, dlt_t, dlt_f, dle_t, dle_f, dgt_t, dgt_f, dge_t, dge_f, ibeq_t, ibeq_f, ibne_t, ibne_f, inR_int, beqN_eq, bleN_le, Int.toNat_natCast, Nat.mul_one, hat, shc, List.cons_append, List.nil_append, unc_ik hk, hq, hq2, Int.natCast_add, Int.natCast_one]
  · rw [List.take_of_length_le (Nat.le_refl _)]
    simp (disch := omega) only [obs, rC_c, rA_agg, rT_tup, rP_ptr, rW_own, rS_sb, rF_sb, uncV_cons, uncO_cons, nilV_nil, rO_ob, rN_ob, unc_cons, asI_int, asB_bool, asS_string, asSl_sl, asSl_nl, asFn_fn, asP_cp, nrm_sl, nrm_nl, need_true, ct, cf, bd_eq, natD_zero, natD_succ, natD_one, noYl_v, noYl_sl, noYl_nl, noYl_cp, noYl_fn, Bool.and_true, Bool.true_and, Bool.and_self, beqN_self, Bool.not_true, Bool.not_false, Bool.and_false, Bool.false_and, Bool.or_false, Bool.false_or, Bool.or_true, Bool.true_or, wrap_in, dlt_t, dlt_f, dle_t, dle_f, dgt_t, dgt_f, dge_t, dge_f, ibeq_t, ibeq_f, ibne_t, ibne_f, inR_int, beqN_eq, bleN_le]

def applyR (L : List Rw) (x : List Int) : List Int := L.map fun r => dotR r.sh x
theorem applyR_take (L : List Rw) (x : List Int) (j : Nat) (h : j < L.length) : applyR (L.take (j + 1)) x = applyR (L.take j) x ++ [dotR L[j].sh x] := by
  unfold applyR; rw [List.take_succ_eq_append_getElem h, List.map_append]; rfl
theorem applyR_length (L : List Rw) (x : List Int) : (applyR L x).length = L.length := by simp [applyR]
theorem sp_Apply (fu d : Nat) (hf : 18446744073709551616 ≤ fu) (m : Nat) (hm : m ≤ 642) (L : List Rw) (hL : L.length ≤ 200) (h : ∀ x ∈ L, okRow m x) (x : List Int) (hx : x.length = m) (hb : bd0 1099511627776 x) :
    cl fu (d + 7) fn_operator_Apply [V.c (C.sl L.length (fl rwc L)), V.c (C.sl x.length (ints x))] [] = some ⟨V.tup [V.own 1000000 0 L.length, I 0], [.sb ty_int 0 (ints (applyR L x))], none⟩ := by
  have hi := sp_invalid fu d hf m L (by omega) h
  rw [← hx] at hi
  have hs := sp_small fu (d + 2) hf x (by omega) hb
  rw [eq_operator_Apply]
  simp (disch := omega) only [obs, rC_c, rA_agg, rT_tup, rP_ptr, rW_own, rS_sb, rF_sb, uncV_cons, uncO_cons, nilV_nil, rO_ob, rN_ob, unc_cons, asI_int, asB_bool, asS_string, asSl_sl, asSl_nl, asFn_fn, asP_cp, nrm_sl, nrm_nl, need_true, ct, cf, bd_eq, natD_zero, natD_succ, natD_one, noYl_v, noYl_sl, noYl_nl, noYl_cp, noYl_fn, Bool.and_true, Bool.true_and, Bool.and_self, beqN_self, Bool.not_true, Bool.not_false, Bool.and_false, Bool.false_and, Bool.or_false, Bool.false_or, Bool.or_true, Bool.true_or, wrap_in, dlt_t, dlt_f, dle_t, dle_f, dgt_t, dgt_f, dge_t, dge_f, ibeq_t, ibeq_f, ibne_t, ibne_f, inR_int, beqN_eq, bleN_le, hi, hs]
  rw [iter_runx (fun j : Nat => (ints (applyR (L.take j) x), (j : Int), ())) 0 (ints (applyR L x), (L.length : Int), ()) L.length ?_ ?_ ?_ (by omega)]
  · simp (disch := omega) only [obs, rC_c, rA_agg, rT_tup, rP_ptr, rW_own, rS_sb, rF_sb, uncV_cons, uncO_cons, nilV_nil, rO_ob, rN_ob, unc_cons, asI_int, asB_bool, asS_string, asSl_sl, asSl_nl, asFn_fn, asP_cp, nrm_sl, nrm_nl, need_true, ct, cf, bd_eq, natD_zero, natD_succ, natD_one, noYl_v, noYl_sl, noYl_nl, noYl_cp, noYl_fn, Bool.and_true, Bool.true_and, Bool.and_self, beqN_self, Bool.not_true, Bool.not_false, Bool.and_false, Bool.false_and, Bool.or_false, Bool.false_or, Bool.or_true, Bool.true_or, wrap_in, dlt_t, dlt_f, dle_t, dle_f, dgt_t, dgt_f, dge_t, dge_f, ibeq_t, ibeq_f, ibne_t, ibne_f, inR_int, beqN_eq, bleN_le, ik_length, applyR_length, one_div, Nat.mul_one]
    rw [List.take_of_length_le (by rw [ik_length, applyR_length]; omega)]
  · rfl
  · intro j hj
    have hat := fl_at rwc_length hj
    have hv := sp_value fu (d + 5) hf m L[j] (h _ (List.getElem_mem hj)) x hx hb
    simp only [rwc] at hv
    have hl : (applyR (L.take j) x).length = j := by rw [applyR_length, List.length_take]; omega
    rw [applyR_take L x j hj]
    simp (disch := omega) only [obs, rC_c, rA_agg, rT_tup, rP_ptr, rW_own, rS_sb, rF_sb, uncV_cons, uncO_cons, nilV_nil, rO_ob, rN_ob, unc_cons, asI_int, asB_bool, asS_string, asSl_sl, asSl_nl, asFn_fn, asP_cp, nrm_sl, nrm_nl, need_true, ct, cf, bd_eq, natD_zero, natD_succ, natD_one, noYl_v, noYl_sl, noYl_nl, noYl_cp, noYl_fn, Bool.and_true, Bool.true_and, Bool.and_self, beqN_self, Bool.not_true, Bool.not_false, Bool.and_false, Bool.false_and, Bool.or_false, Bool.false_or, Bool.or_true, Bool.true_or, wrap_in, dlt_t, dlt_f, dle_t, dle_f, dgt_t, dgt_f, dge_t, dge_f, ibeq_t, ibeq_f, ibne_t, ibne_f, inR_int, beqN_eq, bleN_le, Int.toNat_natCast, hat, rwc, List.cons_append, List.nil_append, hv, ik_length, hl, one_div, Nat.mul_one, ik_snoc, List.length_append, List.length_cons, List.length_nil, Nat.zero_add, Int.natCast_add, Int.natCast_one]
  · rw [List.take_of_length_le (Nat.le_refl _)]
    simp (disch := omega) only [obs, rC_c, rA_agg, rT_tup, rP_ptr, rW_own, rS_sb, rF_sb, uncV_cons, uncO_cons, nilV_nil, rO_ob, rN_ob, unc_cons, asI_int, asB_bool, asS_string, asSl_sl, asSl_nl, asFn_fn, asP_cp, nrm_sl, nrm_nl, need_true, ct, cf, bd_eq, natD_zero, natD_succ, natD_one, noYl_v, noYl_sl, noYl_nl, noYl_cp, noYl_fn, Bool.and_true, Bool.true_and, Bool.and_self, beqN_self, Bool.not_true, Bool.not_false, Bool.and_false, Bool.false_and, Bool.or_false, Bool.false_or, Bool.or_true, Bool.true_or, wrap_in, dlt_t, dlt_f, dle_t, dle_f, dgt_t, dgt_f, dge_t, dge_f, ibeq_t, ibeq_f, ibne_t, ibne_f, inR_int, beqN_eq, bleN_le, ik_length, applyR_length, one_div, Nat.mul_one]

def depR (L : List Rw) (x : List Int) : List Int := L.map fun r => 840 * r.v - dotR r.sh x
theorem sp_Departures (fu d : Nat) (hf : 18446744073709551616 ≤ fu) (m : Nat) (hm : m ≤ 642) (L : List Rw) (hL : L.length ≤ 200) (h : ∀ x ∈ L, okRow m x) (x : List Int) (hx : x.length = m) (hb : bd0 1099511627776 x) :
    cl fu (d + 8) fn_operator_Departures [V.c (C.sl L.length (fl rwc L)), V.c (C.sl x.length (ints x))] [] = OK (V.tup [V.c (C.sl L.length (ints (depR L x))), I 0]) := by
  have hA := sp_Apply fu d hf m hm L hL h x hx hb
  have hlA := applyR_length L x
  have hlD : (depR L x).length = L.length := by simp [depR]
  rw [eq_operator_Departures, hA]
  simp (disch := omega) only [obs, rC_c, rA_agg, rT_tup, rP_ptr, rW_own, rS_sb, rF_sb, uncV_cons, uncO_cons, nilV_nil, rO_ob, rN_ob, unc_cons, asI_int, asB_bool, asS_string, asSl_sl, asSl_nl, asFn_fn, asP_cp, nrm_sl, nrm_nl, need_true, ct, cf, bd_eq, natD_zero, natD_succ, natD_one, noYl_v, noYl_sl, noYl_nl, noYl_cp, noYl_fn, Bool.and_true, Bool.true_and, Bool.and_self, beqN_self, Bool.not_true, Bool.not_false, Bool.and_false, Bool.false_and, Bool.or_false, Bool.false_or, Bool.or_true, Bool.true_or, wrap_in, dlt_t, dlt_f, dle_t, dle_f, dgt_t, dgt_f, dge_t, dge_f, ibeq_t, ibeq_f, ibne_t, ibne_f, inR_int, beqN_eq, bleN_le, ik_length, hlA, Nat.mul_one, Nat.add_zero, show OUT = 1000000 from rfl]
  have st : ∀ j, j ≤ L.length → (depR (L.take j) x ++ (applyR L x).drop j).length = L.length := fun j hj => by simp [depR, applyR]; omega
  rw [iter_runx (fun j : Nat => (ints (depR (L.take j) x ++ (applyR L x).drop j), (j : Int), ())) 0 (ints (depR L x), (L.length : Int), ()) L.length ?_ ?_ ?_ (by omega)]
  · simp (disch := omega) only [obs, rC_c, rA_agg, rT_tup, rP_ptr, rW_own, rS_sb, rF_sb, uncV_cons, uncO_cons, nilV_nil, rO_ob, rN_ob, unc_cons, asI_int, asB_bool, asS_string, asSl_sl, asSl_nl, asFn_fn, asP_cp, nrm_sl, nrm_nl, need_true, ct, cf, bd_eq, natD_zero, natD_succ, natD_one, noYl_v, noYl_sl, noYl_nl, noYl_cp, noYl_fn, Bool.and_true, Bool.true_and, Bool.and_self, beqN_self, Bool.not_true, Bool.not_false, Bool.and_false, Bool.false_and, Bool.or_false, Bool.false_or, Bool.or_true, Bool.true_or, wrap_in, dlt_t, dlt_f, dle_t, dle_f, dgt_t, dgt_f, dge_t, dge_f, ibeq_t, ibeq_f, ibne_t, ibne_f, inR_int, beqN_eq, bleN_le, ik_length, hlD, one_div, Nat.mul_one, Nat.zero_add]
    rw [List.take_of_length_le (by rw [ik_length, hlD]; omega)]
  · simp [depR]
  · intro j hj
    have hat := fl_at rwc_length hj
    have hst := st j (by omega)
    have hst2 := st (j + 1) (by omega)
    have hr := h _ (List.getElem_mem hj)
    have hd := dotR_bd (by decide) hb L[j].sh
    rw [okRow_sum hr] at hd
    have hv := hr.2.2.2.1
    have hk : j < (depR (L.take j) x ++ (applyR L x).drop j).length := by omega
    have hdl : (depR (L.take j) x).length = j := by simp [depR]; omega
    have hget : (depR (L.take j) x ++ (applyR L x).drop j)[j] = dotR L[j].sh x := by
      rw [List.getElem_append_right (by omega)]
      simp [hdl, applyR]
    have hput : putAt (ints (depR (L.take j) x ++ (applyR L x).drop j)) j [C.v (.int .i64 (840 * L[j].v - dotR L[j].sh x))] = ints (depR (L.take (j + 1)) x ++ (applyR L x).drop (j + 1)) := by
      rw [ik_put hk]
      refine congrArg (ik .i64) ?_
      rw [List.set_append, if_neg (by omega), hdl, Nat.sub_self, List.drop_eq_getElem_cons (show j < (applyR L x).length by omega), List.set_cons_zero, show depR (L.take (j + 1)) x = depR (L.take j) x ++ [840 * L[j].v - dotR L[j].sh x] from by unfold depR; rw [List.take_succ_eq_append_getElem hj, List.map_append]; rfl]
      simp
    have hu := unc_ik (kd := .i64) hk (R := Nat × List C × Int × Unit)
    rw [hget] at hu
    simp (disch := omega) only [obs, rC_c, rA_agg, rT_tup, rP_ptr, rW_own, rS_sb, rF_sb, uncV_cons, uncO_cons, nilV_nil, rO_ob, rN_ob, unc_cons, asI_int, asB_bool, asS_string, asSl_sl, asSl_nl, asFn_fn, asP_cp, nrm_sl, nrm_nl, need_true, ct, cf, bd_eq, natD_zero, natD_succ, natD_one, noYl_v, noYl_sl, noYl_nl, noYl_cp, noYl_fn, Bool.and_true, Bool.true_and, Bool.and_self, beqN_self, Bool.not_true, Bool.not_false, Bool.and_false, Bool.false_and, Bool.or_false, Bool.false_or, Bool.or_true, Bool.true_or, wrap_in, dlt_t, dlt_f, dle_t, dle_f, dgt_t, dgt_f, dge_t, dge_f, ibeq_t, ibeq_f, ibne_t, ibne_f, inR_int, beqN_eq, bleN_le, Int.toNat_natCast, hat, rwc, List.cons_append, List.nil_append, List.drop_succ_cons, List.drop_zero, Nat.zero_add, Nat.mul_one, hu, ik_length, hst, hst2, hput, one_div, Int.natCast_add, Int.natCast_one]
  · have hst := st L.length (Nat.le_refl _)
    rw [List.drop_of_length_le (by omega), List.append_nil, List.take_of_length_le (Nat.le_refl _)] at *
    simp (disch := omega) only [obs, rC_c, rA_agg, rT_tup, rP_ptr, rW_own, rS_sb, rF_sb, uncV_cons, uncO_cons, nilV_nil, rO_ob, rN_ob, unc_cons, asI_int, asB_bool, asS_string, asSl_sl, asSl_nl, asFn_fn, asP_cp, nrm_sl, nrm_nl, need_true, ct, cf, bd_eq, natD_zero, natD_succ, natD_one, noYl_v, noYl_sl, noYl_nl, noYl_cp, noYl_fn, Bool.and_true, Bool.true_and, Bool.and_self, beqN_self, Bool.not_true, Bool.not_false, Bool.and_false, Bool.false_and, Bool.or_false, Bool.false_or, Bool.or_true, Bool.true_or, wrap_in, dlt_t, dlt_f, dle_t, dle_f, dgt_t, dgt_f, dge_t, dge_f, ibeq_t, ibeq_f, ibne_t, ibne_f, inR_int, beqN_eq, bleN_le, ik_length, hlD, one_div, Nat.mul_one]
end Go.Proofs.YtobmbacppbkgeaaDoor
/- The transposed rows: what the program's function comes to for rows that are valid. -/
namespace Go.Proofs.YtobmbacppbkgeaaDoor
open Go Go.PM Go.Grid

def addS (v : Int) (o : List Int) (s : Nat × Nat) : List Int := o.set s.1 (at0 o s.1 + (s.2 : Int) * v)
def addR (v : Int) (o : List Int) (sh : List (Nat × Nat)) : List Int := sh.foldl (addS v) o
theorem addS_length (v : Int) (o : List Int) (s : Nat × Nat) : (addS v o s).length = o.length := by simp [addS]
theorem addR_length (v : Int) : ∀ (sh : List (Nat × Nat)) (o : List Int), (addR v o sh).length = o.length
  | [], o => rfl
  | s :: sh, o => by show (addR v (addS v o s) sh).length = _; rw [addR_length v sh, addS_length]
theorem addR_snoc (v : Int) (o : List Int) (sh : List (Nat × Nat)) (s : Nat × Nat) : addR v o (sh ++ [s]) = addS v (addR v o sh) s := by simp [addR]
theorem addS_bd {b c v : Int} (hb : 0 ≤ b) (hc : 0 ≤ c) (hv : -b ≤ v ∧ v ≤ b) {o : List Int} (ho : bd0 c o) (s : Nat × Nat) : bd0 (c + (s.2 : Int) * b) (addS v o s) := by
  have h1 := mul_bd (w := (s.2 : Int)) (by omega) hv
  have h2 := at0_bd hc ho s.1
  have h0 : (0 : Int) ≤ (s.2 : Int) * b := Int.mul_nonneg (by omega) hb
  intro u hu
  rcases List.mem_or_eq_of_mem_set hu with hu | rfl
  · have := ho u hu; omega
  · omega
theorem addR_bd {b v : Int} (hb : 0 ≤ b) (hv : -b ≤ v ∧ v ≤ b) : ∀ (sh : List (Nat × Nat)) {c : Int} (_ : 0 ≤ c) {o : List Int} (_ : bd0 c o), bd0 (c + wsum sh * b) (addR v o sh)
  | [], c, _, o, ho => by simpa [wsum, addR] using ho
  | s :: sh, c, hc, o, ho => by
    have h0 : (0 : Int) ≤ (s.2 : Int) * b := Int.mul_nonneg (by omega) hb
    have := addR_bd hb hv sh (c := c + (s.2 : Int) * b) (by omega) (addS_bd hb hc hv ho s)
    have e : wsum (s :: sh) * b = (s.2 : Int) * b + wsum sh * b := by simp only [wsum, List.map_cons, List.sum_cons]; rw [Int.add_mul]
    rw [e, ← Int.add_assoc]
    exact this
def trans (m : Nat) (L : List Rw) (d : List Int) : Nat → List Int
  | 0 => List.replicate m 0
  | j + 1 => addR (at0 d j) (trans m L d j) ((L.getD j ⟨[], 0, 0, 0⟩).sh)
theorem trans_length (m : Nat) (L : List Rw) (d : List Int) : ∀ j, (trans m L d j).length = m
  | 0 => by simp [trans]
  | j + 1 => by unfold trans; rw [addR_length, trans_length m L d j]
theorem trans_succ (m : Nat) (L : List Rw) (d : List Int) (j : Nat) (h : j < L.length) : trans m L d (j + 1) = addR (at0 d j) (trans m L d j) L[j].sh := by
  show addR _ _ ((L.getD j ⟨[], 0, 0, 0⟩).sh) = _
  simp [h]
theorem trans_bd {m : Nat} {L : List Rw} (h : ∀ x ∈ L, okRow m x) {d : List Int} {b : Int} (hb : 0 ≤ b) (hd : bd0 b d) : ∀ j, j ≤ L.length → bd0 ((j : Int) * (840 * b)) (trans m L d j)
  | 0, _ => by
    intro v hv
    have := List.eq_of_mem_replicate hv
    simp [this]
  | j + 1, hj => by
    have ih := trans_bd h hb hd j (by omega)
    have h0 : (0 : Int) ≤ (j : Int) * (840 * b) := Int.mul_nonneg (by omega) (by omega)
    have := addR_bd hb (at0_bd hb hd j) L[j].sh h0 ih
    rw [okRow_sum (h _ (List.getElem_mem _))] at this
    rw [trans_succ m L d j (by omega), show ((j + 1 : Nat) : Int) * (840 * b) = (j : Int) * (840 * b) + 840 * b by rw [Int.natCast_add, Int.add_mul]; simp]
    exact this

theorem sp_Transpose (fu d : Nat) (hf : 18446744073709551616 ≤ fu) (m : Nat) (hm : m ≤ 642) (L : List Rw) (hL : L.length ≤ 200) (h : ∀ x ∈ L, okRow m x) (x : List Int) (hx : x.length = L.length) (hb : bd0 1099511627776 x) :
    cl fu (d + 7) fn_operator_Transpose [V.c (C.sl L.length (fl rwc L)), I (m : Int), V.c (C.sl x.length (ints x))] [] = OK (V.tup [V.c (C.sl m (ints (trans m L x L.length))), I 0]) := by
  have hi := sp_invalid fu d hf m L (by omega) h
  have hs := sp_small fu (d + 2) hf x (by omega) hb
  have hT := trans_length m L x
  have hreps : reps m [C.v (.int .i64 0)] = ints (trans m L x 0) := by unfold reps ints ik trans; simp
  rw [eq_operator_Transpose]
  simp (disch := omega) only [obs, rC_c, rA_agg, rT_tup, rP_ptr, rW_own, rS_sb, rF_sb, uncV_cons, uncO_cons, nilV_nil, rO_ob, rN_ob, unc_cons, asI_int, asB_bool, asS_string, asSl_sl, asSl_nl, asFn_fn, asP_cp, nrm_sl, nrm_nl, need_true, ct, cf, bd_eq, natD_zero, natD_succ, natD_one, noYl_v, noYl_sl, noYl_nl, noYl_cp, noYl_fn, Bool.and_true, Bool.true_and, Bool.and_self, beqN_self, Bool.not_true, Bool.not_false, Bool.and_false, Bool.false_and, Bool.or_false, Bool.false_or, Bool.or_true, Bool.true_or, wrap_in, dlt_t, dlt_f, dle_t, dle_f, dgt_t, dgt_f, dge_t, dge_f, ibeq_t, ibeq_f, ibne_t, ibne_f, inR_int, beqN_eq, bleN_le, hi, hs, Int.toNat_natCast, hreps, ik_length, hT, Nat.mul_one, decide_true]
  rw [iter_runx (fun j : Nat => (ints (trans m L x j), (j : Int), ())) 0 (ints (trans m L x L.length), (L.length : Int), ()) L.length ?_ ?_ ?_ (by omega)]
  · simp (disch := omega) only [obs, rC_c, rA_agg, rT_tup, rP_ptr, rW_own, rS_sb, rF_sb, uncV_cons, uncO_cons, nilV_nil, rO_ob, rN_ob, unc_cons, asI_int, asB_bool, asS_string, asSl_sl, asSl_nl, asFn_fn, asP_cp, nrm_sl, nrm_nl, need_true, ct, cf, bd_eq, natD_zero, natD_succ, natD_one, noYl_v, noYl_sl, noYl_nl, noYl_cp, noYl_fn, Bool.and_true, Bool.true_and, Bool.and_self, beqN_self, Bool.not_true, Bool.not_false, Bool.and_false, Bool.false_and, Bool.or_false, Bool.false_or, Bool.or_true, Bool.true_or, wrap_in, dlt_t, dlt_f, dle_t, dle_f, dgt_t, dgt_f, dge_t, dge_f, ibeq_t, ibeq_f, ibne_t, ibne_f, inR_int, beqN_eq, bleN_le, ik_length, hT, one_div, Nat.mul_one, Nat.zero_add]
    rw [List.take_of_length_le (by rw [ik_length, hT]; omega)]
  · rfl
  · intro j hj
    have hat := fl_at rwc_length hj
    have hr := h _ (List.getElem_mem hj)
    have h6 := hr.2.2.2.2.2
    have hsum := okRow_sum hr
    have hjx : j < x.length := by omega
    have hbt := trans_bd h (by decide) hb j (by omega)
    have hvj := at0_bd (by decide) hb j
    have hlen : ∀ t, (addR (at0 x j) (trans m L x j) (L[j].sh.take t)).length = m := fun t => by rw [addR_length, hT]
    simp (disch := omega) only [obs, rC_c, rA_agg, rT_tup, rP_ptr, rW_own, rS_sb, rF_sb, uncV_cons, uncO_cons, nilV_nil, rO_ob, rN_ob, unc_cons, asI_int, asB_bool, asS_string, asSl_sl, asSl_nl, asFn_fn, asP_cp, nrm_sl, nrm_nl, need_true, ct, cf, bd_eq, natD_zero, natD_succ, natD_one, noYl_v, noYl_sl, noYl_nl, noYl_cp, noYl_fn, Bool.and_true, Bool.true_and, Bool.and_self, beqN_self, Bool.not_true, Bool.not_false, Bool.and_false, Bool.false_and, Bool.or_false, Bool.false_or, Bool.or_true, Bool.true_or, wrap_in, dlt_t, dlt_f, dle_t, dle_f, dgt_t, dgt_f, dge_t, dge_f, ibeq_t, ibeq_f, ibne_t, ibne_f, inR_int, beqN_eq, bleN_le, Int.toNat_natCast, hat, rwc, List.cons_append, List.nil_append, ik_length, hT, one_div, Nat.mul_one]
    rw [iter_runx (fun t : Nat => (ints (addR (at0 x j) (trans m L x j) (L[j].sh.take t)), (t : Int), ())) 0 (ints (trans m L x (j + 1)), (L[j].sh.length : Int), ()) L[j].sh.length ?_ ?_ ?_ (by omega)]
    · simp (disch := omega) only [obs, rC_c, rA_agg, rT_tup, rP_ptr, rW_own, rS_sb, rF_sb, uncV_cons, uncO_cons, nilV_nil, rO_ob, rN_ob, unc_cons, asI_int, asB_bool, asS_string, asSl_sl, asSl_nl, asFn_fn, asP_cp, nrm_sl, nrm_nl, need_true, ct, cf, bd_eq, natD_zero, natD_succ, natD_one, noYl_v, noYl_sl, noYl_nl, noYl_cp, noYl_fn, Bool.and_true, Bool.true_and, Bool.and_self, beqN_self, Bool.not_true, Bool.not_false, Bool.and_false, Bool.false_and, Bool.or_false, Bool.false_or, Bool.or_true, Bool.true_or, wrap_in, dlt_t, dlt_f, dle_t, dle_f, dgt_t, dgt_f, dge_t, dge_f, ibeq_t, ibeq_f, ibne_t, ibne_f, inR_int, beqN_eq, bleN_le, ik_length, hT, one_div, Nat.mul_one, Int.natCast_add, Int.natCast_one]
    · rfl
    · intro t ht
      have hat2 := fl_at shc_length ht
      obtain ⟨g1, g2, g3⟩ := hr.2.1 _ (List.getElem_mem ht)
      have hk : L[j].sh[t].1 < (addR (at0 x j) (trans m L x j) (L[j].sh.take t)).length := by rw [hlen]; exact g1
      have hu := unc_ik (kd := .i64) hk (R := Nat × List C × Int × Unit)
      have hux := unc_ik (kd := .i64) hjx (R := Nat × List C × Int × Unit)
      have hput := fun y => ik_put (kd := .i64) hk y
      have hlt := hlen t
      have hlt1 := hlen (t + 1)
      have hj0 : (0 : Int) ≤ (j : Int) * (840 * 1099511627776) := by omega
      have hbd := addR_bd (by decide) hvj (L[j].sh.take t) hj0 hbt
      have hbd1 := addR_bd (by decide) hvj (L[j].sh.take (t + 1)) hj0 hbt
      have hw := wsum_take L[j].sh t
      have hw1 := wsum_take L[j].sh (t + 1)
      rw [List.take_succ_eq_append_getElem ht, addR_snoc] at hbd1 hlt1
      rw [List.take_succ_eq_append_getElem ht] at hw1
      rw [List.take_succ_eq_append_getElem ht, addR_snoc]
      generalize addR (at0 x j) (trans m L x j) (L[j].sh.take t) = o at *
      have e1 := at0_eq hk
      have e2 := at0_eq hjx
      have hin : at0 o L[j].sh[t].1 + (L[j].sh[t].2 : Int) * at0 x j ∈ addS (at0 x j) o L[j].sh[t] := by
        unfold addS; exact List.mem_set hk _
      have b1 := hbd1 _ hin
      have b2 := mul_bd (w := (L[j].sh[t].2 : Int)) (by omega) hvj
      rw [e1] at hu
      rw [e2] at hux
      have hset : o.set L[j].sh[t].1 (at0 o L[j].sh[t].1 + (L[j].sh[t].2 : Int) * at0 x j) = addS (at0 x j) o L[j].sh[t] := rfl
      have hp := hput (at0 o L[j].sh[t].1 + (L[j].sh[t].2 : Int) * at0 x j)
      rw [hset] at hp
      have hq : IntKind.i64.wrap ((L[j].sh[t].2 : Int) * at0 x j) = (L[j].sh[t].2 : Int) * at0 x j := by
        generalize (L[j].sh[t].2 : Int) * at0 x j = q at *
        exact wrap_in (by omega) (by omega)
      have hq2 : IntKind.i64.wrap (at0 o L[j].sh[t].1 + (L[j].sh[t].2 : Int) * at0 x j) = at0 o L[j].sh[t].1 + (L[j].sh[t].2 : Int) * at0 x j := by
        generalize (L[j].sh[t].2 : Int) * at0 x j = q at *
        generalize wsum (L[j].sh.take t ++ [L[j].sh[t]]) = W at *
        exact wrap_in (by omega) (by omega)
      simp (disch := omega) only [obs, rC_c, rA_agg, rT_tup, rP_ptr, rW_own, rS_sb, rF_sb, uncV_cons, uncO_cons, nilV_nil, rO_ob, rN_ob, unc_cons, asI_int, asB_bool, asS_string, asSl_sl, asSl_nl, asFn_fn, asP_cp, nrm_sl, nrm_nl, need_true, ct, cf, bd_eq, natD_zero, natD_succ, natD_one, noYl_v, noYl_sl, noYl_nl, noYl_cp, noYl_fn, Bool.and_true, Bool.true_and, Bool.and_self, beqN_self, Bool.not_true, Bool.not_false, Bool.and_false, Bool.false_and, Bool.or_false, Bool.false_or, Bool.or_true, Bool.true_or, wrap_in, dlt_t, dlt_f, dle_t, dle_f, dgt_t, dgt_f, dge_t, dge_f, ibeq_t, ibeq_f, ibne_t, ibne_f, inR_int, beqN_eq, bleN_le, Int.toNat_natCast, Nat.mul_one, hat2, shc, List.cons_append, List.nil_append, Nat.zero_add, ik_length, hlt, hlt1, one_div, hu, hux, hq, hq2, hp, Int.natCast_add, Int.natCast_one]
    · rw [List.take_of_length_le (Nat.le_refl _), ← trans_succ m L x j hj]
      simp (disch := omega) only [obs, rC_c, rA_agg, rT_tup, rP_ptr, rW_own, rS_sb, rF_sb, uncV_cons, uncO_cons, nilV_nil, rO_ob, rN_ob, unc_cons, asI_int, asB_bool, asS_string, asSl_sl, asSl_nl, asFn_fn, asP_cp, nrm_sl, nrm_nl, need_true, ct, cf, bd_eq, natD_zero, natD_succ, natD_one, noYl_v, noYl_sl, noYl_nl, noYl_cp, noYl_fn, Bool.and_true, Bool.true_and, Bool.and_self, beqN_self, Bool.not_true, Bool.not_false, Bool.and_false, Bool.false_and, Bool.or_false, Bool.false_or, Bool.or_true, Bool.true_or, wrap_in, dlt_t, dlt_f, dle_t, dle_f, dgt_t, dgt_f, dge_t, dge_f, ibeq_t, ibeq_f, ibne_t, ibne_f, inR_int, beqN_eq, bleN_le, ik_length, hT, one_div, Nat.mul_one]
  · simp (disch := omega) only [obs, rC_c, rA_agg, rT_tup, rP_ptr, rW_own, rS_sb, rF_sb, uncV_cons, uncO_cons, nilV_nil, rO_ob, rN_ob, unc_cons, asI_int, asB_bool, asS_string, asSl_sl, asSl_nl, asFn_fn, asP_cp, nrm_sl, nrm_nl, need_true, ct, cf, bd_eq, natD_zero, natD_succ, natD_one, noYl_v, noYl_sl, noYl_nl, noYl_cp, noYl_fn, Bool.and_true, Bool.true_and, Bool.and_self, beqN_self, Bool.not_true, Bool.not_false, Bool.and_false, Bool.false_and, Bool.or_false, Bool.false_or, Bool.or_true, Bool.true_or, wrap_in, dlt_t, dlt_f, dle_t, dle_f, dgt_t, dgt_f, dge_t, dge_f, ibeq_t, ibeq_f, ibne_t, ibne_f, inR_int, beqN_eq, bleN_le, ik_length, hT, one_div, Nat.mul_one]
end Go.Proofs.YtobmbacppbkgeaaDoor
/- The program's rows of reports with one reading; the check that the program is awake. -/
namespace Go.Proofs.YtobmbacppbkgeaaDoor
open Go Go.PM Go.Grid

theorem sp_eDescribe1 (fu d : Nat) : ∃ s g, cl fu (d + 1) fn_element_Describe [I 1] [] = some ⟨V.tup [V.agg [C.v (.string s), C.v (.int .i64 8000), C.v (.int .i64 11000), C.v (.int .i64 g)], I 0], [], none⟩ := by
  rw [eq_element_Describe]; exact ⟨_, _, rfl⟩
theorem sp_check1 (fu d : Nat) (v : Int) (h : okV v) : cl fu (d + 2) fn_element_check [V.agg [.v (.int .i64 1), .v (.int .i64 v)]] [] = OK (I 0) := by
  obtain ⟨s, g, hd⟩ := sp_eDescribe1 fu d
  unfold okV at h
  rw [eq_element_check, hd]
  simp (disch := omega) only [obs, rC_c, rA_agg, rT_tup, rP_ptr, rW_own, rS_sb, rF_sb, uncV_cons, uncO_cons, nilV_nil, rO_ob, rN_ob, unc_cons, asI_int, asB_bool, asS_string, asSl_sl, asSl_nl, asFn_fn, asP_cp, nrm_sl, nrm_nl, need_true, ct, cf, bd_eq, natD_zero, natD_succ, natD_one, noYl_v, noYl_sl, noYl_nl, noYl_cp, noYl_fn, Bool.and_true, Bool.true_and, Bool.and_self, beqN_self, Bool.not_true, Bool.not_false, Bool.and_false, Bool.false_and, Bool.or_false, Bool.false_or, Bool.or_true, Bool.true_or, wrap_in, dlt_t, dlt_f, dle_t, dle_f, dgt_t, dgt_f, dge_t, dge_f, ibeq_t, ibeq_f, ibne_t, ibne_f, inR_int, beqN_eq, bleN_le, List.length_cons, List.length_nil, Nat.zero_add, Nat.reduceAdd]
theorem sp_has1 (fu d : Nat) (hf : 18446744073709551616 ≤ fu) (v : Int) (h : okV v) (c : Int) (hc : c ≠ 0) : cl fu (d + 6) fn_element_Validate_1 [I c, V.c (C.cp [C.sl 1 (prC v)])] [] = OK (B false) := by
  have hk := sp_check1 fu d v h
  obtain ⟨fu', rfl⟩ : ∃ m, fu = m + 3 := ⟨fu - 3, by omega⟩
  unfold prC
  rw [eq_element_Validate_1]
  simp (disch := omega) only [obs, rC_c, rA_agg, rT_tup, rP_ptr, rW_own, rS_sb, rF_sb, uncV_cons, uncO_cons, nilV_nil, rO_ob, rN_ob, unc_cons, asI_int, asB_bool, asS_string, asSl_sl, asSl_nl, asFn_fn, asP_cp, nrm_sl, nrm_nl, need_true, ct, cf, bd_eq, natD_zero, natD_succ, natD_one, noYl_v, noYl_sl, noYl_nl, noYl_cp, noYl_fn, Bool.and_true, Bool.true_and, Bool.and_self, beqN_self, Bool.not_true, Bool.not_false, Bool.and_false, Bool.false_and, Bool.or_false, Bool.false_or, Bool.or_true, Bool.true_or, wrap_in, dlt_t, dlt_f, dle_t, dle_f, dgt_t, dgt_f, dge_t, dge_f, ibeq_t, ibeq_f, ibne_t, ibne_f, inR_int, beqN_eq, bleN_le]
  rw [eq1_slices_ContainsFunc_sapi_Reading_api_Reading, eq1_slices_IndexFunc_sapi_Reading_api_Reading]
  repeat (rw [iter_s]; simp (disch := omega) only [obs, rC_c, rA_agg, rT_tup, rP_ptr, rW_own, rS_sb, rF_sb, uncV_cons, uncO_cons, nilV_nil, rO_ob, rN_ob, unc_cons, asI_int, asB_bool, asS_string, asSl_sl, asSl_nl, asFn_fn, asP_cp, nrm_sl, nrm_nl, need_true, ct, cf, bd_eq, natD_zero, natD_succ, natD_one, noYl_v, noYl_sl, noYl_nl, noYl_cp, noYl_fn, Bool.and_true, Bool.true_and, Bool.and_self, beqN_self, Bool.not_true, Bool.not_false, Bool.and_false, Bool.false_and, Bool.or_false, Bool.false_or, Bool.or_true, Bool.true_or, wrap_in, dlt_t, dlt_f, dle_t, dle_f, dgt_t, dgt_f, dge_t, dge_f, ibeq_t, ibeq_f, ibne_t, ibne_f, inR_int, beqN_eq, bleN_le, eq_element_Validate_1_1, hk, List.length_cons, List.length_nil, Nat.zero_add, Nat.reduceAdd, Int.toNat_zero, Nat.zero_mul, List.drop_zero, Int.zero_add, Int.natCast_one])
theorem sp_eValidate1 (fu d : Nat) (hf : 18446744073709551616 ≤ fu) (v : Int) (h : okV v) : cl fu (d + 7) fn_element_Validate [V.c (C.sl 1 (prC v))] [] = OK (I 0) := by
  have h4 := sp_has1 fu d hf v h 4 (by omega)
  have h1 := sp_has1 fu d hf v h 1 (by omega)
  obtain ⟨fu', rfl⟩ : ∃ m, fu = m + 3 := ⟨fu - 3, by omega⟩
  rw [eq_element_Validate, h4]
  simp only [obs, rC_c, rA_agg, rT_tup, rP_ptr, rW_own, rS_sb, rF_sb, uncV_cons, uncO_cons, nilV_nil, rO_ob, rN_ob, unc_cons, asI_int, asB_bool, asS_string, asSl_sl, asSl_nl, asFn_fn, asP_cp, nrm_sl, nrm_nl, need_true, ct, cf, bd_eq, natD_zero, natD_succ, natD_one, noYl_v, noYl_sl, noYl_nl, noYl_cp, noYl_fn, Bool.and_true, Bool.true_and, Bool.and_self, beqN_self, Bool.not_true, Bool.not_false, Bool.and_false, Bool.false_and, Bool.or_false, Bool.false_or, Bool.or_true, Bool.true_or]
  rw [h1]
  simp only [obs, rC_c, rA_agg, rT_tup, rP_ptr, rW_own, rS_sb, rF_sb, uncV_cons, uncO_cons, nilV_nil, rO_ob, rN_ob, unc_cons, asI_int, asB_bool, asS_string, asSl_sl, asSl_nl, asFn_fn, asP_cp, nrm_sl, nrm_nl, need_true, ct, cf, bd_eq, natD_zero, natD_succ, natD_one, noYl_v, noYl_sl, noYl_nl, noYl_cp, noYl_fn, Bool.and_true, Bool.true_and, Bool.and_self, beqN_self, Bool.not_true, Bool.not_false, Bool.and_false, Bool.false_and, Bool.or_false, Bool.false_or, Bool.or_true, Bool.true_or]
  repeat (rw [iter_s]; simp (disch := omega) only [obs, rC_c, rA_agg, rT_tup, rP_ptr, rW_own, rS_sb, rF_sb, uncV_cons, uncO_cons, nilV_nil, rO_ob, rN_ob, unc_cons, asI_int, asB_bool, asS_string, asSl_sl, asSl_nl, asFn_fn, asP_cp, nrm_sl, nrm_nl, need_true, ct, cf, bd_eq, natD_zero, natD_succ, natD_one, noYl_v, noYl_sl, noYl_nl, noYl_cp, noYl_fn, Bool.and_true, Bool.true_and, Bool.and_self, beqN_self, Bool.not_true, Bool.not_false, Bool.and_false, Bool.false_and, Bool.or_false, Bool.false_or, Bool.or_true, Bool.true_or, wrap_in, dlt_t, dlt_f, dle_t, dle_f, dgt_t, dgt_f, dge_t, dge_f, ibeq_t, ibeq_f, ibne_t, ibne_f, inR_int, beqN_eq, bleN_le, Int.natCast_one])
theorem sp_eFind1 (fu d : Nat) (hf : 18446744073709551616 ≤ fu) (v : Int) : cl fu (d + 3) fn_element_Find [V.c (C.sl 1 (prC v)), I 1] [] = OK (V.tup [I v, B true]) := by
  obtain ⟨fu', rfl⟩ : ∃ m, fu = m + 3 := ⟨fu - 3, by omega⟩
  unfold prC
  rw [eq_element_Find, eq1_slices_IndexFunc_sapi_Reading_api_Reading]
  repeat (rw [iter_s]; simp (disch := omega) only [obs, rC_c, rA_agg, rT_tup, rP_ptr, rW_own, rS_sb, rF_sb, uncV_cons, uncO_cons, nilV_nil, rO_ob, rN_ob, unc_cons, asI_int, asB_bool, asS_string, asSl_sl, asSl_nl, asFn_fn, asP_cp, nrm_sl, nrm_nl, need_true, ct, cf, bd_eq, natD_zero, natD_succ, natD_one, noYl_v, noYl_sl, noYl_nl, noYl_cp, noYl_fn, Bool.and_true, Bool.true_and, Bool.and_self, beqN_self, Bool.not_true, Bool.not_false, Bool.and_false, Bool.false_and, Bool.or_false, Bool.false_or, Bool.or_true, Bool.true_or, wrap_in, dlt_t, dlt_f, dle_t, dle_f, dgt_t, dgt_f, dge_t, dge_f, ibeq_t, ibeq_f, ibne_t, ibne_f, inR_int, beqN_eq, bleN_le, eq_element_Find_1, List.length_cons, List.length_nil, Nat.zero_add, Nat.reduceAdd, Int.toNat_zero, Nat.zero_mul, List.drop_zero, Int.zero_add, Int.natCast_one, List.drop_succ_cons])
theorem sp_Frequency (fu d : Nat) (n : Nat) (h : freq n) : cl fu (d + 1) fn_mesh_Frequency [I n] [] = OK (B true) := by
  unfold freq at h
  rw [eq_mesh_Frequency]; simp (disch := omega) only [obs, rC_c, rA_agg, rT_tup, rP_ptr, rW_own, rS_sb, rF_sb, uncV_cons, uncO_cons, nilV_nil, rO_ob, rN_ob, unc_cons, asI_int, asB_bool, asS_string, asSl_sl, asSl_nl, asFn_fn, asP_cp, nrm_sl, nrm_nl, need_true, ct, cf, bd_eq, natD_zero, natD_succ, natD_one, noYl_v, noYl_sl, noYl_nl, noYl_cp, noYl_fn, Bool.and_true, Bool.true_and, Bool.and_self, beqN_self, Bool.not_true, Bool.not_false, Bool.and_false, Bool.false_and, Bool.or_false, Bool.false_or, Bool.or_true, Bool.true_or, wrap_in, dlt_t, dlt_f, dle_t, dle_f, dgt_t, dgt_f, dge_t, dge_f, ibeq_t, ibeq_f, ibne_t, ibne_f, inR_int, beqN_eq, bleN_le]

theorem sp_Rows (fu d : Nat) (hf : 18446744073709551616 ≤ fu) (n : Nat) (h : freq n) (L : List (Pl × Int)) (hL : L.length ≤ 100) (hok : ∀ x ∈ L, okP x) (w : Int) (hw : 1 ≤ w ∧ w ≤ 1000) :
    cl fu (d + 8) fn_operator_Rows [I n, V.c (C.sl L.length (fl rpc L)), I 1, I w] [] = OK (V.tup [V.c (C.sl L.length (fl rwc (rowsF n w 0 L))), I 0]) := by
  obtain ⟨s, g, hd⟩ := sp_eDescribe1 fu (d + 6)
  have hfq := sp_Frequency fu (d + 6) n h
  have hPt := sp_Points fu (d + 2) hf n h
  rw [eq_operator_Rows, hfq]
  simp only [obs, rC_c, rA_agg, rT_tup, rP_ptr, rW_own, rS_sb, rF_sb, uncV_cons, uncO_cons, nilV_nil, rO_ob, rN_ob, unc_cons, asI_int, asB_bool, asS_string, asSl_sl, asSl_nl, asFn_fn, asP_cp, nrm_sl, nrm_nl, need_true, ct, cf, bd_eq, natD_zero, natD_succ, natD_one, noYl_v, noYl_sl, noYl_nl, noYl_cp, noYl_fn, Bool.and_true, Bool.true_and, Bool.and_self, beqN_self, Bool.not_true, Bool.not_false, Bool.and_false, Bool.false_and, Bool.or_false, Bool.false_or, Bool.or_true, Bool.true_or, hd, sp_weighted fu (d + 6) w hw, List.length_cons, List.length_nil, Nat.zero_add, Nat.reduceAdd]
  simp (disch := omega) only [obs, rC_c, rA_agg, rT_tup, rP_ptr, rW_own, rS_sb, rF_sb, uncV_cons, uncO_cons, nilV_nil, rO_ob, rN_ob, unc_cons, asI_int, asB_bool, asS_string, asSl_sl, asSl_nl, asFn_fn, asP_cp, nrm_sl, nrm_nl, need_true, ct, cf, bd_eq, natD_zero, natD_succ, natD_one, noYl_v, noYl_sl, noYl_nl, noYl_cp, noYl_fn, Bool.and_true, Bool.true_and, Bool.and_self, beqN_self, Bool.not_true, Bool.not_false, Bool.and_false, Bool.false_and, Bool.or_false, Bool.false_or, Bool.or_true, Bool.true_or, wrap_in, dlt_t, dlt_f, dle_t, dle_f, dgt_t, dgt_f, dge_t, dge_f, ibeq_t, ibeq_f, ibne_t, ibne_f, inR_int, beqN_eq, bleN_le]
  rw [iter_runx (fun j : Nat => (([] : List C), (0 : Int), (j : Int), ())) 0 ([], 0, (L.length : Int), ()) L.length ?_ ?_ ?_ (by omega)]
  · simp only [obs, rC_c, rA_agg, rT_tup, rP_ptr, rW_own, rS_sb, rF_sb, uncV_cons, uncO_cons, nilV_nil, rO_ob, rN_ob, unc_cons, asI_int, asB_bool, asS_string, asSl_sl, asSl_nl, asFn_fn, asP_cp, nrm_sl, nrm_nl, need_true, ct, cf, bd_eq, natD_zero, natD_succ, natD_one, noYl_v, noYl_sl, noYl_nl, noYl_cp, noYl_fn, Bool.and_true, Bool.true_and, Bool.and_self, beqN_self, Bool.not_true, Bool.not_false, Bool.and_false, Bool.false_and, Bool.or_false, Bool.false_or, Bool.or_true, Bool.true_or, hPt, List.length_nil, Nat.zero_div, Nat.zero_mul]
    rw [iter_runx (fun j : Nat => (([] : List C), (0 : Int), fl rwc (rowsF n w 0 (L.take j)), (j : Int), ())) 0 ([], 0, fl rwc (rowsF n w 0 L), (L.length : Int), ()) L.length ?_ ?_ ?_ (by omega)]
    · simp (disch := omega) only [obs, rC_c, rA_agg, rT_tup, rP_ptr, rW_own, rS_sb, rF_sb, uncV_cons, uncO_cons, nilV_nil, rO_ob, rN_ob, unc_cons, asI_int, asB_bool, asS_string, asSl_sl, asSl_nl, asFn_fn, asP_cp, nrm_sl, nrm_nl, need_true, ct, cf, bd_eq, natD_zero, natD_succ, natD_one, noYl_v, noYl_sl, noYl_nl, noYl_cp, noYl_fn, Bool.and_true, Bool.true_and, Bool.and_self, beqN_self, Bool.not_true, Bool.not_false, Bool.and_false, Bool.false_and, Bool.or_false, Bool.false_or, Bool.or_true, Bool.true_or, wrap_in, dlt_t, dlt_f, dle_t, dle_f, dgt_t, dgt_f, dge_t, dge_f, ibeq_t, ibeq_f, ibne_t, ibne_f, inR_int, beqN_eq, bleN_le, fl_length rwc_length, div4, rowsF_length, Nat.zero_add]
      rw [List.take_of_length_le (by rw [fl_length rwc_length, rowsF_length]; omega)]
    · rfl
    · intro j hj
      have hx := hok _ (List.getElem_mem hj)
      have hat := fl_at rpc_length hj
      have hF := sp_eFind1 fu (d + 4) hf L[j].2
      have hLo := sp_Locate fu (d + 1) hf n h L[j].1 hx.1
      have hv := validI_of hx.1
      simp only [prC] at hF
      rw [show plc L[j].1 = [.v (.int .i64 L[j].1.f), .v (.int .i64 L[j].1.a), .v (.int .i64 L[j].1.b), .v (.int .i64 L[j].1.c)] from rfl] at hLo
      rw [rowsF_take n w L j hj]
      have hl : (rowsF n w 0 (L.take j)).length = j := by rw [rowsF_length, List.length_take]; omega
      simp (disch := omega) only [obs, rC_c, rA_agg, rT_tup, rP_ptr, rW_own, rS_sb, rF_sb, uncV_cons, uncO_cons, nilV_nil, rO_ob, rN_ob, unc_cons, asI_int, asB_bool, asS_string, asSl_sl, asSl_nl, asFn_fn, asP_cp, nrm_sl, nrm_nl, need_true, ct, cf, bd_eq, natD_zero, natD_succ, natD_one, noYl_v, noYl_sl, noYl_nl, noYl_cp, noYl_fn, Bool.and_true, Bool.true_and, Bool.and_self, beqN_self, Bool.not_true, Bool.not_false, Bool.and_false, Bool.false_and, Bool.or_false, Bool.false_or, Bool.or_true, Bool.true_or, wrap_in, dlt_t, dlt_f, dle_t, dle_f, dgt_t, dgt_f, dge_t, dge_f, ibeq_t, ibeq_f, ibne_t, ibne_f, inR_int, beqN_eq, bleN_le, Int.toNat_natCast, hat, rpc, List.cons_append, List.nil_append, hF, sp_Valid fu (d + 5) hf, hv, hLo, List.length_nil, Nat.zero_div, Nat.zero_mul, fl_length rwc_length, rw_div, hl, rw_snoc, List.length_append, List.length_cons, Nat.zero_add, Int.natCast_add, Int.natCast_one]
    · have hl : (rowsF n w 0 L).length = L.length := rowsF_length _ _ _ _
      rw [List.take_of_length_le (Nat.le_refl _)]
      simp (disch := omega) only [obs, rC_c, rA_agg, rT_tup, rP_ptr, rW_own, rS_sb, rF_sb, uncV_cons, uncO_cons, nilV_nil, rO_ob, rN_ob, unc_cons, asI_int, asB_bool, asS_string, asSl_sl, asSl_nl, asFn_fn, asP_cp, nrm_sl, nrm_nl, need_true, ct, cf, bd_eq, natD_zero, natD_succ, natD_one, noYl_v, noYl_sl, noYl_nl, noYl_cp, noYl_fn, Bool.and_true, Bool.true_and, Bool.and_self, beqN_self, Bool.not_true, Bool.not_false, Bool.and_false, Bool.false_and, Bool.or_false, Bool.false_or, Bool.or_true, Bool.true_or, wrap_in, dlt_t, dlt_f, dle_t, dle_f, dgt_t, dgt_f, dge_t, dge_f, ibeq_t, ibeq_f, ibne_t, ibne_f, inR_int, beqN_eq, bleN_le, fl_length rwc_length, rw_div, hl, List.length_nil, Nat.zero_div, Nat.zero_mul]
  · rfl
  · intro j hj
    have hx := hok _ (List.getElem_mem hj)
    have hat := fl_at rpc_length hj
    have hV := sp_eValidate1 fu d hf L[j].2 hx.2
    simp only [prC] at hV
    simp (disch := omega) only [obs, rC_c, rA_agg, rT_tup, rP_ptr, rW_own, rS_sb, rF_sb, uncV_cons, uncO_cons, nilV_nil, rO_ob, rN_ob, unc_cons, asI_int, asB_bool, asS_string, asSl_sl, asSl_nl, asFn_fn, asP_cp, nrm_sl, nrm_nl, need_true, ct, cf, bd_eq, natD_zero, natD_succ, natD_one, noYl_v, noYl_sl, noYl_nl, noYl_cp, noYl_fn, Bool.and_true, Bool.true_and, Bool.and_self, beqN_self, Bool.not_true, Bool.not_false, Bool.and_false, Bool.false_and, Bool.or_false, Bool.false_or, Bool.or_true, Bool.true_or, wrap_in, dlt_t, dlt_f, dle_t, dle_f, dgt_t, dgt_f, dge_t, dge_f, ibeq_t, ibeq_f, ibne_t, ibne_f, inR_int, beqN_eq, bleN_le, Int.toNat_natCast, hat, rpc, List.cons_append, List.nil_append, hV, List.length_nil, Nat.zero_div, Nat.zero_mul, Int.natCast_add, Int.natCast_one]
  · simp (disch := omega) only [obs, rC_c, rA_agg, rT_tup, rP_ptr, rW_own, rS_sb, rF_sb, uncV_cons, uncO_cons, nilV_nil, rO_ob, rN_ob, unc_cons, asI_int, asB_bool, asS_string, asSl_sl, asSl_nl, asFn_fn, asP_cp, nrm_sl, nrm_nl, need_true, ct, cf, bd_eq, natD_zero, natD_succ, natD_one, noYl_v, noYl_sl, noYl_nl, noYl_cp, noYl_fn, Bool.and_true, Bool.true_and, Bool.and_self, beqN_self, Bool.not_true, Bool.not_false, Bool.and_false, Bool.false_and, Bool.or_false, Bool.false_or, Bool.or_true, Bool.true_or, wrap_in, dlt_t, dlt_f, dle_t, dle_f, dgt_t, dgt_f, dge_t, dge_f, ibeq_t, ibeq_f, ibne_t, ibne_f, inR_int, beqN_eq, bleN_le, List.length_nil, Nat.zero_div, Nat.zero_mul]

theorem sp_Ints1 (fu d : Nat) (hf : 18446744073709551616 ≤ fu) (v : Int) : cl fu (d + 1) fn_synoptickeep_Ints [V.c (C.sl 1 [.v (.int .i64 v)]), V.c (C.sl 1 [.v (.int .i64 v)])] [] = OK (B true) := by
  obtain ⟨fu', rfl⟩ : ∃ m, fu = m + 3 := ⟨fu - 3, by omega⟩
  rw [eq_synoptickeep_Ints]
  simp (disch := omega) only [obs, rC_c, rA_agg, rT_tup, rP_ptr, rW_own, rS_sb, rF_sb, uncV_cons, uncO_cons, nilV_nil, rO_ob, rN_ob, unc_cons, asI_int, asB_bool, asS_string, asSl_sl, asSl_nl, asFn_fn, asP_cp, nrm_sl, nrm_nl, need_true, ct, cf, bd_eq, natD_zero, natD_succ, natD_one, noYl_v, noYl_sl, noYl_nl, noYl_cp, noYl_fn, Bool.and_true, Bool.true_and, Bool.and_self, beqN_self, Bool.not_true, Bool.not_false, Bool.and_false, Bool.false_and, Bool.or_false, Bool.false_or, Bool.or_true, Bool.true_or, wrap_in, dlt_t, dlt_f, dle_t, dle_f, dgt_t, dgt_f, dge_t, dge_f, ibeq_t, ibeq_f, ibne_t, ibne_f, inR_int, beqN_eq, bleN_le]
  repeat (rw [iter_s]; simp (disch := omega) only [obs, rC_c, rA_agg, rT_tup, rP_ptr, rW_own, rS_sb, rF_sb, uncV_cons, uncO_cons, nilV_nil, rO_ob, rN_ob, unc_cons, asI_int, asB_bool, asS_string, asSl_sl, asSl_nl, asFn_fn, asP_cp, nrm_sl, nrm_nl, need_true, ct, cf, bd_eq, natD_zero, natD_succ, natD_one, noYl_v, noYl_sl, noYl_nl, noYl_cp, noYl_fn, Bool.and_true, Bool.true_and, Bool.and_self, beqN_self, Bool.not_true, Bool.not_false, Bool.and_false, Bool.false_and, Bool.or_false, Bool.false_or, Bool.or_true, Bool.true_or, wrap_in, dlt_t, dlt_f, dle_t, dle_f, dgt_t, dgt_f, dge_t, dge_f, ibeq_t, ibeq_f, ibne_t, ibne_f, inR_int, beqN_eq, bleN_le, List.length_cons, List.length_nil, Nat.zero_add, Nat.reduceAdd, Int.toNat_zero, Nat.zero_mul, List.drop_zero, Int.zero_add, Int.natCast_one, List.drop_succ_cons])

def awP : Pl := ⟨0, 630, 210, 0⟩
theorem awP_shares : ∃ i j, shares 2 awP = [(i, 420), (j, 420)] ∧ i < 42 ∧ j < 42 ∧ i ≠ j := by
  have : shares 2 awP = [((shares 2 awP).getD 0 (0, 0)).1, ((shares 2 awP).getD 1 (0, 0)).1].map fun i => (i, 420) := by kernel_rfl
  refine ⟨((shares 2 awP).getD 0 (0, 0)).1, ((shares 2 awP).getD 1 (0, 0)).1, this, ?_, ?_, ?_⟩ <;> decide
end Go.Proofs.YtobmbacppbkgeaaDoor
/- The program is awake; the law of the transposed rows, in plain words and of the program. -/
namespace Go.Proofs.YtobmbacppbkgeaaDoor
open Go Go.PM Go.Grid

theorem at0_set {o : List Int} {k : Nat} (hk : k < o.length) (a : Int) (i : Nat) : at0 (o.set k a) i = if i = k then a else at0 o i := by
  unfold at0
  rw [List.getD_eq_getElem?_getD, List.getD_eq_getElem?_getD, List.getElem?_set]
  by_cases h : k = i
  · subst h; simp [hk]
  · rw [if_neg h, if_neg (Ne.symm h)]
def ipT (x y : List Int) : Nat → Int
  | 0 => 0
  | k + 1 => ipT x y k + at0 x k * at0 y k
theorem ipT_set (x : List Int) {o : List Int} {k : Nat} (hk : k < o.length) (c : Int) : ∀ m, ipT x (o.set k (at0 o k + c)) m = ipT x o m + (if k < m then at0 x k * c else 0)
  | 0 => by simp [ipT]
  | m + 1 => by
    simp only [ipT]
    rw [ipT_set x hk c m, at0_set hk]
    by_cases h : m = k
    · subst h
      rw [if_pos rfl, if_neg (Nat.lt_irrefl _), if_pos (Nat.lt_succ_self _), Int.mul_add]; omega
    · rw [if_neg h]
      by_cases h2 : k < m
      · rw [if_pos h2, if_pos (by omega)]; omega
      · rw [if_neg h2, if_neg (by omega)]; omega
theorem ipT_addR (x : List Int) (v : Int) (m : Nat) : ∀ (sh : List (Nat × Nat)) (o : List Int), o.length = m → (∀ s ∈ sh, s.1 < m) → ipT x (addR v o sh) m = ipT x o m + v * dotR sh x
  | [], o, _, _ => by simp [addR, dotR]
  | s :: sh, o, ho, hs => by
    have hk : s.1 < o.length := by rw [ho]; exact hs s (by simp)
    show ipT x (addR v (addS v o s) sh) m = _
    rw [ipT_addR x v m sh (addS v o s) (by rw [addS_length, ho]) (fun t ht => hs t (by simp [ht]))]
    unfold addS
    rw [ipT_set x hk, if_pos (hs s (by simp))]
    simp only [dotR, List.map_cons, List.sum_cons]
    rw [Int.mul_add, show at0 x s.1 * ((s.2 : Int) * v) = v * ((s.2 : Int) * at0 x s.1) by rw [Int.mul_left_comm, Int.mul_comm (at0 x s.1) v, Int.mul_left_comm]]
    omega
theorem at0_apply (L : List Rw) (x : List Int) (j : Nat) (h : j < L.length) : at0 (applyR L x) j = dotR L[j].sh x := by
  rw [← at0_eq (by rw [applyR_length]; exact h)]; simp [applyR]
theorem ipT_zero (x : List Int) (m : Nat) : ∀ k, ipT x (List.replicate m 0) k = 0
  | 0 => rfl
  | k + 1 => by
    simp only [ipT, ipT_zero x m k]
    have : at0 (List.replicate m 0) k = 0 := by
      unfold at0; rw [List.getD_eq_getElem?_getD]
      by_cases h : k < m
      · simp [h]
      · simp [h]
    rw [this]; simp
/-- The law, in plain words. -/
theorem law_trans {m : Nat} {L : List Rw} (h : ∀ r ∈ L, okRow m r) (x d : List Int) : ∀ j, j ≤ L.length → ipT x (trans m L d j) m = ipT (applyR L x) d j
  | 0, _ => by simp only [trans, ipT]; exact ipT_zero x m m
  | j + 1, hj => by
    rw [trans_succ m L d j (by omega), ipT_addR x _ m _ _ (trans_length m L d j) (fun s hs => ((h _ (List.getElem_mem _)).2.1 s hs).1), law_trans h x d j (by omega)]
    simp only [ipT]
    rw [at0_apply L x j (by omega), Int.mul_comm]
theorem mul_bd2 {a b v u : Int} (ha : 0 ≤ a) (hv : -a ≤ v ∧ v ≤ a) (hu : -b ≤ u ∧ u ≤ b) : -(a * b) ≤ v * u ∧ v * u ≤ a * b := by
  have hb : 0 ≤ b := by omega
  by_cases h : 0 ≤ v
  · have h1 := mul_bd h hu
    have h2 := Int.mul_le_mul_of_nonneg_right hv.2 hb
    omega
  · have h1 := mul_bd (w := -v) (by omega) hu
    have h2 := Int.mul_le_mul_of_nonneg_right (show -v ≤ a by omega) hb
    rw [Int.neg_mul] at h1
    rw [Int.neg_mul] at h1 h2
    omega
theorem ipT_bd {a b : Int} (ha : 0 ≤ a) (hb : 0 ≤ b) {x y : List Int} (hx : bd0 a x) (hy : bd0 b y) : ∀ k : Nat, -((k : Int) * (a * b)) ≤ ipT x y k ∧ ipT x y k ≤ (k : Int) * (a * b)
  | 0 => by simp [ipT]
  | k + 1 => by
    have ih := ipT_bd ha hb hx hy k
    have h := mul_bd2 ha (at0_bd ha hx k) (at0_bd hb hy k)
    simp only [ipT]
    rw [show ((k + 1 : Nat) : Int) * (a * b) = (k : Int) * (a * b) + a * b by rw [Int.natCast_add, Int.add_mul]; simp]
    omega

theorem rowsF_one (n : Nat) (w : Int) (x : Pl × Int) : rowsF n w 0 [x] = [⟨shares n x.1, x.2, w, 0⟩] := rfl
theorem sp_awake (fu d : Nat) (hf : 18446744073709551616 ≤ fu) : cl fu (d + 9) fn_synopticlaw21_awake [] [] = OK (B true) := by
  have hok : okP (awP, 10100) := ⟨by decide, by unfold okV; omega⟩
  have hR := sp_Rows fu d hf 2 (by unfold freq; omega) [(awP, 10100)] (by simp) (fun x hx => by rw [List.mem_singleton.1 hx]; exact hok) 3 (by omega)
  obtain ⟨i, j, hsh, hi, hj, hij⟩ := awP_shares
  have hrow := okRow_of (n := 2) (by unfold freq; omega) hok (w := 3) (by omega) 0
  rw [rowsF_one] at hR
  simp only [hsh] at hR hrow
  have hR : cl fu (d + 8) fn_operator_Rows [I 2, V.c (C.sl 1 [C.v (.int .i64 0), C.v (.string ⟨#[]⟩), C.v (.int .i64 0), C.v (.int .i64 0), C.v (.int .i64 630), C.v (.int .i64 210), C.v (.int .i64 0), C.sl 1 [C.v (.int .i64 1), C.v (.int .i64 10100)]]), I 1, I 3] [] =
    OK (V.tup [V.c (C.sl 1 [C.sl 2 [.v (.int .i64 i), .v (.int .i64 420), .v (.int .i64 j), .v (.int .i64 420)], .v (.int .i64 10100), .v (.int .i64 3), .v (.int .i64 0)]), I 0]) := hR
  have hx : (((List.replicate 42 (0 : Int)).set i 10090).set j 10100).length = 42 := by simp
  have hb : bd0 1099511627776 (((List.replicate 42 (0 : Int)).set i 10090).set j 10100) := by
    intro v hv
    rcases List.mem_or_eq_of_mem_set hv with hv | rfl
    · rcases List.mem_or_eq_of_mem_set hv with hv | rfl
      · have := List.eq_of_mem_replicate hv; omega
      · omega
    · omega
  have hr : ∀ r ∈ [(⟨[(i, 420), (j, 420)], 10100, 3, 0⟩ : Rw)], okRow 42 r := fun r hr => by rw [List.mem_singleton.1 hr]; exact hrow
  have hA := sp_Apply fu (d + 1) hf 42 (by omega) [⟨[(i, 420), (j, 420)], 10100, 3, 0⟩] (by simp) hr _ hx hb
  have hD := sp_Departures fu d hf 42 (by omega) [⟨[(i, 420), (j, 420)], 10100, 3, 0⟩] (by simp) hr _ hx hb
  have hdot : dotR [(i, 420), (j, 420)] (((List.replicate 42 (0 : Int)).set i 10090).set j 10100) = 8479800 := by
    simp only [dotR, List.map_cons, List.map_nil, List.sum_cons, List.sum_nil]
    rw [at0_set (by simp; omega), at0_set (by simp; omega), if_neg hij, at0_set (by simp; omega), if_pos rfl, if_pos rfl]
    rfl
  simp only [applyR, depR, List.map_cons, List.map_nil, hdot, hx] at hA hD
  have hz : putAt (ints (List.replicate 42 (0 : Int))) i [C.v (.int .i64 10090)] = ints ((List.replicate 42 (0 : Int)).set i 10090) := ik_put (by simp; omega) _
  have hz2 : putAt (ints ((List.replicate 42 (0 : Int)).set i 10090)) j [C.v (.int .i64 10100)] = ints (((List.replicate 42 (0 : Int)).set i 10090).set j 10100) := ik_put (by simp; omega) _
  have hl1 : (ints ((List.replicate 42 (0 : Int)).set i 10090)).length = 42 := by simp
  have hl2 : (ints (((List.replicate 42 (0 : Int)).set i 10090).set j 10100)).length = 42 := by simp
  have ht : List.take 42 (ints (((List.replicate 42 (0 : Int)).set i 10090).set j 10100)) = ints (((List.replicate 42 (0 : Int)).set i 10090).set j 10100) := List.take_of_length_le (by rw [hl2]; omega)
  generalize ((List.replicate 42 (0 : Int)).set i 10090).set j 10100 = X at *
  generalize (List.replicate 42 (0 : Int)).set i 10090 = Y at *
  have hI1 := sp_Ints1 fu (d + 7) hf 8479800
  have hI2 := sp_Ints1 fu (d + 7) hf 4200
  simp only [fl_cons, fl_nil, rwc, shc, List.append_nil, List.length_cons, List.length_nil, Nat.zero_add, Nat.reduceAdd, Nat.reduceMul, Int.toNat_zero, Int.toNat_one, Nat.zero_mul, List.drop_zero, Int.natCast_one, List.drop_succ_cons, List.cons_append, List.nil_append, ik_cons, ik_nil, Int.cast_ofNat_Int, hx] at hA hD
  rw [eq_synopticlaw21_awake, hR]
  rw [show [C.v (.int .i64 0), C.v (.int .i64 0), C.v (.int .i64 0), C.v (.int .i64 0), C.v (.int .i64 0), C.v (.int .i64 0), C.v (.int .i64 0), C.v (.int .i64 0), C.v (.int .i64 0), C.v (.int .i64 0), C.v (.int .i64 0), C.v (.int .i64 0), C.v (.int .i64 0), C.v (.int .i64 0), C.v (.int .i64 0), C.v (.int .i64 0), C.v (.int .i64 0), C.v (.int .i64 0), C.v (.int .i64 0), C.v (.int .i64 0), C.v (.int .i64 0), C.v (.int .i64 0), C.v (.int .i64 0), C.v (.int .i64 0), C.v (.int .i64 0), C.v (.int .i64 0), C.v (.int .i64 0), C.v (.int .i64 0), C.v (.int .i64 0), C.v (.int .i64 0), C.v (.int .i64 0), C.v (.int .i64 0), C.v (.int .i64 0), C.v (.int .i64 0), C.v (.int .i64 0), C.v (.int .i64 0), C.v (.int .i64 0), C.v (.int .i64 0), C.v (.int .i64 0), C.v (.int .i64 0), C.v (.int .i64 0), C.v (.int .i64 0)] = ints (List.replicate 42 (0 : Int)) from rfl]
  simp (disch := omega) only [obs, rC_c, rA_agg, rT_tup, rP_ptr, rW_own, rS_sb, rF_sb, uncV_cons, uncO_cons, nilV_nil, rO_ob, rN_ob, unc_cons, asI_int, asB_bool, asS_string, asSl_sl, asSl_nl, asFn_fn, asP_cp, nrm_sl, nrm_nl, need_true, ct, cf, bd_eq, natD_zero, natD_succ, natD_one, noYl_v, noYl_sl, noYl_nl, noYl_cp, noYl_fn, Bool.and_true, Bool.true_and, Bool.and_self, beqN_self, Bool.not_true, Bool.not_false, Bool.and_false, Bool.false_and, Bool.or_false, Bool.false_or, Bool.or_true, Bool.true_or, wrap_in, dlt_t, dlt_f, dle_t, dle_f, dgt_t, dgt_f, dge_t, dge_f, ibeq_t, ibeq_f, ibne_t, ibne_f, inR_int, beqN_eq, bleN_le, List.length_cons, List.length_nil, Nat.zero_add, Nat.reduceAdd, Nat.reduceMul, Int.toNat_zero, Int.toNat_one, Nat.zero_mul, List.drop_zero, Int.natCast_one, List.drop_succ_cons, List.cons_append, List.nil_append, Int.toNat_natCast, Nat.mul_one, hz, hz2, hl1, hl2, ht, hA, hD, hI1, hI2, Nat.add_zero, Nat.one_mul, show OUT = 1000000 from rfl, List.take_succ_cons, List.take_zero]
  rw [show (840 : Int) * 10100 - 8479800 = 4200 from rfl, hI2]
  simp only [obs, rC_c, rA_agg, rT_tup, rP_ptr, rW_own, rS_sb, rF_sb, uncV_cons, uncO_cons, nilV_nil, rO_ob, rN_ob, unc_cons, asI_int, asB_bool, asS_string, asSl_sl, asSl_nl, asFn_fn, asP_cp, nrm_sl, nrm_nl, need_true, ct, cf, bd_eq, natD_zero, natD_succ, natD_one, noYl_v, noYl_sl, noYl_nl, noYl_cp, noYl_fn, Bool.and_true, Bool.true_and, Bool.and_self, beqN_self, Bool.not_true, Bool.not_false, Bool.and_false, Bool.false_and, Bool.or_false, Bool.false_or, Bool.or_true, Bool.true_or]

theorem bd_of {b c : Int} (h : b ≤ c) {x : List Int} (hx : bd0 b x) : bd0 c x := fun v hv => by have := hx v hv; omega
theorem freq4 {n : Nat} (h : 1 ≤ n ∧ n ≤ 4) : freq n := by unfold freq; omega
theorem count4 {n : Nat} (h : 1 ≤ n ∧ n ≤ 4) : 10 * n * n + 2 ≤ 162 := by
  rcases (show n = 1 ∨ n = 2 ∨ n = 3 ∨ n = 4 by omega) with rfl | rfl | rfl | rfl <;> decide
theorem applyR_bd {m : Nat} {L : List Rw} (h : ∀ r ∈ L, okRow m r) {b : Int} (hb : 0 ≤ b) {x : List Int} (hx : bd0 b x) : bd0 (840 * b) (applyR L x) := by
  intro v hv
  obtain ⟨r, hr, rfl⟩ := List.mem_map.1 hv
  have := dotR_bd hb hx r.sh
  rw [okRow_sum (h r hr)] at this
  omega

set_option maxHeartbeats 1000000 in
theorem sp_OperatorTransposed (fu d : Nat) (hf : 18446744073709551616 ≤ fu) (l : List Int) :
    cl fu (d + 10) fn_synopticlaw21_OperatorTransposed [V.c (C.sl l.length (ints l))] [] = OK (B true) := by
  have hN := sp_New fu (d + 8) l
  have hl : (l.take 2000).length ≤ 2000 := by simp; omega
  obtain ⟨n, L, w, j1, hn, hL, hok, hw, hR⟩ := sp_rows fu d hf (l.take 2000) 0 hl
  have hfr := freq4 hn
  have hc := count4 hn
  have hrows := okRows hfr (w := w) (by omega) L 0 hok
  have hlen := rowsF_length n w L 0
  generalize hm : 10 * n * n + 2 = m at *
  generalize rowsF n w 0 L = R at *
  obtain ⟨x, j2, hx, hxb, hV1⟩ := sp_values fu (d + 5) hf (l.take 2000) j1 hl m (by omega) 262144 (by omega)
  obtain ⟨dd, j3, hd, hdb, hV2⟩ := sp_values fu (d + 5) hf (l.take 2000) j2 hl L.length (by omega) 262144 (by omega)
  have hxb : bd0 524788 x := fun v hv => by have := hxb v hv; omega
  have hdb : bd0 524788 dd := fun v hv => by have := hdb v hv; omega
  have hA := sp_Apply fu (d + 2) hf m (by omega) R (by omega) hrows x hx (bd_of (by omega) hxb)
  have hT := sp_Transpose fu (d + 2) hf m (by omega) R (by omega) hrows dd (by omega) (bd_of (by omega) hdb)
  have haw := sp_awake fu d hf
  have law := law_trans hrows x dd R.length (Nat.le_refl _)
  have hAl := applyR_length R x
  have hTl := trans_length m R dd R.length
  have hAb := applyR_bd hrows (by decide) hxb
  have hTb := trans_bd hrows (by decide) hdb R.length (Nat.le_refl _)
  generalize applyR R x = a at *
  generalize trans m R dd R.length = b at *
  have hTb : bd0 (8 * (840 * 524788)) b := bd_of (by omega) hTb
  rw [hlen] at hA hT hAl law
  unfold srcO srcC at hN hR hV1 hV2
  rw [hd] at hV2 hT
  rw [hx] at hV1 hA
  have b1 := ipT_bd (by decide) (by decide) hAb hdb
  have b2 := ipT_bd (by decide) (by decide) hxb hTb
  rw [eq_synopticlaw21_OperatorTransposed, hN]
  simp only [obs, rC_c, rA_agg, rT_tup, rP_ptr, rW_own, rS_sb, rF_sb, uncV_cons, uncO_cons, nilV_nil, rO_ob, rN_ob, unc_cons, asI_int, asB_bool, asS_string, asSl_sl, asSl_nl, asFn_fn, asP_cp, nrm_sl, nrm_nl, need_true, ct, cf, bd_eq, natD_zero, natD_succ, natD_one, noYl_v, noYl_sl, noYl_nl, noYl_cp, noYl_fn, Bool.and_true, Bool.true_and, Bool.and_self, beqN_self, Bool.not_true, Bool.not_false, Bool.and_false, Bool.false_and, Bool.or_false, Bool.false_or, Bool.or_true, Bool.true_or, List.length_cons, List.length_nil, Nat.zero_add, Nat.reduceAdd, Nat.reduceMul, Int.toNat_zero, Int.toNat_one, Nat.zero_mul, List.drop_zero, Int.natCast_one, List.drop_succ_cons, List.cons_append, List.nil_append, Nat.add_zero, show OUT = 1000000 from rfl]
  rw [hR]
  simp only [obs, rC_c, rA_agg, rT_tup, rP_ptr, rW_own, rS_sb, rF_sb, uncV_cons, uncO_cons, nilV_nil, rO_ob, rN_ob, unc_cons, asI_int, asB_bool, asS_string, asSl_sl, asSl_nl, asFn_fn, asP_cp, nrm_sl, nrm_nl, need_true, ct, cf, bd_eq, natD_zero, natD_succ, natD_one, noYl_v, noYl_sl, noYl_nl, noYl_cp, noYl_fn, Bool.and_true, Bool.true_and, Bool.and_self, beqN_self, Bool.not_true, Bool.not_false, Bool.and_false, Bool.false_and, Bool.or_false, Bool.false_or, Bool.or_true, Bool.true_or, List.length_cons, List.length_nil, Nat.zero_add, Nat.reduceAdd, Nat.reduceMul, Int.toNat_zero, Int.toNat_one, Nat.zero_mul, List.drop_zero, Int.natCast_one, List.drop_succ_cons, List.cons_append, List.nil_append]
  rw [hV1]
  simp only [obs, rC_c, rA_agg, rT_tup, rP_ptr, rW_own, rS_sb, rF_sb, uncV_cons, uncO_cons, nilV_nil, rO_ob, rN_ob, unc_cons, asI_int, asB_bool, asS_string, asSl_sl, asSl_nl, asFn_fn, asP_cp, nrm_sl, nrm_nl, need_true, ct, cf, bd_eq, natD_zero, natD_succ, natD_one, noYl_v, noYl_sl, noYl_nl, noYl_cp, noYl_fn, Bool.and_true, Bool.true_and, Bool.and_self, beqN_self, Bool.not_true, Bool.not_false, Bool.and_false, Bool.false_and, Bool.or_false, Bool.false_or, Bool.or_true, Bool.true_or, List.length_cons, List.length_nil, Nat.zero_add, Nat.reduceAdd, Nat.reduceMul, Int.toNat_zero, Int.toNat_one, Nat.zero_mul, List.drop_zero, Int.natCast_one, List.drop_succ_cons, List.cons_append, List.nil_append]
  rw [hV2]
  simp only [obs, rC_c, rA_agg, rT_tup, rP_ptr, rW_own, rS_sb, rF_sb, uncV_cons, uncO_cons, nilV_nil, rO_ob, rN_ob, unc_cons, asI_int, asB_bool, asS_string, asSl_sl, asSl_nl, asFn_fn, asP_cp, nrm_sl, nrm_nl, need_true, ct, cf, bd_eq, natD_zero, natD_succ, natD_one, noYl_v, noYl_sl, noYl_nl, noYl_cp, noYl_fn, Bool.and_true, Bool.true_and, Bool.and_self, beqN_self, Bool.not_true, Bool.not_false, Bool.and_false, Bool.false_and, Bool.or_false, Bool.false_or, Bool.or_true, Bool.true_or, List.length_cons, List.length_nil, Nat.zero_add, Nat.reduceAdd, Nat.reduceMul, Int.toNat_zero, Int.toNat_one, Nat.zero_mul, List.drop_zero, Int.natCast_one, List.drop_succ_cons, List.cons_append, List.nil_append]
  rw [hA]
  simp only [obs, rC_c, rA_agg, rT_tup, rP_ptr, rW_own, rS_sb, rF_sb, uncV_cons, uncO_cons, nilV_nil, rO_ob, rN_ob, unc_cons, asI_int, asB_bool, asS_string, asSl_sl, asSl_nl, asFn_fn, asP_cp, nrm_sl, nrm_nl, need_true, ct, cf, bd_eq, natD_zero, natD_succ, natD_one, noYl_v, noYl_sl, noYl_nl, noYl_cp, noYl_fn, Bool.and_true, Bool.true_and, Bool.and_self, beqN_self, Bool.not_true, Bool.not_false, Bool.and_false, Bool.false_and, Bool.or_false, Bool.false_or, Bool.or_true, Bool.true_or, List.length_cons, List.length_nil, Nat.zero_add, Nat.reduceAdd, Nat.reduceMul, Int.toNat_zero, Int.toNat_one, Nat.zero_mul, List.drop_zero, Int.natCast_one, List.drop_succ_cons, List.cons_append, List.nil_append, Nat.add_zero, show OUT = 1000000 from rfl, ik_length, hAl, Nat.mul_one]
  rw [hT]
  simp only [obs, rC_c, rA_agg, rT_tup, rP_ptr, rW_own, rS_sb, rF_sb, uncV_cons, uncO_cons, nilV_nil, rO_ob, rN_ob, unc_cons, asI_int, asB_bool, asS_string, asSl_sl, asSl_nl, asFn_fn, asP_cp, nrm_sl, nrm_nl, need_true, ct, cf, bd_eq, natD_zero, natD_succ, natD_one, noYl_v, noYl_sl, noYl_nl, noYl_cp, noYl_fn, Bool.and_true, Bool.true_and, Bool.and_self, beqN_self, Bool.not_true, Bool.not_false, Bool.and_false, Bool.false_and, Bool.or_false, Bool.false_or, Bool.or_true, Bool.true_or]
  rw [ibne_f (show (0 : Int) = 0 from rfl), ibne_f (show (L.length : Int) = L.length from rfl), ibne_f (show (m : Int) = m from rfl), bleN_le (show L.length ≤ L.length from Nat.le_refl _)]
  simp only [obs, rC_c, rA_agg, rT_tup, rP_ptr, rW_own, rS_sb, rF_sb, uncV_cons, uncO_cons, nilV_nil, rO_ob, rN_ob, unc_cons, asI_int, asB_bool, asS_string, asSl_sl, asSl_nl, asFn_fn, asP_cp, nrm_sl, nrm_nl, need_true, ct, cf, bd_eq, natD_zero, natD_succ, natD_one, noYl_v, noYl_sl, noYl_nl, noYl_cp, noYl_fn, Bool.and_true, Bool.true_and, Bool.and_self, beqN_self, Bool.not_true, Bool.not_false, Bool.and_false, Bool.false_and, Bool.or_false, Bool.false_or, Bool.or_true, Bool.true_or]
  have ta : List.take L.length (ints a) = ints a := List.take_of_length_le (by rw [ik_length]; omega)
  rw [ta]
  rw [iter_runx (fun k : Nat => (ipT a dd k, (k : Int), ())) 0 (ipT a dd L.length, (L.length : Int), ()) L.length ?_ ?_ ?_ (by omega)]
  · simp only [obs, rC_c, rA_agg, rT_tup, rP_ptr, rW_own, rS_sb, rF_sb, uncV_cons, uncO_cons, nilV_nil, rO_ob, rN_ob, unc_cons, asI_int, asB_bool, asS_string, asSl_sl, asSl_nl, asFn_fn, asP_cp, nrm_sl, nrm_nl, need_true, ct, cf, bd_eq, natD_zero, natD_succ, natD_one, noYl_v, noYl_sl, noYl_nl, noYl_cp, noYl_fn, Bool.and_true, Bool.true_and, Bool.and_self, beqN_self, Bool.not_true, Bool.not_false, Bool.and_false, Bool.false_and, Bool.or_false, Bool.false_or, Bool.or_true, Bool.true_or]
    rw [iter_runx (fun k : Nat => (ipT x b k, (k : Int), ())) 0 (ipT x b m, (m : Int), ()) m ?_ ?_ ?_ (by omega)]
    · simp (disch := omega) only [obs, rC_c, rA_agg, rT_tup, rP_ptr, rW_own, rS_sb, rF_sb, uncV_cons, uncO_cons, nilV_nil, rO_ob, rN_ob, unc_cons, asI_int, asB_bool, asS_string, asSl_sl, asSl_nl, asFn_fn, asP_cp, nrm_sl, nrm_nl, need_true, ct, cf, bd_eq, natD_zero, natD_succ, natD_one, noYl_v, noYl_sl, noYl_nl, noYl_cp, noYl_fn, Bool.and_true, Bool.true_and, Bool.and_self, beqN_self, Bool.not_true, Bool.not_false, Bool.and_false, Bool.false_and, Bool.or_false, Bool.false_or, Bool.or_true, Bool.true_or, wrap_in, dlt_t, dlt_f, dle_t, dle_f, dgt_t, dgt_f, dge_t, dge_f, ibeq_t, ibeq_f, ibne_t, ibne_f, inR_int, beqN_eq, bleN_le, haw]
    · rfl
    · intro k hk
      have hkx : k < x.length := by omega
      have hkb : k < b.length := by omega
      have u1 := unc_ik (kd := .i64) hkx (R := Nat × Int × Int × Unit)
      have u2 := unc_ik (kd := .i64) hkb (R := Nat × Int × Int × Unit)
      rw [at0_eq hkx] at u1
      rw [at0_eq hkb] at u2
      have p := mul_bd2 (by decide) (at0_bd (by decide) hxb k) (at0_bd (by decide) hTb k)
      have q := b2 k
      have q1 := b2 (k + 1)
      simp only [ipT] at q1 ⊢
      have w1 : IntKind.i64.wrap (at0 x k * at0 b k) = at0 x k * at0 b k := by
        generalize at0 x k * at0 b k = z at *
        exact wrap_in (by omega) (by omega)
      have w2 : IntKind.i64.wrap (ipT x b k + at0 x k * at0 b k) = ipT x b k + at0 x k * at0 b k := by
        generalize at0 x k * at0 b k = z at *
        exact wrap_in (by omega) (by omega)
      simp (disch := omega) only [obs, rC_c, rA_agg, rT_tup, rP_ptr, rW_own, rS_sb, rF_sb, uncV_cons, uncO_cons, nilV_nil, rO_ob, rN_ob, unc_cons, asI_int, asB_bool, asS_string, asSl_sl, asSl_nl, asFn_fn, asP_cp, nrm_sl, nrm_nl, need_true, ct, cf, bd_eq, natD_zero, natD_succ, natD_one, noYl_v, noYl_sl, noYl_nl, noYl_cp, noYl_fn, Bool.and_true, Bool.true_and, Bool.and_self, beqN_self, Bool.not_true, Bool.not_false, Bool.and_false, Bool.false_and, Bool.or_false, Bool.false_or, Bool.or_true, Bool.true_or, wrap_in, dlt_t, dlt_f, dle_t, dle_f, dgt_t, dgt_f, dge_t, dge_f, ibeq_t, ibeq_f, ibne_t, ibne_f, inR_int, beqN_eq, bleN_le, Int.toNat_natCast, Nat.mul_one, u1, u2, w1, w2, Int.natCast_add, Int.natCast_one]
    · simp (disch := omega) only [obs, rC_c, rA_agg, rT_tup, rP_ptr, rW_own, rS_sb, rF_sb, uncV_cons, uncO_cons, nilV_nil, rO_ob, rN_ob, unc_cons, asI_int, asB_bool, asS_string, asSl_sl, asSl_nl, asFn_fn, asP_cp, nrm_sl, nrm_nl, need_true, ct, cf, bd_eq, natD_zero, natD_succ, natD_one, noYl_v, noYl_sl, noYl_nl, noYl_cp, noYl_fn, Bool.and_true, Bool.true_and, Bool.and_self, beqN_self, Bool.not_true, Bool.not_false, Bool.and_false, Bool.false_and, Bool.or_false, Bool.false_or, Bool.or_true, Bool.true_or, wrap_in, dlt_t, dlt_f, dle_t, dle_f, dgt_t, dgt_f, dge_t, dge_f, ibeq_t, ibeq_f, ibne_t, ibne_f, inR_int, beqN_eq, bleN_le]
  · rfl
  · intro k hk
    have hka : k < a.length := by omega
    have hkd : k < dd.length := by omega
    have u1 := unc_ik (kd := .i64) hka (R := Nat × Int × Int × Unit)
    have u2 := unc_ik (kd := .i64) hkd (R := Nat × Int × Int × Unit)
    rw [at0_eq hka] at u1
    rw [at0_eq hkd] at u2
    have p := mul_bd2 (by decide) (at0_bd (by decide) hAb k) (at0_bd (by decide) hdb k)
    have q := b1 k
    have q1 := b1 (k + 1)
    simp only [ipT] at q1 ⊢
    have w1 : IntKind.i64.wrap (at0 a k * at0 dd k) = at0 a k * at0 dd k := by
      generalize at0 a k * at0 dd k = z at *
      exact wrap_in (by omega) (by omega)
    have w2 : IntKind.i64.wrap (ipT a dd k + at0 a k * at0 dd k) = ipT a dd k + at0 a k * at0 dd k := by
      generalize at0 a k * at0 dd k = z at *
      exact wrap_in (by omega) (by omega)
    simp (disch := omega) only [obs, rC_c, rA_agg, rT_tup, rP_ptr, rW_own, rS_sb, rF_sb, uncV_cons, uncO_cons, nilV_nil, rO_ob, rN_ob, unc_cons, asI_int, asB_bool, asS_string, asSl_sl, asSl_nl, asFn_fn, asP_cp, nrm_sl, nrm_nl, need_true, ct, cf, bd_eq, natD_zero, natD_succ, natD_one, noYl_v, noYl_sl, noYl_nl, noYl_cp, noYl_fn, Bool.and_true, Bool.true_and, Bool.and_self, beqN_self, Bool.not_true, Bool.not_false, Bool.and_false, Bool.false_and, Bool.or_false, Bool.false_or, Bool.or_true, Bool.true_or, wrap_in, dlt_t, dlt_f, dle_t, dle_f, dgt_t, dgt_f, dge_t, dge_f, ibeq_t, ibeq_f, ibne_t, ibne_f, inR_int, beqN_eq, bleN_le, Int.toNat_natCast, Nat.mul_one, u1, u2, w1, w2, Int.natCast_add, Int.natCast_one]
  · simp (disch := omega) only [obs, rC_c, rA_agg, rT_tup, rP_ptr, rW_own, rS_sb, rF_sb, uncV_cons, uncO_cons, nilV_nil, rO_ob, rN_ob, unc_cons, asI_int, asB_bool, asS_string, asSl_sl, asSl_nl, asFn_fn, asP_cp, nrm_sl, nrm_nl, need_true, ct, cf, bd_eq, natD_zero, natD_succ, natD_one, noYl_v, noYl_sl, noYl_nl, noYl_cp, noYl_fn, Bool.and_true, Bool.true_and, Bool.and_self, beqN_self, Bool.not_true, Bool.not_false, Bool.and_false, Bool.false_and, Bool.or_false, Bool.false_or, Bool.or_true, Bool.true_or, wrap_in, dlt_t, dlt_f, dle_t, dle_f, dgt_t, dgt_f, dge_t, dge_f, ibeq_t, ibeq_f, ibne_t, ibne_f, inR_int, beqN_eq, bleN_le]
end Go.Proofs.YtobmbacppbkgeaaDoor
/- The values of rows are linear: in plain words and of the program. -/
namespace Go.Proofs.YtobmbacppbkgeaaDoor
open Go Go.PM Go.Grid

theorem fill_put {a : List Int} {j m : Nat} (ha : a.length = j) (hj : j < m) (v : Int) : putAt (ints (a ++ List.replicate (m - j) 0)) j [C.v (.int .i64 v)] = ints ((a ++ [v]) ++ List.replicate (m - (j + 1)) 0) := by
  rw [ik_put (by simp [ha]; omega)]
  refine congrArg (ik .i64) ?_
  rw [List.set_append, if_neg (by omega), ha, Nat.sub_self, show m - j = (m - (j + 1)) + 1 by omega, List.replicate_succ]
  simp
theorem fill_length {a : List Int} {j m : Nat} (ha : a.length = j) (hj : j ≤ m) : (a ++ List.replicate (m - j) (0 : Int)).length = m := by simp [ha]; omega
def linT (x y : List Int) (k : Int) (j : Nat) : List Int := (List.range j).map fun i => at0 x i + k * at0 y i
theorem linT_length (x y : List Int) (k : Int) (j : Nat) : (linT x y k j).length = j := by simp [linT]
theorem linT_succ (x y : List Int) (k : Int) (j : Nat) : linT x y k (j + 1) = linT x y k j ++ [at0 x j + k * at0 y j] := by simp [linT, List.range_succ]
theorem at0_linT (x y : List Int) (k : Int) {m i : Nat} (h : i < m) : at0 (linT x y k m) i = at0 x i + k * at0 y i := by
  rw [← at0_eq (by rw [linT_length]; exact h)]; simp [linT]
theorem at0_rep (m : Nat) (k : Int) {i : Nat} (h : i < m) : at0 (List.replicate m k) i = k := by
  rw [← at0_eq (by simpa using h)]; simp
theorem dotR_lin (x y : List Int) (k : Int) (m : Nat) : ∀ sh : List (Nat × Nat), (∀ s ∈ sh, s.1 < m) → dotR sh (linT x y k m) = dotR sh x + k * dotR sh y
  | [], _ => by simp [dotR]
  | s :: sh, h => by
    have ih := dotR_lin x y k m sh (fun t ht => h t (by simp [ht]))
    simp only [dotR, List.map_cons, List.sum_cons] at ih ⊢
    rw [ih, at0_linT x y k (h s (by simp)), Int.mul_add, Int.mul_add, Int.mul_left_comm]
    omega
theorem dotR_rep (m : Nat) (k : Int) : ∀ sh : List (Nat × Nat), (∀ s ∈ sh, s.1 < m) → dotR sh (List.replicate m k) = wsum sh * k
  | [], _ => by simp [dotR, wsum]
  | s :: sh, h => by
    have ih := dotR_rep m k sh (fun t ht => h t (by simp [ht]))
    simp only [dotR, wsum, List.map_cons, List.sum_cons] at ih ⊢
    rw [ih, at0_rep m k (h s (by simp)), Int.add_mul]
theorem at0_dep (L : List Rw) (x : List Int) (j : Nat) (h : j < L.length) : at0 (depR L x) j = 840 * L[j].v - dotR L[j].sh x := by
  rw [← at0_eq (by simpa [depR] using h)]; simp [depR]

set_option maxRecDepth 20000 in
set_option maxHeartbeats 4000000 in
theorem sp_OperatorLinear (fu d : Nat) (hf : 18446744073709551616 ≤ fu) (l : List Int) (kk : Int) :
    cl fu (d + 10) fn_synopticlaw21_OperatorLinear [V.c (C.sl l.length (ints l)), I kk] [] = OK (B true) := by
  have hN := sp_New fu (d + 8) l
  have hl : (l.take 2000).length ≤ 2000 := by simp; omega
  obtain ⟨n, L, w, j1, hn, hL, hok, hw, hR⟩ := sp_rows fu d hf (l.take 2000) 0 hl
  have hfr := freq4 hn
  have hc := count4 hn
  have hrows := okRows hfr (w := w) (by omega) L 0 hok
  have hlen := rowsF_length n w L 0
  generalize hm : 10 * n * n + 2 = m at *
  generalize rowsF n w 0 L = R at *
  obtain ⟨x, j2, hx, hxb, hV1⟩ := sp_values fu (d + 5) hf (l.take 2000) j1 hl m (by omega) 1048576 (by omega)
  obtain ⟨y, j3, hy, hyb, hV2⟩ := sp_values fu (d + 5) hf (l.take 2000) j2 hl m (by omega) 1048576 (by omega)
  obtain ⟨k0, hM, hk1, hk2⟩ := sp_Mod fu (d + 8) kk 1000 (by omega)
  have hxb : bd0 2097652 x := fun v hv => by have := hxb v hv; omega
  have hyb : bd0 2097652 y := fun v hv => by have := hyb v hv; omega
  generalize hk : k0 - 500 = k at *
  have hkb : -500 ≤ k ∧ k ≤ 499 := by omega
  have hzl := linT_length x y k m
  have hzat : ∀ i, i < m → -1052000000 ≤ at0 x i + k * at0 y i ∧ at0 x i + k * at0 y i ≤ 1052000000 := fun i _ => by
    have h1 := at0_bd (by decide) hxb i
    have h2 := mul_bd2 (a := 500) (by decide) (show -500 ≤ k ∧ k ≤ 500 by omega) (at0_bd (by decide) hyb i)
    omega
  have hzb : bd0 1052000000 (linT x y k m) := by
    intro v hv
    obtain ⟨i, hi, rfl⟩ := List.mem_map.1 hv
    exact hzat i (List.mem_range.1 hi)
  have hfb : bd0 500 (List.replicate m k) := fun v hv => by have := List.eq_of_mem_replicate hv; omega
  have hA := sp_Apply fu (d + 2) hf m (by omega) R (by omega) hrows x hx (bd_of (by omega) hxb)
  have hB := sp_Apply fu (d + 2) hf m (by omega) R (by omega) hrows y hy (bd_of (by omega) hyb)
  have hC := sp_Apply fu (d + 2) hf m (by omega) R (by omega) hrows _ hzl (bd_of (by omega) hzb)
  have hD := sp_Apply fu (d + 2) hf m (by omega) R (by omega) hrows (List.replicate m k) (by simp) (bd_of (by omega) hfb)
  have hE := sp_Departures fu (d + 1) hf m (by omega) R (by omega) hrows (List.replicate m k) (by simp) (bd_of (by omega) hfb)
  have haw := sp_awake fu d hf
  have lA := applyR_length R x
  have lB := applyR_length R y
  have lC := applyR_length R (linT x y k m)
  have lD := applyR_length R (List.replicate m k)
  have lE : (depR R (List.replicate m k)).length = R.length := by simp [depR]
  rw [hlen] at hA hB hC hD hE lA lB lC lD lE
  unfold srcO srcC at hN hR hV1 hV2
  rw [hx] at hV1 hA
  rw [hy] at hV2 hB
  rw [hzl] at hC
  rw [List.length_replicate] at hD hE
  have hreps : reps m [C.v (.int .i64 0)] = ints (List.replicate m 0) := by unfold reps ints ik; simp
  have hwk : IntKind.i64.wrap (k0 - 500) = k := by rw [wrap_in (by omega) (by omega)]; exact hk
  rw [eq_synopticlaw21_OperatorLinear, hN]
  simp only [obs, rC_c, rA_agg, rT_tup, rP_ptr, rW_own, rS_sb, rF_sb, uncV_cons, uncO_cons, nilV_nil, rO_ob, rN_ob, unc_cons, asI_int, asB_bool, asS_string, asSl_sl, asSl_nl, asFn_fn, asP_cp, nrm_sl, nrm_nl, need_true, ct, cf, bd_eq, natD_zero, natD_succ, natD_one, noYl_v, noYl_sl, noYl_nl, noYl_cp, noYl_fn, Bool.and_true, Bool.true_and, Bool.and_self, beqN_self, Bool.not_true, Bool.not_false, Bool.and_false, Bool.false_and, Bool.or_false, Bool.false_or, Bool.or_true, Bool.true_or, List.length_cons, List.length_nil, Nat.zero_add, Nat.reduceAdd, Nat.reduceMul, Int.toNat_zero, Int.toNat_one, Nat.zero_mul, List.drop_zero, Int.natCast_one, List.drop_succ_cons, List.cons_append, List.nil_append, Nat.add_zero, show OUT = 1000000 from rfl]
  rw [hR]
  simp only [obs, rC_c, rA_agg, rT_tup, rP_ptr, rW_own, rS_sb, rF_sb, uncV_cons, uncO_cons, nilV_nil, rO_ob, rN_ob, unc_cons, asI_int, asB_bool, asS_string, asSl_sl, asSl_nl, asFn_fn, asP_cp, nrm_sl, nrm_nl, need_true, ct, cf, bd_eq, natD_zero, natD_succ, natD_one, noYl_v, noYl_sl, noYl_nl, noYl_cp, noYl_fn, Bool.and_true, Bool.true_and, Bool.and_self, beqN_self, Bool.not_true, Bool.not_false, Bool.and_false, Bool.false_and, Bool.or_false, Bool.false_or, Bool.or_true, Bool.true_or, List.length_cons, List.length_nil, Nat.zero_add, Nat.reduceAdd, Nat.reduceMul, Int.toNat_zero, Int.toNat_one, Nat.zero_mul, List.drop_zero, Int.natCast_one, List.drop_succ_cons, List.cons_append, List.nil_append]
  rw [hV1]
  simp only [obs, rC_c, rA_agg, rT_tup, rP_ptr, rW_own, rS_sb, rF_sb, uncV_cons, uncO_cons, nilV_nil, rO_ob, rN_ob, unc_cons, asI_int, asB_bool, asS_string, asSl_sl, asSl_nl, asFn_fn, asP_cp, nrm_sl, nrm_nl, need_true, ct, cf, bd_eq, natD_zero, natD_succ, natD_one, noYl_v, noYl_sl, noYl_nl, noYl_cp, noYl_fn, Bool.and_true, Bool.true_and, Bool.and_self, beqN_self, Bool.not_true, Bool.not_false, Bool.and_false, Bool.false_and, Bool.or_false, Bool.false_or, Bool.or_true, Bool.true_or, List.length_cons, List.length_nil, Nat.zero_add, Nat.reduceAdd, Nat.reduceMul, Int.toNat_zero, Int.toNat_one, Nat.zero_mul, List.drop_zero, Int.natCast_one, List.drop_succ_cons, List.cons_append, List.nil_append]
  rw [hV2]
  simp only [obs, rC_c, rA_agg, rT_tup, rP_ptr, rW_own, rS_sb, rF_sb, uncV_cons, uncO_cons, nilV_nil, rO_ob, rN_ob, unc_cons, asI_int, asB_bool, asS_string, asSl_sl, asSl_nl, asFn_fn, asP_cp, nrm_sl, nrm_nl, need_true, ct, cf, bd_eq, natD_zero, natD_succ, natD_one, noYl_v, noYl_sl, noYl_nl, noYl_cp, noYl_fn, Bool.and_true, Bool.true_and, Bool.and_self, beqN_self, Bool.not_true, Bool.not_false, Bool.and_false, Bool.false_and, Bool.or_false, Bool.false_or, Bool.or_true, Bool.true_or, List.length_cons, List.length_nil, Nat.zero_add, Nat.reduceAdd, Nat.reduceMul, Int.toNat_zero, Int.toNat_one, Nat.zero_mul, List.drop_zero, Int.natCast_one, List.drop_succ_cons, List.cons_append, List.nil_append]
  rw [hM]
  simp only [obs, rC_c, rA_agg, rT_tup, rP_ptr, rW_own, rS_sb, rF_sb, uncV_cons, uncO_cons, nilV_nil, rO_ob, rN_ob, unc_cons, asI_int, asB_bool, asS_string, asSl_sl, asSl_nl, asFn_fn, asP_cp, nrm_sl, nrm_nl, need_true, ct, cf, bd_eq, natD_zero, natD_succ, natD_one, noYl_v, noYl_sl, noYl_nl, noYl_cp, noYl_fn, Bool.and_true, Bool.true_and, Bool.and_self, beqN_self, Bool.not_true, Bool.not_false, Bool.and_false, Bool.false_and, Bool.or_false, Bool.false_or, Bool.or_true, Bool.true_or, List.length_cons, List.length_nil, Nat.zero_add, Nat.reduceAdd, Nat.reduceMul, Int.toNat_zero, Int.toNat_one, Nat.zero_mul, List.drop_zero, Int.natCast_one, List.drop_succ_cons, List.cons_append, List.nil_append, hwk, Int.toNat_natCast, hreps, ik_length, List.length_replicate, Nat.mul_one]
  rw [dle_t (show (0 : Int) ≤ (m : Int) by omega), dle_t (show (m : Int) ≤ (m : Int) by omega), dle_t (show (8 : Int) * (m : Int) ≤ 140737488355328 by omega), dle_t (show (m : Int) ≤ 140737488355328 by omega)]
  simp only [obs, rC_c, rA_agg, rT_tup, rP_ptr, rW_own, rS_sb, rF_sb, uncV_cons, uncO_cons, nilV_nil, rO_ob, rN_ob, unc_cons, asI_int, asB_bool, asS_string, asSl_sl, asSl_nl, asFn_fn, asP_cp, nrm_sl, nrm_nl, need_true, ct, cf, bd_eq, natD_zero, natD_succ, natD_one, noYl_v, noYl_sl, noYl_nl, noYl_cp, noYl_fn, Bool.and_true, Bool.true_and, Bool.and_self, beqN_self, Bool.not_true, Bool.not_false, Bool.and_false, Bool.false_and, Bool.or_false, Bool.false_or, Bool.or_true, Bool.true_or]
  rw [iter_runx (fun j : Nat => (ints (linT x y k j ++ List.replicate (m - j) 0), ints (List.replicate j k ++ List.replicate (m - j) 0), (j : Int), ())) 0 (ints (linT x y k m), ints (List.replicate m k), (m : Int), ()) m ?_ ?_ ?_ (by omega)]
  · have t1 : List.take m (ints (linT x y k m)) = ints (linT x y k m) := List.take_of_length_le (by rw [ik_length, hzl]; omega)
    have t2 : List.take m (ints (List.replicate m k)) = ints (List.replicate m k) := List.take_of_length_le (by simp)
    simp only [obs, rC_c, rA_agg, rT_tup, rP_ptr, rW_own, rS_sb, rF_sb, uncV_cons, uncO_cons, nilV_nil, rO_ob, rN_ob, unc_cons, asI_int, asB_bool, asS_string, asSl_sl, asSl_nl, asFn_fn, asP_cp, nrm_sl, nrm_nl, need_true, ct, cf, bd_eq, natD_zero, natD_succ, natD_one, noYl_v, noYl_sl, noYl_nl, noYl_cp, noYl_fn, Bool.and_true, Bool.true_and, Bool.and_self, beqN_self, Bool.not_true, Bool.not_false, Bool.and_false, Bool.false_and, Bool.or_false, Bool.false_or, Bool.or_true, Bool.true_or, ik_length, hzl, List.length_replicate, one_div, Nat.mul_one, Nat.zero_add, t1, t2]
    rw [hA]
    simp only [obs, rC_c, rA_agg, rT_tup, rP_ptr, rW_own, rS_sb, rF_sb, uncV_cons, uncO_cons, nilV_nil, rO_ob, rN_ob, unc_cons, asI_int, asB_bool, asS_string, asSl_sl, asSl_nl, asFn_fn, asP_cp, nrm_sl, nrm_nl, need_true, ct, cf, bd_eq, natD_zero, natD_succ, natD_one, noYl_v, noYl_sl, noYl_nl, noYl_cp, noYl_fn, Bool.and_true, Bool.true_and, Bool.and_self, beqN_self, Bool.not_true, Bool.not_false, Bool.and_false, Bool.false_and, Bool.or_false, Bool.false_or, Bool.or_true, Bool.true_or, List.length_cons, List.length_nil, Nat.zero_add, Nat.reduceAdd, Nat.reduceMul, Int.toNat_zero, Int.toNat_one, Nat.zero_mul, List.drop_zero, Int.natCast_one, List.drop_succ_cons, List.cons_append, List.nil_append, Nat.add_zero, show OUT = 1000000 from rfl, ik_length, lA, Nat.mul_one]
    rw [hB]
    simp only [obs, rC_c, rA_agg, rT_tup, rP_ptr, rW_own, rS_sb, rF_sb, uncV_cons, uncO_cons, nilV_nil, rO_ob, rN_ob, unc_cons, asI_int, asB_bool, asS_string, asSl_sl, asSl_nl, asFn_fn, asP_cp, nrm_sl, nrm_nl, need_true, ct, cf, bd_eq, natD_zero, natD_succ, natD_one, noYl_v, noYl_sl, noYl_nl, noYl_cp, noYl_fn, Bool.and_true, Bool.true_and, Bool.and_self, beqN_self, Bool.not_true, Bool.not_false, Bool.and_false, Bool.false_and, Bool.or_false, Bool.false_or, Bool.or_true, Bool.true_or, List.length_cons, List.length_nil, Nat.zero_add, Nat.reduceAdd, Nat.reduceMul, Int.toNat_zero, Int.toNat_one, Nat.zero_mul, List.drop_zero, Int.natCast_one, List.drop_succ_cons, List.cons_append, List.nil_append, Nat.add_zero, show OUT = 1000000 from rfl, ik_length, lB, Nat.mul_one, bleN_le (Nat.le_refl m)]
    rw [hC]
    simp only [obs, rC_c, rA_agg, rT_tup, rP_ptr, rW_own, rS_sb, rF_sb, uncV_cons, uncO_cons, nilV_nil, rO_ob, rN_ob, unc_cons, asI_int, asB_bool, asS_string, asSl_sl, asSl_nl, asFn_fn, asP_cp, nrm_sl, nrm_nl, need_true, ct, cf, bd_eq, natD_zero, natD_succ, natD_one, noYl_v, noYl_sl, noYl_nl, noYl_cp, noYl_fn, Bool.and_true, Bool.true_and, Bool.and_self, beqN_self, Bool.not_true, Bool.not_false, Bool.and_false, Bool.false_and, Bool.or_false, Bool.false_or, Bool.or_true, Bool.true_or, List.length_cons, List.length_nil, Nat.zero_add, Nat.reduceAdd, Nat.reduceMul, Int.toNat_zero, Int.toNat_one, Nat.zero_mul, List.drop_zero, Int.natCast_one, List.drop_succ_cons, List.cons_append, List.nil_append, Nat.add_zero, show OUT = 1000000 from rfl, ik_length, lC, Nat.mul_one]
    rw [hD]
    simp only [obs, rC_c, rA_agg, rT_tup, rP_ptr, rW_own, rS_sb, rF_sb, uncV_cons, uncO_cons, nilV_nil, rO_ob, rN_ob, unc_cons, asI_int, asB_bool, asS_string, asSl_sl, asSl_nl, asFn_fn, asP_cp, nrm_sl, nrm_nl, need_true, ct, cf, bd_eq, natD_zero, natD_succ, natD_one, noYl_v, noYl_sl, noYl_nl, noYl_cp, noYl_fn, Bool.and_true, Bool.true_and, Bool.and_self, beqN_self, Bool.not_true, Bool.not_false, Bool.and_false, Bool.false_and, Bool.or_false, Bool.false_or, Bool.or_true, Bool.true_or, List.length_cons, List.length_nil, Nat.zero_add, Nat.reduceAdd, Nat.reduceMul, Int.toNat_zero, Int.toNat_one, Nat.zero_mul, List.drop_zero, Int.natCast_one, List.drop_succ_cons, List.cons_append, List.nil_append, Nat.add_zero, show OUT = 1000000 from rfl, ik_length, lD, Nat.mul_one]
    rw [hE]
    simp only [obs, rC_c, rA_agg, rT_tup, rP_ptr, rW_own, rS_sb, rF_sb, uncV_cons, uncO_cons, nilV_nil, rO_ob, rN_ob, unc_cons, asI_int, asB_bool, asS_string, asSl_sl, asSl_nl, asFn_fn, asP_cp, nrm_sl, nrm_nl, need_true, ct, cf, bd_eq, natD_zero, natD_succ, natD_one, noYl_v, noYl_sl, noYl_nl, noYl_cp, noYl_fn, Bool.and_true, Bool.true_and, Bool.and_self, beqN_self, Bool.not_true, Bool.not_false, Bool.and_false, Bool.false_and, Bool.or_false, Bool.false_or, Bool.or_true, Bool.true_or]
    rw [ibne_f (show (0 : Int) = 0 from rfl), ibne_f (show (L.length : Int) = L.length from rfl), bleN_le (show L.length ≤ L.length from Nat.le_refl _)]
    simp only [obs, rC_c, rA_agg, rT_tup, rP_ptr, rW_own, rS_sb, rF_sb, uncV_cons, uncO_cons, nilV_nil, rO_ob, rN_ob, unc_cons, asI_int, asB_bool, asS_string, asSl_sl, asSl_nl, asFn_fn, asP_cp, nrm_sl, nrm_nl, need_true, ct, cf, bd_eq, natD_zero, natD_succ, natD_one, noYl_v, noYl_sl, noYl_nl, noYl_cp, noYl_fn, Bool.and_true, Bool.true_and, Bool.and_self, beqN_self, Bool.not_true, Bool.not_false, Bool.and_false, Bool.false_and, Bool.or_false, Bool.false_or, Bool.or_true, Bool.true_or]
    have u1 : List.take L.length (ints (applyR R x)) = ints (applyR R x) := List.take_of_length_le (by rw [ik_length]; omega)
    have u2 : List.take L.length (ints (applyR R y)) = ints (applyR R y) := List.take_of_length_le (by rw [ik_length]; omega)
    have u3 : List.take L.length (ints (applyR R (linT x y k m))) = ints (applyR R (linT x y k m)) := List.take_of_length_le (by rw [ik_length]; omega)
    have u4 : List.take L.length (ints (applyR R (List.replicate m k))) = ints (applyR R (List.replicate m k)) := List.take_of_length_le (by rw [ik_length]; omega)
    rw [u1, u2, u3, u4]
    rw [iter_runx (fun j : Nat => (false, (j : Int), ())) 0 (false, (L.length : Int), ()) L.length ?_ ?_ ?_ (by omega)]
    · simp only [obs, rC_c, rA_agg, rT_tup, rP_ptr, rW_own, rS_sb, rF_sb, uncV_cons, uncO_cons, nilV_nil, rO_ob, rN_ob, unc_cons, asI_int, asB_bool, asS_string, asSl_sl, asSl_nl, asFn_fn, asP_cp, nrm_sl, nrm_nl, need_true, ct, cf, bd_eq, natD_zero, natD_succ, natD_one, noYl_v, noYl_sl, noYl_nl, noYl_cp, noYl_fn, Bool.and_true, Bool.true_and, Bool.and_self, beqN_self, Bool.not_true, Bool.not_false, Bool.and_false, Bool.false_and, Bool.or_false, Bool.false_or, Bool.or_true, Bool.true_or, haw]
    · rfl
    · intro j hj
      have hjR : j < R.length := by omega
      have hr := hrows _ (List.getElem_mem hjR)
      have hs := okRow_sum hr
      have hlt : ∀ s ∈ R[j].sh, s.1 < m := fun s hs => (hr.2.1 s hs).1
      have d1 := dotR_bd (by decide) hxb R[j].sh
      have d2 := dotR_bd (by decide) hyb R[j].sh
      rw [hs] at d1 d2
      have hat := fl_at rwc_length hjR
      have a1 := unc_ik (kd := .i64) (show j < (applyR R x).length by omega) (R := Nat × Bool × Int × Unit)
      have a2 := unc_ik (kd := .i64) (show j < (applyR R y).length by omega) (R := Nat × Bool × Int × Unit)
      have a3 := unc_ik (kd := .i64) (show j < (applyR R (linT x y k m)).length by omega) (R := Nat × Bool × Int × Unit)
      have a4 := unc_ik (kd := .i64) (show j < (applyR R (List.replicate m k)).length by omega) (R := Nat × Bool × Int × Unit)
      have a5 := unc_ik (kd := .i64) (show j < (depR R (List.replicate m k)).length by omega) (R := Nat × Bool × Int × Unit)
      rw [at0_eq, at0_apply R _ j hjR] at a1 a2 a3 a4
      rw [at0_eq, at0_dep R _ j hjR] at a5
      rw [dotR_lin x y k m _ hlt] at a3
      rw [dotR_rep m k _ hlt, hs] at a4 a5
      have hv := hr.2.2.2.1
      have hp := mul_bd2 (a := 500) (by decide) (show -500 ≤ k ∧ k ≤ 500 by omega) (show -(840 * 2097652) ≤ dotR R[j].sh y ∧ dotR R[j].sh y ≤ 840 * 2097652 by omega)
      have w1 : IntKind.i64.wrap (k * dotR R[j].sh y) = k * dotR R[j].sh y := by
        generalize k * dotR R[j].sh y = q at *
        exact wrap_in (by omega) (by omega)
      have w2 : IntKind.i64.wrap (dotR R[j].sh x + k * dotR R[j].sh y) = dotR R[j].sh x + k * dotR R[j].sh y := by
        generalize k * dotR R[j].sh y = q at *
        exact wrap_in (by omega) (by omega)
      simp (disch := omega) only [obs, rC_c, rA_agg, rT_tup, rP_ptr, rW_own, rS_sb, rF_sb, uncV_cons, uncO_cons, nilV_nil, rO_ob, rN_ob, unc_cons, asI_int, asB_bool, asS_string, asSl_sl, asSl_nl, asFn_fn, asP_cp, nrm_sl, nrm_nl, need_true, ct, cf, bd_eq, natD_zero, natD_succ, natD_one, noYl_v, noYl_sl, noYl_nl, noYl_cp, noYl_fn, Bool.and_true, Bool.true_and, Bool.and_self, beqN_self, Bool.not_true, Bool.not_false, Bool.and_false, Bool.false_and, Bool.or_false, Bool.false_or, Bool.or_true, Bool.true_or, wrap_in, dlt_t, dlt_f, dle_t, dle_f, dgt_t, dgt_f, dge_t, dge_f, ibeq_t, ibeq_f, ibne_t, ibne_f, inR_int, beqN_eq, bleN_le, Int.toNat_natCast, Nat.mul_one, a1, a2, a3, a4, a5, w1, w2, hat, rwc, List.cons_append, List.nil_append, List.drop_succ_cons, List.drop_zero, Int.natCast_add, Int.natCast_one]
    · simp (disch := omega) only [obs, rC_c, rA_agg, rT_tup, rP_ptr, rW_own, rS_sb, rF_sb, uncV_cons, uncO_cons, nilV_nil, rO_ob, rN_ob, unc_cons, asI_int, asB_bool, asS_string, asSl_sl, asSl_nl, asFn_fn, asP_cp, nrm_sl, nrm_nl, need_true, ct, cf, bd_eq, natD_zero, natD_succ, natD_one, noYl_v, noYl_sl, noYl_nl, noYl_cp, noYl_fn, Bool.and_true, Bool.true_and, Bool.and_self, beqN_self, Bool.not_true, Bool.not_false, Bool.and_false, Bool.false_and, Bool.or_false, Bool.false_or, Bool.or_true, Bool.true_or, wrap_in, dlt_t, dlt_f, dle_t, dle_f, dgt_t, dgt_f, dge_t, dge_f, ibeq_t, ibeq_f, ibne_t, ibne_f, inR_int, beqN_eq, bleN_le]
  · simp [linT]
  · intro j hj
    have hjx : j < x.length := by omega
    have hjy : j < y.length := by omega
    have a1 := unc_ik (kd := .i64) hjx (R := Nat × List C × List C × Int × Unit)
    have a2 := unc_ik (kd := .i64) hjy (R := Nat × List C × List C × Int × Unit)
    rw [at0_eq] at a1 a2
    have h2 := mul_bd2 (a := 500) (by decide) (show -500 ≤ k ∧ k ≤ 500 by omega) (at0_bd (by decide) hyb j)
    have hz := hzat j hj
    have f1 := fill_put (linT_length x y k j) hj (at0 x j + k * at0 y j)
    have f2 := fill_put (a := List.replicate j k) (by simp) hj k
    rw [← linT_succ] at f1
    rw [← List.replicate_succ'] at f2
    have g1 := fill_length (linT_length x y k j) (show j ≤ m by omega)
    have g2 := fill_length (a := List.replicate j k) (List.length_replicate) (show j ≤ m by omega)
    have g3 := fill_length (linT_length x y k (j + 1)) (show j + 1 ≤ m by omega)
    have g4 := fill_length (a := List.replicate (j + 1) k) (List.length_replicate) (show j + 1 ≤ m by omega)
    have w1 : IntKind.i64.wrap (k * at0 y j) = k * at0 y j := by
      generalize k * at0 y j = q at *
      exact wrap_in (by omega) (by omega)
    have w2 : IntKind.i64.wrap (at0 x j + k * at0 y j) = at0 x j + k * at0 y j := by
      generalize k * at0 y j = q at *
      exact wrap_in (by omega) (by omega)
    simp (disch := omega) only [obs, rC_c, rA_agg, rT_tup, rP_ptr, rW_own, rS_sb, rF_sb, uncV_cons, uncO_cons, nilV_nil, rO_ob, rN_ob, unc_cons, asI_int, asB_bool, asS_string, asSl_sl, asSl_nl, asFn_fn, asP_cp, nrm_sl, nrm_nl, need_true, ct, cf, bd_eq, natD_zero, natD_succ, natD_one, noYl_v, noYl_sl, noYl_nl, noYl_cp, noYl_fn, Bool.and_true, Bool.true_and, Bool.and_self, beqN_self, Bool.not_true, Bool.not_false, Bool.and_false, Bool.false_and, Bool.or_false, Bool.false_or, Bool.or_true, Bool.true_or, wrap_in, dlt_t, dlt_f, dle_t, dle_f, dgt_t, dgt_f, dge_t, dge_f, ibeq_t, ibeq_f, ibne_t, ibne_f, inR_int, beqN_eq, bleN_le, Int.toNat_natCast, Nat.mul_one, a1, a2, w1, w2, f1, f2, g1, g2, g3, g4, ik_length, one_div, Nat.zero_add, Int.natCast_add, Int.natCast_one]
  · have g1 := hzl
    rw [Nat.sub_self, List.replicate_zero, List.append_nil, List.append_nil]
    simp (disch := omega) only [obs, rC_c, rA_agg, rT_tup, rP_ptr, rW_own, rS_sb, rF_sb, uncV_cons, uncO_cons, nilV_nil, rO_ob, rN_ob, unc_cons, asI_int, asB_bool, asS_string, asSl_sl, asSl_nl, asFn_fn, asP_cp, nrm_sl, nrm_nl, need_true, ct, cf, bd_eq, natD_zero, natD_succ, natD_one, noYl_v, noYl_sl, noYl_nl, noYl_cp, noYl_fn, Bool.and_true, Bool.true_and, Bool.and_self, beqN_self, Bool.not_true, Bool.not_false, Bool.and_false, Bool.false_and, Bool.or_false, Bool.false_or, Bool.or_true, Bool.true_or, wrap_in, dlt_t, dlt_f, dle_t, dle_f, dgt_t, dgt_f, dge_t, dge_f, ibeq_t, ibeq_f, ibne_t, ibne_f, inR_int, beqN_eq, bleN_le, ik_length, g1, List.length_replicate, one_div, Nat.mul_one]
end Go.Proofs.YtobmbacppbkgeaaDoor
/- The shares of all addresses of a place are the same, and they reproduce its weights: plain laws. -/
namespace Go.Grid

def crnI (f : Nat) : List Nat := [(crn f).1, (crn f).2.1, (crn f).2.2]
/-- The weights of a corner: cut down to the step, one more at a vertex. -/
def bump (s : Nat) (w : Nat → Nat) (k v : Nat) : Nat := w v - w v % s + if v = k then s else 0
theorem wt_1 (p : Pl) : wt p (crn p.f).1 = p.a := wt3_1 _ _ _ _
theorem wt_2 (p : Pl) : wt p (crn p.f).2.1 = p.b := wt3_2 (crn_apart _) _ _ _
theorem wt_3 (p : Pl) : wt p (crn p.f).2.2 = p.c := wt3_3 (crn_apart _) _ _ _
theorem wt_off {p : Pl} {v : Nat} (h : v ∉ crnI p.f) : wt p v = 0 := by
  simp only [crnI, List.mem_cons, List.not_mem_nil, or_false, not_or] at h
  simp only [wt, wt3, h.1, h.2.1, h.2.2, if_false]
theorem wt_pos {p : Pl} {v : Nat} (h : 0 < wt p v) : v ∈ crnI p.f := Classical.byContradiction fun e => by rw [wt_off e] at h; omega
theorem crnI_nodup (f : Nat) : (crnI f).Nodup := by
  obtain ⟨h1, h2, h3⟩ := crn_apart f
  simp [crnI, h1, h2, h3]

/-- The corners with their weights, by vertices: where the parts add up to one step. -/
def up (n : Nat) (p : Pl) (k : Nat) : Pl := ⟨p.f, bump (840 / n) (wt p) k (crn p.f).1, bump (840 / n) (wt p) k (crn p.f).2.1, bump (840 / n) (wt p) k (crn p.f).2.2⟩
theorem up_wt {n : Nat} {p : Pl} {k : Nat} (hk : k ∈ crnI p.f) : wt (up n p k) = bump (840 / n) (wt p) k := by
  funext v
  by_cases hv : v ∈ crnI p.f
  · simp only [crnI, List.mem_cons, List.not_mem_nil, or_false] at hv
    rcases hv with rfl | rfl | rfl
    · exact wt_1 (up n p k)
    · exact wt_2 (up n p k)
    · exact wt_3 (up n p k)
  · rw [wt_off (p := up n p k) hv]
    unfold bump
    rw [wt_off hv, if_neg (fun e : v = k => hv (by rw [e]; exact hk))]
    simp
theorem corners_up {n : Nat} (p : Pl) (h0 : ¬ rsum n p = 0) (h1 : rsum n p = 840 / n) : corners n p = (crnI p.f).map fun k => (up n p k, wt p k % (840 / n) * n) := by
  obtain ⟨q1, q2, q3⟩ := crn_apart p.f
  unfold corners crnI up bump
  rw [if_neg h0, if_pos h1]
  simp only [List.map_cons, List.map_nil, wt_1, wt_2, wt_3, if_true, if_neg q1, if_neg q2, if_neg q3, if_neg (Ne.symm q1), if_neg (Ne.symm q2), if_neg (Ne.symm q3), Nat.add_zero]

theorem rsum_wt (n : Nat) (p : Pl) : rsum n p = ((crnI p.f).map fun k => wt p k % (840 / n)).sum := by
  simp only [rsum, crnI, List.map_cons, List.map_nil, List.sum_cons, List.sum_nil, wt_1, wt_2, wt_3, Nat.add_zero, Nat.add_assoc]
theorem sum_pos_filter (g : Nat → Nat) : ∀ l : List Nat, (l.map g).sum = ((l.filter fun k => decide (0 < g k)).map g).sum
  | [] => rfl
  | k :: l => by
    rw [List.filter_cons]
    by_cases h : 0 < g k
    · rw [if_pos (by simpa using h)]; simp [sum_pos_filter g l]
    · rw [if_neg (by simpa using h)]; simp [sum_pos_filter g l]; omega
/-- The vertices where something is left over: the same for two addresses. -/
theorem left_perm {p q : Pl} (e : wt p = wt q) (g : Nat → Nat) (hg : ∀ k, wt p k = 0 → g k = 0) : ((crnI p.f).filter fun k => decide (0 < g k)).Perm ((crnI q.f).filter fun k => decide (0 < g k)) := by
  refine (List.perm_ext_iff_of_nodup ((crnI_nodup _).filter _) ((crnI_nodup _).filter _)).2 fun k => ?_
  simp only [List.mem_filter, decide_eq_true_eq]
  constructor
  · rintro ⟨_, h⟩
    exact ⟨wt_pos (by rw [← e]; exact Nat.pos_of_ne_zero fun h0 => by rw [hg k h0] at h; omega), h⟩
  · rintro ⟨_, h⟩
    exact ⟨wt_pos (Nat.pos_of_ne_zero fun h0 => by rw [hg k h0] at h; omega), h⟩
theorem rsum_same {n : Nat} {p q : Pl} (e : wt p = wt q) : rsum n p = rsum n q := by
  rw [rsum_wt, rsum_wt, sum_pos_filter, sum_pos_filter (fun k => wt q k % (840 / n)), ← e]
  exact ((left_perm e (fun k => wt p k % (840 / n)) (fun k h => by simp [h])).map _).sum_nat

theorem idx_wt {n : Nat} {p q : Pl} (hp : p.ok) (hq : q.ok) (e : wt p = wt q) : idx n p = idx n q := by unfold idx; rw [norm_of_wt hp hq e]
theorem raw_perm {n : Nat} (h : freq n) {p q : Pl} (hp : p.ok) (hq : q.ok) (e : wt p = wt q) : (raw n p).Perm (raw n q) := by
  have hrs := rsum_same (n := n) e
  have hst := step_pos h
  by_cases h0 : rsum n p = 0
  · have : raw n p = raw n q := by
      unfold raw corners
      rw [if_pos h0, if_pos (hrs ▸ h0)]
      simp [idx_wt hp hq e]
    rw [this]
  · by_cases h1 : rsum n p = 840 / n
    · have key : ∀ u : Pl, u.ok → rsum n u = 840 / n → raw n u = ((crnI u.f).filter fun k => decide (0 < wt u k % (840 / n) * n)).map fun k => (idx n (up n u k), wt u k % (840 / n) * n) := fun u hu hu1 => by
        unfold raw
        rw [corners_up u (by omega) hu1, List.filter_map, List.map_map]
        rfl
      rw [key p hp h1, key q hq (hrs ▸ h1)]
      have hl := left_perm e (fun k => wt p k % (840 / n) * n) (fun k h => by simp [h])
      have : ((crnI q.f).filter fun k => decide (0 < wt q k % (840 / n) * n)).map (fun k => (idx n (up n q k), wt q k % (840 / n) * n)) = ((crnI q.f).filter fun k => decide (0 < wt p k % (840 / n) * n)).map (fun k => (idx n (up n p k), wt p k % (840 / n) * n)) := by
        rw [e]
        refine List.map_congr_left fun k hk => ?_
        obtain ⟨k1, k2⟩ := List.mem_filter.1 hk
        have k2 := of_decide_eq_true k2
        have kp : k ∈ crnI p.f := wt_pos (by rw [e]; exact Nat.pos_of_ne_zero fun h0 => by rw [h0] at k2; simp at k2)
        have hcp := corners_pts h hp (up n p k, wt p k % (840 / n) * n) (by rw [corners_up p h0 h1]; exact List.mem_map.2 ⟨k, kp, rfl⟩)
        have hcq := corners_pts h hq (up n q k, wt q k % (840 / n) * n) (by rw [corners_up q (by omega) (hrs ▸ h1)]; exact List.mem_map.2 ⟨k, k1, rfl⟩)
        rw [idx_wt hcp.2.2 hcq.2.2 (by rw [up_wt kp, up_wt k1, e])]
      rw [this]
      exact hl.map _
    · have hr2 : rsum n p = 2 * (840 / n) := by have := rsum_cases h hp; omega
      have l1 := Nat.mod_lt p.a (show 0 < 840 / n by omega)
      have l2 := Nat.mod_lt p.b (show 0 < 840 / n by omega)
      have l3 := Nat.mod_lt p.c (show 0 < 840 / n by omega)
      unfold rsum at hr2
      have z1 : p.a ≠ 0 := fun e => by rw [e] at l1 hr2; simp at hr2; omega
      have z2 : p.b ≠ 0 := fun e => by rw [e] at l2 hr2; simp at hr2; omega
      have z3 : p.c ≠ 0 := fun e => by rw [e] at l3 hr2; simp at hr2; omega
      have hn := norm_inner hp (by omega) (by omega) (by omega)
      have hq1 : ∀ v, v ∈ crnI p.f → v ∈ crnI q.f := fun v hv => wt_pos (by
        rw [← e]
        simp only [crnI, List.mem_cons, List.not_mem_nil, or_false] at hv
        rcases hv with rfl | rfl | rfl
        · rw [wt_1]; omega
        · rw [wt_2]; omega
        · rw [wt_3]; omega)
      have hf : p.f = q.f := by
        have h1 := hq1 (crn p.f).1 (by simp [crnI])
        have h2 := hq1 (crn p.f).2.1 (by simp [crnI])
        have h3 := hq1 (crn p.f).2.2 (by simp [crnI])
        simp only [crnI, List.mem_cons, List.not_mem_nil, or_false] at h1 h2 h3
        exact congrArg Fin.val (faces_apart ⟨p.f, hp.1⟩ ⟨q.f, hq.1⟩ h1 h2 h3)
      rw [eq_of_wt hf e]
theorem asc_ext : ∀ {l l' : List (Nat × Nat)}, asc l → asc l' → l.Perm l' → l = l'
  | [], l', _, _, h => (List.nil_perm.1 h).symm
  | x :: r, [], _, _, h => by have := h.length_eq; simp at this
  | x :: r, y :: r', h, h', hp => by
    obtain ⟨a1, a2⟩ := List.pairwise_cons.1 h
    obtain ⟨b1, b2⟩ := List.pairwise_cons.1 h'
    have : x = y := by
      rcases List.mem_cons.1 (hp.mem_iff.1 (List.mem_cons_self)) with e | e
      · exact e
      · rcases List.mem_cons.1 (hp.mem_iff.2 (List.mem_cons_self)) with e' | e'
        · exact e'.symm
        · have := b1 x e; have := a1 y e'; omega
    subst this
    rw [asc_ext a2 b2 ((List.perm_cons _).1 hp)]
theorem shares_same {n : Nat} (h : freq n) {p q : Pl} (hp : p.ok) (hq : q.ok) (e : wt p = wt q) : shares n p = shares n q := by
  obtain ⟨a1, a2⟩ := shares_ok h hp
  obtain ⟨b1, b2⟩ := shares_ok h hq
  exact asc_ext a1 b1 (a2.trans ((raw_perm h hp hq e).trans b2.symm))

/-- The weights of the corners add up to those of the place. -/
theorem corners_wt {n : Nat} (h : freq n) {p : Pl} (hp : p.ok) (v : Nat) : ((corners n p).map fun c => c.2 * wt c.1 v).sum = 840 * wt p v := by
  have hst := step_pos h
  have hm := mul_step h
  have hr := rsum_cases h hp
  have l1 := Nat.mod_lt p.a (show 0 < 840 / n by omega)
  have l2 := Nat.mod_lt p.b (show 0 < 840 / n by omega)
  have l3 := Nat.mod_lt p.c (show 0 < 840 / n by omega)
  have e1 := Nat.div_add_mod p.a (840 / n)
  have e2 := Nat.div_add_mod p.b (840 / n)
  have e3 := Nat.div_add_mod p.c (840 / n)
  obtain ⟨q1, q2, q3⟩ := crn_apart p.f
  have hw : ∀ (a b c : Nat), wt ⟨p.f, a, b, c⟩ v = if v = (crn p.f).1 then a else if v = (crn p.f).2.1 then b else if v = (crn p.f).2.2 then c else 0 := fun _ _ _ => rfl
  have hwp : wt p v = if v = (crn p.f).1 then p.a else if v = (crn p.f).2.1 then p.b else if v = (crn p.f).2.2 then p.c else 0 := rfl
  unfold corners
  unfold rsum at *
  generalize hra : p.a % (840 / n) = ra at *
  generalize hrb : p.b % (840 / n) = rb at *
  generalize hrc : p.c % (840 / n) = rc at *
  generalize hda : 840 / n * (p.a / (840 / n)) = da at *
  generalize hdb : 840 / n * (p.b / (840 / n)) = db at *
  generalize hdc : 840 / n * (p.c / (840 / n)) = dc at *
  generalize 840 / n = s at *
  have ma : p.a - ra = da := by omega
  have mb : p.b - rb = db := by omega
  have mc : p.c - rc = dc := by omega
  have fac : ∀ r, r * n * s = 840 * r := fun r => by rw [Nat.mul_assoc, hm, Nat.mul_comm]
  split
  · simp
  · split
    · rename_i _ h1
      have ht : ra * n + rb * n + rc * n = 840 := by rw [← Nat.add_mul, ← Nat.add_mul, h1, Nat.mul_comm]; exact hm
      have hmul : ∀ z, ra * n * z + (rb * n * z + rc * n * z) = 840 * z := fun z => by rw [← Nat.add_mul, ← Nat.add_mul, ← Nat.add_assoc, ht]
      simp only [List.map_cons, List.map_nil, List.sum_cons, List.sum_nil, hw, hwp, ma, mb, mc, Nat.add_zero]
      have f1 := fac ra
      have f2 := fac rb
      have f3 := fac rc
      split
      · have := hmul da; rw [Nat.mul_add, f1]; omega
      · split
        · have := hmul db; rw [Nat.mul_add, f2]; omega
        · split
          · have := hmul dc; rw [Nat.mul_add, f3]; omega
          · simp
    · rename_i h0 h1
      have h2 : ra + rb + rc = 2 * s := by omega
      have ht : ra * n + rb * n + rc * n = 1680 := by rw [← Nat.add_mul, ← Nat.add_mul, h2, Nat.mul_assoc, Nat.mul_comm s, hm]
      have ba := Nat.mul_le_mul_right n (Nat.le_of_lt l1)
      have bb := Nat.mul_le_mul_right n (Nat.le_of_lt l2)
      have bc := Nat.mul_le_mul_right n (Nat.le_of_lt l3)
      rw [Nat.mul_comm s n, hm] at ba bb bc
      have f1 := fac ra
      have f2 := fac rb
      have f3 := fac rc
      generalize hxa : ra * n = xa at *
      generalize hxb : rb * n = xb at *
      generalize hxc : rc * n = xc at *
      obtain ⟨ya, hya⟩ : ∃ y, 840 - xa = y := ⟨_, rfl⟩
      obtain ⟨yb, hyb⟩ : ∃ y, 840 - xb = y := ⟨_, rfl⟩
      obtain ⟨yc, hyc⟩ : ∃ y, 840 - xc = y := ⟨_, rfl⟩
      have hy : ya + (yb + yc) = 840 := by omega
      have hmul : ∀ z, ya * z + (yb * z + yc * z) = 840 * z := fun z => by rw [← Nat.add_mul, ← Nat.add_mul, hy]
      have g1 : yb * s + yc * s = xa * s := by rw [← Nat.add_mul]; congr 1; omega
      have g2 : ya * s + yc * s = xb * s := by rw [← Nat.add_mul]; congr 1; omega
      have g3 : ya * s + yb * s = xc * s := by rw [← Nat.add_mul]; congr 1; omega
      simp only [List.map_cons, List.map_nil, List.sum_cons, List.sum_nil, hw, hwp, ma, mb, mc, Nat.add_zero, hya, hyb, hyc]
      split
      · have := hmul da; rw [Nat.mul_add, Nat.mul_add]; omega
      · split
        · have := hmul db; rw [Nat.mul_add, Nat.mul_add]; omega
        · split
          · have := hmul dc; rw [Nat.mul_add, Nat.mul_add]; omega
          · simp
end Go.Grid
/- Numbers given at the vertices, weighed at a place and at the nodes around it: plain laws; rows that are the same. -/
namespace Go.Grid
theorem sumI_perm {l l' : List Int} (h : l.Perm l') : l.sum = l'.sum := by
  induction h with
  | nil => rfl
  | cons x _ ih => simp only [List.sum_cons, ih]
  | swap x y l => simp only [List.sum_cons]; omega
  | trans _ _ a b => exact a.trans b
end Go.Grid
namespace Go.Proofs.YtobmbacppbkgeaaDoor
open Go Go.PM Go.Grid

/-- The sum of numbers at the first vertices, each with a weight. -/
def ipw (cn : List Int) (w : Nat → Nat) : Nat → Int
  | 0 => 0
  | k + 1 => ipw cn w k + (w k : Int) * at0 cn k
theorem ipw_zero (cn : List Int) : ∀ j, ipw cn (fun _ => 0) j = 0
  | 0 => rfl
  | j + 1 => by simp [ipw, ipw_zero cn j]
theorem ipw_add (cn : List Int) (a : Nat) (w F : Nat → Nat) : ∀ j, ipw cn (fun v => a * w v + F v) j = (a : Int) * ipw cn w j + ipw cn F j
  | 0 => by simp [ipw]
  | j + 1 => by
    simp only [ipw, ipw_add cn a w F j, Int.natCast_add, Int.natCast_mul, Int.add_mul, Int.mul_add, Int.mul_assoc]
    omega
theorem ipw_sum (cn : List Int) (j : Nat) : ∀ cs : List (Pl × Nat), (cs.map fun c => (c.2 : Int) * ipw cn (wt c.1) j).sum = ipw cn (fun v => (cs.map fun c => c.2 * wt c.1 v).sum) j
  | [] => by simpa using (ipw_zero cn j).symm
  | c :: cs => by
    simp only [List.map_cons, List.sum_cons, ipw_sum cn j cs]
    exact (ipw_add cn c.2 (wt c.1) _ j).symm
theorem ipw_scale (cn : List Int) (a : Nat) (w : Nat → Nat) (j : Nat) : ipw cn (fun v => a * w v) j = (a : Int) * ipw cn w j := by
  have := ipw_add cn a w (fun _ => 0) j
  rw [ipw_zero] at this
  simpa using this
theorem ipw_bd {cn : List Int} (hc : bd0 1000 cn) {w : Nat → Nat} (hw : ∀ v, w v ≤ 840) : ∀ j : Nat, -((j : Int) * 840000) ≤ ipw cn w j ∧ ipw cn w j ≤ (j : Int) * 840000
  | 0 => by simp [ipw]
  | j + 1 => by
    have ih := ipw_bd hc hw j
    have h1 := hw j
    have h2 := mul_bd2 (a := 840) (by decide) (show -840 ≤ (w j : Int) ∧ (w j : Int) ≤ 840 by omega) (at0_bd (by decide) hc j)
    simp only [ipw]
    omega

def xOf (cn : List Int) (n : Nat) : List Int := (nodes n).map fun q => ipw cn (wt q) 12
theorem xOf_length (cn : List Int) (n : Nat) : (xOf cn n).length = (nodes n).length := by simp [xOf]
theorem xOf_take (cn : List Int) (n : Nat) {j : Nat} (h : j < (nodes n).length) : (xOf cn n).take (j + 1) = (xOf cn n).take j ++ [ipw cn (wt (nodes n)[j]) 12] := by
  rw [List.take_succ_eq_append_getElem (by rw [xOf_length]; exact h)]; simp [xOf]
theorem at0_xOf (cn : List Int) {n : Nat} (h : freq n) {q : Pl} (hq : q ∈ pts n) : at0 (xOf cn n) (idx n q) = ipw cn (wt q) 12 := by
  have hi := idx_lt h hq
  rw [← at0_eq (by rw [xOf_length]; exact hi)]
  simp only [xOf, List.getElem_map, idx_at h hq, norm_wt (pts_ok h hq)]
theorem dotR_corners (cn : List Int) {n : Nat} (h : freq n) : ∀ cs : List (Pl × Nat), (∀ c ∈ cs, c.1 ∈ pts n) →
    dotR ((cs.filter fun c => decide (0 < c.2)).map fun c => (idx n c.1, c.2)) (xOf cn n) = (cs.map fun c => (c.2 : Int) * ipw cn (wt c.1) 12).sum
  | [], _ => rfl
  | c :: cs, hc => by
    have ih := dotR_corners cn h cs (fun x hx => hc x (by simp [hx]))
    rw [List.filter_cons]
    by_cases h0 : 0 < c.2
    · rw [if_pos (by simpa using h0)]
      simp only [dotR, List.map_cons, List.sum_cons] at ih ⊢
      rw [ih, at0_xOf cn h (hc c (by simp))]
    · rw [if_neg (by simpa using h0), ih]
      have : c.2 = 0 := by omega
      simp [this]
theorem dotR_shares (cn : List Int) {n : Nat} (h : freq n) {p : Pl} (hp : p.ok) : dotR (shares n p) (xOf cn n) = 840 * ipw cn (wt p) 12 := by
  have h1 : dotR (shares n p) (xOf cn n) = dotR (raw n p) (xOf cn n) := sumI_perm (((shares_ok h hp).2).map _)
  rw [h1]
  unfold raw
  rw [dotR_corners cn h _ (fun c hc => (corners_pts h hp c hc).1), ipw_sum]
  have : (fun v => ((corners n p).map fun c => c.2 * wt c.1 v).sum) = fun v => 840 * wt p v := funext fun v => corners_wt h hp v
  rw [this, ipw_scale]
  rfl

theorem shc_drop {l : List (Nat × Nat)} {j : Nat} (hj : j < l.length) : List.drop (j * 2) (fl shc l) = [.v (.int .i64 (l[j].1 : Nat)), .v (.int .i64 (l[j].2 : Nat))] ++ fl shc (l.drop (j + 1)) := fl_at shc_length hj
theorem sp_Shares (fu d : Nat) (hf : 18446744073709551616 ≤ fu) (l : List (Nat × Nat)) (hl : l.length ≤ 1000000) :
    cl fu (d + 1) fn_synopticref03_Shares [V.c (C.sl l.length (fl shc l)), V.c (C.sl l.length (fl shc l))] [] = OK (B true) := by
  rw [eq_synopticref03_Shares]
  rw [ibne_f (show (l.length : Int) = l.length from rfl)]
  simp only [obs, rC_c, rA_agg, rT_tup, rP_ptr, rW_own, rS_sb, rF_sb, uncV_cons, uncO_cons, nilV_nil, rO_ob, rN_ob, unc_cons, asI_int, asB_bool, asS_string, asSl_sl, asSl_nl, asFn_fn, asP_cp, nrm_sl, nrm_nl, need_true, ct, cf, bd_eq, natD_zero, natD_succ, natD_one, noYl_v, noYl_sl, noYl_nl, noYl_cp, noYl_fn, Bool.and_true, Bool.true_and, Bool.and_self, beqN_self, Bool.not_true, Bool.not_false, Bool.and_false, Bool.false_and, Bool.or_false, Bool.false_or, Bool.or_true, Bool.true_or]
  rw [iter_runx (fun j : Nat => (false, (j : Int), ())) 0 (false, (l.length : Int), ()) l.length ?_ ?_ ?_ (by omega)]
  · simp only [obs, rC_c, rA_agg, rT_tup, rP_ptr, rW_own, rS_sb, rF_sb, uncV_cons, uncO_cons, nilV_nil, rO_ob, rN_ob, unc_cons, asI_int, asB_bool, asS_string, asSl_sl, asSl_nl, asFn_fn, asP_cp, nrm_sl, nrm_nl, need_true, ct, cf, bd_eq, natD_zero, natD_succ, natD_one, noYl_v, noYl_sl, noYl_nl, noYl_cp, noYl_fn, Bool.and_true, Bool.true_and, Bool.and_self, beqN_self, Bool.not_true, Bool.not_false, Bool.and_false, Bool.false_and, Bool.or_false, Bool.false_or, Bool.or_true, Bool.true_or]
  · rfl
  · intro j hj
    have hat := shc_drop hj
    simp (disch := omega) only [obs, rC_c, rA_agg, rT_tup, rP_ptr, rW_own, rS_sb, rF_sb, uncV_cons, uncO_cons, nilV_nil, rO_ob, rN_ob, unc_cons, asI_int, asB_bool, asS_string, asSl_sl, asSl_nl, asFn_fn, asP_cp, nrm_sl, nrm_nl, need_true, ct, cf, bd_eq, natD_zero, natD_succ, natD_one, noYl_v, noYl_sl, noYl_nl, noYl_cp, noYl_fn, Bool.and_true, Bool.true_and, Bool.and_self, beqN_self, Bool.not_true, Bool.not_false, Bool.and_false, Bool.false_and, Bool.or_false, Bool.false_or, Bool.or_true, Bool.true_or, wrap_in, dlt_t, dlt_f, dle_t, dle_f, dgt_t, dgt_f, dge_t, dge_f, ibeq_t, ibeq_f, ibne_t, ibne_f, inR_int, beqN_eq, bleN_le, Int.toNat_natCast, hat, List.cons_append, List.nil_append, beq_self_eq_true, Int.natCast_add, Int.natCast_one]
  · simp (disch := omega) only [obs, rC_c, rA_agg, rT_tup, rP_ptr, rW_own, rS_sb, rF_sb, uncV_cons, uncO_cons, nilV_nil, rO_ob, rN_ob, unc_cons, asI_int, asB_bool, asS_string, asSl_sl, asSl_nl, asFn_fn, asP_cp, nrm_sl, nrm_nl, need_true, ct, cf, bd_eq, natD_zero, natD_succ, natD_one, noYl_v, noYl_sl, noYl_nl, noYl_cp, noYl_fn, Bool.and_true, Bool.true_and, Bool.and_self, beqN_self, Bool.not_true, Bool.not_false, Bool.and_false, Bool.false_and, Bool.or_false, Bool.false_or, Bool.or_true, Bool.true_or, wrap_in, dlt_t, dlt_f, dle_t, dle_f, dgt_t, dgt_f, dge_t, dge_f, ibeq_t, ibeq_f, ibne_t, ibne_f, inR_int, beqN_eq, bleN_le]
theorem sp_Same (fu d : Nat) (hf : 18446744073709551616 ≤ fu) (L : List Rw) (hl : L.length ≤ 1000000) (hs : ∀ r ∈ L, r.sh.length ≤ 1000000) :
    cl fu (d + 2) fn_synopticref21_Same [V.c (C.sl L.length (fl rwc L)), V.c (C.sl L.length (fl rwc L))] [] = OK (B true) := by
  rw [eq_synopticref21_Same]
  rw [ibne_f (show (L.length : Int) = L.length from rfl)]
  simp only [obs, rC_c, rA_agg, rT_tup, rP_ptr, rW_own, rS_sb, rF_sb, uncV_cons, uncO_cons, nilV_nil, rO_ob, rN_ob, unc_cons, asI_int, asB_bool, asS_string, asSl_sl, asSl_nl, asFn_fn, asP_cp, nrm_sl, nrm_nl, need_true, ct, cf, bd_eq, natD_zero, natD_succ, natD_one, noYl_v, noYl_sl, noYl_nl, noYl_cp, noYl_fn, Bool.and_true, Bool.true_and, Bool.and_self, beqN_self, Bool.not_true, Bool.not_false, Bool.and_false, Bool.false_and, Bool.or_false, Bool.false_or, Bool.or_true, Bool.true_or]
  rw [iter_runx (fun j : Nat => (false, (j : Int), ())) 0 (false, (L.length : Int), ()) L.length ?_ ?_ ?_ (by omega)]
  · simp only [obs, rC_c, rA_agg, rT_tup, rP_ptr, rW_own, rS_sb, rF_sb, uncV_cons, uncO_cons, nilV_nil, rO_ob, rN_ob, unc_cons, asI_int, asB_bool, asS_string, asSl_sl, asSl_nl, asFn_fn, asP_cp, nrm_sl, nrm_nl, need_true, ct, cf, bd_eq, natD_zero, natD_succ, natD_one, noYl_v, noYl_sl, noYl_nl, noYl_cp, noYl_fn, Bool.and_true, Bool.true_and, Bool.and_self, beqN_self, Bool.not_true, Bool.not_false, Bool.and_false, Bool.false_and, Bool.or_false, Bool.false_or, Bool.or_true, Bool.true_or]
  · rfl
  · intro j hj
    have hat := fl_at rwc_length hj
    have hS := sp_Shares fu d hf L[j].sh (hs _ (List.getElem_mem hj))
    have hb : ∀ x : Int, (x != x) = false := fun x => by simp
    simp (disch := omega) only [obs, rC_c, rA_agg, rT_tup, rP_ptr, rW_own, rS_sb, rF_sb, uncV_cons, uncO_cons, nilV_nil, rO_ob, rN_ob, unc_cons, asI_int, asB_bool, asS_string, asSl_sl, asSl_nl, asFn_fn, asP_cp, nrm_sl, nrm_nl, need_true, ct, cf, bd_eq, natD_zero, natD_succ, natD_one, noYl_v, noYl_sl, noYl_nl, noYl_cp, noYl_fn, Bool.and_true, Bool.true_and, Bool.and_self, beqN_self, Bool.not_true, Bool.not_false, Bool.and_false, Bool.false_and, Bool.or_false, Bool.false_or, Bool.or_true, Bool.true_or, wrap_in, dlt_t, dlt_f, dle_t, dle_f, dgt_t, dgt_f, dge_t, dge_f, ibeq_t, ibeq_f, ibne_t, ibne_f, inR_int, beqN_eq, bleN_le, Int.toNat_natCast, hat, rwc, List.cons_append, List.nil_append, List.drop_succ_cons, List.drop_zero, hb, hS, Int.natCast_add, Int.natCast_one]
  · simp (disch := omega) only [obs, rC_c, rA_agg, rT_tup, rP_ptr, rW_own, rS_sb, rF_sb, uncV_cons, uncO_cons, nilV_nil, rO_ob, rN_ob, unc_cons, asI_int, asB_bool, asS_string, asSl_sl, asSl_nl, asFn_fn, asP_cp, nrm_sl, nrm_nl, need_true, ct, cf, bd_eq, natD_zero, natD_succ, natD_one, noYl_v, noYl_sl, noYl_nl, noYl_cp, noYl_fn, Bool.and_true, Bool.true_and, Bool.and_self, beqN_self, Bool.not_true, Bool.not_false, Bool.and_false, Bool.false_and, Bool.or_false, Bool.false_or, Bool.or_true, Bool.true_or, wrap_in, dlt_t, dlt_f, dle_t, dle_f, dgt_t, dgt_f, dge_t, dge_f, ibeq_t, ibeq_f, ibne_t, ibne_f, inR_int, beqN_eq, bleN_le]
end Go.Proofs.YtobmbacppbkgeaaDoor
/- The rows of a place are the same for all addresses of it, and weigh the numbers at the vertices as the place does. -/
namespace Go.Proofs.YtobmbacppbkgeaaDoor
open Go Go.PM Go.Grid

def wl (w : Nat → Nat) : List Int := (List.range 12).map fun v => (w v : Int)
theorem wl_length (w : Nat → Nat) : (wl w).length = 12 := id rfl
theorem wcs_wl (w : Nat → Nat) : wcs w = ints (wl w) := id rfl
theorem at0_wl (w : Nat → Nat) {k : Nat} (h : k < 12) : at0 (wl w) k = (w k : Int) := by
  rw [← at0_eq (by rw [wl_length]; exact h)]; simp [wl]
theorem unc_at {R : Type} {l : List Int} {k : Nat} (h : k < l.length) (f : C → List C → Option R) : unc ((ints l).drop k) f = f (.v (.int .i64 (at0 l k))) (ints (l.drop (k + 1))) := by
  rw [unc_ik h, at0_eq h]
/-- The inner loop of the node values: one element filled, vertex by vertex. -/
theorem set_set' {L : List Int} (j : Nat) (a b : Int) : (L.set j a).set j b = L.set j b := List.set_set ..
theorem fill_set {a : List Int} {j m : Nat} (ha : a.length = j) (hj : j < m) (v : Int) : (a ++ List.replicate (m - j) 0).set j v = (a ++ [v]) ++ List.replicate (m - (j + 1)) 0 := by
  rw [List.set_append, if_neg (by omega), ha, Nat.sub_self, show m - j = (m - (j + 1)) + 1 by omega, List.replicate_succ]
  simp
theorem fill_set0 {a : List Int} {j m : Nat} (ha : a.length = j) (hj : j < m) : (a ++ List.replicate (m - j) 0).set j 0 = a ++ List.replicate (m - j) 0 := by
  rw [fill_set ha hj, show m - j = (m - (j + 1)) + 1 by omega, List.replicate_succ]
  simp
def adr (p : Pl) (l : List Pl) (j : Nat) : Pl := (p :: l).getD j p
abbrev adS (p : Pl) (AD : List Pl) (v : Int) (s : C) (i : Int) (j : Nat) : Bool × Int × (Int × ByteArray × Int × Int × Int × Int × Int × C × Unit) × (C × Int × Unit) × Unit :=
  (false, (j : Int), (0, ⟨#[]⟩, 0, ((adr p AD j).f : Int), ((adr p AD j).a : Int), ((adr p AD j).b : Int), ((adr p AD j).c : Int), C.sl 1 [C.v (.int .i64 1), C.v (.int .i64 v)], ()), (s, i, ()), ())
theorem adr_succ (p : Pl) {l : List Pl} {j : Nat} (h : j < l.length) : adr p l (j + 1) = l[j] := by simp [adr, h]

set_option maxRecDepth 20000 in
set_option maxHeartbeats 4000000 in
theorem sp_OperatorPlaces (fu d : Nat) (hf : 18446744073709551616 ≤ fu) (l : List Int) :
    cl fu (d + 10) fn_synopticlaw21_OperatorPlaces [V.c (C.sl l.length (ints l))] [] = OK (B true) := by
  have hN := sp_New fu (d + 8) l
  have hl : (l.take 2000).length ≤ 2000 := by simp; omega
  generalize l.take 2000 = z at *
  obtain ⟨n', j1, a1, b1, c1⟩ := sp_Range fu (d + 6) z 0 hl 1 4 (by omega) ⟨by omega, by omega⟩
  obtain ⟨f', j2, a2, b2, c2⟩ := sp_N fu (d + 7) z j1 hl 20 (by omega)
  obtain ⟨a', j3, a3, b3, c3⟩ := sp_N fu (d + 7) z j2 hl 841 (by omega)
  obtain ⟨b', j4, a4, b4, c4⟩ := sp_N fu (d + 7) z j3 hl (840 - a' + 1) (by omega)
  obtain ⟨v, j5, a5, b5, c5⟩ := sp_Some fu (d + 5) z j4 hl 1 (by omega)
  obtain ⟨n, rfl⟩ : ∃ n : Nat, n' = n := ⟨n'.toNat, by omega⟩
  obtain ⟨f, rfl⟩ : ∃ n : Nat, f' = n := ⟨f'.toNat, by omega⟩
  obtain ⟨a, rfl⟩ : ∃ n : Nat, a' = n := ⟨a'.toNat, by omega⟩
  obtain ⟨b, rfl⟩ : ∃ n : Nat, b' = n := ⟨b'.toNat, by omega⟩
  have hfr : freq n := freq4 (by omega)
  have hc := count4 (show 1 ≤ n ∧ n ≤ 4 by omega)
  have hp : Pl.ok ⟨f, a, b, 840 - a - b⟩ := ⟨by show f < 20; omega, by show a + b + (840 - a - b) = 840; omega⟩
  have hpc : IntKind.i64.wrap (IntKind.i64.wrap (840 - (a : Int)) - (b : Int)) = ((840 - a - b : Nat) : Int) := by
    rw [wrap_in (x := 840 - (a : Int)) (by omega) (by omega), wrap_in (by omega) (by omega)]; omega
  have hpn : IntKind.i64.wrap (IntKind.i64.wrap (840 - (a : Int)) + 1) = 840 - (a : Int) + 1 := by
    rw [wrap_in (x := 840 - (a : Int)) (by omega) (by omega), wrap_in (by omega) (by omega)]
  have hv : okV v := ⟨b5, c5⟩
  have hP : ∀ i : Nat, ∃ q : Int × Nat, (-1000 ≤ q.1 ∧ q.1 ≤ 1000) ∧ cl fu (d + 9) fn_synoptickeep_Src_Range [V.ptr 1000000 0, I (-1000), I 1000] [srcO z i] = some ⟨I q.1, [srcO z q.2], none⟩ := by
    intro i
    obtain ⟨v1, j1, a1, b1, c1⟩ := sp_Range fu (d + 6) z i hl (-1000) 1000 (by omega) ⟨by omega, by omega⟩
    exact ⟨(v1, j1), ⟨b1, c1⟩, a1⟩
  obtain ⟨F, hF⟩ := Classical.axiomOfChoice hP
  have hgl := gather_length F j5
  have hga := gather_all (P := fun v : Int => -1000 ≤ v ∧ v ≤ 1000) (F := F) (fun i => (hF i).1) j5 12
  have hcnl := hgl 12
  generalize hcn : (gather F j5 12).1 = cn at *
  have hcb : bd0 1000 cn := hga
  have hnodes := sp_ref_Nodes fu (d + 3) hf n hfr
  have hnl := nodes_length hfr
  have hadr := sp_ref_Addresses fu (d + 6) hf ⟨f, a, b, 840 - a - b⟩ hp
  have hadl : (addrs ⟨f, a, b, 840 - a - b⟩).length ≤ 20 := by
    unfold addrs addrsW
    exact Nat.le_trans (List.length_filter_le _ _) (by simp)
  have hWp := sp_ref_Weights fu (d + 7) ⟨f, a, b, 840 - a - b⟩ hp
  have hRow : ∀ q : Pl, q.ok → cl fu (d + 9) fn_operator_Rows [I n, V.c (C.sl 1 ([C.v (.int .i64 0), C.v (.string (⟨#[]⟩)), C.v (.int .i64 0), C.v (.int .i64 q.f), C.v (.int .i64 q.a), C.v (.int .i64 q.b), C.v (.int .i64 q.c), C.sl 1 ([C.v (.int .i64 1), C.v (.int .i64 v)])])), I 1, I 1] [] = OK (V.tup [V.c (C.sl 1 (fl rwc [⟨shares n q, v, 1, 0⟩])), I 0]) := fun q hq =>
    sp_Rows fu (d + 1) hf n hfr [(q, v)] (by simp) (fun x hx => by obtain rfl := List.mem_singleton.1 hx; exact ⟨hq, hv⟩) 1 (by omega)
  have hrows := okRows hfr (w := 1) (by omega) [(⟨f, a, b, 840 - a - b⟩, v)] 0 (fun x hx => by obtain rfl := List.mem_singleton.1 hx; exact ⟨hp, hv⟩)
  rw [rowsF_one] at hrows
  have hxl := xOf_length cn n
  have hxb : bd0 10080000 (xOf cn n) := by
    intro u hu
    obtain ⟨q, hq, rfl⟩ := List.mem_map.1 hu
    have := ipw_bd hcb (w := wt q) (wt_le (pts_ok hfr ((List.mem_filter.1 hq).1))) 12
    omega
  have hA := sp_Apply fu (d + 2) hf (10 * n * n + 2) (by omega) _ (by simp) hrows (xOf cn n) (by omega) (bd_of (by omega) hxb)
  have hApp : applyR [⟨shares n ⟨f, a, b, 840 - a - b⟩, v, 1, 0⟩] (xOf cn n) = [840 * ipw cn (wt ⟨f, a, b, 840 - a - b⟩) 12] := by
    simp only [applyR, List.map_cons, List.map_nil, dotR_shares cn hfr hp]
  have hSame := sp_Same fu (d + 7) hf [⟨shares n ⟨f, a, b, 840 - a - b⟩, v, 1, 0⟩] (by simp) (by
    intro r hr
    have := (hrows r hr).2.2.2.2.2
    omega)
  have hSame' : cl fu (d + 9) fn_synopticref21_Same [V.c (C.sl 1 (fl rwc [⟨shares n ⟨f, a, b, 840 - a - b⟩, v, 1, 0⟩])), V.c (C.sl 1 (fl rwc [⟨shares n ⟨f, a, b, 840 - a - b⟩, v, 1, 0⟩]))] [] = OK (B true) := hSame
  have hA : cl fu (d + 9) fn_operator_Apply [V.c (C.sl 1 (fl rwc [⟨shares n ⟨f, a, b, 840 - a - b⟩, v, 1, 0⟩])), V.c (C.sl (xOf cn n).length (ints (xOf cn n)))] [] = some ⟨V.tup [V.own 1000000 0 1, I 0], [.sb ty_int 0 (ints (applyR [⟨shares n ⟨f, a, b, 840 - a - b⟩, v, 1, 0⟩] (xOf cn n)))], none⟩ := hA
  rw [hApp] at hA
  rw [hxl] at hA
  have hwb := wt_le hp
  have hadO : ∀ q ∈ addrs ⟨f, a, b, 840 - a - b⟩, q.ok ∧ shares n q = shares n ⟨f, a, b, 840 - a - b⟩ := fun q hq => by
    obtain ⟨h1, h2⟩ := addrs_wt hp hq
    exact ⟨h1, shares_same hfr h1 hp h2⟩
  have haw := sp_awake fu d hf
  have hRp := hRow ⟨f, a, b, 840 - a - b⟩ hp
  generalize hsh : shares n ⟨f, a, b, 840 - a - b⟩ = sh at *
  generalize hwt : wt ⟨f, a, b, 840 - a - b⟩ = w at *
  have hWb := ipw_bd hcb hwb 12
  generalize addrs ⟨f, a, b, 840 - a - b⟩ = AD at *
  simp only [plc] at hadr hWp
  unfold srcO srcC at hN a1 a2 a3 a4 a5 hF
  have hreps : reps (nodes n).length [C.v (.int .i64 0)] = ints (List.replicate (nodes n).length 0) := by unfold reps ints ik; simp
  rw [eq_synopticlaw21_OperatorPlaces, hN]
  simp only [obs, rC_c, rA_agg, rT_tup, rP_ptr, rW_own, rS_sb, rF_sb, uncV_cons, uncO_cons, nilV_nil, rO_ob, rN_ob, unc_cons, asI_int, asB_bool, asS_string, asSl_sl, asSl_nl, asFn_fn, asP_cp, nrm_sl, nrm_nl, need_true, ct, cf, bd_eq, natD_zero, natD_succ, natD_one, noYl_v, noYl_sl, noYl_nl, noYl_cp, noYl_fn, Bool.and_true, Bool.true_and, Bool.and_self, beqN_self, Bool.not_true, Bool.not_false, Bool.and_false, Bool.false_and, Bool.or_false, Bool.false_or, Bool.or_true, Bool.true_or, List.length_cons, List.length_nil, Nat.zero_add, Nat.reduceAdd, Nat.reduceMul, Int.toNat_zero, Int.toNat_one, Nat.zero_mul, List.drop_zero, Int.natCast_one, List.drop_succ_cons, List.cons_append, List.nil_append, Nat.add_zero, show OUT = 1000000 from rfl]
  rw [a1]
  simp only [obs, rC_c, rA_agg, rT_tup, rP_ptr, rW_own, rS_sb, rF_sb, uncV_cons, uncO_cons, nilV_nil, rO_ob, rN_ob, unc_cons, asI_int, asB_bool, asS_string, asSl_sl, asSl_nl, asFn_fn, asP_cp, nrm_sl, nrm_nl, need_true, ct, cf, bd_eq, natD_zero, natD_succ, natD_one, noYl_v, noYl_sl, noYl_nl, noYl_cp, noYl_fn, Bool.and_true, Bool.true_and, Bool.and_self, beqN_self, Bool.not_true, Bool.not_false, Bool.and_false, Bool.false_and, Bool.or_false, Bool.false_or, Bool.or_true, Bool.true_or, List.length_cons, List.length_nil, Nat.zero_add, Nat.reduceAdd, Nat.reduceMul, Int.toNat_zero, Int.toNat_one, Nat.zero_mul, List.drop_zero, Int.natCast_one, List.drop_succ_cons, List.cons_append, List.nil_append]
  rw [a2]
  simp only [obs, rC_c, rA_agg, rT_tup, rP_ptr, rW_own, rS_sb, rF_sb, uncV_cons, uncO_cons, nilV_nil, rO_ob, rN_ob, unc_cons, asI_int, asB_bool, asS_string, asSl_sl, asSl_nl, asFn_fn, asP_cp, nrm_sl, nrm_nl, need_true, ct, cf, bd_eq, natD_zero, natD_succ, natD_one, noYl_v, noYl_sl, noYl_nl, noYl_cp, noYl_fn, Bool.and_true, Bool.true_and, Bool.and_self, beqN_self, Bool.not_true, Bool.not_false, Bool.and_false, Bool.false_and, Bool.or_false, Bool.false_or, Bool.or_true, Bool.true_or, List.length_cons, List.length_nil, Nat.zero_add, Nat.reduceAdd, Nat.reduceMul, Int.toNat_zero, Int.toNat_one, Nat.zero_mul, List.drop_zero, Int.natCast_one, List.drop_succ_cons, List.cons_append, List.nil_append]
  rw [a3]
  simp only [obs, rC_c, rA_agg, rT_tup, rP_ptr, rW_own, rS_sb, rF_sb, uncV_cons, uncO_cons, nilV_nil, rO_ob, rN_ob, unc_cons, asI_int, asB_bool, asS_string, asSl_sl, asSl_nl, asFn_fn, asP_cp, nrm_sl, nrm_nl, need_true, ct, cf, bd_eq, natD_zero, natD_succ, natD_one, noYl_v, noYl_sl, noYl_nl, noYl_cp, noYl_fn, Bool.and_true, Bool.true_and, Bool.and_self, beqN_self, Bool.not_true, Bool.not_false, Bool.and_false, Bool.false_and, Bool.or_false, Bool.false_or, Bool.or_true, Bool.true_or, List.length_cons, List.length_nil, Nat.zero_add, Nat.reduceAdd, Nat.reduceMul, Int.toNat_zero, Int.toNat_one, Nat.zero_mul, List.drop_zero, Int.natCast_one, List.drop_succ_cons, List.cons_append, List.nil_append]
  rw [hpn, a4]
  simp only [obs, rC_c, rA_agg, rT_tup, rP_ptr, rW_own, rS_sb, rF_sb, uncV_cons, uncO_cons, nilV_nil, rO_ob, rN_ob, unc_cons, asI_int, asB_bool, asS_string, asSl_sl, asSl_nl, asFn_fn, asP_cp, nrm_sl, nrm_nl, need_true, ct, cf, bd_eq, natD_zero, natD_succ, natD_one, noYl_v, noYl_sl, noYl_nl, noYl_cp, noYl_fn, Bool.and_true, Bool.true_and, Bool.and_self, beqN_self, Bool.not_true, Bool.not_false, Bool.and_false, Bool.false_and, Bool.or_false, Bool.false_or, Bool.or_true, Bool.true_or, List.length_cons, List.length_nil, Nat.zero_add, Nat.reduceAdd, Nat.reduceMul, Int.toNat_zero, Int.toNat_one, Nat.zero_mul, List.drop_zero, Int.natCast_one, List.drop_succ_cons, List.cons_append, List.nil_append]
  rw [a5]
  simp only [obs, rC_c, rA_agg, rT_tup, rP_ptr, rW_own, rS_sb, rF_sb, uncV_cons, uncO_cons, nilV_nil, rO_ob, rN_ob, unc_cons, asI_int, asB_bool, asS_string, asSl_sl, asSl_nl, asFn_fn, asP_cp, nrm_sl, nrm_nl, need_true, ct, cf, bd_eq, natD_zero, natD_succ, natD_one, noYl_v, noYl_sl, noYl_nl, noYl_cp, noYl_fn, Bool.and_true, Bool.true_and, Bool.and_self, beqN_self, Bool.not_true, Bool.not_false, Bool.and_false, Bool.false_and, Bool.or_false, Bool.false_or, Bool.or_true, Bool.true_or, List.length_cons, List.length_nil, Nat.zero_add, Nat.reduceAdd, Nat.reduceMul, Int.toNat_zero, Int.toNat_one, Nat.zero_mul, List.drop_zero, Int.natCast_one, List.drop_succ_cons, List.cons_append, List.nil_append, hpc]
  rw [hRp]
  simp only [obs, rC_c, rA_agg, rT_tup, rP_ptr, rW_own, rS_sb, rF_sb, uncV_cons, uncO_cons, nilV_nil, rO_ob, rN_ob, unc_cons, asI_int, asB_bool, asS_string, asSl_sl, asSl_nl, asFn_fn, asP_cp, nrm_sl, nrm_nl, need_true, ct, cf, bd_eq, natD_zero, natD_succ, natD_one, noYl_v, noYl_sl, noYl_nl, noYl_cp, noYl_fn, Bool.and_true, Bool.true_and, Bool.and_self, beqN_self, Bool.not_true, Bool.not_false, Bool.and_false, Bool.false_and, Bool.or_false, Bool.false_or, Bool.or_true, Bool.true_or, List.length_cons, List.length_nil, Nat.zero_add, Nat.reduceAdd, Nat.reduceMul, Int.toNat_zero, Int.toNat_one, Nat.zero_mul, List.drop_zero, Int.natCast_one, List.drop_succ_cons, List.cons_append, List.nil_append]
  rw [hadr]
  simp only [obs, rC_c, rA_agg, rT_tup, rP_ptr, rW_own, rS_sb, rF_sb, uncV_cons, uncO_cons, nilV_nil, rO_ob, rN_ob, unc_cons, asI_int, asB_bool, asS_string, asSl_sl, asSl_nl, asFn_fn, asP_cp, nrm_sl, nrm_nl, need_true, ct, cf, bd_eq, natD_zero, natD_succ, natD_one, noYl_v, noYl_sl, noYl_nl, noYl_cp, noYl_fn, Bool.and_true, Bool.true_and, Bool.and_self, beqN_self, Bool.not_true, Bool.not_false, Bool.and_false, Bool.false_and, Bool.or_false, Bool.false_or, Bool.or_true, Bool.true_or, List.length_cons, List.length_nil, Nat.zero_add, Nat.reduceAdd, Nat.reduceMul, Int.toNat_zero, Int.toNat_one, Nat.zero_mul, List.drop_zero, Int.natCast_one, List.drop_succ_cons, List.cons_append, List.nil_append]
  rw [iter_runx (adS ⟨f, a, b, 840 - a - b⟩ AD v (C.sl z.length (ints z)) (j5 : Int)) 0 (adS ⟨f, a, b, 840 - a - b⟩ AD v (C.sl z.length (ints z)) (j5 : Int) AD.length) AD.length ?_ ?_ ?_ (by omega)]
  · simp only [adS, obs, rC_c, rA_agg, rT_tup, rP_ptr, rW_own, rS_sb, rF_sb, uncV_cons, uncO_cons, nilV_nil, rO_ob, rN_ob, unc_cons, asI_int, asB_bool, asS_string, asSl_sl, asSl_nl, asFn_fn, asP_cp, nrm_sl, nrm_nl, need_true, ct, cf, bd_eq, natD_zero, natD_succ, natD_one, noYl_v, noYl_sl, noYl_nl, noYl_cp, noYl_fn, Bool.and_true, Bool.true_and, Bool.and_self, beqN_self, Bool.not_true, Bool.not_false, Bool.and_false, Bool.false_and, Bool.or_false, Bool.false_or, Bool.or_true, Bool.true_or, List.length_cons, List.length_nil, Nat.zero_add, Nat.reduceAdd, Nat.reduceMul, Int.toNat_zero, Int.toNat_one, Nat.zero_mul, List.drop_zero, Int.natCast_one, List.drop_succ_cons, List.cons_append, List.nil_append]
    rw [iter_runx (fun j : Nat => ((j : Int), ints ((gather F j5 j).1 ++ List.replicate (12 - j) 0), (C.sl z.length (ints z), ((gather F j5 j).2 : Int), ()), ())) 0 ((12 : Int), ints cn, (C.sl z.length (ints z), ((gather F j5 12).2 : Int), ()), ()) 12 ?_ ?_ ?_ (by omega)]
    · simp only [obs, rC_c, rA_agg, rT_tup, rP_ptr, rW_own, rS_sb, rF_sb, uncV_cons, uncO_cons, nilV_nil, rO_ob, rN_ob, unc_cons, asI_int, asB_bool, asS_string, asSl_sl, asSl_nl, asFn_fn, asP_cp, nrm_sl, nrm_nl, need_true, ct, cf, bd_eq, natD_zero, natD_succ, natD_one, noYl_v, noYl_sl, noYl_nl, noYl_cp, noYl_fn, Bool.and_true, Bool.true_and, Bool.and_self, beqN_self, Bool.not_true, Bool.not_false, Bool.and_false, Bool.false_and, Bool.or_false, Bool.false_or, Bool.or_true, Bool.true_or, List.length_cons, List.length_nil, Nat.zero_add, Nat.reduceAdd, Nat.reduceMul, Int.toNat_zero, Int.toNat_one, Nat.zero_mul, List.drop_zero, Int.natCast_one, List.drop_succ_cons, List.cons_append, List.nil_append]
      rw [hnodes]
      simp only [obs, rC_c, rA_agg, rT_tup, rP_ptr, rW_own, rS_sb, rF_sb, uncV_cons, uncO_cons, nilV_nil, rO_ob, rN_ob, unc_cons, asI_int, asB_bool, asS_string, asSl_sl, asSl_nl, asFn_fn, asP_cp, nrm_sl, nrm_nl, need_true, ct, cf, bd_eq, natD_zero, natD_succ, natD_one, noYl_v, noYl_sl, noYl_nl, noYl_cp, noYl_fn, Bool.and_true, Bool.true_and, Bool.and_self, beqN_self, Bool.not_true, Bool.not_false, Bool.and_false, Bool.false_and, Bool.or_false, Bool.false_or, Bool.or_true, Bool.true_or, List.length_cons, List.length_nil, Nat.zero_add, Nat.reduceAdd, Nat.reduceMul, Int.toNat_zero, Int.toNat_one, Nat.zero_mul, List.drop_zero, Int.natCast_one, List.drop_succ_cons, List.cons_append, List.nil_append, Int.toNat_natCast, hreps, ik_length, List.length_replicate, Nat.mul_one]
      have hnle : (nodes n).length ≤ 162 := by omega
      rw [dle_t (show (0 : Int) ≤ ((nodes n).length : Int) by omega), dle_t (show ((nodes n).length : Int) ≤ ((nodes n).length : Int) by omega), dle_t (show (8 : Int) * ((nodes n).length : Int) ≤ 140737488355328 by omega), dle_t (show ((nodes n).length : Int) ≤ 140737488355328 by omega)]
      simp only [obs, rC_c, rA_agg, rT_tup, rP_ptr, rW_own, rS_sb, rF_sb, uncV_cons, uncO_cons, nilV_nil, rO_ob, rN_ob, unc_cons, asI_int, asB_bool, asS_string, asSl_sl, asSl_nl, asFn_fn, asP_cp, nrm_sl, nrm_nl, need_true, ct, cf, bd_eq, natD_zero, natD_succ, natD_one, noYl_v, noYl_sl, noYl_nl, noYl_cp, noYl_fn, Bool.and_true, Bool.true_and, Bool.and_self, beqN_self, Bool.not_true, Bool.not_false, Bool.and_false, Bool.false_and, Bool.or_false, Bool.false_or, Bool.or_true, Bool.true_or]
      rw [iter_runx (fun j : Nat => (ints ((xOf cn n).take j ++ List.replicate ((nodes n).length - j) 0), (j : Int), ())) 0 (ints (xOf cn n), ((nodes n).length : Int), ()) (nodes n).length ?_ ?_ ?_ (by omega)]
      · have t1 : List.take (nodes n).length (ints (xOf cn n)) = ints (xOf cn n) := List.take_of_length_le (by rw [ik_length, hxl]; omega)
        simp only [obs, rC_c, rA_agg, rT_tup, rP_ptr, rW_own, rS_sb, rF_sb, uncV_cons, uncO_cons, nilV_nil, rO_ob, rN_ob, unc_cons, asI_int, asB_bool, asS_string, asSl_sl, asSl_nl, asFn_fn, asP_cp, nrm_sl, nrm_nl, need_true, ct, cf, bd_eq, natD_zero, natD_succ, natD_one, noYl_v, noYl_sl, noYl_nl, noYl_cp, noYl_fn, Bool.and_true, Bool.true_and, Bool.and_self, beqN_self, Bool.not_true, Bool.not_false, Bool.and_false, Bool.false_and, Bool.or_false, Bool.false_or, Bool.or_true, Bool.true_or, ik_length, hxl, one_div, Nat.mul_one, Nat.zero_add, t1]
        rw [hWp]
        simp only [obs, rC_c, rA_agg, rT_tup, rP_ptr, rW_own, rS_sb, rF_sb, uncV_cons, uncO_cons, nilV_nil, rO_ob, rN_ob, unc_cons, asI_int, asB_bool, asS_string, asSl_sl, asSl_nl, asFn_fn, asP_cp, nrm_sl, nrm_nl, need_true, ct, cf, bd_eq, natD_zero, natD_succ, natD_one, noYl_v, noYl_sl, noYl_nl, noYl_cp, noYl_fn, Bool.and_true, Bool.true_and, Bool.and_self, beqN_self, Bool.not_true, Bool.not_false, Bool.and_false, Bool.false_and, Bool.or_false, Bool.false_or, Bool.or_true, Bool.true_or]
        rw [bleN_le (show (nodes n).length ≤ (nodes n).length from Nat.le_refl _)]
        simp only [obs, rC_c, rA_agg, rT_tup, rP_ptr, rW_own, rS_sb, rF_sb, uncV_cons, uncO_cons, nilV_nil, rO_ob, rN_ob, unc_cons, asI_int, asB_bool, asS_string, asSl_sl, asSl_nl, asFn_fn, asP_cp, nrm_sl, nrm_nl, need_true, ct, cf, bd_eq, natD_zero, natD_succ, natD_one, noYl_v, noYl_sl, noYl_nl, noYl_cp, noYl_fn, Bool.and_true, Bool.true_and, Bool.and_self, beqN_self, Bool.not_true, Bool.not_false, Bool.and_false, Bool.false_and, Bool.or_false, Bool.false_or, Bool.or_true, Bool.true_or]
        rw [iter_runx (fun j : Nat => (ipw cn w j, (j : Int), ())) 0 (ipw cn w 12, (12 : Int), ()) 12 ?_ ?_ ?_ (by omega)]
        · simp only [obs, rC_c, rA_agg, rT_tup, rP_ptr, rW_own, rS_sb, rF_sb, uncV_cons, uncO_cons, nilV_nil, rO_ob, rN_ob, unc_cons, asI_int, asB_bool, asS_string, asSl_sl, asSl_nl, asFn_fn, asP_cp, nrm_sl, nrm_nl, need_true, ct, cf, bd_eq, natD_zero, natD_succ, natD_one, noYl_v, noYl_sl, noYl_nl, noYl_cp, noYl_fn, Bool.and_true, Bool.true_and, Bool.and_self, beqN_self, Bool.not_true, Bool.not_false, Bool.and_false, Bool.false_and, Bool.or_false, Bool.false_or, Bool.or_true, Bool.true_or]
          rw [hA]
          generalize ipw cn w 12 = W at *
          simp (disch := omega) only [obs, rC_c, rA_agg, rT_tup, rP_ptr, rW_own, rS_sb, rF_sb, uncV_cons, uncO_cons, nilV_nil, rO_ob, rN_ob, unc_cons, asI_int, asB_bool, asS_string, asSl_sl, asSl_nl, asFn_fn, asP_cp, nrm_sl, nrm_nl, need_true, ct, cf, bd_eq, natD_zero, natD_succ, natD_one, noYl_v, noYl_sl, noYl_nl, noYl_cp, noYl_fn, Bool.and_true, Bool.true_and, Bool.and_self, beqN_self, Bool.not_true, Bool.not_false, Bool.and_false, Bool.false_and, Bool.or_false, Bool.false_or, Bool.or_true, Bool.true_or, wrap_in, dlt_t, dlt_f, dle_t, dle_f, dgt_t, dgt_f, dge_t, dge_f, ibeq_t, ibeq_f, ibne_t, ibne_f, inR_int, beqN_eq, bleN_le, List.length_cons, List.length_nil, Nat.zero_add, Nat.reduceAdd, Nat.reduceMul, Int.toNat_zero, Int.toNat_one, Nat.zero_mul, List.drop_zero, Int.natCast_one, List.drop_succ_cons, List.cons_append, List.nil_append, ik_length, ik_cons, ik_nil, haw, Nat.mul_one, Nat.add_zero, show OUT = 1000000 from rfl]
        · rfl
        · intro j hj
          have u1 := unc_at (l := wl w) (k := j) (by rw [wl_length]; exact hj) (R := Nat × Int × Int × Unit)
          have u2 := unc_at (l := cn) (k := j) (by omega) (R := Nat × Int × Int × Unit)
          rw [at0_wl w hj, ← wcs_wl] at u1
          have hwj := hwb j
          have m1 := mul_bd2 (a := 840) (by decide) (show -840 ≤ (w j : Int) ∧ (w j : Int) ≤ 840 by omega) (at0_bd (by decide) hcb j)
          have m2 := ipw_bd hcb hwb j
          have w1 : IntKind.i64.wrap ((w j : Int) * at0 cn j) = (w j : Int) * at0 cn j := wrap_in (by omega) (by omega)
          have w2 : IntKind.i64.wrap (ipw cn w j + (w j : Int) * at0 cn j) = ipw cn w (j + 1) := wrap_in (by omega) (by omega)
          simp (disch := omega) only [obs, rC_c, rA_agg, rT_tup, rP_ptr, rW_own, rS_sb, rF_sb, uncV_cons, uncO_cons, nilV_nil, rO_ob, rN_ob, unc_cons, asI_int, asB_bool, asS_string, asSl_sl, asSl_nl, asFn_fn, asP_cp, nrm_sl, nrm_nl, need_true, ct, cf, bd_eq, natD_zero, natD_succ, natD_one, noYl_v, noYl_sl, noYl_nl, noYl_cp, noYl_fn, Bool.and_true, Bool.true_and, Bool.and_self, beqN_self, Bool.not_true, Bool.not_false, Bool.and_false, Bool.false_and, Bool.or_false, Bool.false_or, Bool.or_true, Bool.true_or, wrap_in, dlt_t, dlt_f, dle_t, dle_f, dgt_t, dgt_f, dge_t, dge_f, ibeq_t, ibeq_f, ibne_t, ibne_f, inR_int, beqN_eq, bleN_le, Int.toNat_natCast, Nat.mul_one, u1, u2, w1, w2, Int.natCast_add, Int.natCast_one]
        · simp (disch := omega) only [obs, rC_c, rA_agg, rT_tup, rP_ptr, rW_own, rS_sb, rF_sb, uncV_cons, uncO_cons, nilV_nil, rO_ob, rN_ob, unc_cons, asI_int, asB_bool, asS_string, asSl_sl, asSl_nl, asFn_fn, asP_cp, nrm_sl, nrm_nl, need_true, ct, cf, bd_eq, natD_zero, natD_succ, natD_one, noYl_v, noYl_sl, noYl_nl, noYl_cp, noYl_fn, Bool.and_true, Bool.true_and, Bool.and_self, beqN_self, Bool.not_true, Bool.not_false, Bool.and_false, Bool.false_and, Bool.or_false, Bool.false_or, Bool.or_true, Bool.true_or, wrap_in, dlt_t, dlt_f, dle_t, dle_f, dgt_t, dgt_f, dge_t, dge_f, ibeq_t, ibeq_f, ibne_t, ibne_f, inR_int, beqN_eq, bleN_le]
          rfl
      · simp
      · intro j hj
        have hjx : ((xOf cn n).take j).length = j := by rw [List.length_take]; omega
        have hq : ((nodes n)[j]).ok := pts_ok hfr ((List.mem_filter.1 (List.getElem_mem hj)).1)
        have hWq := sp_ref_Weights fu (d + 7) (nodes n)[j] hq
        have hqb := wt_le hq
        have hat := fl_at plc_length hj
        have hLl := fill_length hjx (show j ≤ (nodes n).length by omega)
        have g1 := fill_set hjx hj
        have g0 := fill_set0 hjx hj
        have xt := xOf_take cn n hj
        simp only [plc] at hWq
        generalize hL : (xOf cn n).take j ++ List.replicate ((nodes n).length - j) 0 = L at *
        generalize wt (nodes n)[j] = wq at *
        simp (disch := omega) only [obs, rC_c, rA_agg, rT_tup, rP_ptr, rW_own, rS_sb, rF_sb, uncV_cons, uncO_cons, nilV_nil, rO_ob, rN_ob, unc_cons, asI_int, asB_bool, asS_string, asSl_sl, asSl_nl, asFn_fn, asP_cp, nrm_sl, nrm_nl, need_true, ct, cf, bd_eq, natD_zero, natD_succ, natD_one, noYl_v, noYl_sl, noYl_nl, noYl_cp, noYl_fn, Bool.and_true, Bool.true_and, Bool.and_self, beqN_self, Bool.not_true, Bool.not_false, Bool.and_false, Bool.false_and, Bool.or_false, Bool.false_or, Bool.or_true, Bool.true_or, wrap_in, dlt_t, dlt_f, dle_t, dle_f, dgt_t, dgt_f, dge_t, dge_f, ibeq_t, ibeq_f, ibne_t, ibne_f, inR_int, beqN_eq, bleN_le, Int.toNat_natCast, hat, plc, List.cons_append, List.nil_append, hWq, ik_length, hLl, one_div, Nat.mul_one]
        rw [iter_runx (fun k : Nat => (ints (L.set j (ipw cn wq k)), (k : Int), ())) 0 (ints (L.set j (ipw cn wq 12)), (12 : Int), ()) 12 ?_ ?_ ?_ (by omega)]
        · rw [g1, ← xt]
          simp (disch := omega) only [obs, rC_c, rA_agg, rT_tup, rP_ptr, rW_own, rS_sb, rF_sb, uncV_cons, uncO_cons, nilV_nil, rO_ob, rN_ob, unc_cons, asI_int, asB_bool, asS_string, asSl_sl, asSl_nl, asFn_fn, asP_cp, nrm_sl, nrm_nl, need_true, ct, cf, bd_eq, natD_zero, natD_succ, natD_one, noYl_v, noYl_sl, noYl_nl, noYl_cp, noYl_fn, Bool.and_true, Bool.true_and, Bool.and_self, beqN_self, Bool.not_true, Bool.not_false, Bool.and_false, Bool.false_and, Bool.or_false, Bool.false_or, Bool.or_true, Bool.true_or, wrap_in, dlt_t, dlt_f, dle_t, dle_f, dgt_t, dgt_f, dge_t, dge_f, ibeq_t, ibeq_f, ibne_t, ibne_f, inR_int, beqN_eq, bleN_le, ik_length, fill_length (show ((xOf cn n).take (j + 1)).length = j + 1 by rw [List.length_take]; omega) (show j + 1 ≤ (nodes n).length by omega), one_div, Nat.mul_one, Int.natCast_add, Int.natCast_one]
        · simp only [ipw, g0, Int.natCast_zero]
        · intro k hk
          have hLs : ∀ u, (L.set j u).length = (nodes n).length := fun u => by rw [List.length_set, hLl]
          have u1 := unc_at (l := wl wq) (k := k) (by rw [wl_length]; exact hk) (R := Nat × List C × Int × Unit)
          have u2 := unc_at (l := cn) (k := k) (by omega) (R := Nat × List C × Int × Unit)
          have u3 := unc_at (l := L.set j (ipw cn wq k)) (k := j) (by rw [hLs]; exact hj) (R := Nat × List C × Int × Unit)
          rw [at0_wl wq hk, ← wcs_wl] at u1
          rw [at0_set (by omega), if_pos rfl] at u3
          have hwk := hqb k
          have m1 := mul_bd2 (a := 840) (by decide) (show -840 ≤ (wq k : Int) ∧ (wq k : Int) ≤ 840 by omega) (at0_bd (by decide) hcb k)
          have m2 := ipw_bd hcb hqb k
          have w1 : IntKind.i64.wrap ((wq k : Int) * at0 cn k) = (wq k : Int) * at0 cn k := wrap_in (by omega) (by omega)
          have w2 : IntKind.i64.wrap (ipw cn wq k + (wq k : Int) * at0 cn k) = ipw cn wq (k + 1) := wrap_in (by omega) (by omega)
          have p1 : putAt (ints (L.set j (ipw cn wq k))) j [C.v (.int .i64 (ipw cn wq (k + 1)))] = ints (L.set j (ipw cn wq (k + 1))) := by
            rw [ik_put (by rw [hLs]; exact hj), List.set_set]
          simp (disch := omega) only [obs, rC_c, rA_agg, rT_tup, rP_ptr, rW_own, rS_sb, rF_sb, uncV_cons, uncO_cons, nilV_nil, rO_ob, rN_ob, unc_cons, asI_int, asB_bool, asS_string, asSl_sl, asSl_nl, asFn_fn, asP_cp, nrm_sl, nrm_nl, need_true, ct, cf, bd_eq, natD_zero, natD_succ, natD_one, noYl_v, noYl_sl, noYl_nl, noYl_cp, noYl_fn, Bool.and_true, Bool.true_and, Bool.and_self, beqN_self, Bool.not_true, Bool.not_false, Bool.and_false, Bool.false_and, Bool.or_false, Bool.false_or, Bool.or_true, Bool.true_or, wrap_in, dlt_t, dlt_f, dle_t, dle_f, dgt_t, dgt_f, dge_t, dge_f, ibeq_t, ibeq_f, ibne_t, ibne_f, inR_int, beqN_eq, bleN_le, Int.toNat_natCast, Nat.mul_one, Nat.zero_add, u1, u2, u3, w1, w2, p1, ik_length, hLs, one_div, Int.natCast_add, Int.natCast_one]
        · have hLs : ∀ u, (L.set j u).length = (nodes n).length := fun u => by rw [List.length_set, hLl]
          simp (disch := omega) only [obs, rC_c, rA_agg, rT_tup, rP_ptr, rW_own, rS_sb, rF_sb, uncV_cons, uncO_cons, nilV_nil, rO_ob, rN_ob, unc_cons, asI_int, asB_bool, asS_string, asSl_sl, asSl_nl, asFn_fn, asP_cp, nrm_sl, nrm_nl, need_true, ct, cf, bd_eq, natD_zero, natD_succ, natD_one, noYl_v, noYl_sl, noYl_nl, noYl_cp, noYl_fn, Bool.and_true, Bool.true_and, Bool.and_self, beqN_self, Bool.not_true, Bool.not_false, Bool.and_false, Bool.false_and, Bool.or_false, Bool.false_or, Bool.or_true, Bool.true_or, wrap_in, dlt_t, dlt_f, dle_t, dle_f, dgt_t, dgt_f, dge_t, dge_f, ibeq_t, ibeq_f, ibne_t, ibne_f, inR_int, beqN_eq, bleN_le, ik_length, hLs, one_div, Nat.mul_one]
          rfl
      · rw [List.take_of_length_le (show (xOf cn n).length ≤ (nodes n).length by omega)]
        simp (disch := omega) only [obs, rC_c, rA_agg, rT_tup, rP_ptr, rW_own, rS_sb, rF_sb, uncV_cons, uncO_cons, nilV_nil, rO_ob, rN_ob, unc_cons, asI_int, asB_bool, asS_string, asSl_sl, asSl_nl, asFn_fn, asP_cp, nrm_sl, nrm_nl, need_true, ct, cf, bd_eq, natD_zero, natD_succ, natD_one, noYl_v, noYl_sl, noYl_nl, noYl_cp, noYl_fn, Bool.and_true, Bool.true_and, Bool.and_self, beqN_self, Bool.not_true, Bool.not_false, Bool.and_false, Bool.false_and, Bool.or_false, Bool.false_or, Bool.or_true, Bool.true_or, wrap_in, dlt_t, dlt_f, dle_t, dle_f, dgt_t, dgt_f, dge_t, dge_f, ibeq_t, ibeq_f, ibne_t, ibne_f, inR_int, beqN_eq, bleN_le, ik_length, List.length_append, hxl, Nat.sub_self, List.replicate_zero, List.append_nil, one_div, Nat.mul_one]
    · rfl
    · intro j hj
      have hFj := (hF (gather F j5 j).2).2
      have hg : (gather F j5 (j + 1)).1 = (gather F j5 j).1 ++ [(F (gather F j5 j).2).1] := rfl
      have hg2 : (gather F j5 (j + 1)).2 = (F (gather F j5 j).2).2 := rfl
      have hp1 := fill_put (hgl j) hj (F (gather F j5 j).2).1
      have hlj := fill_length (hgl j) (show j ≤ 12 by omega)
      rw [hg, hg2]
      simp (disch := omega) only [obs, rC_c, rA_agg, rT_tup, rP_ptr, rW_own, rS_sb, rF_sb, uncV_cons, uncO_cons, nilV_nil, rO_ob, rN_ob, unc_cons, asI_int, asB_bool, asS_string, asSl_sl, asSl_nl, asFn_fn, asP_cp, nrm_sl, nrm_nl, need_true, ct, cf, bd_eq, natD_zero, natD_succ, natD_one, noYl_v, noYl_sl, noYl_nl, noYl_cp, noYl_fn, Bool.and_true, Bool.true_and, Bool.and_self, beqN_self, Bool.not_true, Bool.not_false, Bool.and_false, Bool.false_and, Bool.or_false, Bool.false_or, Bool.or_true, Bool.true_or, wrap_in, dlt_t, dlt_f, dle_t, dle_f, dgt_t, dgt_f, dge_t, dge_f, ibeq_t, ibeq_f, ibne_t, ibne_f, inR_int, beqN_eq, bleN_le, List.length_cons, List.length_nil, Nat.zero_add, Nat.reduceAdd, Nat.reduceMul, Int.toNat_zero, Int.toNat_one, Nat.zero_mul, List.drop_zero, Int.natCast_one, List.drop_succ_cons, List.cons_append, List.nil_append, hFj, Int.toNat_natCast, Nat.mul_one, ik_length, hlj, hp1, Int.natCast_add]
    · rw [hcn, Nat.sub_self, List.replicate_zero, List.append_nil]
      simp (disch := omega) only [obs, rC_c, rA_agg, rT_tup, rP_ptr, rW_own, rS_sb, rF_sb, uncV_cons, uncO_cons, nilV_nil, rO_ob, rN_ob, unc_cons, asI_int, asB_bool, asS_string, asSl_sl, asSl_nl, asFn_fn, asP_cp, nrm_sl, nrm_nl, need_true, ct, cf, bd_eq, natD_zero, natD_succ, natD_one, noYl_v, noYl_sl, noYl_nl, noYl_cp, noYl_fn, Bool.and_true, Bool.true_and, Bool.and_self, beqN_self, Bool.not_true, Bool.not_false, Bool.and_false, Bool.false_and, Bool.or_false, Bool.false_or, Bool.or_true, Bool.true_or, wrap_in, dlt_t, dlt_f, dle_t, dle_f, dgt_t, dgt_f, dge_t, dge_f, ibeq_t, ibeq_f, ibne_t, ibne_f, inR_int, beqN_eq, bleN_le]
      rfl
  · rfl
  · intro j hj
    obtain ⟨hq, hqs⟩ := hadO _ (List.getElem_mem hj)
    have hRq := hRow AD[j] hq
    have hat := fl_at plc_length hj
    rw [hqs] at hRq
    simp only [adS, adr_succ _ hj]
    simp (disch := omega) only [obs, rC_c, rA_agg, rT_tup, rP_ptr, rW_own, rS_sb, rF_sb, uncV_cons, uncO_cons, nilV_nil, rO_ob, rN_ob, unc_cons, asI_int, asB_bool, asS_string, asSl_sl, asSl_nl, asFn_fn, asP_cp, nrm_sl, nrm_nl, need_true, ct, cf, bd_eq, natD_zero, natD_succ, natD_one, noYl_v, noYl_sl, noYl_nl, noYl_cp, noYl_fn, Bool.and_true, Bool.true_and, Bool.and_self, beqN_self, Bool.not_true, Bool.not_false, Bool.and_false, Bool.false_and, Bool.or_false, Bool.false_or, Bool.or_true, Bool.true_or, wrap_in, dlt_t, dlt_f, dle_t, dle_f, dgt_t, dgt_f, dge_t, dge_f, ibeq_t, ibeq_f, ibne_t, ibne_f, inR_int, beqN_eq, bleN_le, Int.toNat_natCast, hat, plc, List.cons_append, List.nil_append]
    rw [hRq]
    simp only [obs, rC_c, rA_agg, rT_tup, rP_ptr, rW_own, rS_sb, rF_sb, uncV_cons, uncO_cons, nilV_nil, rO_ob, rN_ob, unc_cons, asI_int, asB_bool, asS_string, asSl_sl, asSl_nl, asFn_fn, asP_cp, nrm_sl, nrm_nl, need_true, ct, cf, bd_eq, natD_zero, natD_succ, natD_one, noYl_v, noYl_sl, noYl_nl, noYl_cp, noYl_fn, Bool.and_true, Bool.true_and, Bool.and_self, beqN_self, Bool.not_true, Bool.not_false, Bool.and_false, Bool.false_and, Bool.or_false, Bool.false_or, Bool.or_true, Bool.true_or, List.length_cons, List.length_nil, Nat.zero_add, Nat.reduceAdd, Nat.reduceMul, Int.toNat_zero, Int.toNat_one, Nat.zero_mul, List.drop_zero, Int.natCast_one, List.drop_succ_cons, List.cons_append, List.nil_append]
    rw [ibne_f (show (0 : Int) = 0 from rfl)]
    simp only [obs, rC_c, rA_agg, rT_tup, rP_ptr, rW_own, rS_sb, rF_sb, uncV_cons, uncO_cons, nilV_nil, rO_ob, rN_ob, unc_cons, asI_int, asB_bool, asS_string, asSl_sl, asSl_nl, asFn_fn, asP_cp, nrm_sl, nrm_nl, need_true, ct, cf, bd_eq, natD_zero, natD_succ, natD_one, noYl_v, noYl_sl, noYl_nl, noYl_cp, noYl_fn, Bool.and_true, Bool.true_and, Bool.and_self, beqN_self, Bool.not_true, Bool.not_false, Bool.and_false, Bool.false_and, Bool.or_false, Bool.false_or, Bool.or_true, Bool.true_or]
    rw [hSame']
    simp (disch := omega) only [obs, rC_c, rA_agg, rT_tup, rP_ptr, rW_own, rS_sb, rF_sb, uncV_cons, uncO_cons, nilV_nil, rO_ob, rN_ob, unc_cons, asI_int, asB_bool, asS_string, asSl_sl, asSl_nl, asFn_fn, asP_cp, nrm_sl, nrm_nl, need_true, ct, cf, bd_eq, natD_zero, natD_succ, natD_one, noYl_v, noYl_sl, noYl_nl, noYl_cp, noYl_fn, Bool.and_true, Bool.true_and, Bool.and_self, beqN_self, Bool.not_true, Bool.not_false, Bool.and_false, Bool.false_and, Bool.or_false, Bool.false_or, Bool.or_true, Bool.true_or, wrap_in, dlt_t, dlt_f, dle_t, dle_f, dgt_t, dgt_f, dge_t, dge_f, ibeq_t, ibeq_f, ibne_t, ibne_f, inR_int, beqN_eq, bleN_le, Int.natCast_add, Int.natCast_one]
  · simp only [adS]
    simp (disch := omega) only [obs, rC_c, rA_agg, rT_tup, rP_ptr, rW_own, rS_sb, rF_sb, uncV_cons, uncO_cons, nilV_nil, rO_ob, rN_ob, unc_cons, asI_int, asB_bool, asS_string, asSl_sl, asSl_nl, asFn_fn, asP_cp, nrm_sl, nrm_nl, need_true, ct, cf, bd_eq, natD_zero, natD_succ, natD_one, noYl_v, noYl_sl, noYl_nl, noYl_cp, noYl_fn, Bool.and_true, Bool.true_and, Bool.and_self, beqN_self, Bool.not_true, Bool.not_false, Bool.and_false, Bool.false_and, Bool.or_false, Bool.false_or, Bool.or_true, Bool.true_or, wrap_in, dlt_t, dlt_f, dle_t, dle_f, dgt_t, dgt_f, dge_t, dge_f, ibeq_t, ibeq_f, ibne_t, ibne_f, inR_int, beqN_eq, bleN_le]
end Go.Proofs.YtobmbacppbkgeaaDoor
