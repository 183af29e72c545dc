/- Parts put together: Bi, Cf, Ch, Ci. -/
import Derived.Test.YtofalpngdbinbaaJ7
set_option linter.unusedSimpArgs false
set_option linter.unusedVariables false
/- BlacklistReturns answers true. -/
namespace Go.Proofs.Ytofalpngdbinbaa
open Go Go.PM

theorem sums_n (t r : Int) : sumsM [cA t r] [] = [(sA, 0 + t, 0 + r)] := by rfl
theorem sums_y (t r : Int) : sumsM [cA t r] [sA] = [(sA, 0 + t, 0 + r)] := by rfl
theorem val_one (q : Int × Int) : val [(sA, q)] sA = q := by simp [val, look]

def kE (en lv : Int) : List C := [C.v (.int .i64 0), C.v (.int .i64 0), C.v (.int .i64 0), C.v (.int .i64 0), C.v (.int .i64 0), C.v (.int .i64 0), C.v (.int .i64 0), C.v (.int .i64 0), C.v (.int .i64 0), C.v (.int .i64 0), C.v (.int .i64 0), C.v (.int .i64 0), C.v (.int .i64 0), C.v (.int .i64 0), C.v (.int .i64 0), C.v (.int .i64 0), C.v (.int .i64 0), C.v (.int .i64 0), C.v (.int .i64 0), C.v (.int .i64 0), C.v (.int .i64 0), C.v (.int .i64 0), C.v (.int .i64 0), C.v (.int .i64 0), C.v (.int .i64 0), C.v (.int .i64 0), C.v (.int .i64 0), C.v (.int .i64 0), C.v (.int .i64 0), C.v (.int .i64 0), C.v (.int .i64 0), C.v (.int .i64 0), C.v (.int .i64 0), C.v (.int .i64 0), C.v (.int .i64 0), C.v (.int .i64 0), C.v (.int .i64 0), C.v (.int .i64 0), C.v (.int .i64 0), C.v (.int .i64 en), C.v (.int .i64 lv)]

set_option maxHeartbeats 2000000 in
theorem sp_BlacklistReturns (fu d : Nat) (hf : 18446744073709551616 ≤ fu) (a0 a1 : Int) (a2 : Bool) (l : List Int) :
    cl fu (d + 16) fn_synopticlaw19_BlacklistReturns [I a0, I a1, B a2, V.c (C.sl l.length (ints l))] [] = some ⟨B true, [], none⟩ := by
  have hl : (l.take 2000).length ≤ 2000 := by rw [List.length_take]; omega
  have hN := sp_New fu (d + 14) l
  generalize l.take 2000 = l' at hl hN
  obtain ⟨en, j1, a3, b3, c3⟩ := sp_Range fu (d + 12) l' 0 hl 30 100 (by omega) ⟨by omega, by omega⟩
  obtain ⟨lv, j2, a4, b4, c4⟩ := sp_Range fu (d + 12) l' j1 hl 1 30 (by omega) ⟨by omega, by omega⟩
  obtain ⟨t, a5, b5, c5⟩ := sp_Mod fu (d + 14) a0 300 (by omega)
  obtain ⟨r', a6, b6, c6⟩ := sp_Mod fu (d + 14) a1 (t + 1) (by omega)
  have haw := sp_awake fu d hf
  unfold srcO srcC at hN a3 a4
  have eA : (⟨#[65, 76, 80, 72, 65]⟩ : ByteArray) = sA := rfl
  rw [eq_synopticlaw19_BlacklistReturns]
  simp only [eA]
  simp (disch := omega) only [obs, rC_c, rA_agg, rT_tup, rP_ptr, rW_own, rS_sb, rF_sb, uncV_cons, uncO_cons, nilV_nil, rO_ob, rN_ob, unc_cons, asI_int, asB_bool, asS_string, asSl_sl, asSl_nl, asFn_fn, asP_cp, nrm_sl, nrm_nl, need_true, ct, cf, bd_eq, natD_zero, natD_succ, natD_one, noYl_v, noYl_sl, noYl_nl, noYl_cp, noYl_fn, Bool.and_true, Bool.true_and, Bool.and_self, beqN_self, Bool.not_true, Bool.not_false, Bool.and_false, Bool.false_and, Bool.or_false, Bool.false_or, Bool.or_true, Bool.true_or, wrap_in, dlt_t, dlt_f, dle_t, dle_f, dgt_t, dgt_f, dge_t, dge_f, ibeq_t, ibeq_f, ibne_t, ibne_f, inR_int, beqN_eq, bleN_le, hN, a3, a4, a5, List.length_cons, List.length_nil, Nat.zero_add, Nat.reduceAdd]
  simp only [out0, ct, need_true]
  -- the rejected ones
  obtain ⟨r, hr, hp⟩ : ∃ r : Int, (0 ≤ r ∧ r ≤ t) ∧ (bif decide (t > 0) then
      (cl fu (d + 15) fn_synoptickeep_Mod [I a1, I (t + 1)] []).bind fun out4 =>
      rC out4.r fun c9 =>
      asI .i64 c9 fun i6 => some (0, i6, kE en lv, ())
    else some (0, 0, kE en lv, ()) : Option (Nat × Int × List C × Unit)) = some (0, r, kE en lv, ()) := by
    by_cases h0 : 0 < t
    · refine ⟨r', by omega, ?_⟩
      simp (disch := omega) only [obs, rC_c, rA_agg, rT_tup, rP_ptr, rW_own, rS_sb, rF_sb, uncV_cons, uncO_cons, nilV_nil, rO_ob, rN_ob, unc_cons, asI_int, asB_bool, asS_string, asSl_sl, asSl_nl, asFn_fn, asP_cp, nrm_sl, nrm_nl, need_true, ct, cf, bd_eq, natD_zero, natD_succ, natD_one, noYl_v, noYl_sl, noYl_nl, noYl_cp, noYl_fn, Bool.and_true, Bool.true_and, Bool.and_self, beqN_self, Bool.not_true, Bool.not_false, Bool.and_false, Bool.false_and, Bool.or_false, Bool.false_or, Bool.or_true, Bool.true_or, wrap_in, dlt_t, dlt_f, dle_t, dle_f, dgt_t, dgt_f, dge_t, dge_f, ibeq_t, ibeq_f, ibne_t, ibne_f, inR_int, beqN_eq, bleN_le, a6]
    · refine ⟨0, by omega, ?_⟩
      simp (disch := omega) only [obs, rC_c, rA_agg, rT_tup, rP_ptr, rW_own, rS_sb, rF_sb, uncV_cons, uncO_cons, nilV_nil, rO_ob, rN_ob, unc_cons, asI_int, asB_bool, asS_string, asSl_sl, asSl_nl, asFn_fn, asP_cp, nrm_sl, nrm_nl, need_true, ct, cf, bd_eq, natD_zero, natD_succ, natD_one, noYl_v, noYl_sl, noYl_nl, noYl_cp, noYl_fn, Bool.and_true, Bool.true_and, Bool.and_self, beqN_self, Bool.not_true, Bool.not_false, Bool.and_false, Bool.false_and, Bool.or_false, Bool.false_or, Bool.or_true, Bool.true_or, wrap_in, dlt_t, dlt_f, dle_t, dle_f, dgt_t, dgt_f, dge_t, dge_f, ibeq_t, ibeq_f, ibne_t, ibne_f, inR_int, beqN_eq, bleN_le]
  simp only [kE] at hp
  rw [hp]
  have q1 : 0 ≤ lv * t ∧ lv * t ≤ 30 * 300 := ⟨Int.mul_nonneg (by omega) (by omega), Int.mul_le_mul (by omega) (by omega) (by omega) (by omega)⟩
  have q2 : 0 ≤ en * t ∧ en * t ≤ 100 * 300 := ⟨Int.mul_nonneg (by omega) (by omega), Int.mul_le_mul (by omega) (by omega) (by omega) (by omega)⟩
  have w1 : IntKind.i64.wrap (lv * t) = lv * t := IntWalk.i64_in _ ⟨by generalize lv * t = z at *; omega, by generalize lv * t = z at *; omega⟩
  have w2 : IntKind.i64.wrap (en * t) = en * t := IntWalk.i64_in _ ⟨by generalize en * t = z at *; omega, by generalize en * t = z at *; omega⟩
  have w3 : IntKind.i64.wrap (100 * r) = 100 * r := IntWalk.i64_in _ ⟨by omega, by omega⟩
  have hcy : cycleOk (cA t r) := cycleOk_A (by omega)
  have ec : cyC (cA t r) = C.sl 1 [C.v (.string sA), C.v (.int .i64 t), C.v (.int .i64 r)] := rfl
  have hpush : ∀ (h2 : C) (nm : List ByteArray), nrm h2 = .sl nm.length (strs nm) → (nm = [] ∨ nm = [sA]) → sumsM [cA t r] nm = [(sA, 0 + t, 0 + r)] →
      cl fu (d + 15) fn_blacklist_Push [V.agg [C.nl, h2], V.c (C.sl 1 [C.v (.string sA), C.v (.int .i64 t), C.v (.int .i64 r)]), V.agg (kE en lv)] [] =
        some ⟨V.tup [V.agg [C.sl 1 (cycs [cA t r]), C.sl (bif cond nm lv en [(sA, 0 + t, 0 + r)] sA then [sA] else []).length (strs (bif cond nm lv en [(sA, 0 + t, 0 + r)] sA then [sA] else []))], I 0], [], none⟩ := by
    intro h2 nm e2 hnm hsum
    have := sp_Push' fu (d + 1) hf (h1 := C.nl) (h2 := h2) (cy := []) (nm := nm) rfl e2 (histOk_A (by simp) (by simp) hnm) hcy (a2 := kE en lv) (lv := lv) (en := en) rfl rfl (by omega) (cy' := [cA t r]) rfl hsum (listed_one rfl) (by simp [keys])
    rw [ec] at this
    exact this
  have hlist : ∀ b : Bool, cl fu (d + 15) fn_blacklist_Listed [V.agg [C.sl 1 (cycs [cA t r]), C.sl (bif b then [sA] else []).length (strs (bif b then [sA] else []))], V.c (.v (.string sA))] [] = some ⟨B b, [], none⟩ := by
    intro b
    have h := sp_Listed fu (d + 2) hf (h1 := C.sl 1 (cycs [cA t r])) (h2 := C.sl (bif b then [sA] else []).length (strs (bif b then [sA] else []))) (cy := [cA t r]) (nm := bif b then [sA] else []) rfl rfl (histOk_A (by simp) (by simpa using hcy) (by cases b <;> simp)) sA
    have hb : hasS (bif b then [sA] else []) sA = b := by cases b <;> simp [hasS]
    rw [hb] at h
    exact h
  have t41 : List.take 41 (kE en lv) = kE en lv := rfl
  have d39 : List.drop 39 (kE en lv) = [C.v (.int .i64 en), C.v (.int .i64 lv)] := rfl
  have d40 : List.drop 40 (kE en lv) = [C.v (.int .i64 lv)] := rfl
  have hT := hlist true
  have hF := hlist false
  simp only [ct, cf, List.length_cons, List.length_nil, Nat.zero_add, Nat.reduceAdd] at hT hF
  simp only [kE] at hpush t41 d39 d40
  cases a2 with
  | true =>
    have hpu := hpush (C.sl 1 [C.v (.string sA)]) [sA] rfl (.inr rfl) (sums_y t r)
    have hc : cond [sA] lv en [(sA, 0 + t, 0 + r)] sA = (decide (t = 0) || decide (lv * t ≤ 100 * r)) := by
      unfold cond
      rw [hasS_A, val_one]
      simp
    rw [hc] at hpu
    simp (disch := omega) only [obs, rC_c, rA_agg, rT_tup, rP_ptr, rW_own, rS_sb, rF_sb, uncV_cons, uncO_cons, nilV_nil, rO_ob, rN_ob, unc_cons, asI_int, asB_bool, asS_string, asSl_sl, asSl_nl, asFn_fn, asP_cp, nrm_sl, nrm_nl, need_true, ct, cf, bd_eq, natD_zero, natD_succ, natD_one, noYl_v, noYl_sl, noYl_nl, noYl_cp, noYl_fn, Bool.and_true, Bool.true_and, Bool.and_self, beqN_self, Bool.not_true, Bool.not_false, Bool.and_false, Bool.false_and, Bool.or_false, Bool.false_or, Bool.or_true, Bool.true_or, wrap_in, dlt_t, dlt_f, dle_t, dle_f, dgt_t, dgt_f, dge_t, dge_f, ibeq_t, ibeq_f, ibne_t, ibne_f, inR_int, beqN_eq, bleN_le, t41, hpu, List.length_cons, List.length_nil, Nat.zero_add, Nat.reduceAdd, w1, w2, w3]
    by_cases h0 : t = 0
    · subst h0
      simp (disch := omega) only [obs, rC_c, rA_agg, rT_tup, rP_ptr, rW_own, rS_sb, rF_sb, uncV_cons, uncO_cons, nilV_nil, rO_ob, rN_ob, unc_cons, asI_int, asB_bool, asS_string, asSl_sl, asSl_nl, asFn_fn, asP_cp, nrm_sl, nrm_nl, need_true, ct, cf, bd_eq, natD_zero, natD_succ, natD_one, noYl_v, noYl_sl, noYl_nl, noYl_cp, noYl_fn, Bool.and_true, Bool.true_and, Bool.and_self, beqN_self, Bool.not_true, Bool.not_false, Bool.and_false, Bool.false_and, Bool.or_false, Bool.false_or, Bool.or_true, Bool.true_or, wrap_in, dlt_t, dlt_f, dle_t, dle_f, dgt_t, dgt_f, dge_t, dge_f, ibeq_t, ibeq_f, ibne_t, ibne_f, inR_int, beqN_eq, bleN_le, d39, d40, List.length_cons, List.length_nil, Nat.zero_add, Nat.reduceAdd, decide_true, hT, haw, beq_self_eq_true]
    · by_cases hR : lv * t ≤ 100 * r
      · by_cases h5 : 5 ≤ t
        · simp (disch := omega) only [obs, rC_c, rA_agg, rT_tup, rP_ptr, rW_own, rS_sb, rF_sb, uncV_cons, uncO_cons, nilV_nil, rO_ob, rN_ob, unc_cons, asI_int, asB_bool, asS_string, asSl_sl, asSl_nl, asFn_fn, asP_cp, nrm_sl, nrm_nl, need_true, ct, cf, bd_eq, natD_zero, natD_succ, natD_one, noYl_v, noYl_sl, noYl_nl, noYl_cp, noYl_fn, Bool.and_true, Bool.true_and, Bool.and_self, beqN_self, Bool.not_true, Bool.not_false, Bool.and_false, Bool.false_and, Bool.or_false, Bool.false_or, Bool.or_true, Bool.true_or, wrap_in, dlt_t, dlt_f, dle_t, dle_f, dgt_t, dgt_f, dge_t, dge_f, ibeq_t, ibeq_f, ibne_t, ibne_f, inR_int, beqN_eq, bleN_le, d39, d40, List.length_cons, List.length_nil, Nat.zero_add, Nat.reduceAdd, w1, w2, w3, decide_eq_false h0, ge_iff_le, decide_eq_true hR, decide_eq_true h5, hT, haw, beq_self_eq_true]
        · simp (disch := omega) only [obs, rC_c, rA_agg, rT_tup, rP_ptr, rW_own, rS_sb, rF_sb, uncV_cons, uncO_cons, nilV_nil, rO_ob, rN_ob, unc_cons, asI_int, asB_bool, asS_string, asSl_sl, asSl_nl, asFn_fn, asP_cp, nrm_sl, nrm_nl, need_true, ct, cf, bd_eq, natD_zero, natD_succ, natD_one, noYl_v, noYl_sl, noYl_nl, noYl_cp, noYl_fn, Bool.and_true, Bool.true_and, Bool.and_self, beqN_self, Bool.not_true, Bool.not_false, Bool.and_false, Bool.false_and, Bool.or_false, Bool.false_or, Bool.or_true, Bool.true_or, wrap_in, dlt_t, dlt_f, dle_t, dle_f, dgt_t, dgt_f, dge_t, dge_f, ibeq_t, ibeq_f, ibne_t, ibne_f, inR_int, beqN_eq, bleN_le, d39, d40, List.length_cons, List.length_nil, Nat.zero_add, Nat.reduceAdd, w1, w2, w3, decide_eq_false h0, ge_iff_le, decide_eq_true hR, decide_eq_false h5, hT, haw, beq_self_eq_true]
      · by_cases h5 : 5 ≤ t
        · simp (disch := omega) only [obs, rC_c, rA_agg, rT_tup, rP_ptr, rW_own, rS_sb, rF_sb, uncV_cons, uncO_cons, nilV_nil, rO_ob, rN_ob, unc_cons, asI_int, asB_bool, asS_string, asSl_sl, asSl_nl, asFn_fn, asP_cp, nrm_sl, nrm_nl, need_true, ct, cf, bd_eq, natD_zero, natD_succ, natD_one, noYl_v, noYl_sl, noYl_nl, noYl_cp, noYl_fn, Bool.and_true, Bool.true_and, Bool.and_self, beqN_self, Bool.not_true, Bool.not_false, Bool.and_false, Bool.false_and, Bool.or_false, Bool.false_or, Bool.or_true, Bool.true_or, wrap_in, dlt_t, dlt_f, dle_t, dle_f, dgt_t, dgt_f, dge_t, dge_f, ibeq_t, ibeq_f, ibne_t, ibne_f, inR_int, beqN_eq, bleN_le, d39, d40, List.length_cons, List.length_nil, Nat.zero_add, Nat.reduceAdd, w1, w2, w3, decide_eq_false h0, ge_iff_le, decide_eq_false hR, decide_eq_true h5, hF, haw, beq_self_eq_true]
        · simp (disch := omega) only [obs, rC_c, rA_agg, rT_tup, rP_ptr, rW_own, rS_sb, rF_sb, uncV_cons, uncO_cons, nilV_nil, rO_ob, rN_ob, unc_cons, asI_int, asB_bool, asS_string, asSl_sl, asSl_nl, asFn_fn, asP_cp, nrm_sl, nrm_nl, need_true, ct, cf, bd_eq, natD_zero, natD_succ, natD_one, noYl_v, noYl_sl, noYl_nl, noYl_cp, noYl_fn, Bool.and_true, Bool.true_and, Bool.and_self, beqN_self, Bool.not_true, Bool.not_false, Bool.and_false, Bool.false_and, Bool.or_false, Bool.false_or, Bool.or_true, Bool.true_or, wrap_in, dlt_t, dlt_f, dle_t, dle_f, dgt_t, dgt_f, dge_t, dge_f, ibeq_t, ibeq_f, ibne_t, ibne_f, inR_int, beqN_eq, bleN_le, d39, d40, List.length_cons, List.length_nil, Nat.zero_add, Nat.reduceAdd, w1, w2, w3, decide_eq_false h0, ge_iff_le, decide_eq_false hR, decide_eq_false h5, hF, haw, beq_self_eq_true]
  | false =>
    have hpu := hpush C.nl [] rfl (.inl rfl) (sums_n t r)
    have hc : cond [] lv en [(sA, 0 + t, 0 + r)] sA = (decide (5 ≤ t) && decide (en * t ≤ 100 * r)) := by
      unfold cond
      rw [hasS_nil, val_one]
      simp
    rw [hc] at hpu
    simp (disch := omega) only [obs, rC_c, rA_agg, rT_tup, rP_ptr, rW_own, rS_sb, rF_sb, uncV_cons, uncO_cons, nilV_nil, rO_ob, rN_ob, unc_cons, asI_int, asB_bool, asS_string, asSl_sl, asSl_nl, asFn_fn, asP_cp, nrm_sl, nrm_nl, need_true, ct, cf, bd_eq, natD_zero, natD_succ, natD_one, noYl_v, noYl_sl, noYl_nl, noYl_cp, noYl_fn, Bool.and_true, Bool.true_and, Bool.and_self, beqN_self, Bool.not_true, Bool.not_false, Bool.and_false, Bool.false_and, Bool.or_false, Bool.false_or, Bool.or_true, Bool.true_or, wrap_in, dlt_t, dlt_f, dle_t, dle_f, dgt_t, dgt_f, dge_t, dge_f, ibeq_t, ibeq_f, ibne_t, ibne_f, inR_int, beqN_eq, bleN_le, t41, hpu, List.length_cons, List.length_nil, Nat.zero_add, Nat.reduceAdd, w1, w2, w3]
    by_cases h5 : 5 ≤ t
    · by_cases hR : en * t ≤ 100 * r
      · simp (disch := omega) only [obs, rC_c, rA_agg, rT_tup, rP_ptr, rW_own, rS_sb, rF_sb, uncV_cons, uncO_cons, nilV_nil, rO_ob, rN_ob, unc_cons, asI_int, asB_bool, asS_string, asSl_sl, asSl_nl, asFn_fn, asP_cp, nrm_sl, nrm_nl, need_true, ct, cf, bd_eq, natD_zero, natD_succ, natD_one, noYl_v, noYl_sl, noYl_nl, noYl_cp, noYl_fn, Bool.and_true, Bool.true_and, Bool.and_self, beqN_self, Bool.not_true, Bool.not_false, Bool.and_false, Bool.false_and, Bool.or_false, Bool.false_or, Bool.or_true, Bool.true_or, wrap_in, dlt_t, dlt_f, dle_t, dle_f, dgt_t, dgt_f, dge_t, dge_f, ibeq_t, ibeq_f, ibne_t, ibne_f, inR_int, beqN_eq, bleN_le, d39, d40, List.length_cons, List.length_nil, Nat.zero_add, Nat.reduceAdd, w1, w2, w3, ge_iff_le, decide_eq_true hR, decide_eq_true h5, hT, haw, beq_self_eq_true]
      · simp (disch := omega) only [obs, rC_c, rA_agg, rT_tup, rP_ptr, rW_own, rS_sb, rF_sb, uncV_cons, uncO_cons, nilV_nil, rO_ob, rN_ob, unc_cons, asI_int, asB_bool, asS_string, asSl_sl, asSl_nl, asFn_fn, asP_cp, nrm_sl, nrm_nl, need_true, ct, cf, bd_eq, natD_zero, natD_succ, natD_one, noYl_v, noYl_sl, noYl_nl, noYl_cp, noYl_fn, Bool.and_true, Bool.true_and, Bool.and_self, beqN_self, Bool.not_true, Bool.not_false, Bool.and_false, Bool.false_and, Bool.or_false, Bool.false_or, Bool.or_true, Bool.true_or, wrap_in, dlt_t, dlt_f, dle_t, dle_f, dgt_t, dgt_f, dge_t, dge_f, ibeq_t, ibeq_f, ibne_t, ibne_f, inR_int, beqN_eq, bleN_le, d39, d40, List.length_cons, List.length_nil, Nat.zero_add, Nat.reduceAdd, w1, w2, w3, ge_iff_le, decide_eq_false hR, decide_eq_true h5, hF, haw, beq_self_eq_true]
    · simp (disch := omega) only [obs, rC_c, rA_agg, rT_tup, rP_ptr, rW_own, rS_sb, rF_sb, uncV_cons, uncO_cons, nilV_nil, rO_ob, rN_ob, unc_cons, asI_int, asB_bool, asS_string, asSl_sl, asSl_nl, asFn_fn, asP_cp, nrm_sl, nrm_nl, need_true, ct, cf, bd_eq, natD_zero, natD_succ, natD_one, noYl_v, noYl_sl, noYl_nl, noYl_cp, noYl_fn, Bool.and_true, Bool.true_and, Bool.and_self, beqN_self, Bool.not_true, Bool.not_false, Bool.and_false, Bool.false_and, Bool.or_false, Bool.false_or, Bool.or_true, Bool.true_or, wrap_in, dlt_t, dlt_f, dle_t, dle_f, dgt_t, dgt_f, dge_t, dge_f, ibeq_t, ibeq_f, ibne_t, ibne_f, inR_int, beqN_eq, bleN_le, d39, d40, List.length_cons, List.length_nil, Nat.zero_add, Nat.reduceAdd, w1, w2, w3, ge_iff_le, decide_eq_false h5, hF, haw, beq_self_eq_true]
end Go.Proofs.Ytofalpngdbinbaa
/- Equal histories are the same; BlacklistForgets answers true. -/
namespace Go.Proofs.Ytofalpngdbinbaa
open Go Go.PM

theorem putAt_all {l1 l2 : List C} (h : l1.length ≤ l2.length) : putAt l1 0 l2 = l2 := by
  unfold PM.putAt
  rw [List.take_zero, List.nil_append, List.drop_eq_nil_of_le (by omega), List.append_nil]
theorem put41 {cs : List C} (h : cs.length = 41) : putAt ([C.v (.int .i64 0), C.v (.int .i64 0), C.v (.int .i64 0), C.v (.int .i64 0), C.v (.int .i64 0), C.v (.int .i64 0), C.v (.int .i64 0), C.v (.int .i64 0), C.v (.int .i64 0), C.v (.int .i64 0), C.v (.int .i64 0), C.v (.int .i64 0), C.v (.int .i64 0), C.v (.int .i64 0), C.v (.int .i64 0), C.v (.int .i64 0), C.v (.int .i64 0), C.v (.int .i64 0), C.v (.int .i64 0), C.v (.int .i64 0), C.v (.int .i64 0), C.v (.int .i64 0), C.v (.int .i64 0), C.v (.int .i64 0), C.v (.int .i64 0), C.v (.int .i64 0), C.v (.int .i64 0), C.v (.int .i64 0), C.v (.int .i64 0), C.v (.int .i64 0), C.v (.int .i64 0), C.v (.int .i64 0), C.v (.int .i64 0), C.v (.int .i64 0), C.v (.int .i64 0), C.v (.int .i64 0), C.v (.int .i64 0), C.v (.int .i64 0), C.v (.int .i64 0), C.v (.int .i64 0), C.v (.int .i64 0)]) 0 cs = cs := putAt_all (by rw [h]; exact Nat.le_refl _)
theorem take41 {cs : List C} (h : cs.length = 41) : List.take 41 cs = cs := List.take_of_length_le (by omega)
theorem nrm_cyC (l : List Cnt) : nrm (cyC l) = cyC l := rfl

theorem kept_suffix {cy P T : List (List Cnt)} {l : List Cnt} (h : cy = P ++ T) (hT : T.length < 12) (hc : cy.length ≤ 12) : ∃ P', kept cy l = P' ++ (T ++ [l]) := by
  subst h
  unfold kept
  split
  · rename_i h12
    cases P with
    | nil => simp at h12; omega
    | cons p P => exact ⟨P, by simp⟩
  · exact ⟨P, by simp⟩

section
variable (fu d : Nat) (hf : 18446744073709551616 ≤ fu)
include hf
theorem sp_sameCounts (l : List Cnt) (hl : l.length ≤ 1000000) : cl fu (d + 1) fn_synopticref19_sameCounts [V.c (.sl l.length (fl cc l)), V.c (.sl l.length (fl cc l))] [] = some ⟨B true, [], none⟩ := by
  rw [eq_synopticref19_sameCounts]
  simp (disch := omega) only [obs, rC_c, rA_agg, rT_tup, rP_ptr, rW_own, rS_sb, rF_sb, uncV_cons, uncO_cons, nilV_nil, rO_ob, rN_ob, unc_cons, asI_int, asB_bool, asS_string, asSl_sl, asSl_nl, asFn_fn, asP_cp, nrm_sl, nrm_nl, need_true, ct, cf, bd_eq, natD_zero, natD_succ, natD_one, noYl_v, noYl_sl, noYl_nl, noYl_cp, noYl_fn, Bool.and_true, Bool.true_and, Bool.and_self, beqN_self, Bool.not_true, Bool.not_false, Bool.and_false, Bool.false_and, Bool.or_false, Bool.false_or, Bool.or_true, Bool.true_or, wrap_in, dlt_t, dlt_f, dle_t, dle_f, dgt_t, dgt_f, dge_t, dge_f, ibeq_t, ibeq_f, ibne_t, ibne_f, inR_int, beqN_eq, bleN_le]
  rw [iter_runx (fun j : Nat => (false, ((j : Nat) : Int), ())) 0 (false, (l.length : Int), ()) l.length ?_ ?_ ?_ (by omega)]
  · simp only [obs, rC_c, rA_agg, rT_tup, rP_ptr, rW_own, rS_sb, rF_sb, uncV_cons, uncO_cons, nilV_nil, rO_ob, rN_ob, unc_cons, asI_int, asB_bool, asS_string, asSl_sl, asSl_nl, asFn_fn, asP_cp, nrm_sl, nrm_nl, need_true, ct, cf, bd_eq, natD_zero, natD_succ, natD_one, noYl_v, noYl_sl, noYl_nl, noYl_cp, noYl_fn, Bool.and_true, Bool.true_and, Bool.and_self, beqN_self, Bool.not_true, Bool.not_false, Bool.and_false, Bool.false_and, Bool.or_false, Bool.false_or, Bool.or_true, Bool.true_or]
  · rfl
  · intro j hj
    simp (disch := omega) only [obs, rC_c, rA_agg, rT_tup, rP_ptr, rW_own, rS_sb, rF_sb, uncV_cons, uncO_cons, nilV_nil, rO_ob, rN_ob, unc_cons, asI_int, asB_bool, asS_string, asSl_sl, asSl_nl, asFn_fn, asP_cp, nrm_sl, nrm_nl, need_true, ct, cf, bd_eq, natD_zero, natD_succ, natD_one, noYl_v, noYl_sl, noYl_nl, noYl_cp, noYl_fn, Bool.and_true, Bool.true_and, Bool.and_self, beqN_self, Bool.not_true, Bool.not_false, Bool.and_false, Bool.false_and, Bool.or_false, Bool.false_or, Bool.or_true, Bool.true_or, wrap_in, dlt_t, dlt_f, dle_t, dle_f, dgt_t, dgt_f, dge_t, dge_f, ibeq_t, ibeq_f, ibne_t, ibne_f, inR_int, beqN_eq, bleN_le, Int.toNat_natCast, fl_at cc_length hj, cc, List.cons_append, beq_self_eq_true]
    rfl
  · simp (disch := omega) only [obs, rC_c, rA_agg, rT_tup, rP_ptr, rW_own, rS_sb, rF_sb, uncV_cons, uncO_cons, nilV_nil, rO_ob, rN_ob, unc_cons, asI_int, asB_bool, asS_string, asSl_sl, asSl_nl, asFn_fn, asP_cp, nrm_sl, nrm_nl, need_true, ct, cf, bd_eq, natD_zero, natD_succ, natD_one, noYl_v, noYl_sl, noYl_nl, noYl_cp, noYl_fn, Bool.and_true, Bool.true_and, Bool.and_self, beqN_self, Bool.not_true, Bool.not_false, Bool.and_false, Bool.false_and, Bool.or_false, Bool.false_or, Bool.or_true, Bool.true_or, wrap_in, dlt_t, dlt_f, dle_t, dle_f, dgt_t, dgt_f, dge_t, dge_f, ibeq_t, ibeq_f, ibne_t, ibne_f, inR_int, beqN_eq, bleN_le]

theorem sp_refSame {h1 g1 : C} {cy : List (List Cnt)} (e1 : nrm h1 = .sl cy.length (cycs cy)) (e2 : nrm g1 = .sl cy.length (cycs cy)) (hc : cy.length ≤ 1000) (hl : ∀ l ∈ cy, l.length ≤ 1000000) :
    cl fu (d + 2) fn_synopticref19_Same [V.agg [h1, C.nl], V.agg [g1, C.nl]] [] = some ⟨B true, [], none⟩ := by
  rw [eq_synopticref19_Same]
  simp (disch := omega) only [obs, rC_c, rA_agg, rT_tup, rP_ptr, rW_own, rS_sb, rF_sb, uncV_cons, uncO_cons, nilV_nil, rO_ob, rN_ob, unc_cons, asI_int, asB_bool, asS_string, asSl_sl, asSl_nl, asFn_fn, asP_cp, nrm_sl, nrm_nl, need_true, ct, cf, bd_eq, natD_zero, natD_succ, natD_one, noYl_v, noYl_sl, noYl_nl, noYl_cp, noYl_fn, Bool.and_true, Bool.true_and, Bool.and_self, beqN_self, Bool.not_true, Bool.not_false, Bool.and_false, Bool.false_and, Bool.or_false, Bool.false_or, Bool.or_true, Bool.true_or, wrap_in, dlt_t, dlt_f, dle_t, dle_f, dgt_t, dgt_f, dge_t, dge_f, ibeq_t, ibeq_f, ibne_t, ibne_f, inR_int, beqN_eq, bleN_le, asSl_nrm e1, asSl_nrm e2]
  rw [iter_runx (fun j : Nat => (false, ((j : Nat) : Int), ())) 0 (false, (cy.length : Int), ()) cy.length ?_ ?_ ?_ (by omega)]
  · simp only [obs, rC_c, rA_agg, rT_tup, rP_ptr, rW_own, rS_sb, rF_sb, uncV_cons, uncO_cons, nilV_nil, rO_ob, rN_ob, unc_cons, asI_int, asB_bool, asS_string, asSl_sl, asSl_nl, asFn_fn, asP_cp, nrm_sl, nrm_nl, need_true, ct, cf, bd_eq, natD_zero, natD_succ, natD_one, noYl_v, noYl_sl, noYl_nl, noYl_cp, noYl_fn, Bool.and_true, Bool.true_and, Bool.and_self, beqN_self, Bool.not_true, Bool.not_false, Bool.and_false, Bool.false_and, Bool.or_false, Bool.false_or, Bool.or_true, Bool.true_or]
    rw [iter_runx (fun j : Nat => (false, ((j : Nat) : Int), ())) 0 (false, (0 : Int), ()) 0 ?_ ?_ ?_ (by omega)]
    · simp only [obs, rC_c, rA_agg, rT_tup, rP_ptr, rW_own, rS_sb, rF_sb, uncV_cons, uncO_cons, nilV_nil, rO_ob, rN_ob, unc_cons, asI_int, asB_bool, asS_string, asSl_sl, asSl_nl, asFn_fn, asP_cp, nrm_sl, nrm_nl, need_true, ct, cf, bd_eq, natD_zero, natD_succ, natD_one, noYl_v, noYl_sl, noYl_nl, noYl_cp, noYl_fn, Bool.and_true, Bool.true_and, Bool.and_self, beqN_self, Bool.not_true, Bool.not_false, Bool.and_false, Bool.false_and, Bool.or_false, Bool.false_or, Bool.or_true, Bool.true_or]
    · rfl
    · intro j hj; omega
    · rfl
  · rfl
  · intro j hj
    have hs := sp_sameCounts fu d hf cy[j] (hl _ (List.getElem_mem hj))
    simp (disch := omega) only [obs, rC_c, rA_agg, rT_tup, rP_ptr, rW_own, rS_sb, rF_sb, uncV_cons, uncO_cons, nilV_nil, rO_ob, rN_ob, unc_cons, asI_int, asB_bool, asS_string, asSl_sl, asSl_nl, asFn_fn, asP_cp, nrm_sl, nrm_nl, need_true, ct, cf, bd_eq, natD_zero, natD_succ, natD_one, noYl_v, noYl_sl, noYl_nl, noYl_cp, noYl_fn, Bool.and_true, Bool.true_and, Bool.and_self, beqN_self, Bool.not_true, Bool.not_false, Bool.and_false, Bool.false_and, Bool.or_false, Bool.false_or, Bool.or_true, Bool.true_or, wrap_in, dlt_t, dlt_f, dle_t, dle_f, dgt_t, dgt_f, dge_t, dge_f, ibeq_t, ibeq_f, ibne_t, ibne_f, inR_int, beqN_eq, bleN_le, Int.toNat_natCast, Nat.mul_one, cycs_drop cy hj, cyC, hs]
    rfl
  · simp (disch := omega) only [obs, rC_c, rA_agg, rT_tup, rP_ptr, rW_own, rS_sb, rF_sb, uncV_cons, uncO_cons, nilV_nil, rO_ob, rN_ob, unc_cons, asI_int, asB_bool, asS_string, asSl_sl, asSl_nl, asFn_fn, asP_cp, nrm_sl, nrm_nl, need_true, ct, cf, bd_eq, natD_zero, natD_succ, natD_one, noYl_v, noYl_sl, noYl_nl, noYl_cp, noYl_fn, Bool.and_true, Bool.true_and, Bool.and_self, beqN_self, Bool.not_true, Bool.not_false, Bool.and_false, Bool.false_and, Bool.or_false, Bool.false_or, Bool.or_true, Bool.true_or, wrap_in, dlt_t, dlt_f, dle_t, dle_f, dgt_t, dgt_f, dge_t, dge_f, ibeq_t, ibeq_f, ibne_t, ibne_f, inR_int, beqN_eq, bleN_le]

set_option maxHeartbeats 2000000 in
theorem sp_BlacklistForgets (l : List Int) : cl fu (d + 16) fn_synopticlaw19_BlacklistForgets [V.c (C.sl l.length (ints l))] [] = some ⟨B true, [], none⟩ := by
  have hL : (l.take 2000).length ≤ 2000 := by rw [List.length_take]; omega
  have hN := sp_New fu (d + 14) l
  generalize l.take 2000 = L at hL hN
  obtain ⟨h1, h2, cy, nm, j1, ⟨e1, e2, hh⟩, c1⟩ := sp_History fu (d + 10) hf L hL 0 12 (by omega)
  obtain ⟨g1, g2, cy', nm', j2, ⟨e1', e2', hh'⟩, c2⟩ := sp_History fu (d + 10) hf L hL j1 12 (by omega)
  obtain ⟨cs, r40, r39, lv, en, j3, ⟨k40, k39, u1, u2, u3, hcs⟩, c3⟩ := sp_Control fu (d + 11) hf L hL j2
  have haw := sp_awake fu d hf
  unfold srcO srcC at hN c1 c2 c3
  rw [eq_synopticlaw19_BlacklistForgets, hN]
  simp only [obs, rC_c, rA_agg, rT_tup, rP_ptr, rW_own, rS_sb, rF_sb, uncV_cons, uncO_cons, nilV_nil, rO_ob, rN_ob, unc_cons, asI_int, asB_bool, asS_string, asSl_sl, asSl_nl, asFn_fn, asP_cp, nrm_sl, nrm_nl, need_true, ct, cf, bd_eq, natD_zero, natD_succ, natD_one, noYl_v, noYl_sl, noYl_nl, noYl_cp, noYl_fn, Bool.and_true, Bool.true_and, Bool.and_self, beqN_self, Bool.not_true, Bool.not_false, Bool.and_false, Bool.false_and, Bool.or_false, Bool.false_or, Bool.or_true, Bool.true_or, List.length_cons, List.length_nil, Nat.zero_add, Nat.reduceAdd]
  rw [c1]
  simp only [obs, rC_c, rA_agg, rT_tup, rP_ptr, rW_own, rS_sb, rF_sb, uncV_cons, uncO_cons, nilV_nil, rO_ob, rN_ob, unc_cons, asI_int, asB_bool, asS_string, asSl_sl, asSl_nl, asFn_fn, asP_cp, nrm_sl, nrm_nl, need_true, ct, cf, bd_eq, natD_zero, natD_succ, natD_one, noYl_v, noYl_sl, noYl_nl, noYl_cp, noYl_fn, Bool.and_true, Bool.true_and, Bool.and_self, beqN_self, Bool.not_true, Bool.not_false, Bool.and_false, Bool.false_and, Bool.or_false, Bool.false_or, Bool.or_true, Bool.true_or, List.length_cons, List.length_nil, Nat.zero_add, Nat.reduceAdd]
  rw [c2]
  simp only [obs, rC_c, rA_agg, rT_tup, rP_ptr, rW_own, rS_sb, rF_sb, uncV_cons, uncO_cons, nilV_nil, rO_ob, rN_ob, unc_cons, asI_int, asB_bool, asS_string, asSl_sl, asSl_nl, asFn_fn, asP_cp, nrm_sl, nrm_nl, need_true, ct, cf, bd_eq, natD_zero, natD_succ, natD_one, noYl_v, noYl_sl, noYl_nl, noYl_cp, noYl_fn, Bool.and_true, Bool.true_and, Bool.and_self, beqN_self, Bool.not_true, Bool.not_false, Bool.and_false, Bool.false_and, Bool.or_false, Bool.false_or, Bool.or_true, Bool.true_or, List.length_cons, List.length_nil, Nat.zero_add, Nat.reduceAdd]
  rw [c3]
  simp (disch := omega) only [obs, rC_c, rA_agg, rT_tup, rP_ptr, rW_own, rS_sb, rF_sb, uncV_cons, uncO_cons, nilV_nil, rO_ob, rN_ob, unc_cons, asI_int, asB_bool, asS_string, asSl_sl, asSl_nl, asFn_fn, asP_cp, nrm_sl, nrm_nl, need_true, ct, cf, bd_eq, natD_zero, natD_succ, natD_one, noYl_v, noYl_sl, noYl_nl, noYl_cp, noYl_fn, Bool.and_true, Bool.true_and, Bool.and_self, beqN_self, Bool.not_true, Bool.not_false, Bool.and_false, Bool.false_and, Bool.or_false, Bool.false_or, Bool.or_true, Bool.true_or, wrap_in, dlt_t, dlt_f, dle_t, dle_f, dgt_t, dgt_f, dge_t, dge_f, ibeq_t, ibeq_f, ibne_t, ibne_f, inR_int, beqN_eq, bleN_le, List.length_cons, List.length_nil, Nat.zero_add, Nat.reduceAdd, hcs]
  rw [put41 hcs]
  refine iter_bind_ex (A := Bool × Int × (C × C × Unit) × (C × C × Unit) × (C × Int × Unit) × Unit) (B := Out) (fu := fu) (fun o => o = some ⟨B true, [], none⟩)
    (fun j y => ∃ (h1 h2 g1 g2 : C) (cy cy' T P P' : List (List Cnt)) (nm nm' : List ByteArray) (q : Nat), ((nrm h1 = .sl cy.length (cycs cy) ∧ nrm h2 = .sl nm.length (strs nm) ∧ hist6 cy nm) ∧ (nrm g1 = .sl cy'.length (cycs cy') ∧ nrm g2 = .sl nm'.length (strs nm') ∧ hist6 cy' nm') ∧ cy = P ++ T ∧ cy' = P' ++ T ∧ T.length = j) ∧ y = (false, ((j : Nat) : Int), (h1, h2, ()), (g1, g2, ()), (C.sl L.length (ints L), ((q : Nat) : Int), ()), ()))
    (fun z => ∃ (h1 h2 g1 g2 : C) (T : List (List Cnt)) (q : Nat), (nrm h1 = .sl T.length (cycs T) ∧ nrm g1 = .sl T.length (cycs T) ∧ T.length = 12 ∧ ∀ l ∈ T, l.length ≤ 1000000) ∧ z = (false, (12 : Int), (h1, h2, ()), (g1, g2, ()), (C.sl L.length (ints L), ((q : Nat) : Int), ()), ())) 0 12 ?_ ?_ ?_ (by omega) ?_
  · exact ⟨h1, h2, g1, g2, cy, cy', [], cy, cy', nm, nm', j3, ⟨⟨e1, e2, hh⟩, ⟨e1', e2', hh'⟩, by simp, by simp, rfl⟩, rfl⟩
  · rintro j y hj ⟨h1, h2, g1, g2, cy, cy', T, P, P', nm, nm', q, ⟨⟨e1, e2, hh⟩, ⟨e1', e2', hh'⟩, t1, t2, t3⟩, rfl⟩
    obtain ⟨l, q1, hl, x1⟩ := sp_Cycle fu (d + 11) hf L hL q
    have p1 := sp_Push6 fu (d + 1) hf e1 e2 hh hl k40 k39 ⟨u1, u2, u3⟩
    have p2 := sp_Push6 fu (d + 1) hf e1' e2' hh' hl k40 k39 ⟨u1, u2, u3⟩
    unfold srcO srcC at x1
    obtain ⟨P1, w1⟩ := kept_suffix (l := l) t1 (by omega) hh.1
    obtain ⟨P2, w2⟩ := kept_suffix (l := l) t2 (by omega) hh'.1
    refine ⟨_, ?_, C.sl (kept cy l).length (cycs (kept cy l)), C.sl (listed nm lv en (sumsM (kept cy l) nm)).length (strs (listed nm lv en (sumsM (kept cy l) nm))), C.sl (kept cy' l).length (cycs (kept cy' l)), C.sl (listed nm' lv en (sumsM (kept cy' l) nm')).length (strs (listed nm' lv en (sumsM (kept cy' l) nm'))), kept cy l, kept cy' l, T ++ [l], P1, P2, _, _, q1, ⟨⟨rfl, rfl, hh.push hl lv en⟩, ⟨rfl, rfl, hh'.push hl lv en⟩, w1, w2, by simp; omega⟩, rfl⟩
    simp (disch := omega) only [obs, rC_c, rA_agg, rT_tup, rP_ptr, rW_own, rS_sb, rF_sb, uncV_cons, uncO_cons, nilV_nil, rO_ob, rN_ob, unc_cons, asI_int, asB_bool, asS_string, asSl_sl, asSl_nl, asFn_fn, asP_cp, nrm_sl, nrm_nl, need_true, ct, cf, bd_eq, natD_zero, natD_succ, natD_one, noYl_v, noYl_sl, noYl_nl, noYl_cp, noYl_fn, Bool.and_true, Bool.true_and, Bool.and_self, beqN_self, Bool.not_true, Bool.not_false, Bool.and_false, Bool.false_and, Bool.or_false, Bool.false_or, Bool.or_true, Bool.true_or, wrap_in, dlt_t, dlt_f, dle_t, dle_f, dgt_t, dgt_f, dge_t, dge_f, ibeq_t, ibeq_f, ibne_t, ibne_f, inR_int, beqN_eq, bleN_le, x1, nrm_cyC, hcs, take41 hcs, p1, p2, List.length_cons, List.length_nil, Nat.zero_add, Nat.reduceAdd]
    rfl
  · rintro y ⟨h1, h2, g1, g2, cy, cy', T, P, P', nm, nm', q, ⟨⟨e1, e2, hh⟩, ⟨e1', e2', hh'⟩, t1, t2, t3⟩, rfl⟩
    have a1 : P = [] := by have := hh.1; rw [t1, List.length_append] at this; exact List.eq_nil_of_length_eq_zero (by omega)
    have a2 : P' = [] := by have := hh'.1; rw [t2, List.length_append] at this; exact List.eq_nil_of_length_eq_zero (by omega)
    rw [a1, List.nil_append] at t1
    rw [a2, List.nil_append] at t2
    subst t1 t2
    refine ⟨_, ?_, h1, h2, g1, g2, cy', q, ⟨e1, e1', t3, fun l hl => by have := (hh.2.1 l hl).ok.1; omega⟩, rfl⟩
    simp (disch := omega) only [obs, rC_c, rA_agg, rT_tup, rP_ptr, rW_own, rS_sb, rF_sb, uncV_cons, uncO_cons, nilV_nil, rO_ob, rN_ob, unc_cons, asI_int, asB_bool, asS_string, asSl_sl, asSl_nl, asFn_fn, asP_cp, nrm_sl, nrm_nl, need_true, ct, cf, bd_eq, natD_zero, natD_succ, natD_one, noYl_v, noYl_sl, noYl_nl, noYl_cp, noYl_fn, Bool.and_true, Bool.true_and, Bool.and_self, beqN_self, Bool.not_true, Bool.not_false, Bool.and_false, Bool.false_and, Bool.or_false, Bool.false_or, Bool.or_true, Bool.true_or, wrap_in, dlt_t, dlt_f, dle_t, dle_f, dgt_t, dgt_f, dge_t, dge_f, ibeq_t, ibeq_f, ibne_t, ibne_f, inR_int, beqN_eq, bleN_le]
    rfl
  · rintro z ⟨h1, h2, g1, g2, T, q, ⟨e1, e2, hT, hl⟩, rfl⟩
    have hs := sp_refSame fu (d + 13) hf e1 e2 (by omega) hl
    simp only [obs, rC_c, rA_agg, rT_tup, rP_ptr, rW_own, rS_sb, rF_sb, uncV_cons, uncO_cons, nilV_nil, rO_ob, rN_ob, unc_cons, asI_int, asB_bool, asS_string, asSl_sl, asSl_nl, asFn_fn, asP_cp, nrm_sl, nrm_nl, need_true, ct, cf, bd_eq, natD_zero, natD_succ, natD_one, noYl_v, noYl_sl, noYl_nl, noYl_cp, noYl_fn, Bool.and_true, Bool.true_and, Bool.and_self, beqN_self, Bool.not_true, Bool.not_false, Bool.and_false, Bool.false_and, Bool.or_false, Bool.false_or, Bool.or_true, Bool.true_or, hs, haw]
end
end Go.Proofs.Ytofalpngdbinbaa
/- BlacklistKeeps answers true. -/
namespace Go.Proofs.Ytofalpngdbinbaa
open Go Go.PM

theorem kept_len (cy : List (List Cnt)) (l : List Cnt) (h : cy.length ≤ 12) : (((kept cy l).length : Nat) : Int) = if 12 < (cy.length : Int) + 1 then 12 else (cy.length : Int) + 1 := by
  unfold kept
  split
  · rename_i h'
    rw [if_pos (by omega)]; simp; omega
  · rename_i h'
    rw [if_neg (by omega)]; simp
theorem kept_last (cy : List (List Cnt)) (l : List Cnt) : ∃ K, kept cy l = K ++ [l] := by
  unfold kept
  split
  · rename_i h
    cases cy with
    | nil => simp at h
    | cons c cy => exact ⟨cy, by simp⟩
  · exact ⟨cy, rfl⟩

theorem listed_why {cy : List (List Cnt)} {nm : List ByteArray} {lv en : Int} {s : ByteArray} (hs : s ∈ listed nm lv en (sumsM cy nm)) (he : 1 ≤ en) (h0 : (val (sumsM cy nm) s).2 = 0) : hasS nm s = true := by
  unfold listed at hs
  obtain ⟨_, h2⟩ := List.mem_filter.1 hs
  unfold cond at h2
  split at h2
  · assumption
  · simp only [Bool.and_eq_true, decide_eq_true_eq] at h2
    rw [h0] at h2
    obtain ⟨q1, q2⟩ := h2
    have : 1 * 5 ≤ en * (val (sumsM cy nm) s).1 := Int.mul_le_mul he q1 (by omega) (by omega)
    omega

section
variable (fu d : Nat) (hf : 18446744073709551616 ≤ fu)
include hf
theorem sp_refListed {h1 h2 : C} {cy : List (List Cnt)} {nm : List ByteArray} (e1 : nrm h1 = .sl cy.length (cycs cy)) (e2 : nrm h2 = .sl nm.length (strs nm)) (h : hist6 cy nm) (s : ByteArray) :
    cl fu (d + 3) fn_synopticref19_Listed [V.agg [h1, h2], V.c (.v (.string s))] [] = some ⟨B (hasS nm s), [], none⟩ := by
  have hV := sp_refValidate fu d hf e1 e2 h
  have hI := sp_in fu (d + 1) hf nm s (by have := h.2.2.2.length; omega)
  rw [eq_synopticref19_Listed, hV, e2]
  simp (disch := omega) only [obs, rC_c, rA_agg, rT_tup, rP_ptr, rW_own, rS_sb, rF_sb, uncV_cons, uncO_cons, nilV_nil, rO_ob, rN_ob, unc_cons, asI_int, asB_bool, asS_string, asSl_sl, asSl_nl, asFn_fn, asP_cp, nrm_sl, nrm_nl, need_true, ct, cf, bd_eq, natD_zero, natD_succ, natD_one, noYl_v, noYl_sl, noYl_nl, noYl_cp, noYl_fn, Bool.and_true, Bool.true_and, Bool.and_self, beqN_self, Bool.not_true, Bool.not_false, Bool.and_false, Bool.false_and, Bool.or_false, Bool.false_or, Bool.or_true, Bool.true_or, wrap_in, dlt_t, dlt_f, dle_t, dle_f, dgt_t, dgt_f, dge_t, dge_f, ibeq_t, ibeq_f, ibne_t, ibne_f, inR_int, beqN_eq, bleN_le, hI]

set_option maxHeartbeats 4000000 in
theorem sp_BlacklistKeeps (l0 : List Int) : cl fu (d + 16) fn_synopticlaw19_BlacklistKeeps [V.c (C.sl l0.length (ints l0))] [] = some ⟨B true, [], none⟩ := by
  have hL : (l0.take 2000).length ≤ 2000 := by rw [List.length_take]; omega
  have hN := sp_New fu (d + 14) l0
  generalize l0.take 2000 = L at hL hN
  obtain ⟨h1, h2, cy, nm, j1, ⟨e1, e2, hh⟩, c1⟩ := sp_History fu (d + 10) hf L hL 0 14 (by omega)
  obtain ⟨l, j2, hl, c2⟩ := sp_Cycle fu (d + 11) hf L hL j1
  obtain ⟨cs, r40, r39, lv, en, j3, ⟨k40, k39, u1, u2, u3, hcs⟩, c3⟩ := sp_Control fu (d + 11) hf L hL j2
  have haw := sp_awake fu d hf
  have pl := sp_Push6 fu (d + 1) hf e1 e2 hh hl k40 k39 ⟨u1, u2, u3⟩
  have hp := hh.push hl lv en
  have hcl := hh.1
  have hkl := kept_len cy l hcl
  have hll := hl.ok.1
  have hli := sp_refListed fu (d + 12) hf e1 e2 hh
  have hwhy := @listed_why (kept cy l) nm lv en
  obtain ⟨K, hK⟩ := kept_last cy l
  have hlast : List.drop (K.length * 1) (cycs (kept cy l)) = [cyC l] := by
    rw [hK, Nat.mul_one]; simp [cycs]
  have hKl : (kept cy l).length = K.length + 1 := by rw [hK]; simp
  generalize kept cy l = CY at *
  have hna := hp.2.2.2.length
  have hV := sp_refValidate fu (d + 13) hf (h1 := C.sl CY.length (cycs CY)) (h2 := C.sl (listed nm lv en (sumsM CY nm)).length (strs (listed nm lv en (sumsM CY nm)))) rfl rfl hp
  have hsame := sp_refSame fu (d + 13) hf (h1 := C.sl 1 [cyC l]) (g1 := C.sl 1 [cyC l]) (cy := [l]) rfl rfl (by simp) (by simp; omega)
  have hcyc := hp.2.1
  have hcl2 := hp.1
  clear hp
  have hall : ∀ x ∈ CY, x.length ≤ 150 ∧ ∀ c ∈ x, cntOk c := fun x hx => ⟨(hcyc x hx).ok.1, (hcyc x hx).ok.2.1⟩
  generalize hA : listed nm lv en (sumsM CY nm) = A at *
  unfold srcO srcC at hN c1 c2 c3
  rw [eq_synopticlaw19_BlacklistKeeps, hN]
  simp only [obs, rC_c, rA_agg, rT_tup, rP_ptr, rW_own, rS_sb, rF_sb, uncV_cons, uncO_cons, nilV_nil, rO_ob, rN_ob, unc_cons, asI_int, asB_bool, asS_string, asSl_sl, asSl_nl, asFn_fn, asP_cp, nrm_sl, nrm_nl, need_true, ct, cf, bd_eq, natD_zero, natD_succ, natD_one, noYl_v, noYl_sl, noYl_nl, noYl_cp, noYl_fn, Bool.and_true, Bool.true_and, Bool.and_self, beqN_self, Bool.not_true, Bool.not_false, Bool.and_false, Bool.false_and, Bool.or_false, Bool.false_or, Bool.or_true, Bool.true_or, List.length_cons, List.length_nil, Nat.zero_add, Nat.reduceAdd]
  rw [c1]
  simp only [obs, rC_c, rA_agg, rT_tup, rP_ptr, rW_own, rS_sb, rF_sb, uncV_cons, uncO_cons, nilV_nil, rO_ob, rN_ob, unc_cons, asI_int, asB_bool, asS_string, asSl_sl, asSl_nl, asFn_fn, asP_cp, nrm_sl, nrm_nl, need_true, ct, cf, bd_eq, natD_zero, natD_succ, natD_one, noYl_v, noYl_sl, noYl_nl, noYl_cp, noYl_fn, Bool.and_true, Bool.true_and, Bool.and_self, beqN_self, Bool.not_true, Bool.not_false, Bool.and_false, Bool.false_and, Bool.or_false, Bool.false_or, Bool.or_true, Bool.true_or, List.length_cons, List.length_nil, Nat.zero_add, Nat.reduceAdd]
  rw [c2]
  simp only [obs, rC_c, rA_agg, rT_tup, rP_ptr, rW_own, rS_sb, rF_sb, uncV_cons, uncO_cons, nilV_nil, rO_ob, rN_ob, unc_cons, asI_int, asB_bool, asS_string, asSl_sl, asSl_nl, asFn_fn, asP_cp, nrm_sl, nrm_nl, need_true, ct, cf, bd_eq, natD_zero, natD_succ, natD_one, noYl_v, noYl_sl, noYl_nl, noYl_cp, noYl_fn, Bool.and_true, Bool.true_and, Bool.and_self, beqN_self, Bool.not_true, Bool.not_false, Bool.and_false, Bool.false_and, Bool.or_false, Bool.false_or, Bool.or_true, Bool.true_or, List.length_cons, List.length_nil, Nat.zero_add, Nat.reduceAdd]
  rw [c3]
  simp (disch := omega) only [obs, rC_c, rA_agg, rT_tup, rP_ptr, rW_own, rS_sb, rF_sb, uncV_cons, uncO_cons, nilV_nil, rO_ob, rN_ob, unc_cons, asI_int, asB_bool, asS_string, asSl_sl, asSl_nl, asFn_fn, asP_cp, nrm_sl, nrm_nl, need_true, ct, cf, bd_eq, natD_zero, natD_succ, natD_one, noYl_v, noYl_sl, noYl_nl, noYl_cp, noYl_fn, Bool.and_true, Bool.true_and, Bool.and_self, beqN_self, Bool.not_true, Bool.not_false, Bool.and_false, Bool.false_and, Bool.or_false, Bool.false_or, Bool.or_true, Bool.true_or, wrap_in, dlt_t, dlt_f, dle_t, dle_f, dgt_t, dgt_f, dge_t, dge_f, ibeq_t, ibeq_f, ibne_t, ibne_f, inR_int, beqN_eq, bleN_le, List.length_cons, List.length_nil, Nat.zero_add, Nat.reduceAdd, hcs]
  rw [put41 hcs]
  simp (disch := omega) only [obs, rC_c, rA_agg, rT_tup, rP_ptr, rW_own, rS_sb, rF_sb, uncV_cons, uncO_cons, nilV_nil, rO_ob, rN_ob, unc_cons, asI_int, asB_bool, asS_string, asSl_sl, asSl_nl, asFn_fn, asP_cp, nrm_sl, nrm_nl, need_true, ct, cf, bd_eq, natD_zero, natD_succ, natD_one, noYl_v, noYl_sl, noYl_nl, noYl_cp, noYl_fn, Bool.and_true, Bool.true_and, Bool.and_self, beqN_self, Bool.not_true, Bool.not_false, Bool.and_false, Bool.false_and, Bool.or_false, Bool.false_or, Bool.or_true, Bool.true_or, wrap_in, dlt_t, dlt_f, dle_t, dle_f, dgt_t, dgt_f, dge_t, dge_f, ibeq_t, ibeq_f, ibne_t, ibne_f, inR_int, beqN_eq, bleN_le, hcs, take41 hcs, nrm_cyC, pl, List.length_cons, List.length_nil, Nat.zero_add, Nat.reduceAdd, hV, asSl_nrm e1]
  have hsl : ∀ {R : Type} (k : C → Option R), sliceC 1 (some (I ((CY.length : Int) - 1))) none (C.sl CY.length (cycs CY)) k = k (C.sl 1 [cyC l]) := by
    intro R k
    have ht : ((CY.length : Int) - 1).toNat = K.length := by omega
    have h1 : CY.length - K.length = 1 := by omega
    simp only [sliceC, bound]
    rw [decide_eq_true (show (0 : Int) ≤ (CY.length : Int) - 1 by omega), decide_eq_true (show (CY.length : Int) - 1 ≤ (CY.length : Int) by omega), ht, hlast, h1]
    simp only [obs, rC_c, rA_agg, rT_tup, rP_ptr, rW_own, rS_sb, rF_sb, uncV_cons, uncO_cons, nilV_nil, rO_ob, rN_ob, unc_cons, asI_int, asB_bool, asS_string, asSl_sl, asSl_nl, asFn_fn, asP_cp, nrm_sl, nrm_nl, need_true, ct, cf, bd_eq, natD_zero, natD_succ, natD_one, noYl_v, noYl_sl, noYl_nl, noYl_cp, noYl_fn, Bool.and_true, Bool.true_and, Bool.and_self, beqN_self, Bool.not_true, Bool.not_false, Bool.and_false, Bool.false_and, Bool.or_false, Bool.false_or, Bool.or_true, Bool.true_or]
    rfl
  simp (disch := omega) only [obs, rC_c, rA_agg, rT_tup, rP_ptr, rW_own, rS_sb, rF_sb, uncV_cons, uncO_cons, nilV_nil, rO_ob, rN_ob, unc_cons, asI_int, asB_bool, asS_string, asSl_sl, asSl_nl, asFn_fn, asP_cp, nrm_sl, nrm_nl, need_true, ct, cf, bd_eq, natD_zero, natD_succ, natD_one, noYl_v, noYl_sl, noYl_nl, noYl_cp, noYl_fn, Bool.and_true, Bool.true_and, Bool.and_self, beqN_self, Bool.not_true, Bool.not_false, Bool.and_false, Bool.false_and, Bool.or_false, Bool.false_or, Bool.or_true, Bool.true_or, wrap_in, dlt_t, dlt_f, dle_t, dle_f, dgt_t, dgt_f, dge_t, dge_f, ibeq_t, ibeq_f, ibne_t, ibne_f, inR_int, beqN_eq, bleN_le, hsl, hsame, out0]
  rw [iter_runx (fun j : Nat => (false, ((j : Nat) : Int), ())) 0 (false, (A.length : Int), ()) A.length ?_ ?_ ?_ (by omega)]
  · simp only [obs, rC_c, rA_agg, rT_tup, rP_ptr, rW_own, rS_sb, rF_sb, uncV_cons, uncO_cons, nilV_nil, rO_ob, rN_ob, unc_cons, asI_int, asB_bool, asS_string, asSl_sl, asSl_nl, asFn_fn, asP_cp, nrm_sl, nrm_nl, need_true, ct, cf, bd_eq, natD_zero, natD_succ, natD_one, noYl_v, noYl_sl, noYl_nl, noYl_cp, noYl_fn, Bool.and_true, Bool.true_and, Bool.and_self, beqN_self, Bool.not_true, Bool.not_false, Bool.and_false, Bool.false_and, Bool.or_false, Bool.false_or, Bool.or_true, Bool.true_or, haw]
  · rfl
  · intro j hj
    have hs := hwhy (s := A[j]) (List.getElem_mem hj) (by omega)
    have hls := hli A[j]
    generalize hAj : A[j] = s at *
    have hbz : ∀ j, j ≤ CY.length → Bnd ((CY.take j).foldl addl (zeros nm)) (15000000 * j) := by
      intro j
      induction j with
      | zero => intro _; simpa using Bnd.zeros nm
      | succ j ih =>
        intro hj
        have hj' : j < CY.length := by omega
        rw [List.take_succ_eq_append_getElem hj', List.foldl_append]
        have q1 := hall CY[j] (List.getElem_mem hj')
        have q2 := Bnd.addl (ih (by omega)) q1.2
        intro s
        have := q2 s
        simp only [List.foldl_cons, List.foldl_nil]
        omega
    simp (disch := omega) only [obs, rC_c, rA_agg, rT_tup, rP_ptr, rW_own, rS_sb, rF_sb, uncV_cons, uncO_cons, nilV_nil, rO_ob, rN_ob, unc_cons, asI_int, asB_bool, asS_string, asSl_sl, asSl_nl, asFn_fn, asP_cp, nrm_sl, nrm_nl, need_true, ct, cf, bd_eq, natD_zero, natD_succ, natD_one, noYl_v, noYl_sl, noYl_nl, noYl_cp, noYl_fn, Bool.and_true, Bool.true_and, Bool.and_self, beqN_self, Bool.not_true, Bool.not_false, Bool.and_false, Bool.false_and, Bool.or_false, Bool.false_or, Bool.or_true, Bool.true_or, wrap_in, dlt_t, dlt_f, dle_t, dle_f, dgt_t, dgt_f, dge_t, dge_f, ibeq_t, ibeq_f, ibne_t, ibne_f, inR_int, beqN_eq, bleN_le, Int.toNat_natCast, Nat.mul_one, strs_drop A hj, hAj]
    rw [iter_runx (fun j : Nat => ((val ((CY.take j).foldl addl (zeros nm)) s).2, ((j : Nat) : Int), ())) 0 ((val (sumsM CY nm) s).2, (CY.length : Int), ()) CY.length ?_ ?_ ?_ (by omega)]
    · by_cases h0 : (val (sumsM CY nm) s).2 = 0
      · rw [hs h0] at hls
        simp (disch := omega) only [obs, rC_c, rA_agg, rT_tup, rP_ptr, rW_own, rS_sb, rF_sb, uncV_cons, uncO_cons, nilV_nil, rO_ob, rN_ob, unc_cons, asI_int, asB_bool, asS_string, asSl_sl, asSl_nl, asFn_fn, asP_cp, nrm_sl, nrm_nl, need_true, ct, cf, bd_eq, natD_zero, natD_succ, natD_one, noYl_v, noYl_sl, noYl_nl, noYl_cp, noYl_fn, Bool.and_true, Bool.true_and, Bool.and_self, beqN_self, Bool.not_true, Bool.not_false, Bool.and_false, Bool.false_and, Bool.or_false, Bool.false_or, Bool.or_true, Bool.true_or, wrap_in, dlt_t, dlt_f, dle_t, dle_f, dgt_t, dgt_f, dge_t, dge_f, ibeq_t, ibeq_f, ibne_t, ibne_f, inR_int, beqN_eq, bleN_le, hls]
        rfl
      · simp (disch := omega) only [obs, rC_c, rA_agg, rT_tup, rP_ptr, rW_own, rS_sb, rF_sb, uncV_cons, uncO_cons, nilV_nil, rO_ob, rN_ob, unc_cons, asI_int, asB_bool, asS_string, asSl_sl, asSl_nl, asFn_fn, asP_cp, nrm_sl, nrm_nl, need_true, ct, cf, bd_eq, natD_zero, natD_succ, natD_one, noYl_v, noYl_sl, noYl_nl, noYl_cp, noYl_fn, Bool.and_true, Bool.true_and, Bool.and_self, beqN_self, Bool.not_true, Bool.not_false, Bool.and_false, Bool.false_and, Bool.or_false, Bool.false_or, Bool.or_true, Bool.true_or, wrap_in, dlt_t, dlt_f, dle_t, dle_f, dgt_t, dgt_f, dge_t, dge_f, ibeq_t, ibeq_f, ibne_t, ibne_f, inR_int, beqN_eq, bleN_le]
        rfl
    · rw [List.take_zero, List.foldl_nil, zeros_val]
      rfl
    · intro i hi
      have hlj := hall CY[i] (List.getElem_mem hi)
      have hbj := hbz i (by omega)
      have hnext : (CY.take (i + 1)).foldl addl (zeros nm) = addl ((CY.take i).foldl addl (zeros nm)) CY[i] := by
        rw [List.take_succ_eq_append_getElem hi, List.foldl_append]; rfl
      rw [hnext]
      generalize (CY.take i).foldl addl (zeros nm) = M at hbj ⊢
      simp (disch := omega) only [obs, rC_c, rA_agg, rT_tup, rP_ptr, rW_own, rS_sb, rF_sb, uncV_cons, uncO_cons, nilV_nil, rO_ob, rN_ob, unc_cons, asI_int, asB_bool, asS_string, asSl_sl, asSl_nl, asFn_fn, asP_cp, nrm_sl, nrm_nl, need_true, ct, cf, bd_eq, natD_zero, natD_succ, natD_one, noYl_v, noYl_sl, noYl_nl, noYl_cp, noYl_fn, Bool.and_true, Bool.true_and, Bool.and_self, beqN_self, Bool.not_true, Bool.not_false, Bool.and_false, Bool.false_and, Bool.or_false, Bool.false_or, Bool.or_true, Bool.true_or, wrap_in, dlt_t, dlt_f, dle_t, dle_f, dgt_t, dgt_f, dge_t, dge_f, ibeq_t, ibeq_f, ibne_t, ibne_f, inR_int, beqN_eq, bleN_le, Int.toNat_natCast, Nat.mul_one, cycs_drop CY hi, cyC]
      generalize CY[i] = x at hlj ⊢
      obtain ⟨hl1, hl2⟩ := hlj
      rw [iter_runx (fun k : Nat => ((val (addl M (x.take k)) s).2, ((k : Nat) : Int), ())) 0 ((val (addl M x) s).2, (x.length : Int), ()) x.length ?_ ?_ ?_ (by omega)]
      · simp only [obs, rC_c, rA_agg, rT_tup, rP_ptr, rW_own, rS_sb, rF_sb, uncV_cons, uncO_cons, nilV_nil, rO_ob, rN_ob, unc_cons, asI_int, asB_bool, asS_string, asSl_sl, asSl_nl, asFn_fn, asP_cp, nrm_sl, nrm_nl, need_true, ct, cf, bd_eq, natD_zero, natD_succ, natD_one, noYl_v, noYl_sl, noYl_nl, noYl_cp, noYl_fn, Bool.and_true, Bool.true_and, Bool.and_self, beqN_self, Bool.not_true, Bool.not_false, Bool.and_false, Bool.false_and, Bool.or_false, Bool.false_or, Bool.or_true, Bool.true_or]
        rfl
      · rfl
      · intro k hk
        have hbi := Bnd.addl (l := x.take k) hbj fun c hc => hl2 c (List.mem_of_mem_take hc)
        have hnx : addl M (x.take (k + 1)) = addc (addl M (x.take k)) x[k] := by
          unfold addl
          rw [List.take_succ_eq_append_getElem hk, List.foldl_append]; rfl
        have hci := hl2 x[k] (List.getElem_mem hk)
        rw [hnx]
        generalize addl M (x.take k) = M' at hbi ⊢
        have hv := hbi s
        obtain ⟨_, hc1, hc2⟩ := hci
        have hti : (List.take k x).length = k := by rw [List.length_take]; omega
        rw [hti] at hv
        unfold addc
        rw [val_upd]
        simp (disch := omega) only [obs, rC_c, rA_agg, rT_tup, rP_ptr, rW_own, rS_sb, rF_sb, uncV_cons, uncO_cons, nilV_nil, rO_ob, rN_ob, unc_cons, asI_int, asB_bool, asS_string, asSl_sl, asSl_nl, asFn_fn, asP_cp, nrm_sl, nrm_nl, need_true, ct, cf, bd_eq, natD_zero, natD_succ, natD_one, noYl_v, noYl_sl, noYl_nl, noYl_cp, noYl_fn, Bool.and_true, Bool.true_and, Bool.and_self, beqN_self, Bool.not_true, Bool.not_false, Bool.and_false, Bool.false_and, Bool.or_false, Bool.false_or, Bool.or_true, Bool.true_or, wrap_in, dlt_t, dlt_f, dle_t, dle_f, dgt_t, dgt_f, dge_t, dge_f, ibeq_t, ibeq_f, ibne_t, ibne_f, inR_int, beqN_eq, bleN_le, Int.toNat_natCast, fl_at cc_length hk, cc, List.cons_append, toList_beq]
        by_cases e : s = x[k].nm
        · rw [decide_eq_true e.symm, if_pos e]
          simp (disch := omega) only [obs, rC_c, rA_agg, rT_tup, rP_ptr, rW_own, rS_sb, rF_sb, uncV_cons, uncO_cons, nilV_nil, rO_ob, rN_ob, unc_cons, asI_int, asB_bool, asS_string, asSl_sl, asSl_nl, asFn_fn, asP_cp, nrm_sl, nrm_nl, need_true, ct, cf, bd_eq, natD_zero, natD_succ, natD_one, noYl_v, noYl_sl, noYl_nl, noYl_cp, noYl_fn, Bool.and_true, Bool.true_and, Bool.and_self, beqN_self, Bool.not_true, Bool.not_false, Bool.and_false, Bool.false_and, Bool.or_false, Bool.false_or, Bool.or_true, Bool.true_or, wrap_in, dlt_t, dlt_f, dle_t, dle_f, dgt_t, dgt_f, dge_t, dge_f, ibeq_t, ibeq_f, ibne_t, ibne_f, inR_int, beqN_eq, bleN_le, ← e]
          rfl
        · rw [decide_eq_false (fun e' => e e'.symm), if_neg e]
          simp (disch := omega) only [obs, rC_c, rA_agg, rT_tup, rP_ptr, rW_own, rS_sb, rF_sb, uncV_cons, uncO_cons, nilV_nil, rO_ob, rN_ob, unc_cons, asI_int, asB_bool, asS_string, asSl_sl, asSl_nl, asFn_fn, asP_cp, nrm_sl, nrm_nl, need_true, ct, cf, bd_eq, natD_zero, natD_succ, natD_one, noYl_v, noYl_sl, noYl_nl, noYl_cp, noYl_fn, Bool.and_true, Bool.true_and, Bool.and_self, beqN_self, Bool.not_true, Bool.not_false, Bool.and_false, Bool.false_and, Bool.or_false, Bool.false_or, Bool.or_true, Bool.true_or, wrap_in, dlt_t, dlt_f, dle_t, dle_f, dgt_t, dgt_f, dge_t, dge_f, ibeq_t, ibeq_f, ibne_t, ibne_f, inR_int, beqN_eq, bleN_le]
          rfl
      · rw [List.take_length]
        simp (disch := omega) only [obs, rC_c, rA_agg, rT_tup, rP_ptr, rW_own, rS_sb, rF_sb, uncV_cons, uncO_cons, nilV_nil, rO_ob, rN_ob, unc_cons, asI_int, asB_bool, asS_string, asSl_sl, asSl_nl, asFn_fn, asP_cp, nrm_sl, nrm_nl, need_true, ct, cf, bd_eq, natD_zero, natD_succ, natD_one, noYl_v, noYl_sl, noYl_nl, noYl_cp, noYl_fn, Bool.and_true, Bool.true_and, Bool.and_self, beqN_self, Bool.not_true, Bool.not_false, Bool.and_false, Bool.false_and, Bool.or_false, Bool.false_or, Bool.or_true, Bool.true_or, wrap_in, dlt_t, dlt_f, dle_t, dle_f, dgt_t, dgt_f, dge_t, dge_f, ibeq_t, ibeq_f, ibne_t, ibne_f, inR_int, beqN_eq, bleN_le]
    · rw [List.take_length]
      simp (disch := omega) only [obs, rC_c, rA_agg, rT_tup, rP_ptr, rW_own, rS_sb, rF_sb, uncV_cons, uncO_cons, nilV_nil, rO_ob, rN_ob, unc_cons, asI_int, asB_bool, asS_string, asSl_sl, asSl_nl, asFn_fn, asP_cp, nrm_sl, nrm_nl, need_true, ct, cf, bd_eq, natD_zero, natD_succ, natD_one, noYl_v, noYl_sl, noYl_nl, noYl_cp, noYl_fn, Bool.and_true, Bool.true_and, Bool.and_self, beqN_self, Bool.not_true, Bool.not_false, Bool.and_false, Bool.false_and, Bool.or_false, Bool.false_or, Bool.or_true, Bool.true_or, wrap_in, dlt_t, dlt_f, dle_t, dle_f, dgt_t, dgt_f, dge_t, dge_f, ibeq_t, ibeq_f, ibne_t, ibne_f, inR_int, beqN_eq, bleN_le]
      rfl
  · simp (disch := omega) only [obs, rC_c, rA_agg, rT_tup, rP_ptr, rW_own, rS_sb, rF_sb, uncV_cons, uncO_cons, nilV_nil, rO_ob, rN_ob, unc_cons, asI_int, asB_bool, asS_string, asSl_sl, asSl_nl, asFn_fn, asP_cp, nrm_sl, nrm_nl, need_true, ct, cf, bd_eq, natD_zero, natD_succ, natD_one, noYl_v, noYl_sl, noYl_nl, noYl_cp, noYl_fn, Bool.and_true, Bool.true_and, Bool.and_self, beqN_self, Bool.not_true, Bool.not_false, Bool.and_false, Bool.false_and, Bool.or_false, Bool.false_or, Bool.or_true, Bool.true_or, wrap_in, dlt_t, dlt_f, dle_t, dle_f, dgt_t, dgt_f, dge_t, dge_f, ibeq_t, ibeq_f, ibne_t, ibne_f, inR_int, beqN_eq, bleN_le]
end
end Go.Proofs.Ytofalpngdbinbaa
/- BlacklistAlone answers true. -/
namespace Go.Proofs.Ytofalpngdbinbaa
open Go Go.PM

/-- The counts of one name. -/
def of1 (s : ByteArray) (l : List Cnt) : List Cnt := l.filter fun c => decide (c.nm = s)
theorem noYl_cyC (l : List Cnt) : noYl [V.c (cyC l)] = true := rfl
theorem of1_succ (s : ByteArray) (l : List Cnt) {j : Nat} (hj : j < l.length) : of1 s (l.take (j + 1)) = bif decide (l[j].nm = s) then of1 s (l.take j) ++ [l[j]] else of1 s (l.take j) := by
  unfold of1
  rw [List.take_succ_eq_append_getElem hj, List.filter_append]
  cases h : decide (l[j].nm = s) <;> simp [h]
theorem of1_cyc {l : List Cnt} (h : cyc6 l) (s : ByteArray) : cyc6 (of1 s l) := by
  refine ⟨fun c hc => h.1 c (List.mem_filter.1 hc).1, ?_⟩
  have := h.2
  unfold asc6 at this ⊢
  rw [List.pairwise_map] at this ⊢
  exact List.Pairwise.filter _ this
theorem of1_mem {s : ByteArray} {l : List Cnt} : s ∈ (of1 s l).map Cnt.nm ↔ s ∈ l.map Cnt.nm := by
  constructor
  · intro h
    obtain ⟨c, hc, e⟩ := List.mem_map.1 h
    exact List.mem_map.2 ⟨c, (List.mem_filter.1 hc).1, e⟩
  · intro h
    obtain ⟨c, hc, e⟩ := List.mem_map.1 h
    exact List.mem_map.2 ⟨c, List.mem_filter.2 ⟨hc, decide_eq_true e⟩, e⟩
theorem of1_val (s : ByteArray) : ∀ (l : List Cnt) (M M' : List Ent), val M s = val M' s → val (addl M l) s = val (addl M' (of1 s l)) s
  | [], M, M', h => h
  | c :: l, M, M', h => by
    by_cases e : c.nm = s
    · have e1 : of1 s (c :: l) = c :: of1 s l := by simp [of1, e]
      rw [e1]
      refine of1_val s l _ _ ?_
      unfold addc
      rw [val_upd, val_upd, if_pos e.symm, if_pos e.symm, e, h]
    · have e1 : of1 s (c :: l) = of1 s l := by simp [of1, e]
      rw [e1]
      refine of1_val s l _ _ ?_
      unfold addc
      rw [val_upd, if_neg (fun e' => e e'.symm), h]
theorem of1_vals (s : ByteArray) : ∀ (cy : List (List Cnt)) (M M' : List Ent), val M s = val M' s → val (cy.foldl addl M) s = val ((cy.map (of1 s)).foldl addl M') s
  | [], M, M', h => h
  | l :: cy, M, M', h => of1_vals s cy _ _ (of1_val s l M M' h)
theorem of1_kept (s : ByteArray) (cy : List (List Cnt)) (l : List Cnt) : kept (cy.map (of1 s)) (of1 s l) = (kept cy l).map (of1 s) := by
  unfold kept
  simp only [List.length_map]
  split <;> simp
def one1 (nm : List ByteArray) (s : ByteArray) : List ByteArray := bif hasS nm s then [s] else []
theorem one1_hasS (nm : List ByteArray) (s : ByteArray) : hasS (one1 nm s) s = hasS nm s := by
  unfold one1
  cases h : hasS nm s <;> simp [hasS]
theorem one1_mem (nm : List ByteArray) (s : ByteArray) : s ∈ one1 nm s ↔ s ∈ nm := by
  rw [← hasS_iff, ← hasS_iff, one1_hasS]

theorem listed_alone (cy : List (List Cnt)) (nm : List ByteArray) (lv en : Int) (s : ByteArray) :
    hasS (listed (one1 nm s) lv en (sumsM (cy.map (of1 s)) (one1 nm s))) s = hasS (listed nm lv en (sumsM cy nm)) s := by
  have hv : val (sumsM cy nm) s = val (sumsM (cy.map (of1 s)) (one1 nm s)) s := by
    unfold sumsM
    exact of1_vals s cy _ _ (by rw [zeros_val, zeros_val])
  have hc : cond (one1 nm s) lv en (sumsM (cy.map (of1 s)) (one1 nm s)) s = cond nm lv en (sumsM cy nm) s := by
    unfold cond
    rw [one1_hasS, ← hv]
  have hk : s ∈ keys (sumsM (cy.map (of1 s)) (one1 nm s)) ↔ s ∈ keys (sumsM cy nm) := by
    rw [mem_sums, mem_sums, one1_mem]
    constructor
    · rintro (h | ⟨l, hl, h⟩)
      · exact .inl h
      · obtain ⟨x, hx, rfl⟩ := List.mem_map.1 hl
        exact .inr ⟨x, hx, of1_mem.1 h⟩
    · rintro (h | ⟨l, hl, h⟩)
      · exact .inl h
      · exact .inr ⟨of1 s l, List.mem_map.2 ⟨l, hl, rfl⟩, of1_mem.2 h⟩
  have : (hasS (listed (one1 nm s) lv en (sumsM (cy.map (of1 s)) (one1 nm s))) s = true) ↔ (hasS (listed nm lv en (sumsM cy nm)) s = true) := by
    rw [hasS_iff, hasS_iff]
    unfold listed
    rw [List.mem_filter, List.mem_filter, sortB_mem, sortB_mem, hk, hc]
  exact Bool.eq_iff_iff.2 this

theorem one1_hist {cy : List (List Cnt)} {nm : List ByteArray} (h : hist6 cy nm) {s : ByteArray} (hs : s ∈ names6) : hist6 (cy.map (of1 s)) (one1 nm s) := by
  refine ⟨by rw [List.length_map]; exact h.1, fun l hl => ?_, ?_, ?_⟩
  · obtain ⟨x, hx, rfl⟩ := List.mem_map.1 hl
    exact of1_cyc (h.2.1 x hx) s
  · unfold one1
    cases hasS nm s with
    | true => intro x hx; simp at hx; subst hx; exact hs
    | false => intro x hx; simp at hx
  · unfold one1
    cases hasS nm s <;> simp [asc6]

section
variable (fu d : Nat) (hf : 18446744073709551616 ≤ fu)
include hf
theorem sp_only (l : List Cnt) (s : ByteArray) (hl : l.length ≤ 1000) : cl fu (d + 1) fn_synopticlaw19_only [V.c (.sl l.length (fl cc l)), V.c (.v (.string s))] [] = some ⟨V.c (cyC (of1 s l)), [], none⟩ := by
  rw [eq_synopticlaw19_only]
  have hle : ∀ j, (of1 s (l.take j)).length ≤ 1000 := fun j => by
    unfold of1
    exact Nat.le_trans (List.length_filter_le _ _) (by rw [List.length_take]; omega)
  rw [iter_runx (fun j : Nat => (fl cc (of1 s (l.take j)), ((j : Nat) : Int), ())) 0 (fl cc (of1 s l), (l.length : Int), ()) l.length ?_ ?_ ?_ (by omega)]
  · have hfl := fl_length cc_length (of1 s l)
    have hdv : (of1 s l).length * 3 / 3 = (of1 s l).length := by omega
    have ht : List.take ((of1 s l).length * 3) (fl cc (of1 s l)) = fl cc (of1 s l) := List.take_of_length_le (by omega)
    simp (disch := omega) only [obs, rC_c, rA_agg, rT_tup, rP_ptr, rW_own, rS_sb, rF_sb, uncV_cons, uncO_cons, nilV_nil, rO_ob, rN_ob, unc_cons, asI_int, asB_bool, asS_string, asSl_sl, asSl_nl, asFn_fn, asP_cp, nrm_sl, nrm_nl, need_true, ct, cf, bd_eq, natD_zero, natD_succ, natD_one, noYl_v, noYl_sl, noYl_nl, noYl_cp, noYl_fn, Bool.and_true, Bool.true_and, Bool.and_self, beqN_self, Bool.not_true, Bool.not_false, Bool.and_false, Bool.false_and, Bool.or_false, Bool.false_or, Bool.or_true, Bool.true_or, wrap_in, dlt_t, dlt_f, dle_t, dle_f, dgt_t, dgt_f, dge_t, dge_f, ibeq_t, ibeq_f, ibne_t, ibne_f, inR_int, beqN_eq, bleN_le, hfl, hdv, ht, Nat.zero_add, cyC]
  · rfl
  · intro j hj
    have h1 := hle j
    rw [of1_succ s l hj]
    generalize of1 s (l.take j) = q at h1 ⊢
    have hfl := fl_length cc_length q
    have hdv : q.length * 3 / 3 = q.length := by omega
    simp (disch := omega) only [obs, rC_c, rA_agg, rT_tup, rP_ptr, rW_own, rS_sb, rF_sb, uncV_cons, uncO_cons, nilV_nil, rO_ob, rN_ob, unc_cons, asI_int, asB_bool, asS_string, asSl_sl, asSl_nl, asFn_fn, asP_cp, nrm_sl, nrm_nl, need_true, ct, cf, bd_eq, natD_zero, natD_succ, natD_one, noYl_v, noYl_sl, noYl_nl, noYl_cp, noYl_fn, Bool.and_true, Bool.true_and, Bool.and_self, beqN_self, Bool.not_true, Bool.not_false, Bool.and_false, Bool.false_and, Bool.or_false, Bool.false_or, Bool.or_true, Bool.true_or, wrap_in, dlt_t, dlt_f, dle_t, dle_f, dgt_t, dgt_f, dge_t, dge_f, ibeq_t, ibeq_f, ibne_t, ibne_f, inR_int, beqN_eq, bleN_le, Int.toNat_natCast, fl_at cc_length hj, cc, List.cons_append, toList_beq, hfl, hdv]
    by_cases e : l[j].nm = s
    · rw [decide_eq_true e]
      have hc := cc_snoc q l[j].nm l[j].t l[j].r
      have he : (⟨l[j].nm, l[j].t, l[j].r⟩ : Cnt) = l[j] := rfl
      rw [he] at hc
      have hlen : (fl cc (q ++ [l[j]])).length = (q.length + 1) * 3 := by rw [fl_length cc_length]; simp
      simp (disch := omega) only [obs, rC_c, rA_agg, rT_tup, rP_ptr, rW_own, rS_sb, rF_sb, uncV_cons, uncO_cons, nilV_nil, rO_ob, rN_ob, unc_cons, asI_int, asB_bool, asS_string, asSl_sl, asSl_nl, asFn_fn, asP_cp, nrm_sl, nrm_nl, need_true, ct, cf, bd_eq, natD_zero, natD_succ, natD_one, noYl_v, noYl_sl, noYl_nl, noYl_cp, noYl_fn, Bool.and_true, Bool.true_and, Bool.and_self, beqN_self, Bool.not_true, Bool.not_false, Bool.and_false, Bool.false_and, Bool.or_false, Bool.false_or, Bool.or_true, Bool.true_or, wrap_in, dlt_t, dlt_f, dle_t, dle_f, dgt_t, dgt_f, dge_t, dge_f, ibeq_t, ibeq_f, ibne_t, ibne_f, inR_int, beqN_eq, bleN_le, hc, hlen]
      rfl
    · rw [decide_eq_false e]
      simp (disch := omega) only [obs, rC_c, rA_agg, rT_tup, rP_ptr, rW_own, rS_sb, rF_sb, uncV_cons, uncO_cons, nilV_nil, rO_ob, rN_ob, unc_cons, asI_int, asB_bool, asS_string, asSl_sl, asSl_nl, asFn_fn, asP_cp, nrm_sl, nrm_nl, need_true, ct, cf, bd_eq, natD_zero, natD_succ, natD_one, noYl_v, noYl_sl, noYl_nl, noYl_cp, noYl_fn, Bool.and_true, Bool.true_and, Bool.and_self, beqN_self, Bool.not_true, Bool.not_false, Bool.and_false, Bool.false_and, Bool.or_false, Bool.false_or, Bool.or_true, Bool.true_or, wrap_in, dlt_t, dlt_f, dle_t, dle_f, dgt_t, dgt_f, dge_t, dge_f, ibeq_t, ibeq_f, ibne_t, ibne_f, inR_int, beqN_eq, bleN_le]
      rfl
  · rw [List.take_length]
    have hfl := fl_length cc_length (of1 s l)
    have hdv : (of1 s l).length * 3 / 3 = (of1 s l).length := by omega
    simp (disch := omega) only [obs, rC_c, rA_agg, rT_tup, rP_ptr, rW_own, rS_sb, rF_sb, uncV_cons, uncO_cons, nilV_nil, rO_ob, rN_ob, unc_cons, asI_int, asB_bool, asS_string, asSl_sl, asSl_nl, asFn_fn, asP_cp, nrm_sl, nrm_nl, need_true, ct, cf, bd_eq, natD_zero, natD_succ, natD_one, noYl_v, noYl_sl, noYl_nl, noYl_cp, noYl_fn, Bool.and_true, Bool.true_and, Bool.and_self, beqN_self, Bool.not_true, Bool.not_false, Bool.and_false, Bool.false_and, Bool.or_false, Bool.false_or, Bool.or_true, Bool.true_or, wrap_in, dlt_t, dlt_f, dle_t, dle_f, dgt_t, dgt_f, dge_t, dge_f, ibeq_t, ibeq_f, ibne_t, ibne_f, inR_int, beqN_eq, bleN_le, hfl, hdv]

set_option maxHeartbeats 2000000 in
theorem sp_BlacklistAlone (l0 : List Int) : cl fu (d + 16) fn_synopticlaw19_BlacklistAlone [V.c (C.sl l0.length (ints l0))] [] = some ⟨B true, [], none⟩ := by
  have hL : (l0.take 2000).length ≤ 2000 := by rw [List.length_take]; omega
  have hN := sp_New fu (d + 14) l0
  generalize l0.take 2000 = L at hL hN
  obtain ⟨h1, h2, cy, nm, j1, ⟨e1, e2, hh⟩, c1⟩ := sp_History fu (d + 10) hf L hL 0 10 (by omega)
  obtain ⟨l, j2, hl, c2⟩ := sp_Cycle fu (d + 11) hf L hL j1
  obtain ⟨cs, r40, r39, lv, en, j3, ⟨k40, k39, u1, u2, u3, hcs⟩, c3⟩ := sp_Control fu (d + 11) hf L hL j2
  have haw := sp_awake fu d hf
  have pl := sp_Push6 fu (d + 1) hf e1 e2 hh hl k40 k39 ⟨u1, u2, u3⟩
  have hp := hh.push hl lv en
  have hll := hl.ok.1
  have hcl := hh.1
  have a0 : (⟨#[48, 49, 50, 51, 52]⟩ : ByteArray) = n0 := rfl
  have a1 : (⟨#[55, 55, 55, 55, 55]⟩ : ByteArray) = n1 := rfl
  have a2 : (⟨#[65, 76, 80, 72, 65]⟩ : ByteArray) = n2 := rfl
  have a3 : (⟨#[66, 82, 65, 86, 79]⟩ : ByteArray) = n3 := rfl
  have a4 : (⟨#[68, 69, 76, 84, 65]⟩ : ByteArray) = n4 := rfl
  have a5 : (⟨#[69, 67, 72, 79, 55]⟩ : ByteArray) = n5 := rfl
  unfold srcO srcC at hN c1 c2 c3
  rw [eq_synopticlaw19_BlacklistAlone, hN]
  simp only [obs, rC_c, rA_agg, rT_tup, rP_ptr, rW_own, rS_sb, rF_sb, uncV_cons, uncO_cons, nilV_nil, rO_ob, rN_ob, unc_cons, asI_int, asB_bool, asS_string, asSl_sl, asSl_nl, asFn_fn, asP_cp, nrm_sl, nrm_nl, need_true, ct, cf, bd_eq, natD_zero, natD_succ, natD_one, noYl_v, noYl_sl, noYl_nl, noYl_cp, noYl_fn, Bool.and_true, Bool.true_and, Bool.and_self, beqN_self, Bool.not_true, Bool.not_false, Bool.and_false, Bool.false_and, Bool.or_false, Bool.false_or, Bool.or_true, Bool.true_or, List.length_cons, List.length_nil, Nat.zero_add, Nat.reduceAdd]
  rw [c1]
  simp only [obs, rC_c, rA_agg, rT_tup, rP_ptr, rW_own, rS_sb, rF_sb, uncV_cons, uncO_cons, nilV_nil, rO_ob, rN_ob, unc_cons, asI_int, asB_bool, asS_string, asSl_sl, asSl_nl, asFn_fn, asP_cp, nrm_sl, nrm_nl, need_true, ct, cf, bd_eq, natD_zero, natD_succ, natD_one, noYl_v, noYl_sl, noYl_nl, noYl_cp, noYl_fn, Bool.and_true, Bool.true_and, Bool.and_self, beqN_self, Bool.not_true, Bool.not_false, Bool.and_false, Bool.false_and, Bool.or_false, Bool.false_or, Bool.or_true, Bool.true_or, List.length_cons, List.length_nil, Nat.zero_add, Nat.reduceAdd]
  rw [c2]
  simp only [obs, rC_c, rA_agg, rT_tup, rP_ptr, rW_own, rS_sb, rF_sb, uncV_cons, uncO_cons, nilV_nil, rO_ob, rN_ob, unc_cons, asI_int, asB_bool, asS_string, asSl_sl, asSl_nl, asFn_fn, asP_cp, nrm_sl, nrm_nl, need_true, ct, cf, bd_eq, natD_zero, natD_succ, natD_one, noYl_v, noYl_sl, noYl_nl, noYl_cp, noYl_fn, Bool.and_true, Bool.true_and, Bool.and_self, beqN_self, Bool.not_true, Bool.not_false, Bool.and_false, Bool.false_and, Bool.or_false, Bool.false_or, Bool.or_true, Bool.true_or, List.length_cons, List.length_nil, Nat.zero_add, Nat.reduceAdd]
  rw [c3]
  simp (disch := omega) only [obs, rC_c, rA_agg, rT_tup, rP_ptr, rW_own, rS_sb, rF_sb, uncV_cons, uncO_cons, nilV_nil, rO_ob, rN_ob, unc_cons, asI_int, asB_bool, asS_string, asSl_sl, asSl_nl, asFn_fn, asP_cp, nrm_sl, nrm_nl, need_true, ct, cf, bd_eq, natD_zero, natD_succ, natD_one, noYl_v, noYl_sl, noYl_nl, noYl_cp, noYl_fn, Bool.and_true, Bool.true_and, Bool.and_self, beqN_self, Bool.not_true, Bool.not_false, Bool.and_false, Bool.false_and, Bool.or_false, Bool.false_or, Bool.or_true, Bool.true_or, wrap_in, dlt_t, dlt_f, dle_t, dle_f, dgt_t, dgt_f, dge_t, dge_f, ibeq_t, ibeq_f, ibne_t, ibne_f, inR_int, beqN_eq, bleN_le, List.length_cons, List.length_nil, Nat.zero_add, Nat.reduceAdd, hcs]
  rw [put41 hcs]
  simp (disch := omega) only [obs, rC_c, rA_agg, rT_tup, rP_ptr, rW_own, rS_sb, rF_sb, uncV_cons, uncO_cons, nilV_nil, rO_ob, rN_ob, unc_cons, asI_int, asB_bool, asS_string, asSl_sl, asSl_nl, asFn_fn, asP_cp, nrm_sl, nrm_nl, need_true, ct, cf, bd_eq, natD_zero, natD_succ, natD_one, noYl_v, noYl_sl, noYl_nl, noYl_cp, noYl_fn, Bool.and_true, Bool.true_and, Bool.and_self, beqN_self, Bool.not_true, Bool.not_false, Bool.and_false, Bool.false_and, Bool.or_false, Bool.false_or, Bool.or_true, Bool.true_or, wrap_in, dlt_t, dlt_f, dle_t, dle_f, dgt_t, dgt_f, dge_t, dge_f, ibeq_t, ibeq_f, ibne_t, ibne_f, inR_int, beqN_eq, bleN_le, hcs, take41 hcs, nrm_cyC, pl, List.length_cons, List.length_nil, Nat.zero_add, Nat.reduceAdd, a0, a1, a2, a3, a4, a5, out0]
  rw [iter_runx (fun j : Nat => (false, ((j : Nat) : Int), ())) 0 (false, (6 : Int), ()) 6 ?_ ?_ ?_ (by omega)]
  · simp only [obs, rC_c, rA_agg, rT_tup, rP_ptr, rW_own, rS_sb, rF_sb, uncV_cons, uncO_cons, nilV_nil, rO_ob, rN_ob, unc_cons, asI_int, asB_bool, asS_string, asSl_sl, asSl_nl, asFn_fn, asP_cp, nrm_sl, nrm_nl, need_true, ct, cf, bd_eq, natD_zero, natD_succ, natD_one, noYl_v, noYl_sl, noYl_nl, noYl_cp, noYl_fn, Bool.and_true, Bool.true_and, Bool.and_self, beqN_self, Bool.not_true, Bool.not_false, Bool.and_false, Bool.false_and, Bool.or_false, Bool.false_or, Bool.or_true, Bool.true_or, haw]
  · rfl
  · intro j hj
    have hs : names6[j]'hj ∈ names6 := List.getElem_mem hj
    have hin : inR (j : Int) 6 = true := by simp [inR]; omega
    have hq := listed_alone (kept cy l) nm lv en (names6[j]'hj)
    have hh' := one1_hist hh hs
    simp (disch := omega) only [obs, rC_c, rA_agg, rT_tup, rP_ptr, rW_own, rS_sb, rF_sb, uncV_cons, uncO_cons, nilV_nil, rO_ob, rN_ob, unc_cons, asI_int, asB_bool, asS_string, asSl_sl, asSl_nl, asFn_fn, asP_cp, nrm_sl, nrm_nl, need_true, ct, cf, bd_eq, natD_zero, natD_succ, natD_one, noYl_v, noYl_sl, noYl_nl, noYl_cp, noYl_fn, Bool.and_true, Bool.true_and, Bool.and_self, beqN_self, Bool.not_true, Bool.not_false, Bool.and_false, Bool.false_and, Bool.or_false, Bool.false_or, Bool.or_true, Bool.true_or, wrap_in, dlt_t, dlt_f, dle_t, dle_f, dgt_t, dgt_f, dge_t, dge_f, ibeq_t, ibeq_f, ibne_t, ibne_f, inR_int, beqN_eq, bleN_le, Int.toNat_natCast, Nat.mul_one, hin, names6_drop hj, asSl_nrm e1]
    generalize names6[j]'hj = s at *
    have hlc : (cycs (cy.map (of1 s))).length = cy.length := by rw [cycs_length, List.length_map]
    rw [iter_runx (fun j : Nat => (((j : Nat) : Int), (List.take j (cycs (cy.map (of1 s))), C.nl, ()), ())) 0 ((cy.length : Int), (cycs (cy.map (of1 s)), C.nl, ()), ()) cy.length ?_ ?_ ?_ (by omega)]
    · have hr := sp_refListed fu (d + 12) hf e1 e2 hh s
      have ho := sp_only fu (d + 14) hf l s (by omega)
      have hb1 := sp_Listed fu (d + 2) hf (h1 := C.sl (kept cy l).length (cycs (kept cy l))) (h2 := C.sl (listed nm lv en (sumsM (kept cy l) nm)).length (strs (listed nm lv en (sumsM (kept cy l) nm)))) rfl rfl hp.ok s
      have ht : List.take cy.length (cycs (cy.map (of1 s))) = cycs (cy.map (of1 s)) := List.take_of_length_le (by omega)
      have hpush : ∀ h2' : C, nrm h2' = .sl (one1 nm s).length (strs (one1 nm s)) → cl fu (d + 15) fn_blacklist_Push [V.agg [C.sl cy.length (cycs (cy.map (of1 s))), h2'], V.c (cyC (of1 s l)), V.agg cs] [] =
          some ⟨V.tup [V.agg [C.sl (kept (cy.map (of1 s)) (of1 s l)).length (cycs (kept (cy.map (of1 s)) (of1 s l))), C.sl (listed (one1 nm s) lv en (sumsM (kept (cy.map (of1 s)) (of1 s l)) (one1 nm s))).length (strs (listed (one1 nm s) lv en (sumsM (kept (cy.map (of1 s)) (of1 s l)) (one1 nm s))))], I 0], [], none⟩ := fun h2' e2' =>
        sp_Push6 fu (d + 1) hf (h1 := C.sl cy.length (cycs (cy.map (of1 s)))) (cy := cy.map (of1 s)) (by rw [List.length_map]; rfl) e2' hh' (of1_cyc hl s) k40 k39 ⟨u1, u2, u3⟩
      have hb2 := sp_Listed fu (d + 2) hf (h1 := C.sl (kept (cy.map (of1 s)) (of1 s l)).length (cycs (kept (cy.map (of1 s)) (of1 s l)))) (h2 := C.sl (listed (one1 nm s) lv en (sumsM (kept (cy.map (of1 s)) (of1 s l)) (one1 nm s))).length (strs (listed (one1 nm s) lv en (sumsM (kept (cy.map (of1 s)) (of1 s l)) (one1 nm s))))) rfl rfl (hh'.push (of1_cyc hl s) lv en).ok s
      rw [of1_kept, hq] at hb2
      rw [of1_kept] at hpush
      simp (disch := omega) only [obs, rC_c, rA_agg, rT_tup, rP_ptr, rW_own, rS_sb, rF_sb, uncV_cons, uncO_cons, nilV_nil, rO_ob, rN_ob, unc_cons, asI_int, asB_bool, asS_string, asSl_sl, asSl_nl, asFn_fn, asP_cp, nrm_sl, nrm_nl, need_true, ct, cf, bd_eq, natD_zero, natD_succ, natD_one, noYl_v, noYl_sl, noYl_nl, noYl_cp, noYl_fn, Bool.and_true, Bool.true_and, Bool.and_self, beqN_self, Bool.not_true, Bool.not_false, Bool.and_false, Bool.false_and, Bool.or_false, Bool.false_or, Bool.or_true, Bool.true_or, wrap_in, dlt_t, dlt_f, dle_t, dle_f, dgt_t, dgt_f, dge_t, dge_f, ibeq_t, ibeq_f, ibne_t, ibne_f, inR_int, beqN_eq, bleN_le, hr, hlc, Nat.div_one, Nat.mul_one, Nat.zero_add, ht]
      have ho' : cl fu (d + 15) fn_synopticlaw19_only [V.c (cyC l), V.c (.v (.string s))] [] = some ⟨V.c (cyC (of1 s l)), [], none⟩ := ho
      cases hb : hasS nm s with
      | true =>
        have hp1 := hpush (C.sl 1 [C.v (.string s)]) (by unfold one1; rw [hb]; rfl)
        simp (disch := omega) only [obs, rC_c, rA_agg, rT_tup, rP_ptr, rW_own, rS_sb, rF_sb, uncV_cons, uncO_cons, nilV_nil, rO_ob, rN_ob, unc_cons, asI_int, asB_bool, asS_string, asSl_sl, asSl_nl, asFn_fn, asP_cp, nrm_sl, nrm_nl, need_true, ct, cf, bd_eq, natD_zero, natD_succ, natD_one, noYl_v, noYl_sl, noYl_nl, noYl_cp, noYl_fn, Bool.and_true, Bool.true_and, Bool.and_self, beqN_self, Bool.not_true, Bool.not_false, Bool.and_false, Bool.false_and, Bool.or_false, Bool.false_or, Bool.or_true, Bool.true_or, wrap_in, dlt_t, dlt_f, dle_t, dle_f, dgt_t, dgt_f, dge_t, dge_f, ibeq_t, ibeq_f, ibne_t, ibne_f, inR_int, beqN_eq, bleN_le, nrm_cyC, noYl_cyC, ho', hcs, take41 hcs, hp1, List.length_cons, List.length_nil, Nat.zero_add, Nat.reduceAdd, hb1, hb2, beq_self_eq_true]
        rfl
      | false =>
        have hp1 := hpush C.nl (by unfold one1; rw [hb]; rfl)
        simp (disch := omega) only [obs, rC_c, rA_agg, rT_tup, rP_ptr, rW_own, rS_sb, rF_sb, uncV_cons, uncO_cons, nilV_nil, rO_ob, rN_ob, unc_cons, asI_int, asB_bool, asS_string, asSl_sl, asSl_nl, asFn_fn, asP_cp, nrm_sl, nrm_nl, need_true, ct, cf, bd_eq, natD_zero, natD_succ, natD_one, noYl_v, noYl_sl, noYl_nl, noYl_cp, noYl_fn, Bool.and_true, Bool.true_and, Bool.and_self, beqN_self, Bool.not_true, Bool.not_false, Bool.and_false, Bool.false_and, Bool.or_false, Bool.false_or, Bool.or_true, Bool.true_or, wrap_in, dlt_t, dlt_f, dle_t, dle_f, dgt_t, dgt_f, dge_t, dge_f, ibeq_t, ibeq_f, ibne_t, ibne_f, inR_int, beqN_eq, bleN_le, nrm_cyC, noYl_cyC, ho', hcs, take41 hcs, hp1, List.length_cons, List.length_nil, Nat.zero_add, Nat.reduceAdd, hb1, hb2, beq_self_eq_true]
        rfl
    · rfl
    · intro i hi
      have ho : cl fu (d + 15) fn_synopticlaw19_only [V.c (cyC cy[i]), V.c (.v (.string s))] [] = some ⟨V.c (cyC (of1 s cy[i])), [], none⟩ := sp_only fu (d + 14) hf cy[i] s (by have := (hh.2.1 _ (List.getElem_mem hi)).ok.1; omega)
      have hlt : (List.take i (cycs (cy.map (of1 s)))).length = i := by rw [List.length_take]; omega
      have ht : List.take (i + 1) (cycs (cy.map (of1 s))) = List.take i (cycs (cy.map (of1 s))) ++ [cyC (of1 s cy[i])] := by
        rw [List.take_succ_eq_append_getElem (show i < (cycs (cy.map (of1 s))).length by omega)]; simp [cycs]
      rw [ht]
      simp (disch := omega) only [obs, rC_c, rA_agg, rT_tup, rP_ptr, rW_own, rS_sb, rF_sb, uncV_cons, uncO_cons, nilV_nil, rO_ob, rN_ob, unc_cons, asI_int, asB_bool, asS_string, asSl_sl, asSl_nl, asFn_fn, asP_cp, nrm_sl, nrm_nl, need_true, ct, cf, bd_eq, natD_zero, natD_succ, natD_one, noYl_v, noYl_sl, noYl_nl, noYl_cp, noYl_fn, Bool.and_true, Bool.true_and, Bool.and_self, beqN_self, Bool.not_true, Bool.not_false, Bool.and_false, Bool.false_and, Bool.or_false, Bool.false_or, Bool.or_true, Bool.true_or, wrap_in, dlt_t, dlt_f, dle_t, dle_f, dgt_t, dgt_f, dge_t, dge_f, ibeq_t, ibeq_f, ibne_t, ibne_f, inR_int, beqN_eq, bleN_le, Int.toNat_natCast, Nat.mul_one, cycs_drop cy hi, nrm_cyC, noYl_cyC, ho, hlt, List.length_append, List.length_cons, List.length_nil, Nat.div_one, Nat.zero_add]
      rfl
    · have t1 : List.take cy.length (cycs (cy.map (of1 s))) = cycs (cy.map (of1 s)) := List.take_of_length_le (by omega)
      simp (disch := omega) only [obs, rC_c, rA_agg, rT_tup, rP_ptr, rW_own, rS_sb, rF_sb, uncV_cons, uncO_cons, nilV_nil, rO_ob, rN_ob, unc_cons, asI_int, asB_bool, asS_string, asSl_sl, asSl_nl, asFn_fn, asP_cp, nrm_sl, nrm_nl, need_true, ct, cf, bd_eq, natD_zero, natD_succ, natD_one, noYl_v, noYl_sl, noYl_nl, noYl_cp, noYl_fn, Bool.and_true, Bool.true_and, Bool.and_self, beqN_self, Bool.not_true, Bool.not_false, Bool.and_false, Bool.false_and, Bool.or_false, Bool.false_or, Bool.or_true, Bool.true_or, wrap_in, dlt_t, dlt_f, dle_t, dle_f, dgt_t, dgt_f, dge_t, dge_f, ibeq_t, ibeq_f, ibne_t, ibne_f, inR_int, beqN_eq, bleN_le, t1, hlc, Nat.div_one, Nat.mul_one]
  · simp (disch := omega) only [obs, rC_c, rA_agg, rT_tup, rP_ptr, rW_own, rS_sb, rF_sb, uncV_cons, uncO_cons, nilV_nil, rO_ob, rN_ob, unc_cons, asI_int, asB_bool, asS_string, asSl_sl, asSl_nl, asFn_fn, asP_cp, nrm_sl, nrm_nl, need_true, ct, cf, bd_eq, natD_zero, natD_succ, natD_one, noYl_v, noYl_sl, noYl_nl, noYl_cp, noYl_fn, Bool.and_true, Bool.true_and, Bool.and_self, beqN_self, Bool.not_true, Bool.not_false, Bool.and_false, Bool.false_and, Bool.or_false, Bool.false_or, Bool.or_true, Bool.true_or, wrap_in, dlt_t, dlt_f, dle_t, dle_f, dgt_t, dgt_f, dge_t, dge_f, ibeq_t, ibeq_f, ibne_t, ibne_f, inR_int, beqN_eq, bleN_le]
    rfl
end
end Go.Proofs.Ytofalpngdbinbaa
