/- Parts put together: Ra, H, Rb, Rc, Rd, Re. -/
import Derived.Test.YtobmbacppbkgeaaDoorJ6
set_option linter.unusedSimpArgs false
set_option linter.unusedVariables false
/- Lists of readings: validated, searched. -/
namespace Go.Proofs.YtobmbacppbkgeaaDoor
open Go Go.PM Go.Grid
theorem iter_bind_ex {A B : Type} {body : A → Option (Nat × A)} {fu : Nat} {x : A} {K : Nat × A → Option B} (R : Option B → Prop) (J : Nat → A → Prop) (Q : A → Prop) (e k : Nat) (hx : J 0 x)
    (h : ∀ j y, j < k → J j y → ∃ y', body y = some (0, y') ∧ J (j + 1) y') (he : ∀ y, J k y → ∃ z, body y = some (e + 1, z) ∧ Q z) (hf : k < fu) (hK : ∀ z, Q z → R (K (e, z))) : R ((iter body fu x).bind K) := by
  have key : ∀ (n fu : Nat) (y : A), n ≤ k → J (k - n) y → n < fu → ∃ z, iter body fu y = some (e, z) ∧ Q z := by
    intro n
    induction n with
    | zero =>
      intro fu y _ hy hfu
      obtain ⟨z, h1, h2⟩ := he y hy
      obtain ⟨m, rfl⟩ : ∃ m, fu = m + 1 := ⟨fu - 1, by omega⟩
      exact ⟨z, by simp [iter, h1], h2⟩
    | succ n ih =>
      intro fu y hn hy hfu
      obtain ⟨y', h1, h2⟩ := h (k - (n + 1)) y (by omega) hy
      rw [show k - (n + 1) + 1 = k - n by omega] at h2
      obtain ⟨m, rfl⟩ : ∃ m, fu = m + 1 := ⟨fu - 1, by omega⟩
      obtain ⟨z, h3, h4⟩ := ih m y' (by omega) h2 (by omega)
      exact ⟨z, by simp [iter, h1, h3], h4⟩
  obtain ⟨z, h1, h2⟩ := key k fu x (Nat.le_refl _) (by rw [Nat.sub_self]; exact hx) hf
  rw [h1]
  exact hK z h2
def rdc (x : Int × Int) : List C := [.v (.int .i64 x.1), .v (.int .i64 x.2)]
theorem rdc_length (x : Int × Int) : (rdc x).length = 2 := rfl
def okRd (x : Int × Int) : Prop := (1 ≤ x.1 ∧ x.1 ≤ 11) ∧ (rng x.1).1 ≤ x.2 ∧ x.2 ≤ (rng x.1).2
def okRs (l : List (Int × Int)) : Prop := l.length ≤ 11 ∧ (∀ x ∈ l, okRd x) ∧ l.Pairwise fun a b => a.1 < b.1
def fd : List (Int × Int) → Option Int
  | [] => none
  | x :: l => if x.1 = 1 then some x.2 else fd l
theorem fd_none : ∀ {l : List (Int × Int)} (_ : ∀ j (h : j < l.length), l[j].1 ≠ 1), fd l = none
  | [], _ => rfl
  | x :: l, h => by
    have h0 := h 0 (by simp)
    simp only [List.getElem_cons_zero] at h0
    rw [fd, if_neg h0]
    exact fd_none fun j hj => by have := h (j + 1) (by simp; omega); simpa using this
theorem fd_some : ∀ {l : List (Int × Int)} {k : Nat} (hk : k < l.length) (_ : l[k].1 = 1) (_ : ∀ j (h : j < k), (l[j]'(by omega)).1 ≠ 1), fd l = some l[k].2
  | [], k, hk, _, _ => by simp at hk
  | x :: l, 0, hk, h, _ => by simp only [List.getElem_cons_zero] at h ⊢; rw [fd, if_pos h]
  | x :: l, k + 1, hk, h, h' => by
    have h0 := h' 0 (by omega)
    simp only [List.getElem_cons_zero] at h0
    rw [fd, if_neg h0]
    simp only [List.getElem_cons_succ] at h ⊢
    exact fd_some (by simpa using hk) h fun j hj => by have := h' (j + 1) (by omega); simpa using this
theorem fd_ok {l : List (Int × Int)} (h : ∀ x ∈ l, okRd x) : ∀ v, fd l = some v → okV v := by
  induction l with
  | nil => intro v e; cases e
  | cons x l ih =>
    intro v e
    unfold fd at e
    split at e
    · rename_i h1
      injection e with e
      have := h x (by simp)
      obtain ⟨_, q1, q2⟩ := this
      rw [h1, rng1] at q1 q2
      unfold okV
      subst e
      exact ⟨q1, q2⟩
    · exact ih (fun y hy => h y (by simp [hy])) v e
section
variable (fu d : Nat)
theorem sp_eDescribe (c : Int) (hc : 1 ≤ c ∧ c ≤ 11) : ∃ s g, cl fu (d + 1) fn_element_Describe [I c] [] = some ⟨V.tup [V.agg [C.v (.string s), C.v (.int .i64 (rng c).1), C.v (.int .i64 (rng c).2), C.v (.int .i64 g)], I 0], [], none⟩ := by
  refine cases11 (p := fun c => ∃ s g, cl fu (d + 1) fn_element_Describe [I c] [] = some ⟨V.tup [V.agg [C.v (.string s), C.v (.int .i64 (rng c).1), C.v (.int .i64 (rng c).2), C.v (.int .i64 g)], I 0], [], none⟩) ?_ c hc
  refine ⟨?_, ?_, ?_, ?_, ?_, ?_, ?_, ?_, ?_, ?_, ?_⟩ <;> (rw [eq_element_Describe]; exact ⟨_, _, rfl⟩)
theorem sp_check {x : Int × Int} (h : okRd x) : cl fu (d + 2) fn_element_check [V.agg (rdc x)] [] = OK (I 0) := by
  obtain ⟨s, g, hd⟩ := sp_eDescribe fu d x.1 h.1
  obtain ⟨_, h1, h2⟩ := h
  unfold rdc
  rw [eq_element_check, hd]
  simp (disch := omega) only [obs, rC_c, rA_agg, rT_tup, rP_ptr, rW_own, rS_sb, rF_sb, uncV_cons, uncO_cons, nilV_nil, rO_ob, rN_ob, unc_cons, asI_int, asB_bool, asS_string, asSl_sl, asSl_nl, asFn_fn, asP_cp, nrm_sl, nrm_nl, need_true, ct, cf, bd_eq, natD_zero, natD_succ, natD_one, noYl_v, noYl_sl, noYl_nl, noYl_cp, noYl_fn, Bool.and_true, Bool.true_and, Bool.and_self, beqN_self, Bool.not_true, Bool.not_false, Bool.and_false, Bool.false_and, Bool.or_false, Bool.false_or, Bool.or_true, Bool.true_or, wrap_in, dlt_t, dlt_f, dle_t, dle_f, dgt_t, dgt_f, dge_t, dge_f, ibeq_t, ibeq_f, ibne_t, ibne_f, inR_int, beqN_eq, bleN_le, List.length_cons, List.length_nil, Nat.zero_add, Nat.reduceAdd]
variable (hf : 18446744073709551616 ≤ fu)
include hf
theorem sp_index_none (k : Nat) (c : C) (l : List (Int × Int)) (hl : l.length ≤ 1000) (hp : ∀ x ∈ l, cl fu d k [V.agg (rdc x), V.c c] [] = OK (B false)) :
    cl fu (d + 1) fn_slices_IndexFunc_sapi_Reading_api_Reading [V.c (.sl l.length (fl rdc l)), V.c (C.fn k [c])] [] = OK (I (-1)) := by
  rw [eq1_slices_IndexFunc_sapi_Reading_api_Reading]
  rw [iter_runx (fun j : Nat => ((0 : Int), ((j : Nat) : Int), ())) 0 ((0 : Int), (l.length : Int), ()) l.length ?_ ?_ ?_ (by omega)]
  · simp only [obs, rC_c, rA_agg, rT_tup, rP_ptr, rW_own, rS_sb, rF_sb, uncV_cons, uncO_cons, nilV_nil, rO_ob, rN_ob, unc_cons, asI_int, asB_bool, asS_string, asSl_sl, asSl_nl, asFn_fn, asP_cp, nrm_sl, nrm_nl, need_true, ct, cf, bd_eq, natD_zero, natD_succ, natD_one, noYl_v, noYl_sl, noYl_nl, noYl_cp, noYl_fn, Bool.and_true, Bool.true_and, Bool.and_self, beqN_self, Bool.not_true, Bool.not_false, Bool.and_false, Bool.false_and, Bool.or_false, Bool.false_or, Bool.or_true, Bool.true_or]
  · rfl
  · intro j hj
    have h := hp _ (List.getElem_mem hj)
    have hat := fl_at rdc_length hj
    unfold rdc at h
    simp (disch := omega) only [obs, rC_c, rA_agg, rT_tup, rP_ptr, rW_own, rS_sb, rF_sb, uncV_cons, uncO_cons, nilV_nil, rO_ob, rN_ob, unc_cons, asI_int, asB_bool, asS_string, asSl_sl, asSl_nl, asFn_fn, asP_cp, nrm_sl, nrm_nl, need_true, ct, cf, bd_eq, natD_zero, natD_succ, natD_one, noYl_v, noYl_sl, noYl_nl, noYl_cp, noYl_fn, Bool.and_true, Bool.true_and, Bool.and_self, beqN_self, Bool.not_true, Bool.not_false, Bool.and_false, Bool.false_and, Bool.or_false, Bool.false_or, Bool.or_true, Bool.true_or, wrap_in, dlt_t, dlt_f, dle_t, dle_f, dgt_t, dgt_f, dge_t, dge_f, ibeq_t, ibeq_f, ibne_t, ibne_f, inR_int, beqN_eq, bleN_le, Int.toNat_natCast, hat, rdc, List.cons_append, List.nil_append, h, Int.natCast_add, Int.natCast_one]
  · simp (disch := omega) only [obs, rC_c, rA_agg, rT_tup, rP_ptr, rW_own, rS_sb, rF_sb, uncV_cons, uncO_cons, nilV_nil, rO_ob, rN_ob, unc_cons, asI_int, asB_bool, asS_string, asSl_sl, asSl_nl, asFn_fn, asP_cp, nrm_sl, nrm_nl, need_true, ct, cf, bd_eq, natD_zero, natD_succ, natD_one, noYl_v, noYl_sl, noYl_nl, noYl_cp, noYl_fn, Bool.and_true, Bool.true_and, Bool.and_self, beqN_self, Bool.not_true, Bool.not_false, Bool.and_false, Bool.false_and, Bool.or_false, Bool.false_or, Bool.or_true, Bool.true_or, wrap_in, dlt_t, dlt_f, dle_t, dle_f, dgt_t, dgt_f, dge_t, dge_f, ibeq_t, ibeq_f, ibne_t, ibne_f, inR_int, beqN_eq, bleN_le]
theorem sp_index_some (k : Nat) (c : C) (l : List (Int × Int)) (hl : l.length ≤ 1000) {i : Nat} (hi : i < l.length) (hp : ∀ j (h : j < i), cl fu d k [V.agg (rdc (l[j]'(by omega))), V.c c] [] = OK (B false)) (hk : cl fu d k [V.agg (rdc l[i]), V.c c] [] = OK (B true)) :
    cl fu (d + 1) fn_slices_IndexFunc_sapi_Reading_api_Reading [V.c (.sl l.length (fl rdc l)), V.c (C.fn k [c])] [] = OK (I (i : Int)) := by
  rw [eq1_slices_IndexFunc_sapi_Reading_api_Reading]
  rw [iter_runx (fun j : Nat => ((0 : Int), ((j : Nat) : Int), ())) 1 ((i : Int), (i : Int), ()) i ?_ ?_ ?_ (by omega)]
  · simp only [obs, rC_c, rA_agg, rT_tup, rP_ptr, rW_own, rS_sb, rF_sb, uncV_cons, uncO_cons, nilV_nil, rO_ob, rN_ob, unc_cons, asI_int, asB_bool, asS_string, asSl_sl, asSl_nl, asFn_fn, asP_cp, nrm_sl, nrm_nl, need_true, ct, cf, bd_eq, natD_zero, natD_succ, natD_one, noYl_v, noYl_sl, noYl_nl, noYl_cp, noYl_fn, Bool.and_true, Bool.true_and, Bool.and_self, beqN_self, Bool.not_true, Bool.not_false, Bool.and_false, Bool.false_and, Bool.or_false, Bool.false_or, Bool.or_true, Bool.true_or]
  · rfl
  · intro j hj
    have h := hp j hj
    have hat := fl_at rdc_length (show j < l.length by omega)
    unfold rdc at h
    simp (disch := omega) only [obs, rC_c, rA_agg, rT_tup, rP_ptr, rW_own, rS_sb, rF_sb, uncV_cons, uncO_cons, nilV_nil, rO_ob, rN_ob, unc_cons, asI_int, asB_bool, asS_string, asSl_sl, asSl_nl, asFn_fn, asP_cp, nrm_sl, nrm_nl, need_true, ct, cf, bd_eq, natD_zero, natD_succ, natD_one, noYl_v, noYl_sl, noYl_nl, noYl_cp, noYl_fn, Bool.and_true, Bool.true_and, Bool.and_self, beqN_self, Bool.not_true, Bool.not_false, Bool.and_false, Bool.false_and, Bool.or_false, Bool.false_or, Bool.or_true, Bool.true_or, wrap_in, dlt_t, dlt_f, dle_t, dle_f, dgt_t, dgt_f, dge_t, dge_f, ibeq_t, ibeq_f, ibne_t, ibne_f, inR_int, beqN_eq, bleN_le, Int.toNat_natCast, hat, rdc, List.cons_append, List.nil_append, h, Int.natCast_add, Int.natCast_one]
  · have hat := fl_at rdc_length hi
    unfold rdc at hk
    simp (disch := omega) only [obs, rC_c, rA_agg, rT_tup, rP_ptr, rW_own, rS_sb, rF_sb, uncV_cons, uncO_cons, nilV_nil, rO_ob, rN_ob, unc_cons, asI_int, asB_bool, asS_string, asSl_sl, asSl_nl, asFn_fn, asP_cp, nrm_sl, nrm_nl, need_true, ct, cf, bd_eq, natD_zero, natD_succ, natD_one, noYl_v, noYl_sl, noYl_nl, noYl_cp, noYl_fn, Bool.and_true, Bool.true_and, Bool.and_self, beqN_self, Bool.not_true, Bool.not_false, Bool.and_false, Bool.false_and, Bool.or_false, Bool.false_or, Bool.or_true, Bool.true_or, wrap_in, dlt_t, dlt_f, dle_t, dle_f, dgt_t, dgt_f, dge_t, dge_f, ibeq_t, ibeq_f, ibne_t, ibne_f, inR_int, beqN_eq, bleN_le, Int.toNat_natCast, hat, rdc, List.cons_append, List.nil_append, hk]
theorem sp_has (l : List (Int × Int)) (h : okRs l) (c : Int) (hc : c ≠ 0) : cl fu (d + 6) fn_element_Validate_1 [I c, V.c (C.cp [C.sl l.length (fl rdc l)])] [] = OK (B false) := by
  have hix := sp_index_none fu (d + 3) hf fn_element_Validate_1_1 (C.cp [C.v (.int .i64 c)]) l (by have := h.1; omega) (fun x hx => by
    have hk := sp_check fu d (h.2.1 x hx)
    unfold rdc at hk ⊢
    rw [eq_element_Validate_1_1, hk]
    simp (disch := omega) only [obs, rC_c, rA_agg, rT_tup, rP_ptr, rW_own, rS_sb, rF_sb, uncV_cons, uncO_cons, nilV_nil, rO_ob, rN_ob, unc_cons, asI_int, asB_bool, asS_string, asSl_sl, asSl_nl, asFn_fn, asP_cp, nrm_sl, nrm_nl, need_true, ct, cf, bd_eq, natD_zero, natD_succ, natD_one, noYl_v, noYl_sl, noYl_nl, noYl_cp, noYl_fn, Bool.and_true, Bool.true_and, Bool.and_self, beqN_self, Bool.not_true, Bool.not_false, Bool.and_false, Bool.false_and, Bool.or_false, Bool.false_or, Bool.or_true, Bool.true_or, wrap_in, dlt_t, dlt_f, dle_t, dle_f, dgt_t, dgt_f, dge_t, dge_f, ibeq_t, ibeq_f, ibne_t, ibne_f, inR_int, beqN_eq, bleN_le])
  rw [eq_element_Validate_1]
  simp only [obs, rC_c, rA_agg, rT_tup, rP_ptr, rW_own, rS_sb, rF_sb, uncV_cons, uncO_cons, nilV_nil, rO_ob, rN_ob, unc_cons, asI_int, asB_bool, asS_string, asSl_sl, asSl_nl, asFn_fn, asP_cp, nrm_sl, nrm_nl, need_true, ct, cf, bd_eq, natD_zero, natD_succ, natD_one, noYl_v, noYl_sl, noYl_nl, noYl_cp, noYl_fn, Bool.and_true, Bool.true_and, Bool.and_self, beqN_self, Bool.not_true, Bool.not_false, Bool.and_false, Bool.false_and, Bool.or_false, Bool.false_or, Bool.or_true, Bool.true_or]
  rw [eq1_slices_ContainsFunc_sapi_Reading_api_Reading, hix]
  simp (disch := omega) only [obs, rC_c, rA_agg, rT_tup, rP_ptr, rW_own, rS_sb, rF_sb, uncV_cons, uncO_cons, nilV_nil, rO_ob, rN_ob, unc_cons, asI_int, asB_bool, asS_string, asSl_sl, asSl_nl, asFn_fn, asP_cp, nrm_sl, nrm_nl, need_true, ct, cf, bd_eq, natD_zero, natD_succ, natD_one, noYl_v, noYl_sl, noYl_nl, noYl_cp, noYl_fn, Bool.and_true, Bool.true_and, Bool.and_self, beqN_self, Bool.not_true, Bool.not_false, Bool.and_false, Bool.false_and, Bool.or_false, Bool.false_or, Bool.or_true, Bool.true_or, wrap_in, dlt_t, dlt_f, dle_t, dle_f, dgt_t, dgt_f, dge_t, dge_f, ibeq_t, ibeq_f, ibne_t, ibne_f, inR_int, beqN_eq, bleN_le]
theorem sp_eValidate (l : List (Int × Int)) (h : okRs l) : cl fu (d + 7) fn_element_Validate [V.c (C.sl l.length (fl rdc l))] [] = OK (I 0) := by
  have h4 := sp_has fu d hf l h 4 (by omega)
  have h1 := sp_has fu d hf l h 1 (by omega)
  have hle := h.1
  rw [eq_element_Validate, h4]
  simp only [obs, rC_c, rA_agg, rT_tup, rP_ptr, rW_own, rS_sb, rF_sb, uncV_cons, uncO_cons, nilV_nil, rO_ob, rN_ob, unc_cons, asI_int, asB_bool, asS_string, asSl_sl, asSl_nl, asFn_fn, asP_cp, nrm_sl, nrm_nl, need_true, ct, cf, bd_eq, natD_zero, natD_succ, natD_one, noYl_v, noYl_sl, noYl_nl, noYl_cp, noYl_fn, Bool.and_true, Bool.true_and, Bool.and_self, beqN_self, Bool.not_true, Bool.not_false, Bool.and_false, Bool.false_and, Bool.or_false, Bool.false_or, Bool.or_true, Bool.true_or]
  rw [h1]
  simp only [obs, rC_c, rA_agg, rT_tup, rP_ptr, rW_own, rS_sb, rF_sb, uncV_cons, uncO_cons, nilV_nil, rO_ob, rN_ob, unc_cons, asI_int, asB_bool, asS_string, asSl_sl, asSl_nl, asFn_fn, asP_cp, nrm_sl, nrm_nl, need_true, ct, cf, bd_eq, natD_zero, natD_succ, natD_one, noYl_v, noYl_sl, noYl_nl, noYl_cp, noYl_fn, Bool.and_true, Bool.true_and, Bool.and_self, beqN_self, Bool.not_true, Bool.not_false, Bool.and_false, Bool.false_and, Bool.or_false, Bool.false_or, Bool.or_true, Bool.true_or]
  rw [iter_runx (fun j : Nat => ((0 : Int), (((j + 1 : Nat)) : Int), ())) 0 ((0 : Int), ((l.length - 1 + 1 : Nat) : Int), ()) (l.length - 1) ?_ ?_ ?_ (by omega)]
  · simp only [obs, rC_c, rA_agg, rT_tup, rP_ptr, rW_own, rS_sb, rF_sb, uncV_cons, uncO_cons, nilV_nil, rO_ob, rN_ob, unc_cons, asI_int, asB_bool, asS_string, asSl_sl, asSl_nl, asFn_fn, asP_cp, nrm_sl, nrm_nl, need_true, ct, cf, bd_eq, natD_zero, natD_succ, natD_one, noYl_v, noYl_sl, noYl_nl, noYl_cp, noYl_fn, Bool.and_true, Bool.true_and, Bool.and_self, beqN_self, Bool.not_true, Bool.not_false, Bool.and_false, Bool.false_and, Bool.or_false, Bool.false_or, Bool.or_true, Bool.true_or]
  · rfl
  · intro j hj
    have hat := fl_at rdc_length (show j < l.length by omega)
    have hat1 := fl_at rdc_length (show j + 1 < l.length by omega)
    have hlt := List.pairwise_iff_getElem.1 h.2.2 j (j + 1) (by omega) (by omega) (by omega)
    have hs : ((j + 1 : Nat) : Int) - 1 = j := by omega
    simp (disch := omega) only [obs, rC_c, rA_agg, rT_tup, rP_ptr, rW_own, rS_sb, rF_sb, uncV_cons, uncO_cons, nilV_nil, rO_ob, rN_ob, unc_cons, asI_int, asB_bool, asS_string, asSl_sl, asSl_nl, asFn_fn, asP_cp, nrm_sl, nrm_nl, need_true, ct, cf, bd_eq, natD_zero, natD_succ, natD_one, noYl_v, noYl_sl, noYl_nl, noYl_cp, noYl_fn, Bool.and_true, Bool.true_and, Bool.and_self, beqN_self, Bool.not_true, Bool.not_false, Bool.and_false, Bool.false_and, Bool.or_false, Bool.false_or, Bool.or_true, Bool.true_or, wrap_in, dlt_t, dlt_f, dle_t, dle_f, dgt_t, dgt_f, dge_t, dge_f, ibeq_t, ibeq_f, ibne_t, ibne_f, inR_int, beqN_eq, bleN_le, hs, Int.toNat_natCast, hat, hat1, rdc, List.cons_append, List.nil_append]
    rfl
  · simp (disch := omega) only [obs, rC_c, rA_agg, rT_tup, rP_ptr, rW_own, rS_sb, rF_sb, uncV_cons, uncO_cons, nilV_nil, rO_ob, rN_ob, unc_cons, asI_int, asB_bool, asS_string, asSl_sl, asSl_nl, asFn_fn, asP_cp, nrm_sl, nrm_nl, need_true, ct, cf, bd_eq, natD_zero, natD_succ, natD_one, noYl_v, noYl_sl, noYl_nl, noYl_cp, noYl_fn, Bool.and_true, Bool.true_and, Bool.and_self, beqN_self, Bool.not_true, Bool.not_false, Bool.and_false, Bool.false_and, Bool.or_false, Bool.false_or, Bool.or_true, Bool.true_or, wrap_in, dlt_t, dlt_f, dle_t, dle_f, dgt_t, dgt_f, dge_t, dge_f, ibeq_t, ibeq_f, ibne_t, ibne_f, inR_int, beqN_eq, bleN_le]
theorem sp_eFind (l : List (Int × Int)) (hl : l.length ≤ 1000) : cl fu (d + 3) fn_element_Find [V.c (C.sl l.length (fl rdc l)), I 1] [] = OK (V.tup [I ((fd l).getD 0), B (fd l).isSome]) := by
  have hq : ∀ x : Int × Int, cl fu (d + 1) fn_element_Find_1 [V.agg (rdc x), V.c (C.cp [C.v (.int .i64 1)])] [] = OK (B (x.1 == 1)) := fun x => by
    unfold rdc
    rw [eq_element_Find_1]
    simp only [obs, rC_c, rA_agg, rT_tup, rP_ptr, rW_own, rS_sb, rF_sb, uncV_cons, uncO_cons, nilV_nil, rO_ob, rN_ob, unc_cons, asI_int, asB_bool, asS_string, asSl_sl, asSl_nl, asFn_fn, asP_cp, nrm_sl, nrm_nl, need_true, ct, cf, bd_eq, natD_zero, natD_succ, natD_one, noYl_v, noYl_sl, noYl_nl, noYl_cp, noYl_fn, Bool.and_true, Bool.true_and, Bool.and_self, beqN_self, Bool.not_true, Bool.not_false, Bool.and_false, Bool.false_and, Bool.or_false, Bool.false_or, Bool.or_true, Bool.true_or]
  rw [eq_element_Find]
  rcases first_or_none (fun j => ∃ h : j < l.length, l[j].1 = 1) l.length with h | ⟨k, hk, ⟨_, h1⟩, h2⟩
  · have hn : fd l = none := fd_none fun j hj e => h j hj ⟨hj, e⟩
    have hix := sp_index_none fu (d + 1) hf fn_element_Find_1 (C.cp [C.v (.int .i64 1)]) l hl (fun x hx => by
      rw [hq x, ibeq_f]
      intro e
      obtain ⟨j, hj, rfl⟩ := List.mem_iff_getElem.1 hx
      exact h j hj ⟨hj, e⟩)
    rw [hix, hn]
    simp (disch := omega) only [obs, rC_c, rA_agg, rT_tup, rP_ptr, rW_own, rS_sb, rF_sb, uncV_cons, uncO_cons, nilV_nil, rO_ob, rN_ob, unc_cons, asI_int, asB_bool, asS_string, asSl_sl, asSl_nl, asFn_fn, asP_cp, nrm_sl, nrm_nl, need_true, ct, cf, bd_eq, natD_zero, natD_succ, natD_one, noYl_v, noYl_sl, noYl_nl, noYl_cp, noYl_fn, Bool.and_true, Bool.true_and, Bool.and_self, beqN_self, Bool.not_true, Bool.not_false, Bool.and_false, Bool.false_and, Bool.or_false, Bool.false_or, Bool.or_true, Bool.true_or, wrap_in, dlt_t, dlt_f, dle_t, dle_f, dgt_t, dgt_f, dge_t, dge_f, ibeq_t, ibeq_f, ibne_t, ibne_f, inR_int, beqN_eq, bleN_le]
    rfl
  · have hn : fd l = some l[k].2 := fd_some hk h1 fun j hj e => h2 j hj ⟨by omega, e⟩
    have hix := sp_index_some fu (d + 1) hf fn_element_Find_1 (C.cp [C.v (.int .i64 1)]) l hl hk (fun j hj => by
      rw [hq, ibeq_f]
      exact fun e => h2 j hj ⟨by omega, e⟩) (by rw [hq, ibeq_t h1])
    have hat := fl_at rdc_length hk
    rw [hix, hn]
    simp (disch := omega) only [obs, rC_c, rA_agg, rT_tup, rP_ptr, rW_own, rS_sb, rF_sb, uncV_cons, uncO_cons, nilV_nil, rO_ob, rN_ob, unc_cons, asI_int, asB_bool, asS_string, asSl_sl, asSl_nl, asFn_fn, asP_cp, nrm_sl, nrm_nl, need_true, ct, cf, bd_eq, natD_zero, natD_succ, natD_one, noYl_v, noYl_sl, noYl_nl, noYl_cp, noYl_fn, Bool.and_true, Bool.true_and, Bool.and_self, beqN_self, Bool.not_true, Bool.not_false, Bool.and_false, Bool.false_and, Bool.or_false, Bool.false_or, Bool.or_true, Bool.true_or, wrap_in, dlt_t, dlt_f, dle_t, dle_f, dgt_t, dgt_f, dge_t, dge_f, ibeq_t, ibeq_f, ibne_t, ibne_f, inR_int, beqN_eq, bleN_le, Int.toNat_natCast, hat, rdc, List.cons_append, List.nil_append, List.drop_succ_cons, List.drop_zero]
    rfl
end
end Go.Proofs.YtobmbacppbkgeaaDoor
/- Rules that keep simp at what comes first: nothing behind it is looked at (attribute [local congr] in the texts that use them). -/
namespace Go.PM
open Go
def hdt {A : Type} (x : A) : A := x
theorem hdt_eq {A : Type} (x : A) : hdt x = x := id rfl
theorem out0 : Nat.beq 1000000 (OUT + 0) = true := id rfl
theorem out1 : Nat.beq 1000001 (OUT + 1) = true := id rfl
theorem out2 : Nat.beq 1000002 (OUT + 2) = true := id rfl
section
variable {R A B' : Type}
theorem hd_bind {x x' : Option A} {k : A → Option B'} (h : hdt x = x') : x.bind k = x'.bind k := by rw [← h]; rfl
theorem hd_need {b b' : Bool} {k : Option R} (h : hdt b = b') : need b k = need b' k := by rw [← h]; rfl
theorem hd_cond {b b' : Bool} {x y : R} (h : hdt b = b') : (bif b then x else y) = (bif b' then x else y) := by rw [← h]; rfl
theorem hd_unc {c c' : List C} {k : C → List C → Option R} (h : hdt c = c') : unc c k = unc c' k := by rw [← h]; rfl
theorem hd_uncV {c c' : List V} {k : V → List V → Option R} (h : hdt c = c') : uncV c k = uncV c' k := by rw [← h]; rfl
theorem hd_uncO {c c' : List PM.Obj} {k : PM.Obj → List PM.Obj → Option R} (h : hdt c = c') : uncO c k = uncO c' k := by rw [← h]; rfl
theorem hd_unI {c c' : List (List V)} {k : List V → List (List V) → Option R} (h : hdt c = c') : unI c k = unI c' k := by rw [← h]; rfl
theorem hd_asI {kd : IntKind} {c c' : C} {k : Int → Option R} (h : hdt c = c') : asI kd c k = asI kd c' k := by rw [← h]; rfl
theorem hd_asB {c c' : C} {k : Bool → Option R} (h : hdt c = c') : asB c k = asB c' k := by rw [← h]; rfl
theorem hd_asS {c c' : C} {k : ByteArray → Option R} (h : hdt c = c') : asS c k = asS c' k := by rw [← h]; rfl
theorem hd_asSl {c c' : C} {k : Nat → List C → Option R} (h : hdt c = c') : asSl c k = asSl c' k := by rw [← h]; rfl
theorem hd_asFn {c c' : C} {k : FuncId → List C → Option R} (h : hdt c = c') : asFn c k = asFn c' k := by rw [← h]; rfl
theorem hd_asP {c c' : C} {k : List C → Option R} (h : hdt c = c') : asP c k = asP c' k := by rw [← h]; rfl
theorem hd_asYF {c c' : C} {ky : Nat → Option R} {k : FuncId → List C → Option R} (h : hdt c = c') : asYF c ky k = asYF c' ky k := by rw [← h]; rfl
theorem hd_rC {x x' : V} {k : C → Option R} (h : hdt x = x') : rC x k = rC x' k := by rw [← h]; rfl
theorem hd_rA {x x' : V} {k : List C → Option R} (h : hdt x = x') : rA x k = rA x' k := by rw [← h]; rfl
theorem hd_rT {x x' : V} {k : List V → Option R} (h : hdt x = x') : rT x k = rT x' k := by rw [← h]; rfl
theorem hd_rG {x x' : V} {k : List V → Option R} (h : hdt x = x') : rG x k = rG x' k := by rw [← h]; rfl
theorem hd_rP {x x' : V} {m : Nat} {k : Option R} (h : hdt x = x') : rP x m k = rP x' m k := by rw [← h]; rfl
theorem hd_rW {x x' : V} {m : Nat} {k : Nat → Option R} (h : hdt x = x') : rW x m k = rW x' m k := by rw [← h]; rfl
theorem hd_rO {o o' : PM.Obj} {t fz : Nat} {k : List C → Option R} (h : hdt o = o') : rO o t fz k = rO o' t fz k := by rw [← h]; rfl
theorem hd_rN {o o' : PM.Obj} {t n : Nat} {k : List C → Option R} (h : hdt o = o') : rN o t n k = rN o' t n k := by rw [← h]; rfl
theorem hd_rF {o o' : PM.Obj} {t : Nat} {k : Nat → List C → Option R} (h : hdt o = o') : rF o t k = rF o' t k := by rw [← h]; rfl
theorem hd_rS {o o' : PM.Obj} {t fz : Nat} {k : List C → Option R} (h : hdt o = o') : rS o t fz k = rS o' t fz k := by rw [← h]; rfl
theorem hd_nilV {x x' : List V} {k : Option R} (h : hdt x = x') : nilV x k = nilV x' k := by rw [← h]; rfl
theorem hd_natD {n n' : Nat} {a : Option R} {b : Nat → Option R} (h : hdt n = n') : natD n a b = natD n' a b := by rw [← h]; rfl
theorem hd_bd {x x' : A} {k : A → Option R} (h : hdt x = x') : bd x k = bd x' k := by rw [← h]; rfl
theorem hd_iter {body : A → Option (Nat × A)} {fu : Nat} {x x' : A} (h : hdt x = x') : iter body fu x = iter body fu x' := by rw [← h]; rfl
theorem hd_over {I : Type} {body : I → A → Option (Nat × A)} {l l' : List I} {x x' : A} (h1 : hdt l = l') (h : hdt x = x') : overK body l x = overK body l' x' := by rw [← h, ← h1]; rfl
theorem hd_sliceC {sz : Nat} {lo lo' hi hi' : Option V} {c c' : C} {k : C → Option R} (h1 : hdt lo = lo') (h2 : hdt hi = hi') (h : hdt c = c') : sliceC sz lo hi c k = sliceC sz lo' hi' c' k := by rw [← h, ← h1, ← h2]; rfl
theorem hd_asMp {c c' : C} {kt et : TypeId} {ka va : Option Nat} {k : List (List C × List C) → Option R} (h : hdt c = c') : asMp c kt et ka va k = asMp c' kt et ka va k := by rw [← h]; rfl
end
end Go.PM
/- Reports of a crowd of stations. -/
namespace Go.Proofs.YtobmbacppbkgeaaDoor
open Go Go.PM Go.Grid
attribute [local congr] hd_bind hd_need hd_cond hd_unc hd_uncV hd_uncO hd_unI hd_asI hd_asB hd_asS hd_asSl hd_asFn hd_asP hd_rC hd_rA hd_rT hd_rG hd_rP hd_rO hd_rN hd_rF hd_rS hd_rW hd_nilV hd_natD hd_bd hd_iter hd_over hd_sliceC hd_asMp hd_asYF
structure Rep where
  k : Int
  nm : ByteArray
  tm : Int
  p : Pl
  rs : List (Int × Int)
def repC (x : Rep) : List C := [.v (.int .i64 x.k), .v (.string x.nm), .v (.int .i64 x.tm), .v (.int .i64 x.p.f), .v (.int .i64 x.p.a), .v (.int .i64 x.p.b), .v (.int .i64 x.p.c), C.sl x.rs.length (fl rdc x.rs)]
theorem repC_length (x : Rep) : (repC x).length = 8 := rfl
def okRep (x : Rep) : Prop := x.p.ok ∧ okRs x.rs
theorem rep_snoc (l : List Rep) (k : Int) (nm : ByteArray) (tm : Int) (p : Pl) (rs : List (Int × Int)) :
    fl repC l ++ [.v (.int .i64 k), .v (.string nm), .v (.int .i64 tm), .v (.int .i64 p.f), .v (.int .i64 p.a), .v (.int .i64 p.b), .v (.int .i64 p.c), C.sl rs.length (fl rdc rs)] = fl repC (l ++ [⟨k, nm, tm, p, rs⟩]) := fl_snoc l ⟨k, nm, tm, p, rs⟩
theorem rd_snoc (l : List (Int × Int)) (a b : Int) : fl rdc l ++ [.v (.int .i64 a), .v (.int .i64 b)] = fl rdc (l ++ [(a, b)]) := fl_snoc l (a, b)
theorem plc_cells (p : Pl) : plc p = [.v (.int .i64 p.f), .v (.int .i64 p.a), .v (.int .i64 p.b), .v (.int .i64 p.c)] := rfl
def names10 : List C := [C.v (.string (⟨#[65, 76, 80, 72, 65]⟩)), C.v (.string (⟨#[66, 82, 65, 86, 79]⟩)), C.v (.string (⟨#[48, 49, 50, 51, 52]⟩)), C.v (.string (⟨#[68, 69, 76, 84, 65]⟩)), C.v (.string (⟨#[69, 67, 72, 79, 55]⟩)), C.v (.string (⟨#[55, 55, 55, 55, 55]⟩)), C.v (.string (⟨#[71, 79, 76, 70, 49]⟩)), C.v (.string (⟨#[72, 79, 84, 69, 76]⟩)), C.v (.string (⟨#[73, 78, 68, 73, 65]⟩)), C.v (.string (⟨#[74, 85, 76, 73, 65]⟩))]
def base12 : List C := [C.v (.int .i64 0), C.v (.int .i64 10100), C.v (.int .i64 2850), C.v (.int .i64 2800), C.v (.int .i64 0), C.v (.int .i64 50), C.v (.int .i64 1460), C.v (.int .i64 2780), C.v (.int .i64 3010), C.v (.int .i64 2680), C.v (.int .i64 5570), C.v (.int .i64 2520)]
theorem base_at : ∀ i : Nat, i < 11 → ∃ v : Int, (0 ≤ v ∧ v ≤ 10100) ∧ List.drop (i + 1) base12 = C.v (.int .i64 v) :: List.drop (i + 2) base12 := by
  intro i hi
  have : i = 0 ∨ i = 1 ∨ i = 2 ∨ i = 3 ∨ i = 4 ∨ i = 5 ∨ i = 6 ∨ i = 7 ∨ i = 8 ∨ i = 9 ∨ i = 10 := by omega
  rcases this with rfl | rfl | rfl | rfl | rfl | rfl | rfl | rfl | rfl | rfl | rfl <;> exact ⟨_, ⟨by decide, by decide⟩, rfl⟩
theorem names_at : ∀ i : Nat, i < 10 → ∃ s r, List.drop i names10 = C.v (.string s) :: r := by
  intro i hi
  have : i = 0 ∨ i = 1 ∨ i = 2 ∨ i = 3 ∨ i = 4 ∨ i = 5 ∨ i = 6 ∨ i = 7 ∨ i = 8 ∨ i = 9 := by omega
  rcases this with rfl | rfl | rfl | rfl | rfl | rfl | rfl | rfl | rfl | rfl <;> exact ⟨_, _, rfl⟩
section
variable (fu d : Nat)
theorem sp_clamp (c : Int) (hc : 1 ≤ c ∧ c ≤ 11) (v : Int) : ∃ w, cl fu (d + 1) fn_synopticdata_clamp [I c, I v] [] = OK (I w) ∧ (rng c).1 ≤ w ∧ w ≤ (rng c).2 := by
  have key : ∀ lo hi : Int, lo ≤ hi → lo ≤ (if (if v < hi then v else hi) > lo then (if v < hi then v else hi) else lo) ∧ (if (if v < hi then v else hi) > lo then (if v < hi then v else hi) else lo) ≤ hi := by
    intro lo hi h
    split <;> split <;> omega
  refine cases11 (p := fun c => ∃ w, cl fu (d + 1) fn_synopticdata_clamp [I c, I v] [] = OK (I w) ∧ (rng c).1 ≤ w ∧ w ≤ (rng c).2) ?_ c hc
  refine ⟨?_, ?_, ?_, ?_, ?_, ?_, ?_, ?_, ?_, ?_, ?_⟩ <;> (rw [eq_synopticdata_clamp]; exact ⟨_, rfl, key _ _ (by decide)⟩)
variable (hf : 18446744073709551616 ≤ fu) (L : List Int) (hL : L.length ≤ 2000)
include hf hL
omit hf in
theorem sp_TextN (i : Nat) : ∃ (s : ByteArray) (j : Nat), cl fu (d + 3) fn_synoptickeep_Src_Text [V.ptr 1000000 0, V.c (C.sl 10 names10)] [srcO L i] = some ⟨V.c (C.v (.string s)), [srcO L j], none⟩ := by
  obtain ⟨v, j, h1, h2, h3⟩ := sp_N fu d L i hL 10 (by omega)
  obtain ⟨k, rfl⟩ : ∃ k : Nat, v = k := ⟨v.toNat, by omega⟩
  obtain ⟨s, r, hs⟩ := names_at k (by omega)
  refine ⟨s, j, ?_⟩
  have hin : inR (k : Int) 10 = true := by simp [inR]; omega
  have e10 : ((10 : Nat) : Int) = 10 := rfl
  unfold srcO srcC at h1 ⊢
  rw [eq_synoptickeep_Src_Text]
  simp (disch := omega) only [hdt_eq, obs, rC_c, rA_agg, rT_tup, rP_ptr, rW_own, rS_sb, rF_sb, uncV_cons, uncO_cons, nilV_nil, rO_ob, rN_ob, unc_cons, asI_int, asB_bool, asS_string, asSl_sl, asSl_nl, asFn_fn, asP_cp, nrm_sl, nrm_nl, need_true, ct, cf, bd_eq, natD_zero, natD_succ, natD_one, noYl_v, noYl_sl, noYl_nl, noYl_cp, noYl_fn, Bool.and_true, Bool.true_and, Bool.and_self, beqN_self, Bool.not_true, Bool.not_false, Bool.and_false, Bool.false_and, Bool.or_false, Bool.false_or, Bool.or_true, Bool.true_or, wrap_in, dlt_t, dlt_f, dle_t, dle_f, dgt_t, dgt_f, dge_t, dge_f, ibeq_t, ibeq_f, ibne_t, ibne_f, inR_int, beqN_eq, bleN_le, e10, h1, List.length_cons, List.length_nil, Nat.zero_add, Nat.reduceAdd, hin, Int.toNat_natCast, Nat.mul_one, hs]
set_option maxHeartbeats 4000000 in
set_option maxRecDepth 4000 in
theorem sp_Crowd (i : Nat) : ∃ (X : List Rep) (j : Nat), (X.length ≤ 6 ∧ ∀ x ∈ X, okRep x) ∧ cl fu (d + 6) fn_synopticdata_Crowd [V.ptr 1000000 0, I 6, I 14000000] [srcO L i] = some ⟨V.c (C.sl X.length (fl repC X)), [srcO L j], none⟩ := by
  obtain ⟨p0, j1, hp0, c1⟩ := sp_Place fu d hf L i hL
  obtain ⟨v1, j2, c2, b1, b2⟩ := sp_N fu (d + 3) L j1 hL 7 (by omega)
  obtain ⟨n, rfl⟩ : ∃ k : Nat, v1 = k := ⟨v1.toNat, by omega⟩
  have hp0' := hp0.2
  have hpb : p0.a ≤ 840 := by omega
  unfold srcO srcC at c1 c2 ⊢
  have e10 : [C.v (.string (⟨#[65, 76, 80, 72, 65]⟩)), C.v (.string (⟨#[66, 82, 65, 86, 79]⟩)), C.v (.string (⟨#[48, 49, 50, 51, 52]⟩)), C.v (.string (⟨#[68, 69, 76, 84, 65]⟩)), C.v (.string (⟨#[69, 67, 72, 79, 55]⟩)), C.v (.string (⟨#[55, 55, 55, 55, 55]⟩)), C.v (.string (⟨#[71, 79, 76, 70, 49]⟩)), C.v (.string (⟨#[72, 79, 84, 69, 76]⟩)), C.v (.string (⟨#[73, 78, 68, 73, 65]⟩)), C.v (.string (⟨#[74, 85, 76, 73, 65]⟩))] = names10 := rfl
  have e12 : [C.v (.int .i64 0), C.v (.int .i64 10100), C.v (.int .i64 2850), C.v (.int .i64 2800), C.v (.int .i64 0), C.v (.int .i64 50), C.v (.int .i64 1460), C.v (.int .i64 2780), C.v (.int .i64 3010), C.v (.int .i64 2680), C.v (.int .i64 5570), C.v (.int .i64 2520)] = base12 := rfl
  rw [eq_synopticdata_Crowd, c1]
  simp (disch := omega) only [hdt_eq, Int.reduceAdd, e10, e12, obs, rC_c, rA_agg, rT_tup, rP_ptr, rW_own, rS_sb, rF_sb, uncV_cons, uncO_cons, nilV_nil, rO_ob, rN_ob, unc_cons, asI_int, asB_bool, asS_string, asSl_sl, asSl_nl, asFn_fn, asP_cp, nrm_sl, nrm_nl, need_true, ct, cf, bd_eq, natD_zero, natD_succ, natD_one, noYl_v, noYl_sl, noYl_nl, noYl_cp, noYl_fn, Bool.and_true, Bool.true_and, Bool.and_self, beqN_self, Bool.not_true, Bool.not_false, Bool.and_false, Bool.false_and, Bool.or_false, Bool.false_or, Bool.or_true, Bool.true_or, wrap_in, dlt_t, dlt_f, dle_t, dle_f, dgt_t, dgt_f, dge_t, dge_f, ibeq_t, ibeq_f, ibne_t, ibne_f, inR_int, beqN_eq, bleN_le, plc_cells, c2, List.length_cons, List.length_nil, Nat.zero_add, Nat.reduceAdd, e10, e12]
  refine iter_bind_ex (A := List C × Int × (C × Int × Unit) × Unit) (B := Out) (fu := fu) (fun o => ∃ (X : List Rep) (j : Nat), (X.length ≤ 6 ∧ ∀ x ∈ X, okRep x) ∧ o = some ⟨V.c (C.sl X.length (fl repC X)), [.ob ty_synoptickeep_Src 0 [C.sl L.length (ints L), C.v (.int .i64 (j : Nat))]], none⟩)
    (fun j y => ∃ (X : List Rep) (q : Nat), (X.length = j ∧ ∀ x ∈ X, okRep x) ∧ y = (fl repC X, ((n - j : Nat) : Int), (C.sl L.length (ints L), ((q : Nat) : Int), ()), ()))
    (fun z => ∃ (X : List Rep) (q : Nat), (X.length ≤ 6 ∧ ∀ x ∈ X, okRep x) ∧ z = (fl repC X, (0 : Int), (C.sl L.length (ints L), ((q : Nat) : Int), ()), ())) 0 n ?_ ?_ ?_ (by omega) ?_
  · exact ⟨[], j2, ⟨rfl, by simp⟩, rfl⟩
  · rintro j y hj ⟨X, q, ⟨hX, hok⟩, rfl⟩
    obtain ⟨v3, q1, c3, b3⟩ := sp_Range fu (d + 2) L q hL 1 3 (by omega) ⟨by omega, by omega⟩
    obtain ⟨s4, q2, c4⟩ := sp_TextN fu (d + 2) L hL q1
    obtain ⟨v5, q3, c5, b5, b5'⟩ := sp_Range fu (d + 2) L q2 hL 0 50 (by omega) ⟨by omega, by omega⟩
    obtain ⟨v6, q4, c6, b6⟩ := sp_N fu (d + 3) L q3 hL 4 (by omega)
    unfold srcO srcC at c3 c4 c5 c6
    have hfl := fl_length repC_length X
    have hdv : X.length * 8 / 8 = X.length := by omega
    have branch : (v6 = 0 ∧ ∃ (p : Pl) (q5 : Nat), p.ok ∧ cl fu (d + 5) fn_synopticdata_Place [V.ptr 1000000 0] [.ob ty_synoptickeep_Src 0 [C.sl L.length (ints L), C.v (.int .i64 ((q4 : Nat) : Int))]] = some ⟨V.agg (plc p), [.ob ty_synoptickeep_Src 0 [C.sl L.length (ints L), C.v (.int .i64 ((q5 : Nat) : Int))]], none⟩) ∨
        (v6 ≠ 0 ∧ v6 = 1 ∧ ∃ (m v7 : Int) (q5 : Nat) (p : Pl), p.ok ∧ (if (p0.a : Int) < 150 then (p0.a : Int) else 150) = m ∧ (0 ≤ v7 ∧ v7 ≤ p0.a) ∧ cl fu (d + 5) fn_synoptickeep_Src_Range [V.ptr 1000000 0, I 0, I m] [.ob ty_synoptickeep_Src 0 [C.sl L.length (ints L), C.v (.int .i64 ((q4 : Nat) : Int))]] = some ⟨I v7, [.ob ty_synoptickeep_Src 0 [C.sl L.length (ints L), C.v (.int .i64 ((q5 : Nat) : Int))]], none⟩ ∧
          cl fu (d + 5) fn_synopticref02_Normal [V.agg [.v (.int .i64 p0.f), .v (.int .i64 (p0.a - v7)), .v (.int .i64 p0.b), .v (.int .i64 (p0.c + v7))]] [] = OK (V.tup [V.agg (plc p), I 0])) ∨
        (v6 ≠ 0 ∧ v6 ≠ 1) := by
      by_cases h0 : v6 = 0
      · obtain ⟨p, q5, hp, c7⟩ := sp_Place fu d hf L q4 hL
        exact .inl ⟨h0, p, q5, hp, c7⟩
      · by_cases h1 : v6 = 1
        · refine .inr (.inl ⟨h0, h1, ?_⟩)
          by_cases hs : (p0.a : Int) < 150
          · obtain ⟨v7, q5, c7, b7⟩ := sp_Range fu (d + 2) L q4 hL 0 (p0.a : Int) (by omega) ⟨by omega, by omega⟩
            obtain ⟨p, hp, hN⟩ := sp_ref_Normal_int fu (d + 1) hf p0.f (p0.a - v7) p0.b (p0.c + v7) (decide_eq_true (by have := hp0.1; omega))
            exact ⟨_, v7, q5, p, hp, if_pos hs, b7, c7, hN⟩
          · obtain ⟨v7, q5, c7, b7⟩ := sp_Range fu (d + 2) L q4 hL 0 150 (by omega) ⟨by omega, by omega⟩
            obtain ⟨p, hp, hN⟩ := sp_ref_Normal_int fu (d + 1) hf p0.f (p0.a - v7) p0.b (p0.c + v7) (decide_eq_true (by have := hp0.1; omega))
            exact ⟨_, v7, q5, p, hp, if_neg hs, by omega, c7, hN⟩
        · exact .inr (.inr ⟨h0, h1⟩)
    rcases branch with ⟨h0, p, q5, hp, c7⟩ | ⟨h0, h1, m, v7, q5, p, hp, hm, b7, c7, hN⟩ | ⟨h0, h1⟩
    case' inl => simp (disch := omega) only [hdt_eq, Int.reduceAdd, e10, e12, obs, rC_c, rA_agg, rT_tup, rP_ptr, rW_own, rS_sb, rF_sb, uncV_cons, uncO_cons, nilV_nil, rO_ob, rN_ob, unc_cons, asI_int, asB_bool, asS_string, asSl_sl, asSl_nl, asFn_fn, asP_cp, nrm_sl, nrm_nl, need_true, ct, cf, bd_eq, natD_zero, natD_succ, natD_one, noYl_v, noYl_sl, noYl_nl, noYl_cp, noYl_fn, Bool.and_true, Bool.true_and, Bool.and_self, beqN_self, Bool.not_true, Bool.not_false, Bool.and_false, Bool.false_and, Bool.or_false, Bool.false_or, Bool.or_true, Bool.true_or, wrap_in, dlt_t, dlt_f, dle_t, dle_f, dgt_t, dgt_f, dge_t, dge_f, ibeq_t, ibeq_f, ibne_t, ibne_f, inR_int, beqN_eq, bleN_le, c3, c4, c5, c6, plc_cells, c7, List.length_cons, List.length_nil, Nat.zero_add, Nat.reduceAdd, hfl, hdv, Nat.zero_div, Nat.zero_mul]
    case' inr.inl => simp (disch := omega) only [hdt_eq, Int.reduceAdd, e10, e12, obs, rC_c, rA_agg, rT_tup, rP_ptr, rW_own, rS_sb, rF_sb, uncV_cons, uncO_cons, nilV_nil, rO_ob, rN_ob, unc_cons, asI_int, asB_bool, asS_string, asSl_sl, asSl_nl, asFn_fn, asP_cp, nrm_sl, nrm_nl, need_true, ct, cf, bd_eq, natD_zero, natD_succ, natD_one, noYl_v, noYl_sl, noYl_nl, noYl_cp, noYl_fn, Bool.and_true, Bool.true_and, Bool.and_self, beqN_self, Bool.not_true, Bool.not_false, Bool.and_false, Bool.false_and, Bool.or_false, Bool.false_or, Bool.or_true, Bool.true_or, wrap_in, dlt_t, dlt_f, dle_t, dle_f, dgt_t, dgt_f, dge_t, dge_f, ibeq_t, ibeq_f, ibne_t, ibne_f, inR_int, beqN_eq, bleN_le, c3, c4, c5, c6, plc_cells, hm, c7, hN, List.length_cons, List.length_nil, Nat.zero_add, Nat.reduceAdd, hfl, hdv, Nat.zero_div, Nat.zero_mul]
    case' inr.inr =>
      obtain ⟨p, q5, hp, hpe, hqe⟩ : ∃ (p : Pl) (q5 : Nat), p.ok ∧ p = p0 ∧ q5 = q4 := ⟨p0, q4, hp0, rfl, rfl⟩
      simp (disch := omega) only [hdt_eq, Int.reduceAdd, e10, e12, obs, rC_c, rA_agg, rT_tup, rP_ptr, rW_own, rS_sb, rF_sb, uncV_cons, uncO_cons, nilV_nil, rO_ob, rN_ob, unc_cons, asI_int, asB_bool, asS_string, asSl_sl, asSl_nl, asFn_fn, asP_cp, nrm_sl, nrm_nl, need_true, ct, cf, bd_eq, natD_zero, natD_succ, natD_one, noYl_v, noYl_sl, noYl_nl, noYl_cp, noYl_fn, Bool.and_true, Bool.true_and, Bool.and_self, beqN_self, Bool.not_true, Bool.not_false, Bool.and_false, Bool.false_and, Bool.or_false, Bool.false_or, Bool.or_true, Bool.true_or, wrap_in, dlt_t, dlt_f, dle_t, dle_f, dgt_t, dgt_f, dge_t, dge_f, ibeq_t, ibeq_f, ibne_t, ibne_f, inR_int, beqN_eq, bleN_le, c3, c4, c5, c6, List.length_cons, List.length_nil, Nat.zero_add, Nat.reduceAdd, hfl, hdv, Nat.zero_div, Nat.zero_mul]
      rw [← hpe, ← hqe]
    all_goals
      refine iter_bind_ex (A := List C × Int × (Int × ByteArray × Int × Int × Int × Int × Int × List C × Unit) × (C × Int × Unit) × Unit) (fu := fu)
        (fun o => ∃ y', o = some (0, y') ∧ ∃ (X : List Rep) (q : Nat), (X.length = j + 1 ∧ ∀ x ∈ X, okRep x) ∧ y' = (fl repC X, ((n - (j + 1) : Nat) : Int), (C.sl L.length (ints L), ((q : Nat) : Int), ()), ()))
        (fun i z => ∃ (rs : List (Int × Int)) (q : Nat), (rs.length ≤ i ∧ (∀ x ∈ rs, okRd x ∧ x.1 ≤ i) ∧ rs.Pairwise fun a b => a.1 < b.1) ∧ z = (fl repC X, ((i + 1 : Nat) : Int), (v3, s4, 14000000 + v5, (p.f : Int), (p.a : Int), (p.b : Int), (p.c : Int), fl rdc rs, ()), (C.sl L.length (ints L), ((q : Nat) : Int), ()), ()))
        (fun z => ∃ (rs : List (Int × Int)) (q : Nat), okRs rs ∧ z = (fl repC X, (12 : Int), (v3, s4, 14000000 + v5, (p.f : Int), (p.a : Int), (p.b : Int), (p.c : Int), fl rdc rs, ()), (C.sl L.length (ints L), ((q : Nat) : Int), ()), ())) 0 11 ?_ ?_ ?_ (by omega) ?_
      · exact ⟨[], q5, ⟨by simp, by simp, .nil⟩, rfl⟩
      · rintro i z hi ⟨rs, q6, ⟨r1, r2, r3⟩, rfl⟩
        obtain ⟨w1, q7, x1, z1⟩ := sp_N fu (d + 3) L q6 hL 3 (by omega)
        unfold srcO srcC at x1
        have hfr := fl_length rdc_length rs
        have hdr : rs.length * 2 / 2 = rs.length := by omega
        by_cases hw : 0 < w1
        · refine ⟨_, ?_, rs, q7, ⟨by omega, fun x hx => ⟨(r2 x hx).1, by have := (r2 x hx).2; omega⟩, r3⟩, rfl⟩
          simp (disch := omega) only [hdt_eq, Int.reduceAdd, e10, e12, obs, rC_c, rA_agg, rT_tup, rP_ptr, rW_own, rS_sb, rF_sb, uncV_cons, uncO_cons, nilV_nil, rO_ob, rN_ob, unc_cons, asI_int, asB_bool, asS_string, asSl_sl, asSl_nl, asFn_fn, asP_cp, nrm_sl, nrm_nl, need_true, ct, cf, bd_eq, natD_zero, natD_succ, natD_one, noYl_v, noYl_sl, noYl_nl, noYl_cp, noYl_fn, Bool.and_true, Bool.true_and, Bool.and_self, beqN_self, Bool.not_true, Bool.not_false, Bool.and_false, Bool.false_and, Bool.or_false, Bool.false_or, Bool.or_true, Bool.true_or, wrap_in, dlt_t, dlt_f, dle_t, dle_f, dgt_t, dgt_f, dge_t, dge_f, ibeq_t, ibeq_f, ibne_t, ibne_f, inR_int, beqN_eq, bleN_le, x1, List.length_cons, List.length_nil, Nat.zero_add, Nat.reduceAdd, hfl, hdv, hfr, hdr]
          rfl
        · obtain ⟨bv, hbv, hbase⟩ := base_at i hi
          obtain ⟨w2, q8, x2, z2⟩ := sp_Range fu (d + 2) L q7 hL (-8) 8 (by omega) ⟨by omega, by omega⟩
          obtain ⟨w3, q9, x3, z3⟩ := sp_Range fu (d + 2) L q8 hL (-60) 60 (by omega) ⟨by omega, by omega⟩
          obtain ⟨w4, q10, x4, z4⟩ := sp_Pick fu (d + 2) L q9 hL [0, 1, 3, w2, w3, 100, 103] (by simp)
          obtain ⟨w5, x5, z5⟩ := sp_clamp fu (d + 4) ((i + 1 : Nat) : Int) (by omega) (bv + w4)
          have x4 : cl fu (d + 5) fn_synoptickeep_Src_Pick [V.ptr 1000000 0, V.c (C.sl 7 [C.v (.int .i64 0), C.v (.int .i64 1), C.v (.int .i64 3), C.v (.int .i64 w2), C.v (.int .i64 w3), C.v (.int .i64 100), C.v (.int .i64 103)])] [srcO L q9] = _ := x4
          have hw4 : -60 ≤ w4 ∧ w4 ≤ 103 := by
            simp only [List.mem_cons, List.not_mem_nil, or_false] at z4
            rcases z4 with rfl | rfl | rfl | rfl | rfl | rfl | rfl <;> omega
          unfold srcO srcC at x2 x3 x4
          have hin : inR (((i + 1 : Nat)) : Int) 12 = true := by simp [inR]; omega
          have hsn := rd_snoc rs ((i + 1 : Nat) : Int) w5
          have hlen : (fl rdc (rs ++ [(((i + 1 : Nat) : Int), w5)])).length = (rs.length + 1) * 2 := by rw [fl_length rdc_length]; simp
          refine ⟨_, ?_, rs ++ [(((i + 1 : Nat) : Int), w5)], q10, ⟨by simp; omega, fun x hx => ?_, ?_⟩, rfl⟩
          · simp (disch := omega) only [hdt_eq, Int.reduceAdd, e10, e12, obs, rC_c, rA_agg, rT_tup, rP_ptr, rW_own, rS_sb, rF_sb, uncV_cons, uncO_cons, nilV_nil, rO_ob, rN_ob, unc_cons, asI_int, asB_bool, asS_string, asSl_sl, asSl_nl, asFn_fn, asP_cp, nrm_sl, nrm_nl, need_true, ct, cf, bd_eq, natD_zero, natD_succ, natD_one, noYl_v, noYl_sl, noYl_nl, noYl_cp, noYl_fn, Bool.and_true, Bool.true_and, Bool.and_self, beqN_self, Bool.not_true, Bool.not_false, Bool.and_false, Bool.false_and, Bool.or_false, Bool.false_or, Bool.or_true, Bool.true_or, wrap_in, dlt_t, dlt_f, dle_t, dle_f, dgt_t, dgt_f, dge_t, dge_f, ibeq_t, ibeq_f, ibne_t, ibne_f, inR_int, beqN_eq, bleN_le, x1, x2, x3, x4, x5, hin, hbase, Int.toNat_natCast, Nat.mul_one, List.length_cons, List.length_nil, Nat.zero_add, Nat.reduceAdd, hfl, hdv, hfr, hdr, hsn, hlen]
            rfl
          · rcases List.mem_append.1 hx with hx | hx
            · exact ⟨(r2 x hx).1, by have := (r2 x hx).2; omega⟩
            · simp at hx; subst hx; exact ⟨⟨by dsimp only; omega, z5⟩, by dsimp only; omega⟩
          · refine List.pairwise_append.2 ⟨r3, by simp, fun a ha b hb => ?_⟩
            simp at hb; subst hb
            have := (r2 a ha).2
            dsimp only; omega
      · rintro z ⟨rs, q6, ⟨r1, r2, r3⟩, rfl⟩
        have hfr := fl_length rdc_length rs
        have hdr : rs.length * 2 / 2 = rs.length := by omega
        refine ⟨_, ?_, rs, q6, ⟨r1, fun x hx => (r2 x hx).1, r3⟩, rfl⟩
        simp (disch := omega) only [hdt_eq, Int.reduceAdd, e10, e12, obs, rC_c, rA_agg, rT_tup, rP_ptr, rW_own, rS_sb, rF_sb, uncV_cons, uncO_cons, nilV_nil, rO_ob, rN_ob, unc_cons, asI_int, asB_bool, asS_string, asSl_sl, asSl_nl, asFn_fn, asP_cp, nrm_sl, nrm_nl, need_true, ct, cf, bd_eq, natD_zero, natD_succ, natD_one, noYl_v, noYl_sl, noYl_nl, noYl_cp, noYl_fn, Bool.and_true, Bool.true_and, Bool.and_self, beqN_self, Bool.not_true, Bool.not_false, Bool.and_false, Bool.false_and, Bool.or_false, Bool.false_or, Bool.or_true, Bool.true_or, wrap_in, dlt_t, dlt_f, dle_t, dle_f, dgt_t, dgt_f, dge_t, dge_f, ibeq_t, ibeq_f, ibne_t, ibne_f, inR_int, beqN_eq, bleN_le, hfl, hdv, hfr, hdr]
        rfl
      · rintro z ⟨rs, q6, hrs, rfl⟩
        have hfr := fl_length rdc_length rs
        have hdr : rs.length * 2 / 2 = rs.length := by omega
        have htr : List.take (rs.length * 2) (fl rdc rs) = fl rdc rs := List.take_of_length_le (by omega)
        have hsn := rep_snoc X v3 s4 (14000000 + v5) p rs
        have hlen : (fl repC (X ++ [⟨v3, s4, 14000000 + v5, p, rs⟩])).length = (X.length + 1) * 8 := by rw [fl_length repC_length]; simp
        have hrl := hrs.1
        refine ⟨_, ?_, X ++ [⟨v3, s4, 14000000 + v5, p, rs⟩], q6, ⟨by simp; omega, fun x hx => ?_⟩, rfl⟩
        · have hs : ((n - j : Nat) : Int) - 1 = ((n - (j + 1) : Nat) : Int) := by omega
          simp (disch := omega) only [hdt_eq, Int.reduceAdd, e10, e12, obs, rC_c, rA_agg, rT_tup, rP_ptr, rW_own, rS_sb, rF_sb, uncV_cons, uncO_cons, nilV_nil, rO_ob, rN_ob, unc_cons, asI_int, asB_bool, asS_string, asSl_sl, asSl_nl, asFn_fn, asP_cp, nrm_sl, nrm_nl, need_true, ct, cf, bd_eq, natD_zero, natD_succ, natD_one, noYl_v, noYl_sl, noYl_nl, noYl_cp, noYl_fn, Bool.and_true, Bool.true_and, Bool.and_self, beqN_self, Bool.not_true, Bool.not_false, Bool.and_false, Bool.false_and, Bool.or_false, Bool.false_or, Bool.or_true, Bool.true_or, wrap_in, dlt_t, dlt_f, dle_t, dle_f, dgt_t, dgt_f, dge_t, dge_f, ibeq_t, ibeq_f, ibne_t, ibne_f, inR_int, beqN_eq, bleN_le, hfl, hdv, hfr, hdr, htr, hsn, hlen, hs, Nat.zero_add]
          try rfl
        · rcases List.mem_append.1 hx with hx | hx
          · exact hok x hx
          · simp at hx; subst hx; exact ⟨hp, hrs⟩
  · rintro y ⟨X, q, ⟨hX, hok⟩, rfl⟩
    have hfl := fl_length repC_length X
    have hdv : X.length * 8 / 8 = X.length := by omega
    refine ⟨_, ?_, X, q, ⟨by omega, hok⟩, rfl⟩
    rw [Nat.sub_self]
    simp (disch := omega) only [hdt_eq, Int.reduceAdd, e10, e12, obs, rC_c, rA_agg, rT_tup, rP_ptr, rW_own, rS_sb, rF_sb, uncV_cons, uncO_cons, nilV_nil, rO_ob, rN_ob, unc_cons, asI_int, asB_bool, asS_string, asSl_sl, asSl_nl, asFn_fn, asP_cp, nrm_sl, nrm_nl, need_true, ct, cf, bd_eq, natD_zero, natD_succ, natD_one, noYl_v, noYl_sl, noYl_nl, noYl_cp, noYl_fn, Bool.and_true, Bool.true_and, Bool.and_self, beqN_self, Bool.not_true, Bool.not_false, Bool.and_false, Bool.false_and, Bool.or_false, Bool.false_or, Bool.or_true, Bool.true_or, wrap_in, dlt_t, dlt_f, dle_t, dle_f, dgt_t, dgt_f, dge_t, dge_f, ibeq_t, ibeq_f, ibne_t, ibne_f, inR_int, beqN_eq, bleN_le, hfl, hdv]
    rfl
  · rintro z ⟨X, q, ⟨hX, hok⟩, rfl⟩
    have hfl := fl_length repC_length X
    have hdv : X.length * 8 / 8 = X.length := by omega
    have ht : List.take (X.length * 8) (fl repC X) = fl repC X := List.take_of_length_le (by omega)
    refine ⟨X, q, ⟨hX, hok⟩, ?_⟩
    simp (disch := omega) only [hdt_eq, Int.reduceAdd, e10, e12, obs, rC_c, rA_agg, rT_tup, rP_ptr, rW_own, rS_sb, rF_sb, uncV_cons, uncO_cons, nilV_nil, rO_ob, rN_ob, unc_cons, asI_int, asB_bool, asS_string, asSl_sl, asSl_nl, asFn_fn, asP_cp, nrm_sl, nrm_nl, need_true, ct, cf, bd_eq, natD_zero, natD_succ, natD_one, noYl_v, noYl_sl, noYl_nl, noYl_cp, noYl_fn, Bool.and_true, Bool.true_and, Bool.and_self, beqN_self, Bool.not_true, Bool.not_false, Bool.and_false, Bool.false_and, Bool.or_false, Bool.false_or, Bool.or_true, Bool.true_or, wrap_in, dlt_t, dlt_f, dle_t, dle_f, dgt_t, dgt_f, dge_t, dge_f, ibeq_t, ibeq_f, ibne_t, ibne_f, inR_int, beqN_eq, bleN_le, hfl, hdv, ht, Nat.zero_add]
end
end Go.Proofs.YtobmbacppbkgeaaDoor
/- The program's rows of a crowd's reports. -/
namespace Go.Proofs.YtobmbacppbkgeaaDoor
open Go Go.PM Go.Grid
attribute [local congr] hd_bind hd_need hd_cond hd_unc hd_uncV hd_uncO hd_unI hd_asI hd_asB hd_asS hd_asSl hd_asFn hd_asP hd_rC hd_rA hd_rT hd_rG hd_rP hd_rO hd_rN hd_rF hd_rS hd_rW hd_nilV hd_natD hd_bd hd_iter hd_over hd_sliceC hd_asMp hd_asYF
def rowsG (n : Nat) (w : Int) : Nat → List Rep → List Rw
  | _, [] => []
  | k, x :: r => match fd x.rs with
    | some v => ⟨shares n x.p, v, w, k⟩ :: rowsG n w (k + 1) r
    | none => rowsG n w (k + 1) r
theorem rowsG_append (n : Nat) (w : Int) : ∀ (l l' : List Rep) (k : Nat), rowsG n w k (l ++ l') = rowsG n w k l ++ rowsG n w (k + l.length) l'
  | [], l', k => by simp [rowsG]
  | y :: l, l', k => by
    have ih := rowsG_append n w l l' (k + 1)
    rw [show k + 1 + l.length = k + (l.length + 1) by omega] at ih
    simp only [List.cons_append, rowsG, List.length_cons]
    cases fd y.rs with
    | none => exact ih
    | some v => simp only [ih, List.cons_append]
theorem rowsG_length (n : Nat) (w : Int) : ∀ (l : List Rep) (k : Nat), (rowsG n w k l).length ≤ l.length
  | [], k => Nat.le_refl _
  | y :: l, k => by
    have ih := rowsG_length n w l (k + 1)
    simp only [rowsG, List.length_cons]
    cases fd y.rs <;> simp <;> omega
theorem rowsG_take (n : Nat) (w : Int) (l : List Rep) (j : Nat) (h : j < l.length) : rowsG n w 0 (l.take (j + 1)) = rowsG n w 0 (l.take j) ++ (match fd l[j].rs with | some v => [⟨shares n l[j].p, v, w, j⟩] | none => []) := by
  rw [List.take_succ_eq_append_getElem h, rowsG_append, List.length_take, Nat.min_eq_left (by omega), Nat.zero_add]
  congr 1
theorem okRowsG {n : Nat} (h : freq n) {w : Int} (hw : 1 ≤ w ∧ w ≤ 1000) : ∀ (l : List Rep) (k : Nat), (∀ x ∈ l, okRep x) → ∀ r ∈ rowsG n w k l, okRow (10 * n * n + 2) r
  | [], _, _, r, hr => by cases hr
  | x :: l, k, hx, r, hr => by
    have hx0 := hx x (by simp)
    simp only [rowsG] at hr
    cases hv : fd x.rs with
    | none => rw [hv] at hr; exact okRowsG h hw l (k + 1) (fun y hy => hx y (by simp [hy])) r hr
    | some v =>
      rw [hv] at hr
      rcases List.mem_cons.1 hr with rfl | hr
      · exact okRow_of (x := (x.p, v)) h ⟨hx0.1, fd_ok hx0.2.2.1 v hv⟩ hw k
      · exact okRowsG h hw l (k + 1) (fun y hy => hx y (by simp [hy])) r hr
theorem rowsG_r (n : Nat) (w : Int) : ∀ (l : List Rep) (k : Nat), ∀ r ∈ rowsG n w k l, r.r < k + l.length
  | [], k, r, hr => by cases hr
  | x :: l, k, r, hr => by
    simp only [rowsG] at hr
    cases hv : fd x.rs with
    | none => rw [hv] at hr; have := rowsG_r n w l (k + 1) r hr; simp only [List.length_cons]; omega
    | some v =>
      rw [hv] at hr
      rcases List.mem_cons.1 hr with rfl | hr
      · simp only [List.length_cons]; omega
      · have := rowsG_r n w l (k + 1) r hr; simp only [List.length_cons]; omega
set_option maxHeartbeats 2000000 in
theorem sp_RowsG (fu d : Nat) (hf : 18446744073709551616 ≤ fu) (n : Nat) (h : freq n) (L : List Rep) (hL : L.length ≤ 100) (hok : ∀ x ∈ L, okRep x) (w : Int) (hw : 1 ≤ w ∧ w ≤ 1000) :
    cl fu (d + 8) fn_operator_Rows [I n, V.c (C.sl L.length (fl repC L)), I 1, I w] [] = OK (V.tup [V.c (C.sl (rowsG n w 0 L).length (fl rwc (rowsG n w 0 L))), I 0]) := by
  obtain ⟨s, g, hd⟩ := sp_eDescribe1 fu (d + 6)
  have hfq := sp_Frequency fu (d + 6) n h
  have hPt := sp_Points fu (d + 2) hf n h
  have hlen := rowsG_length n w L 0
  rw [eq_operator_Rows, hfq]
  simp only [hdt_eq, obs, rC_c, rA_agg, rT_tup, rP_ptr, rW_own, rS_sb, rF_sb, uncV_cons, uncO_cons, nilV_nil, rO_ob, rN_ob, unc_cons, asI_int, asB_bool, asS_string, asSl_sl, asSl_nl, asFn_fn, asP_cp, nrm_sl, nrm_nl, need_true, ct, cf, bd_eq, natD_zero, natD_succ, natD_one, noYl_v, noYl_sl, noYl_nl, noYl_cp, noYl_fn, Bool.and_true, Bool.true_and, Bool.and_self, beqN_self, Bool.not_true, Bool.not_false, Bool.and_false, Bool.false_and, Bool.or_false, Bool.false_or, Bool.or_true, Bool.true_or, hd, sp_weighted fu (d + 6) w hw, List.length_cons, List.length_nil, Nat.zero_add, Nat.reduceAdd]
  simp (disch := omega) only [hdt_eq, obs, rC_c, rA_agg, rT_tup, rP_ptr, rW_own, rS_sb, rF_sb, uncV_cons, uncO_cons, nilV_nil, rO_ob, rN_ob, unc_cons, asI_int, asB_bool, asS_string, asSl_sl, asSl_nl, asFn_fn, asP_cp, nrm_sl, nrm_nl, need_true, ct, cf, bd_eq, natD_zero, natD_succ, natD_one, noYl_v, noYl_sl, noYl_nl, noYl_cp, noYl_fn, Bool.and_true, Bool.true_and, Bool.and_self, beqN_self, Bool.not_true, Bool.not_false, Bool.and_false, Bool.false_and, Bool.or_false, Bool.false_or, Bool.or_true, Bool.true_or, wrap_in, dlt_t, dlt_f, dle_t, dle_f, dgt_t, dgt_f, dge_t, dge_f, ibeq_t, ibeq_f, ibne_t, ibne_f, inR_int, beqN_eq, bleN_le]
  rw [iter_runx (fun j : Nat => (([] : List C), (0 : Int), (j : Int), ())) 0 ([], 0, (L.length : Int), ()) L.length ?_ ?_ ?_ (by omega)]
  · simp only [hdt_eq, obs, rC_c, rA_agg, rT_tup, rP_ptr, rW_own, rS_sb, rF_sb, uncV_cons, uncO_cons, nilV_nil, rO_ob, rN_ob, unc_cons, asI_int, asB_bool, asS_string, asSl_sl, asSl_nl, asFn_fn, asP_cp, nrm_sl, nrm_nl, need_true, ct, cf, bd_eq, natD_zero, natD_succ, natD_one, noYl_v, noYl_sl, noYl_nl, noYl_cp, noYl_fn, Bool.and_true, Bool.true_and, Bool.and_self, beqN_self, Bool.not_true, Bool.not_false, Bool.and_false, Bool.false_and, Bool.or_false, Bool.false_or, Bool.or_true, Bool.true_or, hPt, sp_weighted fu (d + 6) w hw, hd, List.length_nil, Nat.zero_div, Nat.zero_mul]
    rw [iter_runx (fun j : Nat => (([] : List C), (0 : Int), fl rwc (rowsG n w 0 (L.take j)), (j : Int), ())) 0 ([], 0, fl rwc (rowsG n w 0 L), (L.length : Int), ()) L.length ?_ ?_ ?_ (by omega)]
    · simp (disch := omega) only [hdt_eq, obs, rC_c, rA_agg, rT_tup, rP_ptr, rW_own, rS_sb, rF_sb, uncV_cons, uncO_cons, nilV_nil, rO_ob, rN_ob, unc_cons, asI_int, asB_bool, asS_string, asSl_sl, asSl_nl, asFn_fn, asP_cp, nrm_sl, nrm_nl, need_true, ct, cf, bd_eq, natD_zero, natD_succ, natD_one, noYl_v, noYl_sl, noYl_nl, noYl_cp, noYl_fn, Bool.and_true, Bool.true_and, Bool.and_self, beqN_self, Bool.not_true, Bool.not_false, Bool.and_false, Bool.false_and, Bool.or_false, Bool.false_or, Bool.or_true, Bool.true_or, wrap_in, dlt_t, dlt_f, dle_t, dle_f, dgt_t, dgt_f, dge_t, dge_f, ibeq_t, ibeq_f, ibne_t, ibne_f, inR_int, beqN_eq, bleN_le, fl_length rwc_length, div4, Nat.zero_add]
      rw [List.take_of_length_le (by rw [fl_length rwc_length]; omega)]
    · rfl
    · intro j hj
      have hx := hok _ (List.getElem_mem hj)
      have hat := fl_at repC_length hj
      have hF := sp_eFind fu (d + 4) hf L[j].rs (by have := hx.2.1; omega)
      have hLo := sp_Locate fu (d + 1) hf n h L[j].p hx.1
      have hv := validI_of hx.1
      rw [show plc L[j].p = [.v (.int .i64 L[j].p.f), .v (.int .i64 L[j].p.a), .v (.int .i64 L[j].p.b), .v (.int .i64 L[j].p.c)] from rfl] at hLo
      have hl : (rowsG n w 0 (L.take j)).length ≤ j := by
        have := rowsG_length n w (L.take j) 0
        rw [List.length_take] at this
        omega
      rw [rowsG_take n w L j hj]
      generalize rowsG n w 0 (L.take j) = q at hl ⊢
      have hfq := fl_length rwc_length q
      cases hfd : fd L[j].rs with
      | none =>
        rw [hfd] at hF
        simp only [Option.getD_none, Option.isSome_none] at hF
        simp (disch := omega) only [hdt_eq, obs, rC_c, rA_agg, rT_tup, rP_ptr, rW_own, rS_sb, rF_sb, uncV_cons, uncO_cons, nilV_nil, rO_ob, rN_ob, unc_cons, asI_int, asB_bool, asS_string, asSl_sl, asSl_nl, asFn_fn, asP_cp, nrm_sl, nrm_nl, need_true, ct, cf, bd_eq, natD_zero, natD_succ, natD_one, noYl_v, noYl_sl, noYl_nl, noYl_cp, noYl_fn, Bool.and_true, Bool.true_and, Bool.and_self, beqN_self, Bool.not_true, Bool.not_false, Bool.and_false, Bool.false_and, Bool.or_false, Bool.false_or, Bool.or_true, Bool.true_or, wrap_in, dlt_t, dlt_f, dle_t, dle_f, dgt_t, dgt_f, dge_t, dge_f, ibeq_t, ibeq_f, ibne_t, ibne_f, inR_int, beqN_eq, bleN_le, Int.toNat_natCast, hat, repC, List.cons_append, List.nil_append, hF, List.length_nil, Nat.zero_div, Nat.zero_mul, hfq, rw_div, List.append_nil, Int.natCast_add, Int.natCast_one]
      | some v =>
        rw [hfd] at hF
        simp only [Option.getD_some, Option.isSome_some] at hF
        simp (disch := omega) only [hdt_eq, obs, rC_c, rA_agg, rT_tup, rP_ptr, rW_own, rS_sb, rF_sb, uncV_cons, uncO_cons, nilV_nil, rO_ob, rN_ob, unc_cons, asI_int, asB_bool, asS_string, asSl_sl, asSl_nl, asFn_fn, asP_cp, nrm_sl, nrm_nl, need_true, ct, cf, bd_eq, natD_zero, natD_succ, natD_one, noYl_v, noYl_sl, noYl_nl, noYl_cp, noYl_fn, Bool.and_true, Bool.true_and, Bool.and_self, beqN_self, Bool.not_true, Bool.not_false, Bool.and_false, Bool.false_and, Bool.or_false, Bool.false_or, Bool.or_true, Bool.true_or, wrap_in, dlt_t, dlt_f, dle_t, dle_f, dgt_t, dgt_f, dge_t, dge_f, ibeq_t, ibeq_f, ibne_t, ibne_f, inR_int, beqN_eq, bleN_le, Int.toNat_natCast, hat, repC, List.cons_append, List.nil_append, hF, sp_Valid fu (d + 5) hf, hv, hLo, List.length_nil, Nat.zero_div, Nat.zero_mul, fl_length rwc_length, rw_div, rw_snoc, List.length_append, List.length_cons, Nat.zero_add, Int.natCast_add, Int.natCast_one]
    · rw [List.take_of_length_le (Nat.le_refl _)]
      simp (disch := omega) only [hdt_eq, obs, rC_c, rA_agg, rT_tup, rP_ptr, rW_own, rS_sb, rF_sb, uncV_cons, uncO_cons, nilV_nil, rO_ob, rN_ob, unc_cons, asI_int, asB_bool, asS_string, asSl_sl, asSl_nl, asFn_fn, asP_cp, nrm_sl, nrm_nl, need_true, ct, cf, bd_eq, natD_zero, natD_succ, natD_one, noYl_v, noYl_sl, noYl_nl, noYl_cp, noYl_fn, Bool.and_true, Bool.true_and, Bool.and_self, beqN_self, Bool.not_true, Bool.not_false, Bool.and_false, Bool.false_and, Bool.or_false, Bool.false_or, Bool.or_true, Bool.true_or, wrap_in, dlt_t, dlt_f, dle_t, dle_f, dgt_t, dgt_f, dge_t, dge_f, ibeq_t, ibeq_f, ibne_t, ibne_f, inR_int, beqN_eq, bleN_le, fl_length rwc_length, rw_div, List.length_nil, Nat.zero_div, Nat.zero_mul]
  · rfl
  · intro j hj
    have hx := hok _ (List.getElem_mem hj)
    have hat := fl_at repC_length hj
    have hV := sp_eValidate fu d hf L[j].rs hx.2
    simp (disch := omega) only [hdt_eq, obs, rC_c, rA_agg, rT_tup, rP_ptr, rW_own, rS_sb, rF_sb, uncV_cons, uncO_cons, nilV_nil, rO_ob, rN_ob, unc_cons, asI_int, asB_bool, asS_string, asSl_sl, asSl_nl, asFn_fn, asP_cp, nrm_sl, nrm_nl, need_true, ct, cf, bd_eq, natD_zero, natD_succ, natD_one, noYl_v, noYl_sl, noYl_nl, noYl_cp, noYl_fn, Bool.and_true, Bool.true_and, Bool.and_self, beqN_self, Bool.not_true, Bool.not_false, Bool.and_false, Bool.false_and, Bool.or_false, Bool.false_or, Bool.or_true, Bool.true_or, wrap_in, dlt_t, dlt_f, dle_t, dle_f, dgt_t, dgt_f, dge_t, dge_f, ibeq_t, ibeq_f, ibne_t, ibne_f, inR_int, beqN_eq, bleN_le, Int.toNat_natCast, hat, repC, List.cons_append, List.nil_append, hV, List.length_nil, Nat.zero_div, Nat.zero_mul, Int.natCast_add, Int.natCast_one]
  · simp (disch := omega) only [hdt_eq, obs, rC_c, rA_agg, rT_tup, rP_ptr, rW_own, rS_sb, rF_sb, uncV_cons, uncO_cons, nilV_nil, rO_ob, rN_ob, unc_cons, asI_int, asB_bool, asS_string, asSl_sl, asSl_nl, asFn_fn, asP_cp, nrm_sl, nrm_nl, need_true, ct, cf, bd_eq, natD_zero, natD_succ, natD_one, noYl_v, noYl_sl, noYl_nl, noYl_cp, noYl_fn, Bool.and_true, Bool.true_and, Bool.and_self, beqN_self, Bool.not_true, Bool.not_false, Bool.and_false, Bool.false_and, Bool.or_false, Bool.false_or, Bool.or_true, Bool.true_or, wrap_in, dlt_t, dlt_f, dle_t, dle_f, dgt_t, dgt_f, dge_t, dge_f, ibeq_t, ibeq_f, ibne_t, ibne_f, inR_int, beqN_eq, bleN_le, List.length_nil, Nat.zero_div, Nat.zero_mul]
end Go.Proofs.YtobmbacppbkgeaaDoor
/- OperatorParts answers true. -/
namespace Go.Proofs.YtobmbacppbkgeaaDoor
open Go Go.PM Go.Grid
def moved (m : Nat) (r : Rw) : Rw := ⟨r.sh, r.v, r.w, r.r + m⟩
theorem rowsG_moved (n : Nat) (w : Int) (m : Nat) : ∀ (l : List Rep) (k : Nat), rowsG n w (k + m) l = (rowsG n w k l).map (moved m)
  | [], k => rfl
  | y :: l, k => by
    have ih := rowsG_moved n w m l (k + 1)
    rw [show k + 1 + m = k + m + 1 by omega] at ih
    simp only [rowsG]
    cases fd y.rs with
    | none => exact ih
    | some v => simp only [List.map_cons, ih]; rfl
theorem rwc_at {R : Type} (L : List Rw) {j : Nat} (hj : j < L.length) (hL : L.length ≤ 1000) {lo hi : Int} (h1 : lo = j) (h2 : hi = j + 1) (k : C → Option R) :
    sliceC 4 (some (I lo)) (some (I hi)) (C.sl L.length (fl rwc L)) k = k (C.sl 1 (rwc L[j])) := by
  subst h1 h2
  have hat := fl_at rwc_length hj
  have ht : ((j : Int) + 1).toNat = j + 1 := by omega
  simp only [sliceC, bound]
  rw [decide_eq_true (show (0 : Int) ≤ (j : Int) + 1 by omega), decide_eq_true (show (j : Int) + 1 ≤ (L.length : Int) by omega), ht, decide_eq_true (show (0 : Int) ≤ (j : Int) by omega), decide_eq_true (show (j : Int) ≤ ((j + 1 : Nat) : Int) by omega)]
  simp only [obs, rC_c, rA_agg, rT_tup, rP_ptr, rW_own, rS_sb, rF_sb, uncV_cons, uncO_cons, nilV_nil, rO_ob, rN_ob, unc_cons, asI_int, asB_bool, asS_string, asSl_sl, asSl_nl, asFn_fn, asP_cp, nrm_sl, nrm_nl, need_true, ct, cf, bd_eq, natD_zero, natD_succ, natD_one, noYl_v, noYl_sl, noYl_nl, noYl_cp, noYl_fn, Bool.and_true, Bool.true_and, Bool.and_self, beqN_self, Bool.not_true, Bool.not_false, Bool.and_false, Bool.false_and, Bool.or_false, Bool.false_or, Bool.or_true, Bool.true_or, Int.toNat_natCast, hat]
  rw [show j + 1 - j = 1 by omega, Nat.one_mul, List.take_left' (rwc_length _)]
theorem ints_to {R : Type} (x : List Int) {a : Nat} (ha : a ≤ x.length) (k : C → Option R) : sliceC 1 none (some (I (a : Int))) (C.sl x.length (ints x)) k = k (C.sl (x.take a).length (ints (x.take a))) := by
  have hl : (x.take a).length = a := by rw [List.length_take]; omega
  simp only [sliceC, bound]
  rw [decide_eq_true (show (0 : Int) ≤ (a : Int) by omega), decide_eq_true (show (a : Int) ≤ (x.length : Int) by omega), hl]
  simp only [obs, rC_c, rA_agg, rT_tup, rP_ptr, rW_own, rS_sb, rF_sb, uncV_cons, uncO_cons, nilV_nil, rO_ob, rN_ob, unc_cons, asI_int, asB_bool, asS_string, asSl_sl, asSl_nl, asFn_fn, asP_cp, nrm_sl, nrm_nl, need_true, ct, cf, bd_eq, natD_zero, natD_succ, natD_one, noYl_v, noYl_sl, noYl_nl, noYl_cp, noYl_fn, Bool.and_true, Bool.true_and, Bool.and_self, beqN_self, Bool.not_true, Bool.not_false, Bool.and_false, Bool.false_and, Bool.or_false, Bool.false_or, Bool.or_true, Bool.true_or, Int.toNat_natCast, Nat.zero_mul, List.drop_zero, Nat.sub_zero, Nat.mul_one, ik_take]
theorem ik_drop' (x : List Int) (a : Nat) : (ints x).drop a = ints (x.drop a) := by simp [ints, ik]
theorem ints_from {R : Type} (x : List Int) {a : Nat} (ha : a ≤ x.length) (k : C → Option R) : sliceC 1 (some (I (a : Int))) none (C.sl x.length (ints x)) k = k (C.sl (x.drop a).length (ints (x.drop a))) := by
  have hl : (x.drop a).length = x.length - a := by rw [List.length_drop]
  have ht : List.take (x.length - a) (ints (x.drop a)) = ints (x.drop a) := List.take_of_length_le (by rw [ik_length, hl]; exact Nat.le_refl _)
  simp only [sliceC, bound]
  rw [decide_eq_true (show (0 : Int) ≤ (a : Int) by omega), decide_eq_true (show (a : Int) ≤ ((x.length : Nat) : Int) by omega), hl]
  simp only [obs, rC_c, rA_agg, rT_tup, rP_ptr, rW_own, rS_sb, rF_sb, uncV_cons, uncO_cons, nilV_nil, rO_ob, rN_ob, unc_cons, asI_int, asB_bool, asS_string, asSl_sl, asSl_nl, asFn_fn, asP_cp, nrm_sl, nrm_nl, need_true, ct, cf, bd_eq, natD_zero, natD_succ, natD_one, noYl_v, noYl_sl, noYl_nl, noYl_cp, noYl_fn, Bool.and_true, Bool.true_and, Bool.and_self, beqN_self, Bool.not_true, Bool.not_false, Bool.and_false, Bool.false_and, Bool.or_false, Bool.false_or, Bool.or_true, Bool.true_or, Int.toNat_natCast, Nat.mul_one, ik_drop', ht]
theorem unc_at {R : Type} {l : List Int} {k : Nat} (h : k < l.length) (f : C → List C → Option R) : unc ((ints l).drop k) f = f (.v (.int .i64 (at0 l k))) (ints (l.drop (k + 1))) := by
  rw [unc_ik (kd := .i64) h, at0_eq h]; try simp [ints, ik]
def csum (sh : List (Nat × Nat)) (k : Nat) : Int := (sh.map fun s => if s.1 = k then (s.2 : Int) else 0).sum
theorem at0_addR (v : Int) (k : Nat) : ∀ (sh : List (Nat × Nat)) (o : List Int), (∀ s ∈ sh, s.1 < o.length) → at0 (addR v o sh) k = at0 o k + v * csum sh k
  | [], o, _ => by simp [addR, csum]
  | s :: sh, o, h => by
    have ih := at0_addR v k sh (addS v o s) (fun t ht => by rw [addS_length]; exact h t (by simp [ht]))
    have e : addR v o (s :: sh) = addR v (addS v o s) sh := rfl
    rw [e, ih]
    unfold addS
    rw [at0_set (h s (by simp))]
    have ec : csum (s :: sh) k = (if s.1 = k then (s.2 : Int) else 0) + csum sh k := rfl
    rw [ec, Int.mul_add]
    by_cases hk : k = s.1
    · subst hk
      rw [if_pos rfl, if_pos rfl, Int.mul_comm (s.2 : Int) v]; omega
    · rw [if_neg hk, if_neg (fun e => hk e.symm)]; omega
def tS (L : List Rw) (d : List Int) (k : Nat) : Nat → Int
  | 0 => 0
  | j + 1 => tS L d k j + at0 d j * csum (L.getD j ⟨[], 0, 0, 0⟩).sh k
theorem at0_trans {m : Nat} {L : List Rw} (h : ∀ x ∈ L, okRow m x) (d : List Int) (k : Nat) : ∀ j, j ≤ L.length → at0 (trans m L d j) k = tS L d k j
  | 0, _ => by
    show at0 (List.replicate m 0) k = 0
    unfold at0
    rw [List.getD_eq_getElem?_getD, List.getElem?_replicate]
    split <;> rfl
  | j + 1, hj => by
    have ih := at0_trans h d k j (by omega)
    rw [trans_succ m L d j (by omega), at0_addR, ih, tS]
    · simp [show j < L.length by omega]
    · intro s hs
      rw [trans_length]
      exact ((h _ (List.getElem_mem _)).2.1 s hs).1
theorem tS_left (A B : List Rw) (d : List Int) (k : Nat) : ∀ j, j ≤ A.length → tS (A ++ B) d k j = tS A (d.take A.length) k j
  | 0, _ => rfl
  | j + 1, hj => by
    rw [tS, tS, tS_left A B d k j (by omega)]
    have e1 : (A ++ B).getD j ⟨[], 0, 0, 0⟩ = A.getD j ⟨[], 0, 0, 0⟩ := by
      rw [List.getD_eq_getElem?_getD, List.getD_eq_getElem?_getD, List.getElem?_append_left (by omega)]
    have e2 : at0 d j = at0 (d.take A.length) j := by
      unfold at0
      rw [List.getD_eq_getElem?_getD, List.getD_eq_getElem?_getD, List.getElem?_take, if_pos (by omega)]
    rw [e1, e2]
theorem tS_right (A B : List Rw) (m : Nat) (d : List Int) (k : Nat) : ∀ j, j ≤ B.length → tS (A ++ B.map (moved m)) d k (A.length + j) = tS A (d.take A.length) k A.length + tS B (d.drop A.length) k j
  | 0, _ => by rw [Nat.add_zero, tS_left A _ d k A.length (Nat.le_refl _), tS]; simp
  | j + 1, hj => by
    rw [← Nat.add_assoc, tS, tS, tS_right A B m d k j (by omega)]
    have e1 : ((A ++ B.map (moved m)).getD (A.length + j) ⟨[], 0, 0, 0⟩).sh = (B.getD j ⟨[], 0, 0, 0⟩).sh := by
      rw [List.getD_eq_getElem?_getD, List.getD_eq_getElem?_getD, List.getElem?_append_right (by omega), Nat.add_sub_cancel_left, List.getElem?_map]
      cases B[j]? <;> rfl
    have e2 : at0 d (A.length + j) = at0 (d.drop A.length) j := by
      unfold at0
      rw [List.getD_eq_getElem?_getD, List.getD_eq_getElem?_getD, List.getElem?_drop]
    rw [e1, e2]; omega
theorem sum_set : ∀ (o : List Int) (k : Nat) (a : Int), k < o.length → (o.set k a).sum = o.sum - at0 o k + a
  | [], k, a, h => by simp at h
  | x :: o, 0, a, h => by simp [at0]; omega
  | x :: o, k + 1, a, h => by
    have ih := sum_set o k a (by simpa using h)
    simp only [List.set_cons_succ, List.sum_cons, ih, at0, List.getD_cons_succ]
    omega
theorem sum_addR (v : Int) : ∀ (sh : List (Nat × Nat)) (o : List Int), (∀ s ∈ sh, s.1 < o.length) → (addR v o sh).sum = o.sum + v * wsum sh
  | [], o, _ => by simp [addR, wsum]
  | s :: sh, o, h => by
    have ih := sum_addR v sh (addS v o s) (fun t ht => by rw [addS_length]; exact h t (by simp [ht]))
    have e : addR v o (s :: sh) = addR v (addS v o s) sh := rfl
    rw [e, ih]
    unfold addS
    rw [sum_set _ _ _ (h s (by simp))]
    have ew : wsum (s :: sh) = (s.2 : Int) + wsum sh := rfl
    rw [ew, Int.mul_add, Int.mul_comm v (s.2 : Int)]; omega
theorem sum_trans {m : Nat} {L : List Rw} (h : ∀ x ∈ L, okRow m x) (d : List Int) : ∀ j, j ≤ L.length → L.length = d.length → (trans m L d j).sum = 840 * (d.take j).sum
  | 0, _, _ => by
    show (List.replicate m 0).sum = _
    simp
  | j + 1, hj, hd => by
    have ih := sum_trans h d j (by omega) hd
    rw [trans_succ m L d j (by omega), sum_addR, ih, okRow_sum (h _ (List.getElem_mem _)), List.take_succ_eq_append_getElem (show j < d.length by omega), List.sum_append, at0_eq (show j < d.length by omega) |>.symm]
    · simp; omega
    · intro s hs
      rw [trans_length]
      exact ((h _ (List.getElem_mem _)).2.1 s hs).1
theorem sum_bd {b : Int} (hb : 0 ≤ b) : ∀ {x : List Int} (_ : bd0 b x), -(x.length * b) ≤ x.sum ∧ x.sum ≤ x.length * b
  | [], _ => by simp
  | v :: x, h => by
    have ih := sum_bd hb (x := x) fun u hu => h u (by simp [hu])
    have hv := h v (by simp)
    simp only [List.sum_cons, List.length_cons, Int.natCast_add, Int.add_mul, Int.natCast_one, Int.one_mul]
    omega
theorem bd0_take {b : Int} {x : List Int} (h : bd0 b x) (n : Nat) : bd0 b (x.take n) := fun v hv => h v (List.mem_of_mem_take hv)
theorem bd0_drop {b : Int} {x : List Int} (h : bd0 b x) (n : Nat) : bd0 b (x.drop n) := fun v hv => h v (List.mem_of_mem_drop hv)
section
variable (fu d : Nat) (hf : 18446744073709551616 ≤ fu)
include hf
theorem sp_Sum (x : List Int) (hx : x.length ≤ 1000) {b : Int} (hb : 0 ≤ b ∧ b ≤ 1099511627776) (h : bd0 b x) : cl fu (d + 1) fn_synoptickeep_Sum [V.c (C.sl x.length (ints x))] [] = OK (I x.sum) := by
  rw [eq_synoptickeep_Sum]
  rw [iter_runx (fun j : Nat => ((x.take j).sum, ((j : Nat) : Int), ())) 0 (x.sum, (x.length : Int), ()) x.length ?_ ?_ ?_ (by omega)]
  · simp only [obs, rC_c, rA_agg, rT_tup, rP_ptr, rW_own, rS_sb, rF_sb, uncV_cons, uncO_cons, nilV_nil, rO_ob, rN_ob, unc_cons, asI_int, asB_bool, asS_string, asSl_sl, asSl_nl, asFn_fn, asP_cp, nrm_sl, nrm_nl, need_true, ct, cf, bd_eq, natD_zero, natD_succ, natD_one, noYl_v, noYl_sl, noYl_nl, noYl_cp, noYl_fn, Bool.and_true, Bool.true_and, Bool.and_self, beqN_self, Bool.not_true, Bool.not_false, Bool.and_false, Bool.false_and, Bool.or_false, Bool.false_or, Bool.or_true, Bool.true_or]
  · rfl
  · intro j hj
    have hu := unc_at (R := Nat × Int × Int × Unit) hj
    have h1 := sum_bd hb.1 (bd0_take h (j + 1))
    have hm : ((x.take (j + 1)).length : Int) * b ≤ 1000 * b := Int.mul_le_mul_of_nonneg_right (by rw [List.length_take]; omega) hb.1
    generalize ((x.take (j + 1)).length : Int) * b = z at hm h1
    rw [List.take_succ_eq_append_getElem hj, List.sum_append, at0_eq hj] at h1
    rw [List.take_succ_eq_append_getElem hj, List.sum_append, at0_eq hj]
    simp only [List.sum_cons, List.sum_nil, Int.add_zero] at h1 ⊢
    have hw : IntKind.i64.wrap ((List.take j x).sum + at0 x j) = (List.take j x).sum + at0 x j := wrap_in (by omega) (by omega)
    simp (disch := omega) only [obs, rC_c, rA_agg, rT_tup, rP_ptr, rW_own, rS_sb, rF_sb, uncV_cons, uncO_cons, nilV_nil, rO_ob, rN_ob, unc_cons, asI_int, asB_bool, asS_string, asSl_sl, asSl_nl, asFn_fn, asP_cp, nrm_sl, nrm_nl, need_true, ct, cf, bd_eq, natD_zero, natD_succ, natD_one, noYl_v, noYl_sl, noYl_nl, noYl_cp, noYl_fn, Bool.and_true, Bool.true_and, Bool.and_self, beqN_self, Bool.not_true, Bool.not_false, Bool.and_false, Bool.false_and, Bool.or_false, Bool.false_or, Bool.or_true, Bool.true_or, wrap_in, dlt_t, dlt_f, dle_t, dle_f, dgt_t, dgt_f, dge_t, dge_f, ibeq_t, ibeq_f, ibne_t, ibne_f, inR_int, beqN_eq, bleN_le, Int.toNat_natCast, Nat.mul_one, hu, hw, Int.natCast_add, Int.natCast_one]
  · rw [List.take_length]
    simp (disch := omega) only [obs, rC_c, rA_agg, rT_tup, rP_ptr, rW_own, rS_sb, rF_sb, uncV_cons, uncO_cons, nilV_nil, rO_ob, rN_ob, unc_cons, asI_int, asB_bool, asS_string, asSl_sl, asSl_nl, asFn_fn, asP_cp, nrm_sl, nrm_nl, need_true, ct, cf, bd_eq, natD_zero, natD_succ, natD_one, noYl_v, noYl_sl, noYl_nl, noYl_cp, noYl_fn, Bool.and_true, Bool.true_and, Bool.and_self, beqN_self, Bool.not_true, Bool.not_false, Bool.and_false, Bool.false_and, Bool.or_false, Bool.false_or, Bool.or_true, Bool.true_or, wrap_in, dlt_t, dlt_f, dle_t, dle_f, dgt_t, dgt_f, dge_t, dge_f, ibeq_t, ibeq_f, ibne_t, ibne_f, inR_int, beqN_eq, bleN_le]
end
end Go.Proofs.YtobmbacppbkgeaaDoor
/- OperatorParts answers true. -/
namespace Go.Proofs.YtobmbacppbkgeaaDoor
open Go Go.PM Go.Grid
attribute [local congr] hd_bind hd_need hd_cond hd_unc hd_uncV hd_uncO hd_unI hd_asI hd_asB hd_asS hd_asSl hd_asFn hd_asP hd_rC hd_rA hd_rT hd_rG hd_rP hd_rO hd_rN hd_rF hd_rS hd_rW hd_nilV hd_natD hd_bd hd_iter hd_over hd_sliceC hd_asMp hd_asYF
set_option maxHeartbeats 4000000 in
theorem sp_OperatorParts (fu d : Nat) (hf : 18446744073709551616 ≤ fu) (l : List Int) :
    cl fu (d + 10) fn_synopticlaw21_OperatorParts [V.c (C.sl l.length (ints l))] [] = OK (B true) := by
  have hN := sp_New fu (d + 8) l
  have hl : (l.take 2000).length ≤ 2000 := by simp; omega
  generalize l.take 2000 = L at hl hN
  obtain ⟨v1, j1, c1, b1, b1'⟩ := sp_Range fu (d + 6) L 0 hl 1 3 (by omega) ⟨by omega, by omega⟩
  obtain ⟨n, rfl⟩ : ∃ k : Nat, v1 = k := ⟨v1.toNat, by omega⟩
  have hfr : freq n := by unfold freq; omega
  obtain ⟨X, j2, ⟨hX, okX⟩, c2⟩ := sp_Crowd fu (d + 3) hf L hl j1
  obtain ⟨Y, j3, ⟨hY, okY⟩, c3⟩ := sp_Crowd fu (d + 3) hf L hl j2
  have okXY : ∀ x ∈ X ++ Y, okRep x := fun x hx => (List.mem_append.1 hx).elim (okX x) (okY x)
  have hRX := sp_RowsG fu (d + 1) hf n hfr X (by omega) okX 7 (by omega)
  have hRY := sp_RowsG fu (d + 1) hf n hfr Y (by omega) okY 7 (by omega)
  have hRZ := sp_RowsG fu (d + 1) hf n hfr (X ++ Y) (by rw [List.length_append]; omega) okXY 7 (by omega)
  have rX := okRowsG hfr (w := 7) (by omega) X 0 okX
  have rY := okRowsG hfr (w := 7) (by omega) Y 0 okY
  have rZ := okRowsG hfr (w := 7) (by omega) (X ++ Y) 0 okXY
  have hm : 10 * n * n + 2 ≤ 92 := by
    have : n = 1 ∨ n = 2 ∨ n = 3 := by omega
    rcases this with rfl | rfl | rfl <;> decide
  have hCt := sp_ref_Count fu (d + 8) n hfr
  have haw := sp_awake fu d hf
  have lX := rowsG_length n 7 X 0
  have lY := rowsG_length n 7 Y 0
  have iY := rowsG_r n 7 Y 0
  have eZ : rowsG n 7 0 (X ++ Y) = rowsG n 7 0 X ++ (rowsG n 7 0 Y).map (moved X.length) := by
    rw [rowsG_append, rowsG_moved n 7 X.length Y 0]
  rw [eZ] at hRZ rZ
  have hfX := fl_length repC_length X
  have hfY := fl_length repC_length Y
  have hXY : fl repC X ++ fl repC Y = fl repC (X ++ Y) := (fl_append X Y).symm
  have hfXY := fl_length repC_length (X ++ Y)
  have htXY : List.take ((X.length + Y.length) * 8) (fl repC (X ++ Y)) = fl repC (X ++ Y) := List.take_of_length_le (by rw [hfXY, List.length_append]; exact Nat.le_refl _)
  rw [List.length_append] at hRZ hfXY
  generalize rowsG n 7 0 X = A at *
  generalize rowsG n 7 0 Y = B' at *
  generalize 10 * n * n + 2 = m at *
  have lZ : (A ++ B'.map (moved X.length)).length = A.length + B'.length := by simp
  have atZ1 : ∀ (j : Nat) (h : j < (A ++ B'.map (moved X.length)).length) (h' : j < A.length), (A ++ B'.map (moved X.length))[j] = A[j] := fun j h h' => List.getElem_append_left h'
  have atZ2 : ∀ (j : Nat) (h : j < (A ++ B'.map (moved X.length)).length) (h' : A.length ≤ j) (h'' : j - A.length < B'.length), (A ++ B'.map (moved X.length))[j] = moved X.length B'[j - A.length] := fun j h h' h'' => by
    rw [List.getElem_append_right h']; simp
  have hsum := fun (dd : List Int) (hd : dd.length = (A ++ B'.map (moved X.length)).length) => sum_trans rZ dd (A ++ B'.map (moved X.length)).length (Nat.le_refl _) hd.symm
  have hpt : ∀ (dd : List Int) (k : Nat), at0 (trans m (A ++ B'.map (moved X.length)) dd (A ++ B'.map (moved X.length)).length) k = at0 (trans m A (dd.take A.length) A.length) k + at0 (trans m B' (dd.drop A.length) B'.length) k := fun dd k => by
    rw [at0_trans rZ dd k _ (Nat.le_refl _), at0_trans rX _ k _ (Nat.le_refl _), at0_trans rY _ k _ (Nat.le_refl _), lZ, tS_right A B' X.length dd k B'.length (Nat.le_refl _)]
  obtain ⟨dd, j4, hdl, hdb, c4⟩ := sp_values fu (d + 5) hf L j3 hl (A ++ B'.map (moved X.length)).length (by omega) 1000 (by omega)
  have hdb : bd0 2500 dd := fun v hv => by have := hdb v hv; omega
  have hbig : ∀ {x : List Int}, bd0 2500 x → bd0 1099511627776 x := fun h v hv => by have := h v hv; omega
  have hltk : (dd.take A.length).length = A.length := by rw [List.length_take]; omega
  have hldr : (dd.drop A.length).length = B'.length := by rw [List.length_drop]; omega
  have hT1 := sp_Transpose fu (d + 2) hf m (by omega) A (by omega) rX (dd.take A.length) hltk (hbig (bd0_take hdb _))
  have hT2 := sp_Transpose fu (d + 2) hf m (by omega) B' (by omega) rY (dd.drop A.length) hldr (hbig (bd0_drop hdb _))
  have hT3 := sp_Transpose fu (d + 2) hf m (by omega) (A ++ B'.map (moved X.length)) (by omega) rZ dd hdl (hbig hdb)
  have q1 := trans_length m A (dd.take A.length) A.length
  have q2 := trans_length m B' (dd.drop A.length) B'.length
  have q3 := trans_length m (A ++ B'.map (moved X.length)) dd (A ++ B'.map (moved X.length)).length
  have w1 := trans_bd rX (by decide) (bd0_take hdb A.length) A.length (Nat.le_refl _)
  have w2 := trans_bd rY (by decide) (bd0_drop hdb A.length) B'.length (Nat.le_refl _)
  have w3 := trans_bd rZ (by decide) hdb (A ++ B'.map (moved X.length)).length (Nat.le_refl _)
  have hsm := hsum dd hdl
  rw [← hdl, List.take_length] at hsm
  rw [hdl] at hsm
  have hpp := hpt dd
  generalize trans m A (dd.take A.length) A.length = u at *
  generalize trans m B' (dd.drop A.length) B'.length = v at *
  generalize trans m (A ++ B'.map (moved X.length)) dd (A ++ B'.map (moved X.length)).length = w at *
  clear hpt hsum
  have w1 : bd0 12600000 u := fun z hz => by have := w1 z hz; omega
  have w2 : bd0 12600000 v := fun z hz => by have := w2 z hz; omega
  have w3 : bd0 25200000 w := fun z hz => by have := w3 z hz; omega
  have hS1 := sp_Sum fu (d + 8) hf w (by omega) (b := 25200000) (by omega) w3
  have hS2 := sp_Sum fu (d + 8) hf dd (by omega) (b := 2500) (by omega) hdb
  have hds := sum_bd (by decide) hdb
  rw [← q3] at hT3
  rw [hdl] at c4 hds
  have hdsb : -30000 ≤ dd.sum ∧ dd.sum ≤ 30000 := by omega
  have s1 := fun (k : C → Option Out) => ints_to (R := Out) dd (a := A.length) (by omega) k
  have s2 := fun (k : C → Option Out) => ints_from (R := Out) dd (a := A.length) (by omega) k
  rw [hdl] at s1 s2 hT3 hS2
  generalize hZ : A ++ B'.map (moved X.length) = Z at *
  have hfZ := fl_length rwc_length Z
  unfold srcO srcC at hN c1 c2 c3 c4
  rw [eq_synopticlaw21_OperatorParts, hN]
  simp only [hdt_eq, out0, out1, out2, obs, rC_c, rA_agg, rT_tup, rP_ptr, rW_own, rS_sb, rF_sb, uncV_cons, uncO_cons, nilV_nil, rO_ob, rN_ob, unc_cons, asI_int, asB_bool, asS_string, asSl_sl, asSl_nl, asFn_fn, asP_cp, nrm_sl, nrm_nl, need_true, ct, cf, bd_eq, natD_zero, natD_succ, natD_one, noYl_v, noYl_sl, noYl_nl, noYl_cp, noYl_fn, Bool.and_true, Bool.true_and, Bool.and_self, beqN_self, Bool.not_true, Bool.not_false, Bool.and_false, Bool.false_and, Bool.or_false, Bool.false_or, Bool.or_true, Bool.true_or, List.length_cons, List.length_nil, Nat.zero_add, Nat.reduceAdd, Nat.reduceMul, Int.toNat_zero, Int.toNat_one, Nat.zero_mul, List.drop_zero, Int.natCast_one, List.drop_succ_cons, List.cons_append, List.nil_append]
  rw [c1]
  simp only [hdt_eq, out0, out1, out2, obs, rC_c, rA_agg, rT_tup, rP_ptr, rW_own, rS_sb, rF_sb, uncV_cons, uncO_cons, nilV_nil, rO_ob, rN_ob, unc_cons, asI_int, asB_bool, asS_string, asSl_sl, asSl_nl, asFn_fn, asP_cp, nrm_sl, nrm_nl, need_true, ct, cf, bd_eq, natD_zero, natD_succ, natD_one, noYl_v, noYl_sl, noYl_nl, noYl_cp, noYl_fn, Bool.and_true, Bool.true_and, Bool.and_self, beqN_self, Bool.not_true, Bool.not_false, Bool.and_false, Bool.false_and, Bool.or_false, Bool.false_or, Bool.or_true, Bool.true_or, List.length_cons, List.length_nil, Nat.zero_add, Nat.reduceAdd, Nat.reduceMul, Int.toNat_zero, Int.toNat_one, Nat.zero_mul, List.drop_zero, Int.natCast_one, List.drop_succ_cons, List.cons_append, List.nil_append]
  rw [c2]
  simp only [hdt_eq, out0, out1, out2, obs, rC_c, rA_agg, rT_tup, rP_ptr, rW_own, rS_sb, rF_sb, uncV_cons, uncO_cons, nilV_nil, rO_ob, rN_ob, unc_cons, asI_int, asB_bool, asS_string, asSl_sl, asSl_nl, asFn_fn, asP_cp, nrm_sl, nrm_nl, need_true, ct, cf, bd_eq, natD_zero, natD_succ, natD_one, noYl_v, noYl_sl, noYl_nl, noYl_cp, noYl_fn, Bool.and_true, Bool.true_and, Bool.and_self, beqN_self, Bool.not_true, Bool.not_false, Bool.and_false, Bool.false_and, Bool.or_false, Bool.false_or, Bool.or_true, Bool.true_or, List.length_cons, List.length_nil, Nat.zero_add, Nat.reduceAdd, Nat.reduceMul, Int.toNat_zero, Int.toNat_one, Nat.zero_mul, List.drop_zero, Int.natCast_one, List.drop_succ_cons, List.cons_append, List.nil_append]
  rw [c3]
  simp only [hdt_eq, out0, out1, out2, obs, rC_c, rA_agg, rT_tup, rP_ptr, rW_own, rS_sb, rF_sb, uncV_cons, uncO_cons, nilV_nil, rO_ob, rN_ob, unc_cons, asI_int, asB_bool, asS_string, asSl_sl, asSl_nl, asFn_fn, asP_cp, nrm_sl, nrm_nl, need_true, ct, cf, bd_eq, natD_zero, natD_succ, natD_one, noYl_v, noYl_sl, noYl_nl, noYl_cp, noYl_fn, Bool.and_true, Bool.true_and, Bool.and_self, beqN_self, Bool.not_true, Bool.not_false, Bool.and_false, Bool.false_and, Bool.or_false, Bool.false_or, Bool.or_true, Bool.true_or, List.length_cons, List.length_nil, Nat.zero_add, Nat.reduceAdd, Nat.reduceMul, Int.toNat_zero, Int.toNat_one, Nat.zero_mul, List.drop_zero, Int.natCast_one, List.drop_succ_cons, List.cons_append, List.nil_append]
  rw [hRX]
  simp only [hdt_eq, out0, out1, out2, obs, rC_c, rA_agg, rT_tup, rP_ptr, rW_own, rS_sb, rF_sb, uncV_cons, uncO_cons, nilV_nil, rO_ob, rN_ob, unc_cons, asI_int, asB_bool, asS_string, asSl_sl, asSl_nl, asFn_fn, asP_cp, nrm_sl, nrm_nl, need_true, ct, cf, bd_eq, natD_zero, natD_succ, natD_one, noYl_v, noYl_sl, noYl_nl, noYl_cp, noYl_fn, Bool.and_true, Bool.true_and, Bool.and_self, beqN_self, Bool.not_true, Bool.not_false, Bool.and_false, Bool.false_and, Bool.or_false, Bool.false_or, Bool.or_true, Bool.true_or, List.length_cons, List.length_nil, Nat.zero_add, Nat.reduceAdd, Nat.reduceMul, Int.toNat_zero, Int.toNat_one, Nat.zero_mul, List.drop_zero, Int.natCast_one, List.drop_succ_cons, List.cons_append, List.nil_append]
  rw [hRY]
  simp (disch := omega) only [hdt_eq, out0, out1, out2, obs, rC_c, rA_agg, rT_tup, rP_ptr, rW_own, rS_sb, rF_sb, uncV_cons, uncO_cons, nilV_nil, rO_ob, rN_ob, unc_cons, asI_int, asB_bool, asS_string, asSl_sl, asSl_nl, asFn_fn, asP_cp, nrm_sl, nrm_nl, need_true, ct, cf, bd_eq, natD_zero, natD_succ, natD_one, noYl_v, noYl_sl, noYl_nl, noYl_cp, noYl_fn, Bool.and_true, Bool.true_and, Bool.and_self, beqN_self, Bool.not_true, Bool.not_false, Bool.and_false, Bool.false_and, Bool.or_false, Bool.false_or, Bool.or_true, Bool.true_or, wrap_in, dlt_t, dlt_f, dle_t, dle_f, dgt_t, dgt_f, dge_t, dge_f, ibeq_t, ibeq_f, ibne_t, ibne_f, inR_int, beqN_eq, bleN_le, List.length_cons, List.length_nil, Nat.zero_add, Nat.reduceAdd, Nat.reduceMul, Int.toNat_zero, Int.toNat_one, Nat.zero_mul, List.drop_zero, Int.natCast_one, List.drop_succ_cons, List.cons_append, List.nil_append, hfX, hfY, hXY, hfXY, htXY, Nat.add_zero]
  rw [hRZ]
  simp (disch := omega) only [hdt_eq, out0, out1, out2, obs, rC_c, rA_agg, rT_tup, rP_ptr, rW_own, rS_sb, rF_sb, uncV_cons, uncO_cons, nilV_nil, rO_ob, rN_ob, unc_cons, asI_int, asB_bool, asS_string, asSl_sl, asSl_nl, asFn_fn, asP_cp, nrm_sl, nrm_nl, need_true, ct, cf, bd_eq, natD_zero, natD_succ, natD_one, noYl_v, noYl_sl, noYl_nl, noYl_cp, noYl_fn, Bool.and_true, Bool.true_and, Bool.and_self, beqN_self, Bool.not_true, Bool.not_false, Bool.and_false, Bool.false_and, Bool.or_false, Bool.false_or, Bool.or_true, Bool.true_or, wrap_in, dlt_t, dlt_f, dle_t, dle_f, dgt_t, dgt_f, dge_t, dge_f, ibeq_t, ibeq_f, ibne_t, ibne_f, inR_int, beqN_eq, bleN_le, List.length_cons, List.length_nil, Nat.zero_add, Nat.reduceAdd, Nat.reduceMul, Int.toNat_zero, Int.toNat_one, Nat.zero_mul, List.drop_zero, Int.natCast_one, List.drop_succ_cons, List.cons_append, List.nil_append]
  rw [iter_runx (fun j : Nat => (false, ((j : Nat) : Int), (C.sl L.length (ints L), ((j3 : Nat) : Int), ()), ())) 0 (false, (Z.length : Int), (C.sl L.length (ints L), ((j3 : Nat) : Int), ()), ()) Z.length ?_ ?_ ?_ (by omega)]
  · simp only [hdt_eq, out0, out1, out2, obs, rC_c, rA_agg, rT_tup, rP_ptr, rW_own, rS_sb, rF_sb, uncV_cons, uncO_cons, nilV_nil, rO_ob, rN_ob, unc_cons, asI_int, asB_bool, asS_string, asSl_sl, asSl_nl, asFn_fn, asP_cp, nrm_sl, nrm_nl, need_true, ct, cf, bd_eq, natD_zero, natD_succ, natD_one, noYl_v, noYl_sl, noYl_nl, noYl_cp, noYl_fn, Bool.and_true, Bool.true_and, Bool.and_self, beqN_self, Bool.not_true, Bool.not_false, Bool.and_false, Bool.false_and, Bool.or_false, Bool.false_or, Bool.or_true, Bool.true_or, List.length_cons, List.length_nil, Nat.zero_add, Nat.reduceAdd, Nat.reduceMul, Int.toNat_zero, Int.toNat_one, Nat.zero_mul, List.drop_zero, Int.natCast_one, List.drop_succ_cons, List.cons_append, List.nil_append]
    rw [c4]
    simp only [hdt_eq, out0, out1, out2, obs, rC_c, rA_agg, rT_tup, rP_ptr, rW_own, rS_sb, rF_sb, uncV_cons, uncO_cons, nilV_nil, rO_ob, rN_ob, unc_cons, asI_int, asB_bool, asS_string, asSl_sl, asSl_nl, asFn_fn, asP_cp, nrm_sl, nrm_nl, need_true, ct, cf, bd_eq, natD_zero, natD_succ, natD_one, noYl_v, noYl_sl, noYl_nl, noYl_cp, noYl_fn, Bool.and_true, Bool.true_and, Bool.and_self, beqN_self, Bool.not_true, Bool.not_false, Bool.and_false, Bool.false_and, Bool.or_false, Bool.false_or, Bool.or_true, Bool.true_or, List.length_cons, List.length_nil, Nat.zero_add, Nat.reduceAdd, Nat.reduceMul, Int.toNat_zero, Int.toNat_one, Nat.zero_mul, List.drop_zero, Int.natCast_one, List.drop_succ_cons, List.cons_append, List.nil_append]
    rw [hCt]
    simp only [hdt_eq, out0, out1, out2, obs, rC_c, rA_agg, rT_tup, rP_ptr, rW_own, rS_sb, rF_sb, uncV_cons, uncO_cons, nilV_nil, rO_ob, rN_ob, unc_cons, asI_int, asB_bool, asS_string, asSl_sl, asSl_nl, asFn_fn, asP_cp, nrm_sl, nrm_nl, need_true, ct, cf, bd_eq, natD_zero, natD_succ, natD_one, noYl_v, noYl_sl, noYl_nl, noYl_cp, noYl_fn, Bool.and_true, Bool.true_and, Bool.and_self, beqN_self, Bool.not_true, Bool.not_false, Bool.and_false, Bool.false_and, Bool.or_false, Bool.false_or, Bool.or_true, Bool.true_or, List.length_cons, List.length_nil, Nat.zero_add, Nat.reduceAdd, Nat.reduceMul, Int.toNat_zero, Int.toNat_one, Nat.zero_mul, List.drop_zero, Int.natCast_one, List.drop_succ_cons, List.cons_append, List.nil_append]
    rw [s1]
    rw [q3] at hS1 hT3
    rw [hsm] at hS1
    simp (disch := omega) only [hdt_eq, out0, out1, out2, obs, rC_c, rA_agg, rT_tup, rP_ptr, rW_own, rS_sb, rF_sb, uncV_cons, uncO_cons, nilV_nil, rO_ob, rN_ob, unc_cons, asI_int, asB_bool, asS_string, asSl_sl, asSl_nl, asFn_fn, asP_cp, nrm_sl, nrm_nl, need_true, ct, cf, bd_eq, natD_zero, natD_succ, natD_one, noYl_v, noYl_sl, noYl_nl, noYl_cp, noYl_fn, Bool.and_true, Bool.true_and, Bool.and_self, beqN_self, Bool.not_true, Bool.not_false, Bool.and_false, Bool.false_and, Bool.or_false, Bool.false_or, Bool.or_true, Bool.true_or, wrap_in, dlt_t, dlt_f, dle_t, dle_f, dgt_t, dgt_f, dge_t, dge_f, ibeq_t, ibeq_f, ibne_t, ibne_f, inR_int, beqN_eq, bleN_le, List.length_cons, List.length_nil, Nat.zero_add, Nat.reduceAdd, Nat.reduceMul, Int.toNat_zero, Int.toNat_one, Nat.zero_mul, List.drop_zero, Int.natCast_one, List.drop_succ_cons, List.cons_append, List.nil_append, hT1, s2, hT2, hT3]
    rw [iter_runx (fun k : Nat => (false, ((k : Nat) : Int), ())) 0 (false, (m : Int), ()) m ?_ ?_ ?_ (by omega)]
    · simp (disch := omega) only [hdt_eq, out0, out1, out2, obs, rC_c, rA_agg, rT_tup, rP_ptr, rW_own, rS_sb, rF_sb, uncV_cons, uncO_cons, nilV_nil, rO_ob, rN_ob, unc_cons, asI_int, asB_bool, asS_string, asSl_sl, asSl_nl, asFn_fn, asP_cp, nrm_sl, nrm_nl, need_true, ct, cf, bd_eq, natD_zero, natD_succ, natD_one, noYl_v, noYl_sl, noYl_nl, noYl_cp, noYl_fn, Bool.and_true, Bool.true_and, Bool.and_self, beqN_self, Bool.not_true, Bool.not_false, Bool.and_false, Bool.false_and, Bool.or_false, Bool.false_or, Bool.or_true, Bool.true_or, wrap_in, dlt_t, dlt_f, dle_t, dle_f, dgt_t, dgt_f, dge_t, dge_f, ibeq_t, ibeq_f, ibne_t, ibne_f, inR_int, beqN_eq, bleN_le, List.length_cons, List.length_nil, Nat.zero_add, Nat.reduceAdd, Nat.reduceMul, Int.toNat_zero, Int.toNat_one, Nat.zero_mul, List.drop_zero, Int.natCast_one, List.drop_succ_cons, List.cons_append, List.nil_append, hS1, hS2, haw]
    · rfl
    · intro k hk
      have x3 := unc_at (R := Nat × Bool × Int × Unit) (l := w) (k := k) (by omega)
      have x1 := unc_at (R := Nat × Bool × Int × Unit) (l := u) (k := k) (by omega)
      have x2 := unc_at (R := Nat × Bool × Int × Unit) (l := v) (k := k) (by omega)
      have y1 := at0_bd (by decide) w1 k
      have y2 := at0_bd (by decide) w2 k
      have hk' := hpp k
      simp (disch := omega) only [hdt_eq, out0, out1, out2, obs, rC_c, rA_agg, rT_tup, rP_ptr, rW_own, rS_sb, rF_sb, uncV_cons, uncO_cons, nilV_nil, rO_ob, rN_ob, unc_cons, asI_int, asB_bool, asS_string, asSl_sl, asSl_nl, asFn_fn, asP_cp, nrm_sl, nrm_nl, need_true, ct, cf, bd_eq, natD_zero, natD_succ, natD_one, noYl_v, noYl_sl, noYl_nl, noYl_cp, noYl_fn, Bool.and_true, Bool.true_and, Bool.and_self, beqN_self, Bool.not_true, Bool.not_false, Bool.and_false, Bool.false_and, Bool.or_false, Bool.false_or, Bool.or_true, Bool.true_or, wrap_in, dlt_t, dlt_f, dle_t, dle_f, dgt_t, dgt_f, dge_t, dge_f, ibeq_t, ibeq_f, ibne_t, ibne_f, inR_int, beqN_eq, bleN_le, Int.toNat_natCast, Nat.mul_one, x1, x2, x3, Int.natCast_add, Int.natCast_one]
    · simp (disch := omega) only [hdt_eq, out0, out1, out2, obs, rC_c, rA_agg, rT_tup, rP_ptr, rW_own, rS_sb, rF_sb, uncV_cons, uncO_cons, nilV_nil, rO_ob, rN_ob, unc_cons, asI_int, asB_bool, asS_string, asSl_sl, asSl_nl, asFn_fn, asP_cp, nrm_sl, nrm_nl, need_true, ct, cf, bd_eq, natD_zero, natD_succ, natD_one, noYl_v, noYl_sl, noYl_nl, noYl_cp, noYl_fn, Bool.and_true, Bool.true_and, Bool.and_self, beqN_self, Bool.not_true, Bool.not_false, Bool.and_false, Bool.false_and, Bool.or_false, Bool.false_or, Bool.or_true, Bool.true_or, wrap_in, dlt_t, dlt_f, dle_t, dle_f, dgt_t, dgt_f, dge_t, dge_f, ibeq_t, ibeq_f, ibne_t, ibne_f, inR_int, beqN_eq, bleN_le]
  · rfl
  · intro j hj
    have hat := fl_at rwc_length hj
    by_cases hA : j < A.length
    · have hrow := fun (k : C → Option (Nat × Bool × Int × (C × Int × Unit) × Unit)) => rwc_at A hA (by omega) (lo := (j : Int)) (hi := (j : Int) + 1) rfl rfl k
      have hsame := sp_Same fu (d + 7) hf [A[j]] (by simp) (by intro r hr; simp at hr; subst hr; have := (rX _ (List.getElem_mem hA)).2.2.2.2.2; omega)
      have e1 : fl rwc [A[j]] = rwc A[j] := by simp [fl]
      rw [e1] at hsame
      have hzj := atZ1 j hj hA
      rw [hzj] at hat
      generalize A[j] = r at *
      simp only [rwc, List.length_cons, List.length_nil, Nat.zero_add, Nat.reduceAdd, Nat.reduceMul, Int.toNat_zero, Int.toNat_one, Nat.zero_mul, List.drop_zero, Int.natCast_one, List.drop_succ_cons, List.cons_append, List.nil_append] at hsame hrow
      simp (disch := omega) only [hdt_eq, out0, out1, out2, obs, rC_c, rA_agg, rT_tup, rP_ptr, rW_own, rS_sb, rF_sb, uncV_cons, uncO_cons, nilV_nil, rO_ob, rN_ob, unc_cons, asI_int, asB_bool, asS_string, asSl_sl, asSl_nl, asFn_fn, asP_cp, nrm_sl, nrm_nl, need_true, ct, cf, bd_eq, natD_zero, natD_succ, natD_one, noYl_v, noYl_sl, noYl_nl, noYl_cp, noYl_fn, Bool.and_true, Bool.true_and, Bool.and_self, beqN_self, Bool.not_true, Bool.not_false, Bool.and_false, Bool.false_and, Bool.or_false, Bool.false_or, Bool.or_true, Bool.true_or, wrap_in, dlt_t, dlt_f, dle_t, dle_f, dgt_t, dgt_f, dge_t, dge_f, ibeq_t, ibeq_f, ibne_t, ibne_f, inR_int, beqN_eq, bleN_le, Int.toNat_natCast, hat, rwc, List.cons_append, List.nil_append, hrow, hsame, Int.natCast_add, Int.natCast_one]
    · have hB : j - A.length < B'.length := by omega
      have hrow := fun (k : C → Option (Nat × Bool × Int × (C × Int × Unit) × Unit)) => rwc_at B' hB (by omega) (lo := (j : Int) - (A.length : Int)) (hi := (j : Int) - (A.length : Int) + 1) (by omega) (by omega) k
      have hsame := sp_Same fu (d + 7) hf [B'[j - A.length]] (by simp) (by intro r hr; simp at hr; subst hr; have := (rY _ (List.getElem_mem hB)).2.2.2.2.2; omega)
      have e1 : fl rwc [B'[j - A.length]] = rwc B'[j - A.length] := by simp [fl]
      rw [e1] at hsame
      have hzj := atZ2 j hj (by omega) hB
      have hri := iY _ (List.getElem_mem hB)
      rw [hzj] at hat
      generalize B'[j - A.length] = r at *
      have hs : (((r.r + X.length : Nat) : Int)) - (X.length : Int) = (r.r : Int) := by omega
      have hrb : r.r ≤ 1000 := by omega
      simp only [rwc, List.length_cons, List.length_nil, Nat.zero_add, Nat.reduceAdd, Nat.reduceMul, Int.toNat_zero, Int.toNat_one, Nat.zero_mul, List.drop_zero, Int.natCast_one, List.drop_succ_cons, List.cons_append, List.nil_append] at hsame hrow
      simp (disch := omega) only [hdt_eq, out0, out1, out2, obs, rC_c, rA_agg, rT_tup, rP_ptr, rW_own, rS_sb, rF_sb, uncV_cons, uncO_cons, nilV_nil, rO_ob, rN_ob, unc_cons, asI_int, asB_bool, asS_string, asSl_sl, asSl_nl, asFn_fn, asP_cp, nrm_sl, nrm_nl, need_true, ct, cf, bd_eq, natD_zero, natD_succ, natD_one, noYl_v, noYl_sl, noYl_nl, noYl_cp, noYl_fn, Bool.and_true, Bool.true_and, Bool.and_self, beqN_self, Bool.not_true, Bool.not_false, Bool.and_false, Bool.false_and, Bool.or_false, Bool.false_or, Bool.or_true, Bool.true_or, wrap_in, dlt_t, dlt_f, dle_t, dle_f, dgt_t, dgt_f, dge_t, dge_f, ibeq_t, ibeq_f, ibne_t, ibne_f, inR_int, beqN_eq, bleN_le, Int.toNat_natCast, hat, moved, rwc, List.cons_append, List.nil_append, hs, hrow, hsame, Int.natCast_add, Int.natCast_one, Int.add_sub_cancel]
  · simp (disch := omega) only [hdt_eq, out0, out1, out2, obs, rC_c, rA_agg, rT_tup, rP_ptr, rW_own, rS_sb, rF_sb, uncV_cons, uncO_cons, nilV_nil, rO_ob, rN_ob, unc_cons, asI_int, asB_bool, asS_string, asSl_sl, asSl_nl, asFn_fn, asP_cp, nrm_sl, nrm_nl, need_true, ct, cf, bd_eq, natD_zero, natD_succ, natD_one, noYl_v, noYl_sl, noYl_nl, noYl_cp, noYl_fn, Bool.and_true, Bool.true_and, Bool.and_self, beqN_self, Bool.not_true, Bool.not_false, Bool.and_false, Bool.false_and, Bool.or_false, Bool.false_or, Bool.or_true, Bool.true_or, wrap_in, dlt_t, dlt_f, dle_t, dle_f, dgt_t, dgt_f, dge_t, dge_f, ibeq_t, ibeq_f, ibne_t, ibne_f, inR_int, beqN_eq, bleN_le]
end Go.Proofs.YtobmbacppbkgeaaDoor
