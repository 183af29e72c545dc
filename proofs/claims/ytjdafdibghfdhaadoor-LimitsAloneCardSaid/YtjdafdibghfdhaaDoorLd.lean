/- Valid readings that are read from a list; readings without some elements. -/
import Derived.Test.YtjdafdibghfdhaaDoorLc
set_option linter.unusedVariables false
set_option linter.unusedSimpArgs false
namespace Go.Proofs.YtjdafdibghfdhaaDoor
open Go Go.PM

def okR (r : Int × Int) : Prop := (1 ≤ r.1 ∧ r.1 ≤ 11) ∧ -100000 ≤ r.2 ∧ r.2 ≤ 100000

theorem sp_Some (fu d : Nat) (l : List Int) (i : Nat) (hl : l.length ≤ 2000) (c : Int) (hc : 1 ≤ c ∧ c ≤ 11) :
    ∃ (v : Int) (j : Nat), cl fu (d + 4) fn_synopticref04_Some [V.ptr 1000000 0, I c] [srcO l i] = some ⟨V.agg [C.v (.int .i64 c), C.v (.int .i64 v)], [srcO l j], none⟩ ∧ -100000 ≤ v ∧ v ≤ 100000 := by
  obtain ⟨s, g, hd⟩ := sp_Describe fu (d + 2) c hc
  have hr := rng_bounds c hc
  obtain ⟨v1, j1, a1, a2, a3⟩ := sp_Range fu d l i hl (rng c).1 (rng c).2 (by omega) ⟨by omega, by omega⟩
  obtain ⟨v2, j2, b1, b2, b3⟩ := sp_N fu (d + 1) l j1 hl 5 (by omega)
  obtain ⟨v3, j3, c1, c2⟩ := sp_Pick fu d l j2 hl [(rng c).1, (rng c).2] (by simp)
  obtain ⟨v4, j4, d1, d2, d3⟩ := sp_Range fu d l j2 hl (-40) 40 (by omega) ⟨by omega, by omega⟩
  have c1' : cl fu (d + 3) fn_synoptickeep_Src_Pick [V.ptr 1000000 0, V.c (C.sl 2 [C.v (.int .i64 (rng c).1), C.v (.int .i64 (rng c).2)])] [srcO l j2] = some ⟨I v3, [srcO l j3], none⟩ := c1
  unfold srcO srcC at a1 b1 c1' d1 ⊢
  rw [eq_synopticref04_Some, hd]
  simp only [obs, rT_tup, uncV_cons, rA_agg, List.length_cons, List.length_nil, Nat.zero_add, Nat.reduceAdd, beqN_self, need_true, unc_cons, asS_string, asI_int, rC_c, nilV_nil, a1, uncO_cons, rO_ob, Bool.and_self, b1]
  by_cases h0 : v2 = 0
  · subst h0
    simp only [show ((0 : Int) == 0) = true from rfl, ct, c1', obs, uncO_cons, rO_ob, beqN_self, Bool.and_self, need_true, List.length_cons, List.length_nil, Nat.zero_add, Nat.reduceAdd, unc_cons, asI_int, rC_c]
    refine ⟨v3, j3, rfl, ?_⟩
    rcases List.mem_cons.1 c2 with e | e
    · omega
    · simp at e; omega
  · rw [show (v2 == 0) = false by simpa using h0]
    have hm : IntKind.i64.wrap ((rng c).1 + (rng c).2) = (rng c).1 + (rng c).2 := IntWalk.i64_in _ ⟨by omega, by omega⟩
    have ht : -20000 ≤ Int.tdiv ((rng c).1 + (rng c).2) 2 ∧ Int.tdiv ((rng c).1 + (rng c).2) 2 ≤ 20000 := by
      have h1 := Int.mul_tdiv_add_tmod ((rng c).1 + (rng c).2) 2
      have h2 : -2 < Int.tmod ((rng c).1 + (rng c).2) 2 := Int.lt_tmod_of_pos _ (by omega)
      have h3 : Int.tmod ((rng c).1 + (rng c).2) 2 < 2 := Int.tmod_lt_of_pos _ (by omega)
      omega
    have hm2 : IntKind.i64.wrap (Int.tdiv ((rng c).1 + (rng c).2) 2) = Int.tdiv ((rng c).1 + (rng c).2) 2 := IntWalk.i64_in _ ⟨by omega, by omega⟩
    have hm3 : IntKind.i64.wrap (Int.tdiv ((rng c).1 + (rng c).2) 2 + v4) = Int.tdiv ((rng c).1 + (rng c).2) 2 + v4 := IntWalk.i64_in _ ⟨by omega, by omega⟩
    have hpick : (bif v2 == 1 then some ((0 : Nat), (v2 == 1, ((0 : Int), (0 : Int), ()), (s, (rng c).1, (rng c).2, g, ()), (c, v1, ()), (C.sl l.length (ints l), (j2 : Int), ()), ())) else some (0, (v2 == 2, (0, 0, ()), (s, (rng c).1, (rng c).2, g, ()), (c, v1, ()), (C.sl l.length (ints l), (j2 : Int), ()), ()))) = some (0, ((v2 == 1 || v2 == 2), (0, 0, ()), (s, (rng c).1, (rng c).2, g, ()), (c, v1, ()), (C.sl l.length (ints l), (j2 : Int), ()), ())) := by
      cases h1 : v2 == 1 <;> rfl
    simp only [cf, hpick, obs]
    cases h1 : (v2 == 1 || v2 == 2) with
    | true =>
      simp only [ct, d1, obs, uncO_cons, rO_ob, beqN_self, Bool.and_self, need_true, List.length_cons, List.length_nil, Nat.zero_add, Nat.reduceAdd, unc_cons, asI_int, rC_c, hm, hm2, hm3]
      exact ⟨_, j4, rfl, by omega, by omega⟩
    | false =>
      simp only [cf, obs]
      exact ⟨v1, j2, rfl, by omega, by omega⟩

/-- Readings in the order of their elements. -/
def validL (x : List (Int × Int)) : Prop := x.Pairwise (fun a b => a.1 < b.1) ∧ ∀ r ∈ x, okR r

theorem sp_List (fu d : Nat) (hf : 18446744073709551616 ≤ fu) (l : List Int) (i : Nat) (hl : l.length ≤ 2000) :
    ∃ (x : List (Int × Int)) (j : Nat), cl fu (d + 5) fn_synopticref04_List [V.ptr 1000000 0] [srcO l i] = some ⟨V.c (C.sl x.length (prs x)), [srcO l j], none⟩ ∧ validL x ∧ x.length ≤ 11 := by
  have he : srcO l i = .ob ty_synoptickeep_Src 0 [C.sl l.length (ints l), C.v (.int .i64 (i : Nat))] := rfl
  rw [he, eq_synopticref04_List]
  generalize hbody : (fun (y : List C × Int × (C × Int × Unit) × Unit) => _) = body
  obtain ⟨e, z, r1, r2⟩ := iter_meas (body := body) (fun s => ∃ (x : List (Int × Int)) (c q : Nat), s = (prs x, ((c + 1 : Nat) : Int), (C.sl l.length (ints l), (q : Int), ()), ()) ∧ validL x ∧ x.length ≤ c ∧ c ≤ 11 ∧ ∀ r ∈ x, r.1 ≤ c) (fun s => 12 - s.2.1.toNat) (fun e z => e = 0 ∧ ∃ (x : List (Int × Int)) (q : Nat), z.1 = prs x ∧ z.2.2.1 = (C.sl l.length (ints l), (q : Int), ()) ∧ validL x ∧ x.length ≤ 11) (by
    rintro s ⟨x, c, q, rfl, hv, hlen, hc, hle⟩
    subst hbody
    have hdiv : x.length * 2 / 2 = x.length := by omega
    by_cases h11 : c = 11
    · subst h11
      refine .inr ⟨0, (prs x, ((12 : Nat) : Int), (C.sl l.length (ints l), (q : Int), ()), ()), ?_, rfl, x, q, rfl, rfl, hv, hlen⟩
      simp only [show decide (((11 + 1 : Nat) : Int) ≤ 11) = false from rfl, cf, prs_length, hdiv, beqN_self, Bool.and_self, need_true]
    · obtain ⟨v, q1, a1, a2, a3⟩ := sp_N fu (d + 2) l q hl 3 (by omega)
      obtain ⟨w, q2, b1, b2, b3⟩ := sp_Some fu d l q1 hl ((c + 1 : Nat) : Int) (by omega)
      unfold srcO srcC at a1 b1
      have hw : IntKind.i64.wrap (((c + 1 : Nat) : Int) + 1) = ((c + 1 + 1 : Nat) : Int) := by rw [IntWalk.i64_in _ ⟨by omega, by omega⟩]; omega
      by_cases h0 : v = 0
      · subst h0
        refine .inl ⟨(prs (x ++ [(((c + 1 : Nat) : Int), w)]), ((c + 1 + 1 : Nat) : Int), (C.sl l.length (ints l), (q2 : Int), ()), ()), ?_, ⟨x ++ [(((c + 1 : Nat) : Int), w)], c + 1, q2, rfl, ⟨?_, ?_⟩, by simp; omega, by omega, ?_⟩, ?_⟩
        · simp only [decide_eq_true (show ((c + 1 : Nat) : Int) ≤ 11 by omega), ct, a1, b1, obs, uncO_cons, rO_ob, beqN_self, Bool.and_self, need_true, List.length_cons, List.length_nil, Nat.zero_add, Nat.reduceAdd, unc_cons, asI_int, rC_c, show ((0 : Int) == 0) = true from rfl, rA_agg, prs_length, hdiv, bleN_le (show (x.length + 1) * 16 ≤ 140737488355328 by omega), bleN_le (show x.length + 1 ≤ 140737488355328 by omega), prs_snoc, List.length_append, hw]
        · rw [List.pairwise_append]
          exact ⟨hv.1, by simp, fun r hr y hy => by simp at hy; subst hy; have := hle r hr; simp only; omega⟩
        · intro r hr
          rcases List.mem_append.1 hr with h | h
          · exact hv.2 r h
          · simp at h; subst h; exact ⟨⟨by simp only; omega, by simp only; omega⟩, b2, b3⟩
        · intro r hr
          rcases List.mem_append.1 hr with h | h
          · have := hle r h; omega
          · simp at h; subst h; exact Int.le_refl _
        · simp only [Int.toNat_natCast]; omega
      · refine .inl ⟨(prs x, ((c + 1 + 1 : Nat) : Int), (C.sl l.length (ints l), (q1 : Int), ()), ()), ?_, ⟨x, c + 1, q1, rfl, hv, by omega, by omega, fun r hr => by have := hle r hr; omega⟩, ?_⟩
        · simp only [decide_eq_true (show ((c + 1 : Nat) : Int) ≤ 11 by omega), ct, cf, a1, obs, uncO_cons, rO_ob, beqN_self, Bool.and_self, need_true, List.length_cons, List.length_nil, Nat.zero_add, Nat.reduceAdd, unc_cons, asI_int, rC_c, show (v == 0) = false by simpa using h0, prs_length, hdiv, hw]
        · simp only [Int.toNat_natCast]; omega) fu ([], 1, (C.sl l.length (ints l), (i : Int), ()), ()) ⟨[], 0, i, rfl, ⟨by simp, by simp⟩, by simp, by omega, by simp⟩ (by simp; omega)
  rw [r1]
  obtain ⟨rfl, x, q, h1, h2, h3, h4⟩ := r2
  refine ⟨x, q, ?_, h3, h4⟩
  have hdiv : x.length * 2 / 2 = x.length := by omega
  simp only [obs, h1, h2, prs_length, hdiv, Nat.zero_add, bleN_le (Nat.le_refl _), need_true, show List.take (x.length * 2) (prs x) = prs x from List.take_of_length_le (by simp)]
  rfl

/-- Readings without some elements. -/
def without (x : List (Int × Int)) (bad : List Int) : List (Int × Int) := x.filter fun r => !decide (r.1 ∈ bad)
theorem without_take (x : List (Int × Int)) (bad : List Int) (j : Nat) (hj : j < x.length) : without (x.take (j + 1)) bad = without (x.take j) bad ++ if x[j].1 ∈ bad then [] else [x[j]] := by
  unfold without
  rw [List.take_succ_eq_append_getElem hj, List.filter_append]
  congr 1
  by_cases h : x[j].1 ∈ bad <;> simp [h]
theorem without_length (x : List (Int × Int)) (bad : List Int) : (without x bad).length ≤ x.length := List.length_filter_le _ _

theorem sp_Without (fu d : Nat) (hf : 18446744073709551616 ≤ fu) (x : List (Int × Int)) (bad : List Int) (hn : x.length ≤ 1000000) (hb : bad.length ≤ 1000000) :
    cl fu (d + 2) fn_synopticref04_Without [V.c (C.sl x.length (prs x)), V.c (C.sl bad.length (ints bad))] [] = some ⟨V.c (C.sl (without x bad).length (prs (without x bad))), [], none⟩ := by
  rw [eq_synopticref04_Without]
  rw [show (([] : List C), (0 : Int), ()) = (fun j : Nat => (prs (without (x.take j) bad), (j : Int), ())) 0 by simp [without, prs], iter_run (fun j : Nat => (prs (without (x.take j) bad), (j : Int), ())) 0 (prs (without x bad), (x.length : Int), ()) x.length 0 fu ?_ ?_ (by omega)]
  · have hdiv : (without x bad).length * 2 / 2 = (without x bad).length := by omega
    simp only [obs, prs_length, hdiv, Nat.zero_add, bleN_le (Nat.le_refl _), need_true, show List.take ((without x bad).length * 2) (prs (without x bad)) = prs (without x bad) from List.take_of_length_le (by simp)]
  · intro j _ hj
    have hj : j < x.length := by omega
    have hg := without_length (x.take j) bad
    rw [List.length_take, Nat.min_eq_left (Nat.le_of_lt hj)] at hg
    have hdiv : (without (x.take j) bad).length * 2 / 2 = (without (x.take j) bad).length := by omega
    simp only [lt_yes (show (j : Int) < (x.length : Int) by omega), ct, inR_nat hj, need_true, Int.toNat_natCast, unc_prs hj, unc_cons, asI_int, sp_In fu d hf bad _ (by omega), obs, rC_c, asB_bool, prs_length, hdiv, beqN_self, Bool.and_self, bleN_le (show ((without (x.take j) bad).length + 1) * 16 ≤ 140737488355328 by omega), bleN_le (show (without (x.take j) bad).length + 1 ≤ 140737488355328 by omega), prs_snoc, List.length_append, List.length_cons, List.length_nil, Nat.zero_add]
    rw [IntWalk.i64_in ((j : Int) + 1) ⟨by omega, by omega⟩, without_take x bad j hj]
    by_cases h : x[j].1 ∈ bad
    · rw [decide_eq_true h, if_pos h]; simp
    · rw [decide_eq_false h, if_neg h]; simp
  · have hdiv : (without x bad).length * 2 / 2 = (without x bad).length := by omega
    simp [hdiv]

end Go.Proofs.YtjdafdibghfdhaaDoor
