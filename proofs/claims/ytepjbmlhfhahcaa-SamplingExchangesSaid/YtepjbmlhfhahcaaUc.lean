/- The statement that the test of two samples is exact: its function answers true, at any bytes and any size. -/
import Derived.Test.YtepjbmlhfhahcaaUb
set_option linter.unusedVariables false
set_option linter.unusedSimpArgs false
namespace Go.Proofs.Ytepjbmlhfhahcaa
open Go Go.PM

theorem sp_SamplingExchanges (fu d : Nat) (hf : 18446744073709551616 ≤ fu) (bs : List Int) (hbs : bytes bs) (size : Int) (hsz : 0 ≤ size ∧ size ≤ 255) :
    cl fu (d + 9) fn_synopticlaw39_SamplingExchanges [V.c (C.sl bs.length (ik .u8 bs)), V.c (C.v (.int .u8 size))] [] = some ⟨B true, [], none⟩ := by
  rw [eq_synopticlaw39_SamplingExchanges, sp_awake fu d hf]
  have hb' : bytes (bs.take 40) := fun x hx => hbs x (List.mem_of_mem_take hx)
  have hl' : (bs.take 40).length ≤ 1000000000000 := by simp; omega
  have hN := sp_New fu (d + 7) bs 40
  unfold codesO codesC at hN
  rw [show ((40 : Nat) : Int) = 40 from rfl] at hN
  rw [hN]
  obtain ⟨l, i, h3, hs, hl, hi⟩ := sp_sample fu (d + 5) hf (bs.take 40) hb' 0 (by omega) hl' 7 (by omega)
  unfold codesO codesC at h3
  simp only [obs, rC_c, asB_bool, Bool.not_true, cf, rP_ptr, show (Nat.beq 1000000 (OUT + 0)) = true from rfl, beqN_self, Bool.and_self, need_true, uncO_cons, rN_ob, List.length_cons, List.length_nil, Nat.zero_add, Nat.reduceAdd, unc_cons, asI_int, h3, rO_ob, asSl_sl]
  have hk1 : IntKind.i64.wrap ((l.length : Int) + 1) = ((l.length + 1 : Nat) : Int) := by rw [IntWalk.i64_in _ ⟨by omega, by omega⟩]; omega
  obtain ⟨s, rfl⟩ : ∃ s : Nat, size = s := ⟨size.toNat, by omega⟩
  have hk2 : Int.tmod (IntKind.i64.wrap (s : Int)) ((l.length + 1 : Nat) : Int) = ((s % (l.length + 1) : Nat) : Int) := by rw [IntWalk.i64_in _ ⟨by omega, by omega⟩]; rfl
  have hkl : s % (l.length + 1) ≤ l.length := by have := Nat.mod_lt s (show 0 < l.length + 1 by omega); omega
  have hp := Nat.two_pow_pos l.length
  have hp2 : (2 : Nat) ^ l.length ≤ 2 ^ 7 := Nat.pow_le_pow_right (by omega) (by omega)
  have hp2 : (2 : Nat) ^ l.length ≤ 128 := hp2
  simp only [hk1, hk2, show (((l.length + 1 : Nat) : Int) == 0) = false by rw [beq_eq_false_iff_ne]; omega, u64i l.length (by omega), show decide ((l.length : Int) < 0) = false from decide_eq_false (by omega), Bool.not_false, need_true, Int.toNat_natCast, two_pow_i64 l.length (by omega)]
  generalize s % (l.length + 1) = k at *
  have hout : l.any outB = false := outside_small hs
  rw [show (false, ([] : List C), (0 : Int), ()) = (fun m : Nat => (false, prs ((chs l.length k m).map (found l k)), (m : Int), ())) 0 from rfl, iter_run (fun m : Nat => (false, prs ((chs l.length k m).map (found l k)), (m : Int), ())) 0 (false, prs ((chs l.length k (2 ^ l.length)).map (found l k)), ((2 ^ l.length : Nat) : Int), ()) (2 ^ l.length) 0 fu ?_ ?_ (by omega)]
  · generalize hL : chs l.length k (2 ^ l.length) = L
    have hLl : L.length ≤ 128 := by rw [← hL]; exact Nat.le_trans (chs_le _ _ _) hp2
    have hLw : L.length = ways l k (2 ^ l.length) := by rw [← hL]; exact chs_length l k _
    have hb : ∀ c ∈ L, (0 ≤ (found l k c).1 ∧ (found l k c).1 ≤ 4096) ∧ 0 < (found l k c).2 ∧ (found l k c).2 ≤ 4096 ∧ 0 < ways l k (2 ^ l.length) := by rw [← hL]; exact fun c hc => found_bounds l k c (by omega) hc
    have hH : ∀ c, wayh l k (gap l k c) (2 ^ l.length) = L.countP fun x => decide (gap l k c ≤ gap l k x) := by rw [← hL]; exact wayh_chs l k
    have hml : (L.map (found l k)).length = L.length := List.length_map ..
    have hdiv : L.length * 2 / 2 = L.length := by omega
    simp only [obs, natD_zero, prs_length, hml, hdiv, Nat.zero_add, bleN_le (Nat.le_refl _), need_true, show List.take (L.length * 2) (prs (L.map (found l k))) = prs (L.map (found l k)) from List.take_of_length_le (by simp)]
    rw [show (false, (0 : Int), ()) = (fun x : Nat => (false, (x : Int), ())) 0 from rfl, iter_run (fun x : Nat => (false, (x : Int), ())) 0 (false, (L.length : Int), ()) L.length 0 fu ?_ ?_ (by omega)]
    · rfl
    · intro x _ hx
      have hx : x < L.length := by omega
      have hxl : x < (L.map (found l k)).length := by rw [hml]; exact hx
      have bx := hb L[x] (List.getElem_mem hx)
      simp only [lt_yes (show (x : Int) < ((L.length : Nat) : Int) by omega), ct, inR_nat hx, need_true, Int.toNat_natCast, unc_prs hxl, asI_int, unc_cons, List.getElem_map]
      generalize hX : L[x] = X at *
      have hc : ∀ y, (L.take y).countP (fun c => decide (wayh l k (gap l k c) (2 ^ l.length) ≤ wayh l k (gap l k X) (2 ^ l.length))) ≤ y := fun y => by
        have := List.countP_le_length (p := fun c => decide (wayh l k (gap l k c) (2 ^ l.length) ≤ wayh l k (gap l k X) (2 ^ l.length))) (l := L.take y)
        rw [List.length_take] at this
        omega
      rw [show ((0 : Int), (0 : Int), ((found l k X).1, (found l k X).2, ()), ()) = (fun y : Nat => ((((L.take y).countP fun c => decide (wayh l k (gap l k c) (2 ^ l.length) ≤ wayh l k (gap l k X) (2 ^ l.length)) : Nat) : Int), (y : Int), ((found l k X).1, (found l k X).2, ()), ())) 0 by simp, iter_run (fun y : Nat => ((((L.take y).countP fun c => decide (wayh l k (gap l k c) (2 ^ l.length) ≤ wayh l k (gap l k X) (2 ^ l.length)) : Nat) : Int), (y : Int), ((found l k X).1, (found l k X).2, ()), ())) 0 (((wayh l k (gap l k X) (2 ^ l.length) : Nat) : Int), (L.length : Int), ((found l k X).1, (found l k X).2, ()), ()) L.length 0 fu ?_ ?_ (by omega)]
      · have w1 := wayh_le l k (gap l k X) (2 ^ l.length)
        simp only [obs]
        rw [sp_Compare fu (d + 4) hf _ _ _ _ (by omega) (by omega) (by omega) (by omega), hLw]
        rw [show cmpI (((wayh l k (gap l k X) (2 ^ l.length) : Nat) : Int) * (found l k X).2) ((found l k X).1 * ((ways l k (2 ^ l.length) : Nat) : Int)) = 0 from redI_same _ _]
        simp only [obs, rC_c, asI_int, show decide ((0 : Int) > 0) = false from rfl, cf]
        rw [IntWalk.i64_in ((x : Int) + 1) ⟨by omega, by omega⟩]
        rfl
      · intro y _ hy
        have hy : y < L.length := by omega
        have hyl : y < (L.map (found l k)).length := by rw [hml]; exact hy
        have by' := hb L[y] (List.getElem_mem hy)
        have hcy := hc y
        simp only [lt_yes (show (y : Int) < ((L.length : Nat) : Int) by omega), ct, inR_nat hy, need_true, Int.toNat_natCast, unc_prs hyl, asI_int, unc_cons, List.getElem_map]
        rw [sp_Compare fu (d + 4) hf _ _ _ _ (by omega) (by omega) (by omega) (by omega), show cmpI ((found l k L[y]).1 * (found l k X).2) ((found l k X).1 * (found l k L[y]).2) = cmpI ((wayh l k (gap l k L[y]) (2 ^ l.length) : Nat) : Int) ((wayh l k (gap l k X) (2 ^ l.length) : Nat) : Int) from redI_cmp _ _ _ bx.2.2.2]
        simp only [obs, rC_c, asI_int]
        rw [List.take_succ_eq_append_getElem hy, List.countP_append, IntWalk.i64_in ((y : Int) + 1) ⟨by omega, by omega⟩, IntWalk.i64_in (((L.take y).countP (fun c => decide (wayh l k (gap l k c) (2 ^ l.length) ≤ wayh l k (gap l k X) (2 ^ l.length))) : Int) + 1) ⟨by omega, by omega⟩]
        by_cases h : wayh l k (gap l k L[y]) (2 ^ l.length) ≤ wayh l k (gap l k X) (2 ^ l.length)
        · rw [show decide (cmpI ((wayh l k (gap l k L[y]) (2 ^ l.length) : Nat) : Int) ((wayh l k (gap l k X) (2 ^ l.length) : Nat) : Int) ≤ 0) = true from decide_eq_true (by unfold cmpI; repeat' split; all_goals omega)]
          simp [List.countP_cons, h]
        · rw [show decide (cmpI ((wayh l k (gap l k L[y]) (2 ^ l.length) : Nat) : Int) ((wayh l k (gap l k X) (2 ^ l.length) : Nat) : Int) ≤ 0) = false from decide_eq_false (by unfold cmpI; repeat' split; all_goals omega)]
          simp [List.countP_cons, h]
      · simp only [Nat.zero_add, show decide (((L.length : Nat) : Int) < ((L.length : Nat) : Int)) = false from decide_eq_false (by omega), cf, List.take_length]
        have := exact_count L (gap l k) X
        simp only [hH] at this ⊢
        rw [this]
    · simp only [Nat.zero_add, show decide (((L.length : Nat) : Int) < ((L.length : Nat) : Int)) = false from decide_eq_false (by omega), cf]
  · intro m _ hm
    have hm : m < 2 ^ l.length := by omega
    have hcl := chs_le l.length k m
    have hml : ((chs l.length k m).map (found l k)).length = (chs l.length k m).length := List.length_map ..
    have hdiv : (chs l.length k m).length * 2 / 2 = (chs l.length k m).length := by omega
    have hpl := (picks_perm l m).length_eq
    rw [List.length_append] at hpl
    simp only [lt_yes (show (m : Int) < ((2 ^ l.length : Nat) : Int) by omega), ct, prs_length, hml, hdiv, beqN_self, Bool.and_self, need_true]
    have hin := inner fu hf l hs (by omega) ((chs l.length k m).map (found l k)) m
    simp only [asSl_sl] at hin
    rw [hin]
    simp only [obs, ik_length, Nat.div_one, Nat.mul_one, Nat.zero_add, bleN_le (Nat.le_refl _), need_true, ik_take, List.take_length, prs_length, hml, hdiv, beqN_self, Bool.and_self, picks_length]
    rw [bneN, chs_succ]
    cases hq : popc l.length m == k with
    | false =>
      simp only [Bool.not_false, ct]
      rw [IntWalk.i64_in ((m : Int) + 1) ⟨by omega, by omega⟩]
      simp
    | true =>
      have hqe : popc l.length m = k := by simpa using hq
      have e1 := sp_Exchange fu (d + 1) hf (picks l m) (others l m) (by omega) (by omega)
      have e2 := sp_Exchange fu (d + 1) hf (others l m) (picks l m) (by omega) (by omega)
      rw [picks_length] at e1 e2
      rw [exchR_swap] at e2
      rw [exchR_picks l m (by omega) hout, hqe] at e1 e2
      rw [hqe]
      simp only [Bool.not_true, cf, e1, e2, obs, out3_r, rT_tup, uncV_cons, rA_agg, rC_c, asI_int, nilV_nil, List.length_cons, List.length_nil, Nat.zero_add, Nat.reduceAdd, beqN_self, need_true, unc_cons, bne_self_eq_false, beq_self_eq_true, Bool.and_true, Bool.not_true, bleN_le (show ((chs l.length k m).length + 1) * 16 ≤ 140737488355328 by omega), bleN_le (show (chs l.length k m).length + 1 ≤ 140737488355328 by omega), prs_snoc, prs_length, List.length_append, hml, Bool.and_self]
      rw [IntWalk.i64_in ((m : Int) + 1) ⟨by omega, by omega⟩, List.map_append]
      rfl
  · have hcl := chs_le l.length k (2 ^ l.length)
    have hdiv : Nat.beq ((chs l.length k (2 ^ l.length)).length * 2 / 2 * 2) ((chs l.length k (2 ^ l.length)).length * 2) = true := beqN_eq (by omega)
    simp only [Nat.zero_add, show decide (((2 ^ l.length : Nat) : Int) < ((2 ^ l.length : Nat) : Int)) = false from decide_eq_false (by omega), cf, prs_length, List.length_map, hdiv, Bool.and_self, need_true]

end Go.Proofs.Ytepjbmlhfhahcaa
