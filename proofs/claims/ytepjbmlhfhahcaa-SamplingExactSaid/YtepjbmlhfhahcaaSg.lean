/- The statement that the test of signs is exact: what its function comes to. -/
import Derived.Test.YtepjbmlhfhahcaaSf
namespace Go.Proofs.Ytepjbmlhfhahcaa
open Go Go.PM

/-- The parts that the test finds for the first choices. -/
def parts (a : List Int) (m : Nat) : List (Int × Int) := (List.range m).map fun k => redP (farther a k) a.length
theorem parts_succ (a : List Int) (m : Nat) : parts a (m + 1) = parts a m ++ [redP (farther a m) a.length] := by simp [parts, List.range_succ]
@[simp] theorem parts_length (a : List Int) (m : Nat) : (parts a m).length = m := by simp [parts]
theorem parts_get (a : List Int) (m k : Nat) (h : k < (parts a m).length) : (parts a m)[k] = redP (farther a k) a.length := by simp [parts]
theorem farther_bound (a : List Int) (m : Nat) : farther a m ≤ 2 ^ a.length := by
  have := List.countP_le_length (p := fun c => decide (far a m ≤ far a c)) (l := List.range (2 ^ a.length))
  simpa [farther] using this
theorem redP_bounds (h n : Nat) (hh : h ≤ 2 ^ n) (hn : n ≤ 12) : (0 ≤ (redP h n).1 ∧ (redP h n).1 ≤ 4096) ∧ 0 < (redP h n).2 ∧ (redP h n).2 ≤ 4096 := by
  have hp := Nat.two_pow_pos n
  have hp2 : (2 : Nat) ^ n ≤ 2 ^ 12 := Nat.pow_le_pow_right (by omega) hn
  have hp2 : (2 : Nat) ^ n ≤ 4096 := hp2
  have g := Nat.gcd_pos_of_pos_right h hp
  have h1 := Nat.div_le_self h (Nat.gcd h (2 ^ n))
  have h2 := Nat.div_le_self (2 ^ n) (Nat.gcd h (2 ^ n))
  have h3 : 0 < 2 ^ n / Nat.gcd h (2 ^ n) := Nat.div_pos (Nat.gcd_le_right _ hp) g
  unfold redP
  simp only
  generalize h / Nat.gcd h (2 ^ n) = u at *
  generalize 2 ^ n / Nat.gcd h (2 ^ n) = v at *
  omega

theorem sp_SamplingExact (fu d : Nat) (hf : 18446744073709551616 ≤ fu) (bs : List Int) (hb : bytes bs) :
    cl fu (d + 9) fn_synopticlaw39_SamplingExact [V.c (C.sl bs.length (ik .u8 bs))] [] = some ⟨B true, [], none⟩ := by
  rw [eq_synopticlaw39_SamplingExact, sp_awake fu d hf]
  have hN := sp_New fu (d + 7) bs 40
  unfold codesO codesC at hN
  have hb' : bytes (bs.take 40) := fun x hx => hb x (List.mem_of_mem_take hx)
  obtain ⟨a, j, h1, hs, hk, _⟩ := sp_sample fu (d + 5) hf (bs.take 40) hb' 0 (by omega) (by simp; omega) 6 (by omega)
  unfold codesO codesC at h1
  have hn : a.length ≤ 6 := by omega
  have hp := Nat.two_pow_pos a.length
  have hp2 : (2 : Nat) ^ a.length ≤ 2 ^ 6 := Nat.pow_le_pow_right (by omega) hn
  have hp2 : (2 : Nat) ^ a.length ≤ 64 := hp2
  simp only [obs, rC_c, asB_bool, Bool.not_true, cf]
  rw [show (40 : Int) = ((40 : Nat) : Int) from rfl, hN]
  simp only [obs, rP_ptr, show OUT = 1000000 from rfl, Nat.add_zero, beqN_self, Bool.and_self, need_true, uncO_cons, rN_ob, List.length_cons, List.length_nil, Nat.zero_add, Nat.reduceAdd, unc_cons, asI_int]
  rw [h1]
  simp only [obs, uncO_cons, rO_ob, beqN_self, Bool.and_self, need_true, List.length_cons, List.length_nil, Nat.zero_add, Nat.reduceAdd, unc_cons, asI_int, rC_c, asSl_sl]
  have hw : IntKind.u64.wrap ((a.length : Nat) : Int) = (a.length : Nat) := IntWalk.u64_in _ ⟨by omega, by omega⟩
  simp only [hw, Int.toNat_natCast, two_pow_i64 a.length (by omega), show decide (((a.length : Nat) : Int) < 0) = false from decide_eq_false (by omega), Bool.not_false, need_true, Nat.mul_one, ik_length, beqN_self, bleN_le (show a.length * 8 ≤ 140737488355328 by omega), bleN_le (show a.length ≤ 140737488355328 by omega), Bool.and_self]
  rw [show (false, ([] : List C), (0 : Int), ()) = (fun m : Nat => (false, prs (parts a m), (m : Int), ())) 0 from rfl, iter_run (fun m : Nat => (false, prs (parts a m), (m : Int), ())) 0 (false, prs (parts a (2 ^ a.length)), ((2 ^ a.length : Nat) : Int), ()) (2 ^ a.length) 0 fu ?_ ?_ (by omega)]
  · simp only [obs, natD_zero, prs_length, parts_length]
    have hq : 2 ^ a.length * 2 / 2 = 2 ^ a.length := by omega
    simp only [hq, Nat.zero_add, bleN_le (Nat.le_refl _), need_true]
    rw [show List.take (2 ^ a.length * 2) (prs (parts a (2 ^ a.length))) = prs (parts a (2 ^ a.length)) from List.take_of_length_le (by simp)]
    rw [show (false, (0 : Int), ()) = (fun x : Nat => (false, (x : Int), ())) 0 from rfl, iter_run (fun x : Nat => (false, (x : Int), ())) 0 (false, ((2 ^ a.length : Nat) : Int), ()) (2 ^ a.length) 0 fu ?_ ?_ (by omega)]
    · rfl
    · intro x _ hx
      have hx : x < 2 ^ a.length := by omega
      have hxl : x < (parts a (2 ^ a.length)).length := by rw [parts_length]; exact hx
      have bx := redP_bounds (farther a x) a.length (farther_bound a x) (by omega)
      simp only [lt_yes (show (x : Int) < ((2 ^ a.length : Nat) : Int) by omega), ct, inR_nat hx, need_true, Int.toNat_natCast, unc_prs hxl, asI_int, unc_cons, parts_get]
      have hc : ∀ y, (List.range y).countP (fun c => decide (farther a c ≤ farther a x)) ≤ y := fun y => by
        have := List.countP_le_length (p := fun c => decide (farther a c ≤ farther a x)) (l := List.range y)
        simpa using this
      rw [show ((0 : Int), (0 : Int), ((redP (farther a x) a.length).1, (redP (farther a x) a.length).2, ()), ()) = (fun y : Nat => ((((List.range y).countP fun c => decide (farther a c ≤ farther a x) : Nat) : Int), (y : Int), ((redP (farther a x) a.length).1, (redP (farther a x) a.length).2, ()), ())) 0 by simp, iter_run (fun y : Nat => ((((List.range y).countP fun c => decide (farther a c ≤ farther a x) : Nat) : Int), (y : Int), ((redP (farther a x) a.length).1, (redP (farther a x) a.length).2, ()), ())) 0 (((farther a x : Nat) : Int), ((2 ^ a.length : Nat) : Int), ((redP (farther a x) a.length).1, (redP (farther a x) a.length).2, ()), ()) (2 ^ a.length) 0 fu ?_ ?_ (by omega)]
      · have hfb := farther_bound a x
        simp only [obs]
        rw [sp_Compare fu (d + 4) hf _ _ _ _ (by omega) (by omega) (by omega) (by omega)]
        have hcmp : cmpI (((farther a x : Nat) : Int) * (redP (farther a x) a.length).2) ((redP (farther a x) a.length).1 * ((2 ^ a.length : Nat) : Int)) = 0 := by
          have d1 := Nat.div_mul_cancel (Nat.gcd_dvd_left (farther a x) (2 ^ a.length))
          have d2 := Nat.div_mul_cancel (Nat.gcd_dvd_right (farther a x) (2 ^ a.length))
          have : farther a x * (2 ^ a.length / Nat.gcd (farther a x) (2 ^ a.length)) = farther a x / Nat.gcd (farther a x) (2 ^ a.length) * 2 ^ a.length := by
            generalize Nat.gcd (farther a x) (2 ^ a.length) = g at *
            generalize farther a x / g = u at *
            generalize 2 ^ a.length / g = v at *
            rw [← d1, ← d2, Nat.mul_assoc, Nat.mul_comm g v]
          unfold redP
          simp only [← Int.natCast_mul, this]
          simp [cmpI]
        rw [hcmp]
        simp only [obs, rC_c, asI_int, show decide ((0 : Int) > 0) = false from rfl, cf]
        rw [IntWalk.i64_in ((x : Int) + 1) ⟨by omega, by omega⟩]
        rfl
      · intro y _ hy
        have hy : y < 2 ^ a.length := by omega
        have hyl : y < (parts a (2 ^ a.length)).length := by rw [parts_length]; exact hy
        have by' := redP_bounds (farther a y) a.length (farther_bound a y) (by omega)
        have hcy := hc y
        simp only [lt_yes (show (y : Int) < ((2 ^ a.length : Nat) : Int) by omega), ct, inR_nat hy, need_true, Int.toNat_natCast, unc_prs hyl, asI_int, unc_cons, parts_get]
        rw [sp_Compare fu (d + 4) hf _ _ _ _ (by omega) (by omega) (by omega) (by omega), redP_cmp]
        simp only [obs, rC_c, asI_int]
        rw [countP_range_succ, IntWalk.i64_in ((y : Int) + 1) ⟨by omega, by omega⟩, IntWalk.i64_in (((List.range y).countP (fun c => decide (farther a c ≤ farther a x)) : Int) + 1) ⟨by omega, by omega⟩]
        by_cases h : farther a y ≤ farther a x
        · rw [show decide (cmpI ((farther a y : Nat) : Int) ((farther a x : Nat) : Int) ≤ 0) = true from decide_eq_true (by unfold cmpI; repeat' split; all_goals omega), decide_eq_true h]
          rfl
        · rw [show decide (cmpI ((farther a y : Nat) : Int) ((farther a x : Nat) : Int) ≤ 0) = false from decide_eq_false (by unfold cmpI; repeat' split; all_goals omega), decide_eq_false h]
          rfl
      · simp only [Nat.zero_add, show decide (((2 ^ a.length : Nat) : Int) < ((2 ^ a.length : Nat) : Int)) = false from decide_eq_false (by omega), cf, farther_count]
    · simp only [Nat.zero_add, show decide (((2 ^ a.length : Nat) : Int) < ((2 ^ a.length : Nat) : Int)) = false from decide_eq_false (by omega), cf]
  · intro m _ hm
    have hm : m < 2 ^ a.length := by omega
    have hdiv : m * 2 / 2 = m := by omega
    have hsg := sp_Signs fu (d + 1) hf (flipS a m) (by rw [flipS_length]; omega) (flipS_small hs m)
    rw [hits_flip, flipS_length] at hsg
    simp only [lt_yes (show (m : Int) < ((2 ^ a.length : Nat) : Int) by omega), ct, prs_length, parts_length, hdiv, beqN_self, Bool.and_self, need_true]
    have hfl := sp_flips fu hf a hs (by omega) (parts a m) m
    simp only [obs, rC_c, asI_int, unc_cons, Nat.add_zero, Bool.not_true, Bool.not_false, Nat.mul_one, Nat.zero_add, Nat.reduceAdd, ik_length, beqN_self, Bool.and_self, need_true, ct, cf, List.length_cons, List.length_nil, prs_length, parts_length, hdiv] at hfl
    rw [hfl]
    simp only [obs, ik_length, flipS_length, Nat.div_one, Nat.mul_one, Nat.zero_add, bleN_le (Nat.le_refl _), need_true, ik_take]
    rw [show (flipS a m).take a.length = flipS a m from List.take_of_length_le (by simp)]
    rw [hsg]
    simp only [obs, rT_tup, uncV_cons, rA_agg, List.length_cons, List.length_nil, Nat.zero_add, Nat.reduceAdd, beqN_self, need_true, unc_cons, asI_int, rC_c, nilV_nil, show ((0 : Int) != 0) = false from rfl, cf, prs_length, parts_length, hdiv, Bool.and_self, bleN_le (show (m + 1) * 16 ≤ 140737488355328 by omega), bleN_le (show m + 1 ≤ 140737488355328 by omega), prs_snoc, List.length_append]
    rw [IntWalk.i64_in ((m : Int) + 1) ⟨by omega, by omega⟩, ← parts_succ]
    rfl
  · have hdiv : 2 ^ a.length * 2 / 2 = 2 ^ a.length := by omega
    simp only [Nat.zero_add, show decide (((2 ^ a.length : Nat) : Int) < ((2 ^ a.length : Nat) : Int)) = false from decide_eq_false (by omega), cf, prs_length, parts_length, hdiv, beqN_self, Bool.and_self, need_true]

end Go.Proofs.Ytepjbmlhfhahcaa
