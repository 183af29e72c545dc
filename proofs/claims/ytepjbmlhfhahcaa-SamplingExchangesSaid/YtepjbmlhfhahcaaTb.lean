/- The test of signs, the program's and the document's: they answer alike at any sample. -/
import Derived.Test.YtepjbmlhfhahcaaTa
set_option linter.unusedVariables false
set_option linter.unusedSimpArgs false
namespace Go.Proofs.Ytepjbmlhfhahcaa
open Go Go.PM

/-- The test of signs: its part and its error. -/
def signsR (a : List Int) : Int × Int × Int :=
  if a.length ≤ 12 ∧ a.any outB = false then ((redP (hits a) a.length).1, (redP (hits a) a.length).2, 0) else (0, 0, 1)
def out3 (r : Int × Int × Int) : Out := ⟨V.tup [V.agg [C.v (.int .i64 r.1), C.v (.int .i64 r.2.1)], I r.2.2], [], none⟩
theorem small_of {a : List Int} (h : a.any outB = false) : small a := by
  intro x hx
  have := List.any_eq_false.1 h x hx
  simp only [outB, Bool.not_eq_true', Bool.not_eq_false', Bool.and_eq_true, decide_eq_true_eq, Bool.not_eq_true, Bool.not_eq_false] at this
  exact this

theorem sp_Signs_any (fu d : Nat) (hf : 18446744073709551616 ≤ fu) (a : List Int) (hn : a.length ≤ 1000000000000) :
    cl fu (d + 7) fn_sampling_Signs [V.c (C.sl a.length (ints a))] [] = some (out3 (signsR a)) := by
  unfold signsR
  by_cases h : a.length ≤ 12 ∧ a.any outB = false
  · rw [if_pos h]
    exact sp_Signs fu d hf a h.1 (small_of h.2)
  · rw [if_neg h, eq_sampling_Signs]
    by_cases h1 : a.length ≤ 12
    · have h2 : a.any outB = true := by
        cases hx : a.any outB with
        | true => rfl
        | false => exact absurd ⟨h1, hx⟩ h
      rw [sp_outside fu _ hf a (by omega), h2, show decide ((a.length : Int) > 12) = false from decide_eq_false (by omega)]
      rfl
    · rw [show decide ((a.length : Int) > 12) = true from decide_eq_true (by omega)]
      rfl

theorem sum_take (a : List Int) (j : Nat) (h : j < a.length) : (a.take (j + 1)).sum = (a.take j).sum + a[j] := by
  rw [List.take_succ_eq_append_getElem h, List.sum_append]; simp
theorem small_sum {a : List Int} (h : small a) : -(1000000 * (a.length : Int)) ≤ a.sum ∧ a.sum ≤ 1000000 * (a.length : Int) := by
  rw [← csum_full]; exact csum_bound a _ h

/-- A part of two numbers in lowest terms. -/
def redI (h n : Nat) : Int × Int := (((h / Nat.gcd h n : Nat) : Int), ((n / Nat.gcd h n : Nat) : Int))
theorem sp_ref_Reduce_nat (fu d : Nat) (hf : 18446744073709551616 ≤ fu) (h n : Nat) (hh : h ≤ n) (h0 : 0 < n) (hn : n ≤ 1152921504606846976) :
    cl fu (d + 1) fn_synopticref38_Reduce [I (h : Int), I (n : Int)] [] = some (out3 ((redI h n).1, (redI h n).2, 0)) :=
  sp_ref_Reduce fu d hf (h : Int) n (by omega) ⟨h0, hn⟩
theorem sp_Reduce_any (fu d : Nat) (hf : 18446744073709551616 ≤ fu) (h n : Nat) (hh : h ≤ n) (h0 : 0 < n) (hn : n ≤ 1152921504606846976) :
    cl fu (d + 2) fn_score_Reduce [I (h : Int), I (n : Int)] [] = some (out3 ((redI h n).1, (redI h n).2, 0)) :=
  sp_Reduce fu d hf (h : Int) n (by omega) ⟨h0, hn⟩
theorem redI_pow (h n : Nat) : redI h (2 ^ n) = redP h n := rfl

theorem u64i (n : Nat) (h : n ≤ 1000000000000) : IntKind.u64.wrap ((n : Nat) : Int) = (n : Int) := IntWalk.u64_in _ ⟨by omega, by omega⟩

theorem sp_ref_Signs (fu d : Nat) (hf : 18446744073709551616 ≤ fu) (a : List Int) (hn : a.length ≤ 1000000000000) :
    cl fu (d + 2) fn_synopticref39_Signs [V.c (C.sl a.length (ints a))] [] = some (out3 (signsR a)) := by
  unfold signsR
  rw [eq_synopticref39_Signs, sp_Small fu d hf a hn]
  by_cases h1 : a.length ≤ 12
  · by_cases h2 : a.any outB = true
    · rw [if_neg (by simp [h2]), h2, show decide ((a.length : Int) > 12) = false from decide_eq_false (by omega)]
      rfl
    · have h2 : a.any outB = false := by simpa using h2
      have hs := small_of h2
      have hp := Nat.two_pow_pos a.length
      have hp2 : (2 : Nat) ^ a.length ≤ 2 ^ 12 := Nat.pow_le_pow_right (by omega) h1
      have hp2 : (2 : Nat) ^ a.length ≤ 4096 := hp2
      have hsum := small_sum hs
      have hm0 : (a.length : Int) ≥ 0 := by omega
      rw [if_pos ⟨h1, h2⟩, h2, show decide ((a.length : Int) > 12) = false from decide_eq_false (by omega)]
      simp only [cf, obs, rC_c, asB_bool, Bool.not_false, Bool.not_true, u64i a.length hn, show decide ((a.length : Int) < 0) = false from decide_eq_false (by omega), need_true, Int.toNat_natCast, two_pow_i64 a.length (by omega)]
      rw [show ((0 : Int), (0 : Int), ((0 : Int), (0 : Int), ()), ()) = (fun j : Nat => ((a.take j).sum, (j : Int), ((0 : Int), (0 : Int), ()), ())) 0 by simp, iter_run (fun j : Nat => ((a.take j).sum, (j : Int), ((0 : Int), (0 : Int), ()), ())) 0 (a.sum, (a.length : Int), ((0 : Int), (0 : Int), ()), ()) a.length 0 fu ?_ ?_ (by omega)]
      · simp only [obs]
        rw [show ((0 : Int), (0 : Int), ((0 : Int), (0 : Int), ()), ()) = (fun m : Nat => ((((List.range m).countP fun c => decide ((csum a (2 ^ a.length - 1)).natAbs ≤ dev a c) : Nat) : Int), (m : Int), ((0 : Int), (0 : Int), ()), ())) 0 by simp, iter_run (fun m : Nat => ((((List.range m).countP fun c => decide ((csum a (2 ^ a.length - 1)).natAbs ≤ dev a c) : Nat) : Int), (m : Int), ((0 : Int), (0 : Int), ()), ())) 0 ((((List.range (2 ^ a.length)).countP fun c => decide ((csum a (2 ^ a.length - 1)).natAbs ≤ dev a c) : Nat) : Int), ((2 ^ a.length : Nat) : Int), ((0 : Int), (0 : Int), ()), ()) (2 ^ a.length) 0 fu ?_ ?_ (by omega)]
        · have hh : hits a ≤ 2 ^ a.length := by
            have := List.countP_le_length (p := fun c => decide ((csum a (2 ^ a.length - 1)).natAbs ≤ dev a c)) (l := List.range (2 ^ a.length))
            simpa [hits] using this
          simp only [obs]
          rw [show (List.range (2 ^ a.length)).countP (fun c => decide ((csum a (2 ^ a.length - 1)).natAbs ≤ dev a c)) = hits a from rfl, sp_ref_Reduce_nat fu _ hf (hits a) (2 ^ a.length) hh hp (by omega), redI_pow]
          simp [out3]
        · intro m _ hm
          have hm : m < 2 ^ a.length := by omega
          have hc : ((List.range m).countP fun c => decide ((csum a (2 ^ a.length - 1)).natAbs ≤ dev a c)) ≤ m := by
            have := List.countP_le_length (p := fun c => decide ((csum a (2 ^ a.length - 1)).natAbs ≤ dev a c)) (l := List.range m)
            simpa using this
          simp only [lt_yes (show (m : Int) < ((2 ^ a.length : Nat) : Int) by omega), ct]
          have hz : ((0 : Int), (0 : Int), ((0 : Int), (0 : Int), ()), ()) = (fun j : Nat => ((flipS (a.take j) m).sum, (j : Int), ((0 : Int), (0 : Int), ()), ())) 0 := by simp [flipS]
          rw [hz, iter_run (fun j : Nat => ((flipS (a.take j) m).sum, (j : Int), ((0 : Int), (0 : Int), ()), ())) 0 ((flipS a m).sum, (a.length : Int), ((0 : Int), (0 : Int), ()), ()) a.length 0 fu ?_ ?_ (by omega)]
          · have hfs := small_sum (flipS_small hs m)
            rw [flipS_length] at hfs
            simp only [obs]
            rw [sp_size _ _ _ ⟨by omega, by omega⟩, sp_size _ _ _ ⟨by omega, by omega⟩]
            simp only [obs, rC_c, asI_int]
            rw [countP_range_succ, IntWalk.i64_in ((m : Int) + 1) ⟨by omega, by omega⟩]
            have hd : decide (((flipS a m).sum.natAbs : Int) ≥ (a.sum.natAbs : Int)) = decide ((csum a (2 ^ a.length - 1)).natAbs ≤ dev a m) := by
              rw [dev_eq, csum_full]
              by_cases h : a.sum.natAbs ≤ (flipS a m).sum.natAbs
              · rw [decide_eq_true h, decide_eq_true (by omega)]
              · rw [decide_eq_false h, decide_eq_false (by omega)]
            rw [hd]
            cases decide ((csum a (2 ^ a.length - 1)).natAbs ≤ dev a m) with
            | true =>
              simp only [ct, if_true]
              rw [IntWalk.i64_in _ ⟨by omega, by omega⟩]
              rfl
            | false => rfl
          · intro j _ hj
            have hj : j < a.length := by omega
            have hx := hs a[j] (List.getElem_mem hj)
            have hfs := small_sum (flipS_small (small_take hs j) m)
            rw [flipS_length, List.length_take, Nat.min_eq_left (Nat.le_of_lt hj)] at hfs
            simp only [lt_yes (show (j : Int) < (a.length : Int) by omega), ct, inR_nat hj, need_true, Int.toNat_natCast, Nat.mul_one, unc_ik hj, asI_int, u64i j (by omega), show decide ((j : Int) < 0) = false from decide_eq_false (by omega), Bool.not_false, bd_eq]
            rw [show min j (IntKind.bits .i64) = j by simp [IntKind.bits]; omega, fdiv_pow, andoneI, flipS_snoc a m j hj, IntWalk.i64_in ((j : Int) + 1) ⟨by omega, by omega⟩]
            by_cases hbit : m / 2 ^ j % 2 = 1
            · rw [hbit, if_pos rfl, IntWalk.i64_in ((flipS (a.take j) m).sum - a[j]) ⟨by omega, by omega⟩]
              simp
              omega
            · rw [if_neg hbit]
              have : (((m / 2 ^ j % 2 : Nat) : Int) == 1) = false := by rw [beq_eq_false_iff_ne]; omega
              rw [this, IntWalk.i64_in ((flipS (a.take j) m).sum + a[j]) ⟨by omega, by omega⟩]
              simp
          · simp
        · simp
      · intro j _ hj
        have hj : j < a.length := by omega
        have hx := hs a[j] (List.getElem_mem hj)
        have hb := small_sum (small_take hs j)
        rw [List.length_take, Nat.min_eq_left (Nat.le_of_lt hj)] at hb
        simp only [lt_yes (show (j : Int) < (a.length : Int) by omega), ct, inR_nat hj, need_true, Int.toNat_natCast, Nat.mul_one, unc_ik hj, asI_int]
        rw [IntWalk.i64_in ((j : Int) + 1) ⟨by omega, by omega⟩, IntWalk.i64_in ((a.take j).sum + a[j]) ⟨by omega, by omega⟩, sum_take a j hj]
        rfl
      · simp
  · rw [if_neg (by omega), show decide ((a.length : Int) > 12) = true from decide_eq_true (by omega)]
    rfl

end Go.Proofs.Ytepjbmlhfhahcaa
