/- The document's test of two samples. -/
import Derived.Test.YtepjbmlhfhahcaaTc
set_option linter.unusedVariables false
set_option linter.unusedSimpArgs false
namespace Go.Proofs.Ytepjbmlhfhahcaa
open Go Go.PM

/-- The sum of the elements at the first k places of the first j. -/
theorem sum_pre (a b : List Int) (j : Nat) (hj : j < (a ++ b).length) : (a.take (j + 1)).sum = (a.take j).sum + if j < a.length then (a ++ b)[j] else 0 := by
  by_cases h : j < a.length
  · rw [if_pos h, sum_take a j h, List.getElem_append_left h]
  · rw [if_neg h, List.take_of_length_le (by omega), List.take_of_length_le (by omega)]; omega

theorem sp_ref_Exchange (fu d : Nat) (hf : 18446744073709551616 ≤ fu) (a b : List Int) (ha : a.length ≤ 100) (hb : b.length ≤ 100) :
    cl fu (d + 2) fn_synopticref39_Exchange [V.c (C.sl a.length (ints a)), V.c (C.sl b.length (ints b))] [] = some (out3 (exchR a b)) := by
  unfold exchR
  rw [eq_synopticref39_Exchange]
  have hl : a.length ≤ (a ++ b).length := by simp
  have hlen : (a ++ b).length ≤ 200 := by simp; omega
  have hpre := sum_pre a b
  have hsm : ∀ j, small (a ++ b) → small (a.take j) := fun j h x hx => h x (List.mem_append_left _ (List.mem_of_mem_take hx))
  have hways := ways_pos a b
  have hab : a.length + b.length = (a ++ b).length := by simp
  simp only [Nat.mul_one, ik_length, beqN_self, need_true, Bool.and_self, Bool.and_true, ← ik_append, Nat.zero_add, hab, bleN_le (show a.length * 8 ≤ 140737488355328 by omega), bleN_le (show a.length ≤ 140737488355328 by omega), bleN_le (show (a ++ b).length * 8 ≤ 140737488355328 by omega), bleN_le (show (a ++ b).length ≤ 140737488355328 by omega), bleN_le (Nat.le_refl _), ik_take, List.take_length]
  rw [sp_Small fu _ hf (a ++ b) (by omega)]
  generalize a ++ b = l at *
  by_cases h1 : l.length ≤ 12
  · rw [show decide ((l.length : Int) > 12) = false from decide_eq_false (by omega)]
    simp only [cf]
    by_cases h2 : l.any outB = true
    · rw [if_neg (by simp [h2]), h2]
      rfl
    · have h2 : l.any outB = false := by simpa using h2
      have hs := small_of h2
      rw [if_pos ⟨h1, h2⟩, h2]
      have hp := Nat.two_pow_pos l.length
      have hp2 : (2 : Nat) ^ l.length ≤ 2 ^ 12 := Nat.pow_le_pow_right (by omega) h1
      have hp2 : (2 : Nat) ^ l.length ≤ 4096 := hp2
      have hT := small_sum hs
      simp only [obs, rC_c, asB_bool, cf, Bool.not_false, Bool.not_true, need_true, u64i l.length (by omega), show decide ((l.length : Int) < 0) = false from decide_eq_false (by omega), Int.toNat_natCast, two_pow_i64 l.length (by omega), bd_eq]
      rw [show ((0 : Int), (0 : Int), (0 : Int), ((0 : Int), (0 : Int), ()), ()) = (fun j : Nat => ((l.take j).sum, (a.take j).sum, (j : Int), ((0 : Int), (0 : Int), ()), ())) 0 by simp, iter_run (fun j : Nat => ((l.take j).sum, (a.take j).sum, (j : Int), ((0 : Int), (0 : Int), ()), ())) 0 (l.sum, a.sum, (l.length : Int), ((0 : Int), (0 : Int), ()), ()) l.length 0 fu ?_ ?_ (by omega)]
      · simp only [obs]
        have hA : -12000000 ≤ a.sum ∧ a.sum ≤ 12000000 := by
          have hsa := hsm a.length hs
          rw [List.take_length] at hsa
          have := small_sum hsa
          omega
        obtain ⟨⟨b1, b2⟩, b3, b4⟩ := dist_bound (T := l.sum) (s := a.sum) h1 hl ⟨by omega, by omega⟩ hA
        rw [IntWalk.i64_in (a.sum * (l.length : Int)) ⟨by omega, by omega⟩, IntWalk.i64_in (l.sum * (a.length : Int)) ⟨by omega, by omega⟩, IntWalk.i64_in (a.sum * (l.length : Int) - l.sum * (a.length : Int)) ⟨by omega, by omega⟩, sp_size _ _ _ ⟨by omega, by omega⟩]
        simp only [obs, rC_c, asI_int]
        rw [show (a.sum * (l.length : Int) - l.sum * (a.length : Int)).natAbs = dist l.length a.length l.sum a.sum from rfl]
        generalize hw : dist l.length a.length l.sum a.sum = w
        rw [show ((0 : Int), (0 : Int), (0 : Int), ((0 : Int), (0 : Int), ()), ()) = (fun m : Nat => (((wayh l a.length w m : Nat) : Int), ((ways l a.length m : Nat) : Int), (m : Int), ((0 : Int), (0 : Int), ()), ())) 0 from rfl, iter_run (fun m : Nat => (((wayh l a.length w m : Nat) : Int), ((ways l a.length m : Nat) : Int), (m : Int), ((0 : Int), (0 : Int), ()), ())) 0 (((wayh l a.length w (2 ^ l.length) : Nat) : Int), ((ways l a.length (2 ^ l.length) : Nat) : Int), ((2 ^ l.length : Nat) : Int), ((0 : Int), (0 : Int), ()), ()) (2 ^ l.length) 0 fu ?_ ?_ (by omega)]
        · simp only [obs]
          have hwl := ways_le l a.length (2 ^ l.length)
          rw [sp_ref_Reduce_nat fu _ hf _ _ (wayh_le l a.length w (2 ^ l.length)) hways (by omega)]
          simp [out3]
        · intro m _ hm
          have hm : m < 2 ^ l.length := by omega
          have hpc := popc_le l.length m
          have w1 := wayh_le l a.length w m
          have w2 := ways_le l a.length m
          simp only [lt_yes (show (m : Int) < ((2 ^ l.length : Nat) : Int) by omega), ct]
          have hz : ((0 : Int), (0 : Int), (0 : Int), ((0 : Int), (0 : Int), ()), ()) = (fun j : Nat => (((popc j m : Nat) : Int), csum (l.take j) m, (j : Int), ((0 : Int), (0 : Int), ()), ())) 0 := by simp [popc, csum]
          rw [hz, iter_run (fun j : Nat => (((popc j m : Nat) : Int), csum (l.take j) m, (j : Int), ((0 : Int), (0 : Int), ()), ())) 0 (((popc l.length m : Nat) : Int), csum l m, (l.length : Int), ((0 : Int), (0 : Int), ()), ()) l.length 0 fu ?_ ?_ (by omega)]
          · have hc := csum_bound l m hs
            obtain ⟨⟨c1, c2⟩, c3, c4⟩ := dist_bound (T := l.sum) (s := csum l m) h1 hl ⟨by omega, by omega⟩ ⟨by omega, by omega⟩
            simp only [obs]
            rw [bneN, ways_succ, wayh_succ, IntWalk.i64_in ((m : Int) + 1) ⟨by omega, by omega⟩, IntWalk.i64_in (csum l m * (l.length : Int)) ⟨by omega, by omega⟩, IntWalk.i64_in (csum l m * (l.length : Int) - l.sum * (a.length : Int)) ⟨by omega, by omega⟩, sp_size _ _ _ ⟨by omega, by omega⟩]
            rw [show (csum l m * (l.length : Int) - l.sum * (a.length : Int)).natAbs = dist l.length a.length l.sum (csum l m) from rfl]
            cases hq : popc l.length m == a.length with
            | false => rfl
            | true =>
              simp only [Bool.not_true, cf, obs, rC_c, asI_int, decide_natAbs, Bool.true_and, if_true]
              rw [IntWalk.i64_in (((wayh l a.length w m : Nat) : Int) + 1) ⟨by omega, by omega⟩, IntWalk.i64_in (((ways l a.length m : Nat) : Int) + 1) ⟨by omega, by omega⟩]
              cases decide (w ≤ dist l.length a.length l.sum (csum l m)) <;> rfl
          · intro j _ hj
            have hj : j < l.length := by omega
            have hx := hs l[j] (List.getElem_mem hj)
            have hcj := csum_bound (l.take j) m (small_take hs j)
            rw [List.length_take, Nat.min_eq_left (Nat.le_of_lt hj)] at hcj
            have hpj := popc_le j m
            simp only [lt_yes (show (j : Int) < (l.length : Int) by omega), ct, inR_nat hj, need_true, Int.toNat_natCast, unc_ik hj, asI_int, u64i j (by omega), show decide ((j : Int) < 0) = false from decide_eq_false (by omega), Bool.not_false]
            rw [show min j (IntKind.bits .i64) = j by simp [IntKind.bits]; omega, fdiv_pow, andoneI, popc_succ, csum_take l m j hj, IntWalk.i64_in ((j : Int) + 1) ⟨by omega, by omega⟩]
            by_cases hbit : m / 2 ^ j % 2 = 1
            · rw [hbit, if_pos rfl, IntWalk.i64_in (((popc j m : Nat) : Int) + 1) ⟨by omega, by omega⟩, IntWalk.i64_in (csum (l.take j) m + l[j]) ⟨by omega, by omega⟩]
              simp
            · rw [if_neg hbit]
              have e0 : m / 2 ^ j % 2 = 0 := by omega
              rw [e0]
              simp
          · simp
        · simp
      · intro j _ hj
        have hj : j < l.length := by omega
        have hx := hs l[j] (List.getElem_mem hj)
        have hb1 := small_sum (small_take hs j)
        rw [List.length_take, Nat.min_eq_left (Nat.le_of_lt hj)] at hb1
        have hb2 := small_sum (hsm j hs)
        rw [List.length_take] at hb2
        simp only [lt_yes (show (j : Int) < (l.length : Int) by omega), ct, inR_nat hj, need_true, Int.toNat_natCast, unc_ik hj, asI_int]
        rw [IntWalk.i64_in ((j : Int) + 1) ⟨by omega, by omega⟩, IntWalk.i64_in ((l.take j).sum + l[j]) ⟨by omega, by omega⟩, sum_take l j hj, hpre j hj]
        by_cases hja : j < a.length
        · rw [decide_eq_true (show (j : Int) < (a.length : Int) by omega), if_pos hja, IntWalk.i64_in ((a.take j).sum + l[j]) ⟨by omega, by omega⟩]
          rfl
        · rw [decide_eq_false (show ¬ (j : Int) < (a.length : Int) by omega), if_neg hja, Int.add_zero]
          rfl
      · rw [Nat.zero_add, List.take_length, List.take_of_length_le hl]
        simp
  · rw [if_neg (by omega), show decide ((l.length : Int) > 12) = true from decide_eq_true (by omega)]
    rfl

end Go.Proofs.Ytepjbmlhfhahcaa
