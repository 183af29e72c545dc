/- What the statement that the test of signs is exact comes to: true, at any bytes. -/
import Derived.Test.YtepjbmlhfhahcaaSd
import Derived.Test.YtepjbmlhfhahcaaSe
set_option linter.unusedVariables false
set_option linter.unusedSimpArgs false
namespace Go.Proofs.Ytepjbmlhfhahcaa
open Go Go.PM

theorem sp_awake (fu d : Nat) (hf : 18446744073709551616 ≤ fu) : cl fu (d + 8) fn_synopticlaw39_awake [] [] = some ⟨B true, [], none⟩ := by
  rw [eq_synopticlaw39_awake]
  have h := sp_Signs fu d hf [1, 1, 1] (by decide) (by intro x hx; simp at hx; omega)
  have e : redP (hits [1, 1, 1]) ([1, 1, 1] : List Int).length = (1, 4) := by decide
  rw [e] at h
  have h' : cl fu (d + 7) fn_sampling_Signs [V.c (C.sl 3 ([C.v (.int .i64 1), C.v (.int .i64 1), C.v (.int .i64 1)]))] [] = some ⟨V.tup [V.agg [C.v (.int .i64 1), C.v (.int .i64 4)], I 0], [], none⟩ := h
  rw [h']
  simp

theorem flipS_snoc (a : List Int) (m j : Nat) (h : j < a.length) : flipS (a.take (j + 1)) m = flipS (a.take j) m ++ [if m / 2 ^ j % 2 = 1 then -a[j] else a[j]] := by
  induction a generalizing m j with
  | nil => simp at h
  | cons x r ih =>
    cases j with
    | zero => simp [flipS]
    | succ j =>
      simp only [List.take_succ_cons, flipS, List.getElem_cons_succ, List.cons_append]
      rw [ih (m / 2) j (by simpa using h), Nat.div_div_eq_div_mul, show 2 * 2 ^ j = 2 ^ (j + 1) by rw [Nat.pow_succ]; omega]
/-- The sample as it is when j signs are set. -/
def mix (a : List Int) (m j : Nat) : List Int := flipS (a.take j) m ++ a.drop j
theorem mix_length (a : List Int) (m j : Nat) : (mix a m j).length = a.length := by simp [mix]; omega
theorem mix_zero (a : List Int) (m : Nat) : mix a m 0 = a := by simp [mix, flipS]
theorem mix_full (a : List Int) (m : Nat) : mix a m a.length = flipS a m := by simp [mix]
theorem mix_get (a : List Int) (m j : Nat) (h : j < a.length) : (mix a m j)[j]'(by rw [mix_length]; exact h) = a[j] := by
  unfold mix
  rw [List.getElem_append_right (by simp; omega)]
  simp [Nat.min_eq_left (Nat.le_of_lt h)]
theorem mix_succ (a : List Int) (m j : Nat) (h : j < a.length) : mix a m (j + 1) = if m / 2 ^ j % 2 = 1 then (mix a m j).set j (-a[j]) else mix a m j := by
  unfold mix
  rw [flipS_snoc a m j h, List.drop_eq_getElem_cons h, List.append_assoc]
  split
  · rw [List.set_append_right _ _ (by simp; omega)]
    simp [Nat.min_eq_left (Nat.le_of_lt h)]
    rw [List.drop_eq_getElem_cons h]
    rfl
  · rfl

theorem sp_New (fu d : Nat) (bs : List Int) (k : Nat) : cl fu (d + 1) fn_synopticfield_New [V.c (C.sl bs.length (ik .u8 bs)), I (k : Int)] [] = some ⟨V.ptr 1000000 0, [codesO (bs.take k) 0], none⟩ := by
  rw [eq_synopticfield_New]
  unfold codesO codesC
  by_cases h : bs.length > k
  · rw [decide_eq_true (show (bs.length : Int) > (k : Int) by omega)]
    simp only [ct, decide_eq_true (show (0 : Int) ≤ (k : Int) by omega), decide_eq_true (show (k : Int) ≤ (bs.length : Int) by omega), Bool.and_self, need_true, Int.toNat_natCast, Nat.mul_one, ik_take, List.length_take, Nat.min_eq_left (Nat.le_of_lt h)]
    rfl
  · rw [decide_eq_false (show ¬ (bs.length : Int) > (k : Int) by omega), show bs.take k = bs from List.take_of_length_le (by omega)]
    rfl

/-- The flips of one choice. -/
theorem sp_flips (fu : Nat) (hf : 18446744073709551616 ≤ fu) (a : List Int) (hs : small a) (hn : a.length ≤ 60) (fs : List (Int × Int)) (m : Nat) :
    iter (fun (y1 : List C × List C × Int × Unit) =>
            bif decide (y1.2.2.1 < ((a.length : Nat) : Int)) then
              need (!(decide (IntKind.u64.wrap y1.2.2.1 < 0))) <|
              bd (IntKind.i64.wrap (BitVec.ofInt (IntKind.bits .i64) (Int.fdiv (m : Int) (2 ^ (min (IntKind.u64.wrap y1.2.2.1).toNat (IntKind.bits .i64)))) &&& BitVec.ofInt (IntKind.bits .i64) 1).toNat) fun z =>
              bif z == 1 then
                need (inR y1.2.2.1 (y1.2.1.length / 1)) <|
                unc (List.drop (0 + (y1.2.2.1.toNat * 1)) y1.2.1) fun c6 _ =>
                asI .i64 c6 fun i2 =>
                need (inR y1.2.2.1 (y1.2.1.length / 1)) <|
                need (((Nat.ble 0 (0 + (y1.2.2.1.toNat * 1))) && (Nat.ble ((0 + (y1.2.2.1.toNat * 1)) + 1) y1.2.1.length)) && true) <|
                need (((Nat.beq ((y1.1.length / 2) * 2) y1.1.length) && true) && true) <|
                need (((Nat.beq ((y1.2.1.length / 1) * 1) ((putAt y1.2.1 (0 + (y1.2.2.1.toNat * 1)) ([C.v (.int .i64 (IntKind.i64.wrap (0 - i2)))])).length)) && true) && true) <|
                some (0, (y1.1, putAt y1.2.1 (0 + (y1.2.2.1.toNat * 1)) ([C.v (.int .i64 (IntKind.i64.wrap (0 - i2)))]), IntKind.i64.wrap (y1.2.2.1 + 1), ()))
              else
                need (((Nat.beq ((y1.1.length / 2) * 2) y1.1.length) && true) && true) <|
                need (((Nat.beq ((y1.2.1.length / 1) * 1) y1.2.1.length) && true) && true) <|
                some (0, (y1.1, y1.2.1, IntKind.i64.wrap (y1.2.2.1 + 1), ()))
            else
              need (((Nat.beq ((y1.1.length / 2) * 2) y1.1.length) && true) && true) <|
              need (((Nat.beq ((y1.2.1.length / 1) * 1) y1.2.1.length) && true) && true) <|
              some (1, (y1.1, y1.2.1, y1.2.2.1, ()))) fu (prs fs, ints a, 0, ()) = some (0, (prs fs, ints (flipS a m), (a.length : Int), ())) := by
  have hdiv : Nat.beq (fs.length * 2 / 2 * 2) (fs.length * 2) = true := beqN_eq (by omega)
  rw [show (prs fs, ints a, (0 : Int), ()) = (fun j : Nat => (prs fs, ints (mix a m j), (j : Int), ())) 0 by simp [mix_zero], iter_run (fun j : Nat => (prs fs, ints (mix a m j), (j : Int), ())) 0 (prs fs, ints (flipS a m), (a.length : Int), ()) a.length 0 fu ?_ ?_ (by omega)]
  · intro j _ hj
    have hj : j < a.length := by omega
    have hx := hs a[j] (List.getElem_mem hj)
    have hm : j < (mix a m j).length := by rw [mix_length]; exact hj
    simp only [lt_yes (show (j : Int) < (a.length : Int) by omega), ct, IntWalk.u64_in (j : Int) ⟨by omega, by omega⟩, show decide ((j : Int) < 0) = false from decide_eq_false (by omega), Bool.not_false, need_true, Int.toNat_natCast, bd_eq, show min j (IntKind.bits .i64) = j by simp [IntKind.bits]; omega, fdiv_pow, andoneI, prs_length, ik_length, mix_length, Nat.div_one, Nat.mul_one, Nat.zero_add, hdiv, beqN_self, Bool.and_self, inR_nat hj, unc_ik hm, mix_get a m j hj, asI_int, Bool.and_true, bleN_le (Nat.zero_le j), bleN_le (Nat.succ_le_of_lt hj)]
    rw [IntWalk.i64_in ((j : Int) + 1) ⟨by omega, by omega⟩, IntWalk.i64_in (0 - a[j]) ⟨by omega, by omega⟩, ik_put hm, mix_succ a m j hj]
    by_cases hbit : m / 2 ^ j % 2 = 1
    · rw [hbit]
      simp only [ik_length, List.length_set, mix_length, beqN_self, need_true, if_true, show (((1 : Nat) : Int) == 1) = true from rfl, ct, show (0 : Int) - a[j] = -a[j] by omega]
      rfl
    · rw [if_neg hbit, show (((m / 2 ^ j % 2 : Nat) : Int) == 1) = false by rw [beq_eq_false_iff_ne]; omega]
      rfl
  · simp only [Nat.zero_add, show decide ((a.length : Int) < (a.length : Int)) = false from decide_eq_false (by omega), cf, prs_length, ik_length, mix_length, Nat.div_one, Nat.mul_one, hdiv, beqN_self, Bool.and_self, need_true, mix_full]

end Go.Proofs.Ytepjbmlhfhahcaa
