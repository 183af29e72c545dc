/- What the parts of the test of two samples come to: joined slices, numbers of bits, the document's own checks. -/
import Derived.Test.YtepjbmlhfhahcaaSf
set_option linter.unusedVariables false
set_option linter.unusedSimpArgs false
namespace Go.Proofs.Ytepjbmlhfhahcaa
open Go Go.PM

theorem sp_Grow_nil (fu d n : Nat) (hn : n ≤ 1000) : cl fu (d + 1) fn_slices_Grow_sint_int [V.c C.nl, I (n : Int)] [] = some ⟨V.own 1000000 0 0, [.sb ty_int 0 []], none⟩ := by
  rw [eqn0_slices_Grow_sint_int]
  simp only [show decide ((n : Int) < 0) = false from decide_eq_false (by omega), cf, obs, show (n : Int) - 0 = n by omega, IntWalk.i64_in (n : Int) ⟨by omega, by omega⟩]
  by_cases h : n = 0
  · subst h; rfl
  · simp only [show decide ((n : Int) > 0) = true from decide_eq_true (by omega), ct, show decide ((0 : Int) < (n : Int)) = true from decide_eq_true (by omega), show decide ((8 : Int) * n ≤ 140737488355328) = true from decide_eq_true (by omega), show decide ((n : Int) ≤ 140737488355328) = true from decide_eq_true (by omega), Bool.and_self, need_true, show decide ((0 : Int) ≤ (((n : Int).toNat : Nat) : Int)) = true from decide_eq_true (by omega), bleN_le (Nat.zero_le _), List.take_zero]

theorem sp_Concat (fu d : Nat) (hf : 18446744073709551616 ≤ fu) (a b : List Int) (ha : a.length ≤ 100) (hb : b.length ≤ 100) :
    cl fu (d + 2) fn_slices_Concat_sint_int [V.c (C.sl 2 [C.sl a.length (ints a), C.sl b.length (ints b)])] [] = some ⟨V.c (C.sl (a ++ b).length (ints (a ++ b))), [], none⟩ := by
  obtain ⟨fu, rfl⟩ : ∃ n, fu = n + 3 := ⟨fu - 3, by omega⟩
  rw [eq_slices_Concat_sint_int]
  rw [iter_next (z := ((a.length : Int), 1, ())) (by
    simp only [show decide ((0 : Int) < ((2 : Nat) : Int)) = true from rfl, ct, show inR (0 : Int) 2 = true from rfl, need_true, show (0 : Int).toNat * 1 = 0 from rfl, List.drop_zero, unc_cons, asSl_sl]
    rw [IntWalk.i64_in (0 + (a.length : Int)) ⟨by omega, by omega⟩, show decide ((0 : Int) + (a.length : Int) < 0) = false from decide_eq_false (by omega)]
    simp only [cf, Int.zero_add, show IntKind.i64.wrap 1 = 1 from rfl]),
    iter_next (z := (((a.length + b.length : Nat) : Int), 2, ())) (by
    simp only [show decide ((1 : Int) < ((2 : Nat) : Int)) = true from rfl, ct, show inR (1 : Int) 2 = true from rfl, need_true, show (1 : Int).toNat * 1 = 1 from rfl, List.drop_succ_cons, List.drop_zero, unc_cons, asSl_sl]
    rw [IntWalk.i64_in ((a.length : Int) + (b.length : Int)) ⟨by omega, by omega⟩, show decide ((a.length : Int) + (b.length : Int) < 0) = false from decide_eq_false (by omega)]
    simp only [cf, show IntKind.i64.wrap (1 + 1) = 2 from rfl, Int.natCast_add]),
    iter_one (e := 0) (z := (((a.length + b.length : Nat) : Int), 2, ())) (by omega) (by simp)]
  simp only [obs]
  rw [sp_Grow_nil _ _ _ (by omega)]
  simp only [obs, rW_own, uncO_cons, rS_sb, beqN_self, show Nat.beq 1000000 (OUT + 0) = true from rfl, Bool.and_self, need_true, Nat.mul_one, List.length_nil]
  rw [iter_next (z := (ints a, 1, ())) (by
    simp only [show decide ((0 : Int) < ((2 : Nat) : Int)) = true from rfl, ct, show inR (0 : Int) 2 = true from rfl, need_true, Int.toNat_zero, List.drop_zero, unc_cons, asSl_sl, ik_length, beqN_self, List.length_nil, Nat.zero_div, Nat.zero_mul, Nat.mul_one, Nat.div_one, Bool.and_self, Bool.and_true, Nat.zero_add, bleN_le (show a.length * 8 ≤ 140737488355328 by omega), bleN_le (show a.length ≤ 140737488355328 by omega), List.nil_append, show IntKind.i64.wrap (0 + 1) = 1 from rfl]),
    iter_next (z := (ints (a ++ b), 2, ())) (by
    simp only [show decide ((1 : Int) < ((2 : Nat) : Int)) = true from rfl, ct, show inR (1 : Int) 2 = true from rfl, need_true, show (1 : Int).toNat = 1 from rfl, List.drop_succ_cons, List.drop_zero, unc_cons, asSl_sl, ik_length, Bool.and_true, beqN_self, Nat.mul_one, Nat.div_one, Bool.and_self, bleN_le (show (a.length + b.length) * 8 ≤ 140737488355328 by omega), bleN_le (show a.length + b.length ≤ 140737488355328 by omega), ← ik_append, List.length_append, show IntKind.i64.wrap (1 + 1) = 2 from rfl]),
    iter_one (e := 0) (z := (ints (a ++ b), 2, ())) (by omega) (by simp)]
  simp only [obs, ik_length, Nat.div_one, Nat.mul_one, Nat.zero_add, bleN_le (Nat.le_refl _), need_true, ik_take, List.take_length]

/-- How many of the first n bits are set. -/
def popc : Nat → Nat → Nat
  | 0, _ => 0
  | n + 1, m => m % 2 + popc n (m / 2)
theorem popc_le (n m : Nat) : popc n m ≤ n := by
  induction n generalizing m with
  | zero => exact Nat.le_refl 0
  | succ n ih => have := ih (m / 2); simp only [popc]; omega
theorem popc_zero (n : Nat) : popc n 0 = 0 := by
  induction n with
  | zero => rfl
  | succ n ih => simp [popc, ih]
theorem popc_add (n k m : Nat) : popc (n + k) m = popc n m + popc k (m / 2 ^ n) := by
  induction n generalizing m with
  | zero => simp [popc]
  | succ n ih =>
    rw [show n + 1 + k = n + k + 1 by omega]
    simp only [popc]
    rw [ih (m / 2), Nat.div_div_eq_div_mul, show 2 * 2 ^ n = 2 ^ (n + 1) by rw [Nat.pow_succ]; omega]
    omega
theorem popc_succ (n m : Nat) : popc (n + 1) m = popc n m + m / 2 ^ n % 2 := by
  rw [popc_add n 1 m]; simp [popc]
theorem popc_small {n k m : Nat} (h : m < 2 ^ n) : popc (n + k) m = popc n m := by
  rw [popc_add, Nat.div_eq_of_lt h, popc_zero, Nat.add_zero]

/-- What the library does to count bits. -/
def onesI (a0 : Int) : Int :=
  let z := IntKind.u64.wrap (BitVec.ofInt (IntKind.bits .u64) (Int.fdiv a0 (2 ^ 1)) &&& BitVec.ofInt (IntKind.bits .u64) 6148914691236517205).toNat
  let z1 := IntKind.u64.wrap (z + (IntKind.u64.wrap (BitVec.ofInt (IntKind.bits .u64) a0 &&& BitVec.ofInt (IntKind.bits .u64) 6148914691236517205).toNat))
  let z2 := IntKind.u64.wrap (BitVec.ofInt (IntKind.bits .u64) (Int.fdiv z1 (2 ^ 2)) &&& BitVec.ofInt (IntKind.bits .u64) 3689348814741910323).toNat
  let z3 := IntKind.u64.wrap (z2 + (IntKind.u64.wrap (BitVec.ofInt (IntKind.bits .u64) z1 &&& BitVec.ofInt (IntKind.bits .u64) 3689348814741910323).toNat))
  let z4 := IntKind.u64.wrap (BitVec.ofInt (IntKind.bits .u64) (IntKind.u64.wrap ((Int.fdiv z3 (2 ^ 4)) + z3)) &&& BitVec.ofInt (IntKind.bits .u64) 1085102592571150095).toNat
  let z5 := IntKind.u64.wrap ((IntKind.u64.wrap (z4 + (Int.fdiv z4 (2 ^ 8)))) + (Int.fdiv (IntKind.u64.wrap (z4 + (Int.fdiv z4 (2 ^ 8)))) (2 ^ 16)))
  IntKind.i64.wrap (BitVec.ofInt (IntKind.bits .i64) (IntKind.i64.wrap (IntKind.u64.wrap (z5 + (Int.fdiv z5 (2 ^ 32))))) &&& BitVec.ofInt (IntKind.bits .i64) 127).toNat
theorem ones_all : ((List.range 4096).all fun x => onesI (x : Int) == ((popc 12 x : Nat) : Int)) = true := by decide +kernel
theorem sp_OnesCount (fu d n m : Nat) (hn : n ≤ 12) (hm : m < 2 ^ n) : cl fu (d + 2) fn_bits_OnesCount [V.c (C.v (.int .u64 (m : Int)))] [] = some ⟨I ((popc n m : Nat) : Int), [], none⟩ := by
  have h2 : (2 : Nat) ^ n ≤ 2 ^ 12 := Nat.pow_le_pow_right (by omega) hn
  have h2 : (2 : Nat) ^ n ≤ 4096 := h2
  have h := List.all_eq_true.1 ones_all m (by simp; omega)
  have h : onesI (m : Int) = ((popc 12 m : Nat) : Int) := by simpa using h
  have h64 : cl fu (d + 1) fn_bits_OnesCount64 [V.c (C.v (.int .u64 (m : Int)))] [] = some ⟨I (onesI (m : Int)), [], none⟩ := eq_bits_OnesCount64 fu d m
  rw [eq_bits_OnesCount, h64, h, show 12 = n + (12 - n) by omega, popc_small hm]
  simp only [obs, rC_c, asI_int]

theorem sp_size (fu d : Nat) (a : Int) (h : -9223372036854775807 ≤ a ∧ a ≤ 9223372036854775807) : cl fu (d + 1) fn_synopticref39_size [I a] [] = some ⟨I (a.natAbs : Int), [], none⟩ := by
  rw [eq_synopticref39_size, absI a h]

theorem sp_Small (fu d : Nat) (hf : 18446744073709551616 ≤ fu) (a : List Int) (hn : a.length ≤ 1000000000000) :
    cl fu (d + 1) fn_synopticref22_Small [V.c (C.sl a.length (ints a)), I 1000000] [] = some ⟨B (!a.any outB), [], none⟩ := by
  rw [eq_synopticref22_Small]
  have step : ∀ j (hj : j < a.length), (bif decide ((j : Int) < (a.length : Int)) then need (inR (j : Int) a.length) <| unc (List.drop (((j : Int).toNat) * 1) (ints a)) fun c _ => asI .i64 c fun i => bif decide (i > 1000000) then some (2, (false, (j : Int), ())) else need (inR (j : Int) a.length) <| unc (List.drop (((j : Int).toNat) * 1) (ints a)) fun c1 _ => asI .i64 c1 fun i1 => bif decide (i1 < IntKind.i64.wrap (0 - 1000000)) then some (2, (false, (j : Int), ())) else some (0, (false, IntKind.i64.wrap ((j : Int) + 1), ())) else some (1, (false, (j : Int), ()))) = bif outB a[j] then some (2, (false, (j : Int), ())) else some (0, (false, ((j + 1 : Nat) : Int), ())) := by
    intro j hj
    simp only [lt_yes (show (j : Int) < (a.length : Int) by omega), ct, inR_nat hj, need_true, Int.toNat_natCast, Nat.mul_one, unc_ik hj, asI_int, show IntKind.i64.wrap (0 - 1000000) = -1000000 from rfl]
    rw [IntWalk.i64_in ((j : Int) + 1) ⟨by omega, by omega⟩]
    unfold outB
    by_cases h1 : a[j] > 1000000
    · rw [decide_eq_true h1, show decide (a[j] ≤ 1000000) = false from decide_eq_false (by omega), Bool.and_false]
      rfl
    · rw [decide_eq_false h1, show decide (a[j] ≤ 1000000) = true from decide_eq_true (by omega), Bool.and_true]
      by_cases h2 : a[j] < -1000000
      · rw [decide_eq_true h2, show decide (-1000000 ≤ a[j]) = false from decide_eq_false (by omega)]
        rfl
      · rw [decide_eq_false h2, show decide (-1000000 ≤ a[j]) = true from decide_eq_true (by omega)]
        rfl
  by_cases ha : a.any outB = true
  · have hlt : a.findIdx outB < a.length := by
      rw [List.findIdx_lt_length]
      simpa using ha
    rw [show (false, (0 : Int), ()) = (fun j : Nat => (false, (j : Int), ())) 0 from rfl, iter_run (fun j : Nat => (false, (j : Int), ())) 1 (false, (a.findIdx outB : Int), ()) (a.findIdx outB) 0 fu ?_ ?_ (by omega), ha]
    · rfl
    · intro j _ hj
      have hj : j < a.findIdx outB := by omega
      have hq := List.not_of_lt_findIdx hj
      refine (step j (by omega)).trans ?_
      simp [hq]
    · simp only [Nat.zero_add]
      refine (step _ hlt).trans ?_
      rw [List.findIdx_getElem (w := hlt)]
      rfl
  · have ha : a.any outB = false := by simpa using ha
    have hno : ∀ x ∈ a, outB x = false := by simpa using ha
    rw [show (false, (0 : Int), ()) = (fun j : Nat => (false, (j : Int), ())) 0 from rfl, iter_run (fun j : Nat => (false, (j : Int), ())) 0 (false, (a.length : Int), ()) a.length 0 fu ?_ ?_ (by omega), ha]
    · rfl
    · intro j _ hj
      have hj : j < a.length := by omega
      refine (step j hj).trans ?_
      rw [hno _ (List.getElem_mem hj)]
      rfl
    · simp

/-- The document's reduction to lowest terms. -/
theorem sp_ref_Reduce (fu d : Nat) (hf : 18446744073709551616 ≤ fu) (a : Int) (b : Nat) (ha : -1152921504606846976 ≤ a ∧ a ≤ 1152921504606846976) (hb : 0 < b ∧ b ≤ 1152921504606846976) :
    cl fu (d + 1) fn_synopticref38_Reduce [I a, I b] [] = some ⟨V.tup [V.agg [C.v (.int .i64 (a / (Nat.gcd a.natAbs b : Nat))), C.v (.int .i64 ((b / Nat.gcd a.natAbs b : Nat) : Int))], I 0], [], none⟩ := by
  rw [eq_synopticref38_Reduce]
  have hb0 : ((b : Int) == 0) = false := by simp; omega
  have hbn : decide ((b : Int) < 0) = false := decide_eq_false (by omega)
  simp only [hb0, hbn, cf, show decide (a > 1152921504606846976) = false from decide_eq_false (by omega), show decide (a < -1152921504606846976) = false from decide_eq_false (by omega), show decide ((b : Int) > 1152921504606846976) = false from decide_eq_false (by omega), show decide ((b : Int) < -1152921504606846976) = false from decide_eq_false (by omega), obs]
  rw [absI a (by omega), sp_gcd _ _ _ (by omega)]
  have hg : 0 < Nat.gcd a.natAbs b := Nat.gcd_pos_of_pos_right _ hb.1
  have hg' : Nat.gcd a.natAbs b ≤ b := Nat.gcd_le_right _ hb.1
  have hz : (((Nat.gcd a.natAbs b : Nat) : Int) == 0) = false := by simp; omega
  have hd1 : ((Nat.gcd a.natAbs b : Nat) : Int) ∣ a := by
    have := Nat.gcd_dvd_left a.natAbs b
    exact Int.ofNat_dvd_left.2 this
  have e1 : Int.tdiv a ((Nat.gcd a.natAbs b : Nat) : Int) = a / ((Nat.gcd a.natAbs b : Nat) : Int) := Int.tdiv_eq_ediv_of_dvd hd1
  have e2 : Int.tdiv (b : Int) ((Nat.gcd a.natAbs b : Nat) : Int) = ((b / Nat.gcd a.natAbs b : Nat) : Int) := rfl
  have b1 : b / Nat.gcd a.natAbs b ≤ b := Nat.div_le_self _ _
  have b2 : (a / ((Nat.gcd a.natAbs b : Nat) : Int)).natAbs ≤ a.natAbs := by
    rw [Int.natAbs_ediv_of_dvd hd1]
    exact Nat.div_le_self _ _
  simp only [obs, hz, Bool.not_false, need_true, e1, e2]
  generalize a / ((Nat.gcd a.natAbs b : Nat) : Int) = u at *
  generalize b / Nat.gcd a.natAbs b = v at *
  rw [IntWalk.i64_in u ⟨by omega, by omega⟩, IntWalk.i64_in v ⟨by omega, by omega⟩]

end Go.Proofs.Ytepjbmlhfhahcaa
