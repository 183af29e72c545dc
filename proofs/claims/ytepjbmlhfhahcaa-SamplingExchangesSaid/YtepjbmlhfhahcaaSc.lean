/- What the test of signs comes to (the sample within its bounds). -/
import Derived.Test.YtepjbmlhfhahcaaSb
set_option linter.unusedVariables false
set_option linter.unusedSimpArgs false
namespace Go.Proofs.Ytepjbmlhfhahcaa
open Go Go.PM

/-- The sample's sum under the signs of a choice, without its sign. -/
def dev (a : List Int) (c : Nat) : Nat := (csum a (2 ^ a.length - 1) - 2 * csum a c).natAbs
/-- How many choices go as far as the sample itself. -/
def hits (a : List Int) : Nat := (List.range (2 ^ a.length)).countP fun c => decide ((csum a (2 ^ a.length - 1)).natAbs ≤ dev a c)
/-- A part of 2^n in lowest terms. -/
def redP (h n : Nat) : Int × Int := (((h / Nat.gcd h (2 ^ n) : Nat) : Int), ((2 ^ n / Nat.gcd h (2 ^ n) : Nat) : Int))

theorem sp_absolute (fu d : Nat) (a : Int) (h : -9223372036854775807 ≤ a ∧ a ≤ 9223372036854775807) : cl fu (d + 1) fn_sampling_absolute [I a] [] = some ⟨I (a.natAbs : Int), [], none⟩ := by
  rw [eq_sampling_absolute, absI a h]

theorem sp_Reduce_nat (fu d : Nat) (hf : 18446744073709551616 ≤ fu) (h n : Nat) (hh : h ≤ 2 ^ n) (hn : n ≤ 60) :
    cl fu (d + 2) fn_score_Reduce [I (h : Int), I ((2 ^ n : Nat) : Int)] [] = some ⟨V.tup [V.agg [C.v (.int .i64 (redP h n).1), C.v (.int .i64 (redP h n).2)], I 0], [], none⟩ := by
  have h1 := Nat.two_pow_pos n
  have h2 : (2 : Nat) ^ n ≤ 2 ^ 60 := Nat.pow_le_pow_right (by omega) hn
  have h2 : (2 : Nat) ^ n ≤ 1152921504606846976 := h2
  have := sp_Reduce fu d hf (h : Int) (2 ^ n) (by omega) ⟨h1, h2⟩
  exact this

theorem two_pow_i64 (n : Nat) (hn : n ≤ 60) : IntKind.i64.wrap (1 * 2 ^ (min n (IntKind.bits .i64))) = ((2 ^ n : Nat) : Int) := by
  have h2 : (2 : Nat) ^ n ≤ 2 ^ 60 := Nat.pow_le_pow_right (by omega) hn
  have h2 : (2 : Nat) ^ n ≤ 1152921504606846976 := h2
  rw [show min n (IntKind.bits .i64) = n by simp [IntKind.bits]; omega, show (1 : Int) * 2 ^ n = ((2 ^ n : Nat) : Int) by simp]
  generalize (2 : Nat) ^ n = N at *
  exact IntWalk.i64_in _ ⟨by omega, by omega⟩
theorem two_pow_u64 (n : Nat) (hn : n ≤ 60) : IntKind.u64.wrap (1 * 2 ^ (min n (IntKind.bits .u64))) = ((2 ^ n : Nat) : Int) := by
  have h2 : (2 : Nat) ^ n ≤ 2 ^ 60 := Nat.pow_le_pow_right (by omega) hn
  have h2 : (2 : Nat) ^ n ≤ 1152921504606846976 := h2
  rw [show min n (IntKind.bits .u64) = n by simp [IntKind.bits]; omega, show (1 : Int) * 2 ^ n = ((2 ^ n : Nat) : Int) by simp]
  generalize (2 : Nat) ^ n = N at *
  exact IntWalk.u64_in _ ⟨by omega, by omega⟩

theorem countP_range_succ (p : Nat → Bool) (j : Nat) : (List.range (j + 1)).countP p = (List.range j).countP p + if p j then 1 else 0 := by
  rw [List.range_succ, List.countP_append]
  simp [List.countP_cons]

theorem sp_Signs (fu d : Nat) (hf : 18446744073709551616 ≤ fu) (a : List Int) (hn : a.length ≤ 12) (hs : small a) :
    cl fu (d + 7) fn_sampling_Signs [V.c (C.sl a.length (ints a))] [] = some ⟨V.tup [V.agg [C.v (.int .i64 (redP (hits a) a.length).1), C.v (.int .i64 (redP (hits a) a.length).2)], I 0], [], none⟩ := by
  rw [eq_sampling_Signs, sp_outside fu _ hf a (by omega), outside_small hs]
  have hp := Nat.two_pow_pos a.length
  have hp2 : (2 : Nat) ^ a.length ≤ 2 ^ 12 := Nat.pow_le_pow_right (by omega) hn
  have hp2 : (2 : Nat) ^ a.length ≤ 4096 := hp2
  have hb := csum_bound a (2 ^ a.length - 1) hs
  simp only [show decide ((a.length : Int) > 12) = false from decide_eq_false (by omega), show decide ((a.length : Int) < 0) = false from decide_eq_false (by omega), Bool.not_false, cf, obs, rC_c, asB_bool, need_true, Int.toNat_natCast, two_pow_u64 a.length (by omega), two_pow_i64 a.length (by omega)]
  rw [show IntKind.u64.wrap (((2 ^ a.length : Nat) : Int) - 1) = ((2 ^ a.length - 1 : Nat) : Int) by rw [IntWalk.u64_in _ ⟨by omega, by omega⟩]; omega, sp_chosen fu _ hf a _ (by omega) hs, sp_choices]
  simp only [obs, rC_c, asI_int, asFn_fn, iter_choices _ a.length (show a.length ≤ 13 by omega)]
  have hlen : (chosen a.length).length = 2 ^ a.length := by simp [chosen]
  have hz : (((0 : Int), (0 : Int), ()), ((0 : Int), ()), ()) = (fun j : Nat => (((0 : Int), (0 : Int), ()), ((((List.range j).countP fun c => decide ((csum a (2 ^ a.length - 1)).natAbs ≤ dev a c) : Nat) : Int), ()), ())) 0 := by simp
  rw [hz, overK_run (chosen a.length) (fun j : Nat => (((0 : Int), (0 : Int), ()), ((((List.range j).countP fun c => decide ((csum a (2 ^ a.length - 1)).natAbs ≤ dev a c) : Nat) : Int), ()), ())), hlen]
  · have hh : hits a ≤ 2 ^ a.length := by
      have := List.countP_le_length (p := fun c => decide ((csum a (2 ^ a.length - 1)).natAbs ≤ dev a c)) (l := List.range (2 ^ a.length))
      simpa [hits] using this
    simp only [obs]
    rw [show (List.range (2 ^ a.length)).countP (fun c => decide ((csum a (2 ^ a.length - 1)).natAbs ≤ dev a c)) = hits a from rfl, sp_Reduce_nat fu (d + 4) hf (hits a) a.length hh (by omega)]
    simp
  · intro j hj
    rw [hlen] at hj
    have hb2 := csum_bound a j hs
    have hx : (chosen a.length)[j]'(by omega) = [V.c (C.v (.int .u64 (j : Nat)))] := by simp [chosen]
    have hc : ((List.range j).countP fun c => decide ((csum a (2 ^ a.length - 1)).natAbs ≤ dev a c)) ≤ j := by
      have := List.countP_le_length (p := fun c => decide ((csum a (2 ^ a.length - 1)).natAbs ≤ dev a c)) (l := List.range j)
      simpa using this
    rw [hx]
    simp only [uncV_cons, rC_c, asI_int, nilV_nil, sp_chosen fu _ hf a j (by omega) hs, obs]
    rw [IntWalk.i64_in (2 * csum a j) ⟨by omega, by omega⟩, IntWalk.i64_in (csum a (2 ^ a.length - 1) - 2 * csum a j) ⟨by omega, by omega⟩, sp_absolute _ _ _ ⟨by omega, by omega⟩, sp_absolute _ _ _ ⟨by omega, by omega⟩]
    simp only [rC_c, asI_int, obs]
    rw [countP_range_succ]
    have hd : decide (((csum a (2 ^ a.length - 1) - 2 * csum a j).natAbs : Int) ≥ ((csum a (2 ^ a.length - 1)).natAbs : Int)) = decide ((csum a (2 ^ a.length - 1)).natAbs ≤ dev a j) := by
      unfold dev
      by_cases h : (csum a (2 ^ a.length - 1)).natAbs ≤ (csum a (2 ^ a.length - 1) - 2 * csum a j).natAbs
      · rw [decide_eq_true h, decide_eq_true (by omega)]
      · rw [decide_eq_false h, decide_eq_false (by omega)]
    rw [hd]
    cases decide ((csum a (2 ^ a.length - 1)).natAbs ≤ dev a j) with
    | true =>
      simp only [ct, if_true]
      rw [IntWalk.i64_in _ ⟨by omega, by omega⟩]
      rfl
    | false => rfl

end Go.Proofs.Ytepjbmlhfhahcaa
