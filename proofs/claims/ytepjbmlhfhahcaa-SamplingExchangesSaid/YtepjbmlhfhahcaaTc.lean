/- The test of two samples, the program's and the document's: they answer alike at any samples. -/
import Derived.Test.YtepjbmlhfhahcaaTb
set_option linter.unusedVariables false
set_option linter.unusedSimpArgs false
namespace Go.Proofs.Ytepjbmlhfhahcaa
open Go Go.PM

/-- How far a choice of the sum s goes, among n elements of the sum T, if k are chosen. -/
def dist (n k : Nat) (T s : Int) : Nat := (s * (n : Int) - T * (k : Int)).natAbs
/-- The choices of as many elements. -/
def ways (l : List Int) (k m : Nat) : Nat := (List.range m).countP fun c => popc l.length c == k
/-- Those of them that go at least as far as w. -/
def wayh (l : List Int) (k w m : Nat) : Nat := (List.range m).countP fun c => popc l.length c == k && decide (w ≤ dist l.length k l.sum (csum l c))
/-- The test of two samples: its part and its error. -/
def exchR (a b : List Int) : Int × Int × Int :=
  if (a ++ b).length ≤ 12 ∧ (a ++ b).any outB = false then
    ((redI (wayh (a ++ b) a.length (dist (a ++ b).length a.length (a ++ b).sum a.sum) (2 ^ (a ++ b).length)) (ways (a ++ b) a.length (2 ^ (a ++ b).length))).1,
     (redI (wayh (a ++ b) a.length (dist (a ++ b).length a.length (a ++ b).sum a.sum) (2 ^ (a ++ b).length)) (ways (a ++ b) a.length (2 ^ (a ++ b).length))).2, 0)
  else (0, 0, 1)

theorem csum_pre (a b : List Int) : csum (a ++ b) (2 ^ a.length - 1) = a.sum := by
  induction a with
  | nil =>
    have : ∀ l : List Int, csum l 0 = 0 := by
      intro l
      induction l with
      | nil => rfl
      | cons x r ih => simp [csum, ih]
    simpa using this b
  | cons x r ih =>
    have hp := Nat.two_pow_pos r.length
    have e1 : (2 ^ (r.length + 1) - 1) % 2 = 1 := by rw [Nat.pow_succ]; omega
    have e2 : (2 ^ (r.length + 1) - 1) / 2 = 2 ^ r.length - 1 := by rw [Nat.pow_succ]; omega
    simp only [List.cons_append, csum, List.length_cons, e1, e2, ih, List.sum_cons, if_true]
theorem popc_pre (k n : Nat) : popc (k + n) (2 ^ k - 1) = k := by
  induction k with
  | zero => simp [popc_zero]
  | succ k ih =>
    have hp := Nat.two_pow_pos k
    have e1 : (2 ^ (k + 1) - 1) % 2 = 1 := by rw [Nat.pow_succ]; omega
    have e2 : (2 ^ (k + 1) - 1) / 2 = 2 ^ k - 1 := by rw [Nat.pow_succ]; omega
    rw [show k + 1 + n = k + n + 1 by omega]
    simp only [popc, e1, e2, ih]; omega
theorem ways_succ (l : List Int) (k m : Nat) : ways l k (m + 1) = ways l k m + if popc l.length m == k then 1 else 0 := countP_range_succ _ _
theorem wayh_succ (l : List Int) (k w m : Nat) : wayh l k w (m + 1) = wayh l k w m + if popc l.length m == k && decide (w ≤ dist l.length k l.sum (csum l m)) then 1 else 0 := countP_range_succ _ _
theorem ways_le (l : List Int) (k m : Nat) : ways l k m ≤ m := by
  have := List.countP_le_length (p := fun c => popc l.length c == k) (l := List.range m)
  simpa [ways] using this
theorem wayh_le (l : List Int) (k w m : Nat) : wayh l k w m ≤ ways l k m := by
  refine List.countP_mono_left fun c _ hc => ?_
  exact (Bool.and_eq_true_iff.1 hc).1
theorem ways_pos (a b : List Int) : 0 < ways (a ++ b) a.length (2 ^ (a ++ b).length) := by
  unfold ways
  rw [List.countP_pos_iff]
  have hp := Nat.two_pow_pos a.length
  have : 2 ^ a.length ≤ 2 ^ (a ++ b).length := Nat.pow_le_pow_right (by omega) (by simp)
  exact ⟨2 ^ a.length - 1, by simp only [List.mem_range]; omega, by rw [List.length_append, popc_pre]; simp⟩

theorem dist_bound {n k : Nat} {T s : Int} (hn : n ≤ 12) (hk : k ≤ n) (hT : -12000000 ≤ T ∧ T ≤ 12000000) (hs : -12000000 ≤ s ∧ s ≤ 12000000) :
    (-144000000 ≤ s * (n : Int) ∧ s * (n : Int) ≤ 144000000) ∧ (-144000000 ≤ T * (k : Int) ∧ T * (k : Int) ≤ 144000000) := by
  have h : ∀ (x : Int) (m : Nat), -12000000 ≤ x ∧ x ≤ 12000000 → m ≤ 12 → -144000000 ≤ x * (m : Int) ∧ x * (m : Int) ≤ 144000000 := by
    intro x m hx hm
    constructor
    · have h1 : -12000000 * (m : Int) ≤ x * (m : Int) := Int.mul_le_mul_of_nonneg_right hx.1 (by omega)
      omega
    · have h1 : x * (m : Int) ≤ 12000000 * (m : Int) := Int.mul_le_mul_of_nonneg_right hx.2 (by omega)
      omega
  exact ⟨h s n hs hn, h T k hT (by omega)⟩

theorem sp_diff (fu d : Nat) (hf : 18446744073709551616 ≤ fu) (l a : List Int) (m : Nat) (hn : l.length ≤ 12) (hk : a.length ≤ l.length) (hs : small l) :
    cl fu (d + 2) fn_sampling_Exchange_1 [V.c (C.v (.int .u64 m)), V.c (C.cp [C.sl l.length (ints l)]), V.c (C.cp [C.v (.int .i64 l.sum)]), V.c (C.cp [C.sl a.length (ints a)])] [] = some ⟨I ((dist l.length a.length l.sum (csum l m) : Nat) : Int), [], none⟩ := by
  have hT := small_sum hs
  have hc := csum_bound l m hs
  obtain ⟨⟨b1, b2⟩, b3, b4⟩ := dist_bound (T := l.sum) (s := csum l m) hn hk ⟨by omega, by omega⟩ ⟨by omega, by omega⟩
  rw [eq_sampling_Exchange_1]
  simp only [unc_cons, nrm_sl, noYl_sl, need_true, sp_chosen fu d hf l m (by omega) hs, obs, rC_c, asI_int, asSl_sl]
  rw [IntWalk.i64_in (csum l m * (l.length : Int)) ⟨by omega, by omega⟩, IntWalk.i64_in (l.sum * (a.length : Int)) ⟨by omega, by omega⟩, IntWalk.i64_in (csum l m * (l.length : Int) - l.sum * (a.length : Int)) ⟨by omega, by omega⟩, sp_absolute _ _ _ ⟨by omega, by omega⟩]
  simp only [obs, rC_c, asI_int]
  rfl

theorem u64_pre (k : Nat) (hk : k ≤ 60) : IntKind.u64.wrap (((2 ^ k : Nat) : Int) - 1) = ((2 ^ k - 1 : Nat) : Int) := by
  have hp := Nat.two_pow_pos k
  have h2 : (2 : Nat) ^ k ≤ 2 ^ 60 := Nat.pow_le_pow_right (by omega) hk
  have h2 : (2 : Nat) ^ k ≤ 1152921504606846976 := h2
  rw [IntWalk.u64_in _ ⟨by omega, by omega⟩]; omega

theorem decide_natAbs (x y : Nat) : decide ((y : Int) ≥ (x : Int)) = decide (x ≤ y) := by
  by_cases h : x ≤ y
  · rw [decide_eq_true h, decide_eq_true (by omega)]
  · rw [decide_eq_false h, decide_eq_false (by omega)]
theorem bneN (x y : Nat) : ((x : Int) != (y : Int)) = !(x == y) := by
  by_cases h : x = y
  · subst h; simp
  · have h1 : (x == y) = false := by simpa using h
    have h2 : ((x : Int) != (y : Int)) = true := by simp; omega
    rw [h1, h2]; rfl

theorem sp_Exchange (fu d : Nat) (hf : 18446744073709551616 ≤ fu) (a b : List Int) (ha : a.length ≤ 100) (hb : b.length ≤ 100) :
    cl fu (d + 7) fn_sampling_Exchange [V.c (C.sl a.length (ints a)), V.c (C.sl b.length (ints b))] [] = some (out3 (exchR a b)) := by
  unfold exchR
  rw [eq_sampling_Exchange, sp_Concat fu _ hf a b ha hb]
  simp only [obs, rC_c, asSl_sl, nrm_sl, noYl_sl, need_true, Int.toNat_natCast]
  have hl : a.length ≤ (a ++ b).length := by simp
  have hlen : (a ++ b).length ≤ 200 := by simp; omega
  rw [← csum_pre a b]
  generalize a ++ b = l at *
  by_cases h1 : l.length ≤ 12
  · rw [show decide ((l.length : Int) > 12) = false from decide_eq_false (by omega)]
    simp only [cf]
    rw [sp_outside fu _ hf l (by omega)]
    by_cases h2 : l.any outB = true
    · rw [if_neg (by simp [h2]), h2]
      rfl
    · have h2 : l.any outB = false := by simpa using h2
      have hs := small_of h2
      rw [if_pos ⟨h1, h2⟩, h2]
      have hp := Nat.two_pow_pos l.length
      have hp2 : (2 : Nat) ^ l.length ≤ 2 ^ 12 := Nat.pow_le_pow_right (by omega) h1
      have hp2 : (2 : Nat) ^ l.length ≤ 4096 := hp2
      have hk2 : 2 ^ a.length ≤ 2 ^ l.length := Nat.pow_le_pow_right (by omega) hl
      simp only [obs, rC_c, asB_bool, cf, show decide ((l.length : Int) < 0) = false from decide_eq_false (by omega), show decide ((a.length : Int) < 0) = false from decide_eq_false (by omega), Bool.not_false, need_true, two_pow_u64 l.length (by omega), two_pow_u64 a.length (by omega), u64_pre l.length (by omega), u64_pre a.length (by omega)]
      rw [sp_chosen fu _ hf l _ (by omega) hs, csum_full]
      simp only [obs, rC_c, asI_int]
      rw [sp_diff fu _ hf l a _ h1 hl hs, sp_choices]
      simp only [obs, rC_c, asI_int, asFn_fn, iter_choices _ l.length (show l.length ≤ 13 by omega)]
      generalize hw : dist l.length a.length l.sum (csum l (2 ^ a.length - 1)) = w
      have hcl : (chosen l.length).length = 2 ^ l.length := by simp [chosen]
      have hz : (((0 : Int), (0 : Int), ()), ((0 : Int), ()), ((0 : Int), ()), ()) = (fun j : Nat => (((0 : Int), (0 : Int), ()), (((wayh l a.length w j : Nat) : Int), ()), (((ways l a.length j : Nat) : Int), ()), ())) 0 := rfl
      rw [hz, overK_run (chosen l.length) (fun j : Nat => (((0 : Int), (0 : Int), ()), (((wayh l a.length w j : Nat) : Int), ()), (((ways l a.length j : Nat) : Int), ()), ())), hcl]
      · have hle := wayh_le l a.length w (2 ^ l.length)
        have hwl := ways_le l a.length (2 ^ l.length)
        have hpos : 0 < ways l a.length (2 ^ l.length) := by
          unfold ways
          rw [List.countP_pos_iff]
          refine ⟨2 ^ a.length - 1, by simp only [List.mem_range]; have := Nat.two_pow_pos a.length; omega, ?_⟩
          obtain ⟨q, hq⟩ : ∃ q, l.length = a.length + q := ⟨l.length - a.length, by omega⟩
          rw [hq, popc_pre]; simp
        simp only [obs]
        rw [sp_Reduce_any fu _ hf _ _ hle hpos (by omega)]
        simp [out3]
      · intro j hj
        rw [hcl] at hj
        have hx : (chosen l.length)[j]'(by omega) = [V.c (C.v (.int .u64 (j : Nat)))] := by simp [chosen]
        have w1 := wayh_le l a.length w j
        have w2 := ways_le l a.length j
        rw [hx]
        simp only [uncV_cons, rC_c, asI_int, nilV_nil]
        rw [sp_OnesCount fu _ l.length j h1 hj]
        simp only [obs, rC_c, asI_int]
        rw [bneN, ways_succ, wayh_succ, sp_diff fu _ hf l a j h1 hl hs]
        cases hq : popc l.length j == a.length with
        | false => rfl
        | true =>
          simp only [Bool.not_true, cf, obs, rC_c, asI_int, decide_natAbs, Bool.true_and, if_true]
          rw [IntWalk.i64_in (((wayh l a.length w j : Nat) : Int) + 1) ⟨by omega, by omega⟩, IntWalk.i64_in (((ways l a.length j : Nat) : Int) + 1) ⟨by omega, by omega⟩]
          cases decide (w ≤ dist l.length a.length l.sum (csum l j)) <;> rfl
  · rw [if_neg (by omega), show decide ((l.length : Int) > 12) = true from decide_eq_true (by omega)]
    rfl

end Go.Proofs.Ytepjbmlhfhahcaa
