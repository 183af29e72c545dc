/- The plain law of the test of signs: how many choices go as far does not depend on the sample's own signs. -/
import Derived.Test.YtepjbmlhfhahcaaSc
set_option linter.unusedVariables false
set_option linter.unusedSimpArgs false
namespace Go.Proofs.Ytepjbmlhfhahcaa
open Go Go.PM

/-- The sample under the signs of a choice. -/
def flipS : List Int → Nat → List Int
  | [], _ => []
  | x :: r, m => (if m % 2 = 1 then -x else x) :: flipS r (m / 2)
@[simp] theorem flipS_length (a : List Int) (m : Nat) : (flipS a m).length = a.length := by
  induction a generalizing m with
  | nil => rfl
  | cons x r ih => simp [flipS, ih]
theorem flipS_small {a : List Int} (h : small a) (m : Nat) : small (flipS a m) := by
  induction a generalizing m with
  | nil => intro y hy; cases hy
  | cons x r ih =>
    intro y hy
    have hx := h x (by simp)
    simp only [flipS, List.mem_cons] at hy
    rcases hy with rfl | hy
    · split <;> omega
    · exact ih (fun z hz => h z (by simp [hz])) (m / 2) y hy
theorem csum_full (a : List Int) : csum a (2 ^ a.length - 1) = a.sum := by
  induction a with
  | nil => rfl
  | cons x r ih =>
    have hp := Nat.two_pow_pos r.length
    have e1 : (2 ^ (r.length + 1) - 1) % 2 = 1 := by rw [Nat.pow_succ]; omega
    have e2 : (2 ^ (r.length + 1) - 1) / 2 = 2 ^ r.length - 1 := by rw [Nat.pow_succ]; omega
    simp only [csum, List.length_cons, e1, e2, ih, List.sum_cons, if_true]
theorem flip_sum (a : List Int) (c : Nat) : (flipS a c).sum = a.sum - 2 * csum a c := by
  induction a generalizing c with
  | nil => rfl
  | cons x r ih =>
    simp only [flipS, csum, List.sum_cons, ih]
    split <;> omega
theorem dev_eq (a : List Int) (c : Nat) : dev a c = (flipS a c).sum.natAbs := by
  unfold dev; rw [flip_sum, csum_full]

theorem countP_two (f : Nat → Bool) (N : Nat) : (List.range (2 * N)).countP f = (List.range N).countP (fun c => f (2 * c)) + (List.range N).countP (fun c => f (2 * c + 1)) := by
  induction N with
  | zero => rfl
  | succ N ih =>
    rw [show 2 * (N + 1) = 2 * N + 1 + 1 by omega, countP_range_succ, countP_range_succ, countP_range_succ, countP_range_succ, ih]
    omega
theorem countP_ext {f g : Nat → Bool} (N : Nat) (h : ∀ c, f c = g c) : (List.range N).countP f = (List.range N).countP g := by
  rw [show f = g from funext h]
/-- The signs of a sample may be changed: all choices together are the same. -/
theorem flip_count (a : List Int) (m : Nat) (p : Int → Bool) : (List.range (2 ^ a.length)).countP (fun c => p (flipS (flipS a m) c).sum) = (List.range (2 ^ a.length)).countP (fun c => p (flipS a c).sum) := by
  induction a generalizing m p with
  | nil => rfl
  | cons x r ih =>
    have e : (2 : Nat) ^ (x :: r).length = 2 * 2 ^ r.length := by rw [List.length_cons, Nat.pow_succ]; omega
    rw [e, countP_two, countP_two]
    simp only [flipS, List.sum_cons, show ∀ c : Nat, 2 * c % 2 = 0 by omega, show ∀ c : Nat, (2 * c + 1) % 2 = 1 by omega, show ∀ c : Nat, 2 * c / 2 = c by omega, show ∀ c : Nat, (2 * c + 1) / 2 = c by omega, show ¬ (0 : Nat) = 1 by omega, if_true, if_false]
    rw [ih (m / 2) (fun s => p ((if m % 2 = 1 then -x else x) + s)), ih (m / 2) (fun s => p (-(if m % 2 = 1 then -x else x) + s))]
    split
    · rw [Nat.add_comm, show - -x = x by omega]
    · rfl

/-- How far the choice m goes. -/
def far (a : List Int) (m : Nat) : Nat := (flipS a m).sum.natAbs
def farther (a : List Int) (m : Nat) : Nat := (List.range (2 ^ a.length)).countP fun c => decide (far a m ≤ far a c)
theorem hits_flip (a : List Int) (m : Nat) : hits (flipS a m) = farther a m := by
  unfold hits farther far
  simp only [dev_eq]
  rw [show csum (flipS a m) (2 ^ (flipS a m).length - 1) = (flipS a m).sum from csum_full _, flipS_length]
  exact flip_count a m fun s => decide ((flipS a m).sum.natAbs ≤ s.natAbs)

theorem countP_lt {f g : Nat → Bool} : ∀ (N k : Nat), (∀ c, f c = true → g c = true) → k < N → f k = false → g k = true → (List.range N).countP f < (List.range N).countP g
  | 0, k, _, hk, _, _ => by omega
  | N + 1, k, h, hk, h1, h2 => by
    rw [countP_range_succ, countP_range_succ]
    have hle : (List.range N).countP f ≤ (List.range N).countP g := List.countP_mono_left fun c _ => h c
    by_cases hN : k = N
    · subst hN
      rw [h1, h2]
      simp; omega
    · have := countP_lt N k h (by omega) h1 h2
      have : (if f N = true then 1 else 0) ≤ (if g N = true then 1 else 0) := by
        by_cases hf : f N = true
        · rw [if_pos hf, if_pos (h N hf)]; exact Nat.le_refl 1
        · rw [if_neg hf]; omega
      omega
theorem farther_le (a : List Int) {x y : Nat} (hy : y < 2 ^ a.length) : farther a y ≤ farther a x ↔ far a x ≤ far a y := by
  constructor
  · intro h
    refine Decidable.byContradiction fun hn => ?_
    have := countP_lt (f := fun c => decide (far a x ≤ far a c)) (g := fun c => decide (far a y ≤ far a c)) (2 ^ a.length) y (fun c hc => by simp only [decide_eq_true_eq] at hc ⊢; omega) hy (by simp; omega) (by simp)
    unfold farther at h
    omega
  · intro h
    exact List.countP_mono_left fun c _ hc => by simp only [decide_eq_true_eq] at hc ⊢; omega
theorem farther_count (a : List Int) {x : Nat} : (List.range (2 ^ a.length)).countP (fun y => decide (farther a y ≤ farther a x)) = farther a x := by
  show _ = (List.range (2 ^ a.length)).countP fun c => decide (far a x ≤ far a c)
  refine List.countP_congr fun y hy => ?_
  simp only [decide_eq_true_eq]
  exact farther_le a (by simpa using hy)

/-- Parts in lowest terms are compared like the numbers themselves. -/
theorem redP_cmp (h k n : Nat) : cmpI ((redP h n).1 * (redP k n).2) ((redP k n).1 * (redP h n).2) = cmpI h k := by
  have hp := Nat.two_pow_pos n
  have gh : 0 < Nat.gcd h (2 ^ n) := Nat.gcd_pos_of_pos_right _ hp
  have gk : 0 < Nat.gcd k (2 ^ n) := Nat.gcd_pos_of_pos_right _ hp
  have d1 := Nat.div_mul_cancel (Nat.gcd_dvd_left h (2 ^ n))
  have d2 := Nat.div_mul_cancel (Nat.gcd_dvd_right h (2 ^ n))
  have d3 := Nat.div_mul_cancel (Nat.gcd_dvd_left k (2 ^ n))
  have d4 := Nat.div_mul_cancel (Nat.gcd_dvd_right k (2 ^ n))
  unfold redP
  simp only [← Int.natCast_mul]
  generalize Nat.gcd h (2 ^ n) = g at *
  generalize Nat.gcd k (2 ^ n) = g' at *
  generalize h / g = u at *
  generalize 2 ^ n / g = v at *
  generalize k / g' = u' at *
  generalize 2 ^ n / g' = v' at *
  have e1 : u * v' * (g * g') = h * 2 ^ n := by rw [Nat.mul_mul_mul_comm, d1, d4]
  have e2 : u' * v * (g * g') = k * 2 ^ n := by rw [Nat.mul_comm g g', Nat.mul_mul_mul_comm, d3, d2]
  have hg : 0 < g * g' := Nat.mul_pos gh gk
  have l1 : u * v' < u' * v ↔ h < k := by
    rw [← Nat.mul_lt_mul_right hg, e1, e2, Nat.mul_lt_mul_right hp]
  have l2 : u' * v < u * v' ↔ k < h := by
    rw [← Nat.mul_lt_mul_right hg, e1, e2, Nat.mul_lt_mul_right hp]
  generalize u * v' = p at *
  generalize u' * v = q at *
  unfold cmpI
  repeat' split
  all_goals omega

end Go.Proofs.Ytepjbmlhfhahcaa
