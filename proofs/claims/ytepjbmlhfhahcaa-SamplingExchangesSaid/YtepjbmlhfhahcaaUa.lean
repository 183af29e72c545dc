/- The plain law of the test of two samples: it does not depend on the order, nor on which sample is the first; and it is exact. -/
import Derived.Test.YtepjbmlhfhahcaaTe
set_option linter.unusedVariables false
set_option linter.unusedSimpArgs false
namespace Go.Proofs.Ytepjbmlhfhahcaa
open Go Go.PM

/-- All choices: how many elements, and their sum. -/
def subs : List Int → List (Nat × Int)
  | [] => [(0, 0)]
  | x :: r => subs r ++ (subs r).map fun q => (q.1 + 1, x + q.2)

theorem subs_count (l : List Int) (p : Nat → Int → Bool) : (List.range (2 ^ l.length)).countP (fun c => p (popc l.length c) (csum l c)) = (subs l).countP fun q => p q.1 q.2 := by
  induction l generalizing p with
  | nil => rfl
  | cons x r ih =>
    have e : (2 : Nat) ^ (x :: r).length = 2 * 2 ^ r.length := by rw [List.length_cons, Nat.pow_succ]; omega
    rw [e, countP_two]
    simp only [subs, List.length_cons, popc, csum, show ∀ c : Nat, 2 * c % 2 = 0 by omega, show ∀ c : Nat, (2 * c + 1) % 2 = 1 by omega, show ∀ c : Nat, 2 * c / 2 = c by omega, show ∀ c : Nat, (2 * c + 1) / 2 = c by omega, show ¬ (0 : Nat) = 1 by omega, if_true, if_false, List.countP_append, List.countP_map, Function.comp_def, Nat.zero_add, Int.zero_add]
    rw [ih p, ih fun k s => p (1 + k) (x + s)]
    simp only [Nat.add_comm]
theorem subs_perm {l l' : List Int} (h : l.Perm l') : ∀ p : Nat × Int → Bool, (subs l).countP p = (subs l').countP p := by
  induction h with
  | nil => intro p; rfl
  | cons x h ih =>
    intro p
    simp only [subs, List.countP_append, List.countP_map]
    rw [ih, ih]
  | swap x y r =>
    intro p
    simp only [subs, List.countP_append, List.countP_map, List.map_append, List.map_map, Function.comp_def, show ∀ s : Int, y + (x + s) = x + (y + s) by intro s; omega]
    omega
  | trans _ _ ih1 ih2 => intro p; rw [ih1, ih2]
theorem subs_le (l : List Int) : ∀ q ∈ subs l, q.1 ≤ l.length := by
  induction l with
  | nil => intro q h; simp [subs] at h; simp [h]
  | cons x r ih =>
    intro q h
    simp only [subs, List.mem_append, List.mem_map] at h
    rcases h with h | ⟨q', h, rfl⟩
    · have := ih q h; simp; omega
    · have := ih q' h; simp; omega
theorem subs_compl (l : List Int) : ∀ p : Nat → Int → Bool, ((subs l).countP fun q => p (l.length - q.1) (l.sum - q.2)) = (subs l).countP fun q => p q.1 q.2 := by
  induction l with
  | nil => intro p; rfl
  | cons x r ih =>
    intro p
    simp only [subs, List.countP_append, List.countP_map, Function.comp_def, List.length_cons, List.sum_cons, show ∀ k, r.length + 1 - (k + 1) = r.length - k by intro k; omega, show ∀ s : Int, x + r.sum - (x + s) = r.sum - s by intro s; omega]
    rw [ih p]
    have : (subs r).countP (fun q => p (r.length + 1 - q.1) (x + r.sum - q.2)) = (subs r).countP fun q => p (q.1 + 1) (x + q.2) := by
      rw [← ih fun k s => p (k + 1) (x + s)]
      refine List.countP_congr fun q hq => ?_
      have := subs_le r q hq
      rw [show r.length + 1 - q.1 = r.length - q.1 + 1 by omega, show x + r.sum - q.2 = x + (r.sum - q.2) by omega]
    rw [this]; omega

/-- The elements whose bit is set, and the others. -/
def picks : List Int → Nat → List Int
  | [], _ => []
  | x :: r, m => if m % 2 = 1 then x :: picks r (m / 2) else picks r (m / 2)
def others : List Int → Nat → List Int
  | [], _ => []
  | x :: r, m => if m % 2 = 1 then others r (m / 2) else x :: others r (m / 2)
theorem picks_snoc (a : List Int) (m j : Nat) (h : j < a.length) : picks (a.take (j + 1)) m = picks (a.take j) m ++ if m / 2 ^ j % 2 = 1 then [a[j]] else [] := by
  induction a generalizing m j with
  | nil => simp at h
  | cons x r ih =>
    cases j with
    | zero => simp [picks]
    | succ j =>
      simp only [List.take_succ_cons, picks, List.getElem_cons_succ]
      rw [ih (m / 2) j (by simpa using h), Nat.div_div_eq_div_mul, show 2 * 2 ^ j = 2 ^ (j + 1) by rw [Nat.pow_succ]; omega]
      split <;> simp
theorem others_snoc (a : List Int) (m j : Nat) (h : j < a.length) : others (a.take (j + 1)) m = others (a.take j) m ++ if m / 2 ^ j % 2 = 1 then [] else [a[j]] := by
  induction a generalizing m j with
  | nil => simp at h
  | cons x r ih =>
    cases j with
    | zero => simp [others]
    | succ j =>
      simp only [List.take_succ_cons, others, List.getElem_cons_succ]
      rw [ih (m / 2) j (by simpa using h), Nat.div_div_eq_div_mul, show 2 * 2 ^ j = 2 ^ (j + 1) by rw [Nat.pow_succ]; omega]
      split <;> simp
theorem picks_perm (l : List Int) (m : Nat) : (picks l m ++ others l m).Perm l := by
  induction l generalizing m with
  | nil => exact List.Perm.nil
  | cons x r ih =>
    simp only [picks, others]
    split
    · exact (ih (m / 2)).cons x
    · exact List.perm_middle.trans ((ih (m / 2)).cons x)
theorem picks_length (l : List Int) (m : Nat) : (picks l m).length = popc l.length m := by
  induction l generalizing m with
  | nil => rfl
  | cons x r ih =>
    simp only [picks, List.length_cons, popc]
    split
    · rw [List.length_cons, ih]; omega
    · rw [ih]; omega
theorem picks_sum (l : List Int) (m : Nat) : (picks l m).sum = csum l m := by
  induction l generalizing m with
  | nil => rfl
  | cons x r ih =>
    simp only [picks, csum]
    split
    · rw [List.sum_cons, ih]
    · rw [ih]; omega
theorem sum_perm {a b : List Int} (h : a.Perm b) : a.sum = b.sum := by
  induction h with
  | nil => rfl
  | cons x _ ih => simp [ih]
  | swap x y r => simp; omega
  | trans _ _ h1 h2 => rw [h1, h2]
theorem any_perm {a b : List Int} (h : a.Perm b) (p : Int → Bool) : a.any p = b.any p := by
  rw [Bool.eq_iff_iff, List.any_eq_true, List.any_eq_true]
  exact ⟨fun ⟨x, hx, hp⟩ => ⟨x, h.mem_iff.1 hx, hp⟩, fun ⟨x, hx, hp⟩ => ⟨x, h.mem_iff.2 hx, hp⟩⟩

/-- How far the choice c of k elements goes, and how many go as far. -/
def gap (l : List Int) (k c : Nat) : Nat := dist l.length k l.sum (csum l c)
theorem ways_subs (l : List Int) (k : Nat) : ways l k (2 ^ l.length) = (subs l).countP fun q => q.1 == k := subs_count l fun n _ => n == k
theorem wayh_subs (l : List Int) (k w : Nat) : wayh l k w (2 ^ l.length) = (subs l).countP fun q => q.1 == k && decide (w ≤ dist l.length k l.sum q.2) := subs_count l fun n s => n == k && decide (w ≤ dist l.length k l.sum s)
theorem dist_compl (n k : Nat) (T s : Int) (h : k ≤ n) : dist n (n - k) T (T - s) = dist n k T s := by
  unfold dist
  rw [Int.ofNat_sub h, Int.sub_mul, Int.mul_sub]
  omega
theorem perm_ways {l l' : List Int} (h : l.Perm l') (k w : Nat) : ways l k (2 ^ l.length) = ways l' k (2 ^ l'.length) ∧ wayh l k w (2 ^ l.length) = wayh l' k w (2 ^ l'.length) := by
  rw [ways_subs, ways_subs, wayh_subs, wayh_subs, subs_perm h, subs_perm h, h.length_eq, sum_perm h]
  exact ⟨rfl, rfl⟩
theorem compl_ways (l : List Int) (k w : Nat) (hk : k ≤ l.length) : ways l (l.length - k) (2 ^ l.length) = ways l k (2 ^ l.length) ∧ wayh l (l.length - k) w (2 ^ l.length) = wayh l k w (2 ^ l.length) := by
  rw [ways_subs, ways_subs, wayh_subs, wayh_subs]
  constructor
  · rw [← subs_compl l fun n s => n == l.length - k]
    refine List.countP_congr fun q hq => ?_
    have := subs_le l q hq
    simp only [beq_iff_eq]; omega
  · rw [← subs_compl l fun n s => n == l.length - k && decide (w ≤ dist l.length (l.length - k) l.sum s)]
    refine List.countP_congr fun q hq => ?_
    have := subs_le l q hq
    rw [dist_compl _ _ _ _ hk]
    simp only [Bool.and_eq_true, beq_iff_eq, decide_eq_true_eq]
    exact ⟨fun h => ⟨by omega, h.2⟩, fun h => ⟨by omega, h.2⟩⟩

theorem exchR_swap (a b : List Int) : exchR b a = exchR a b := by
  have hp : (b ++ a).Perm (a ++ b) := List.perm_append_comm
  have hl : (b ++ a).length = (a ++ b).length := hp.length_eq
  have hb : b.length = (a ++ b).length - a.length := by simp
  have hs : b.sum = (a ++ b).sum - a.sum := by rw [List.sum_append]; omega
  unfold exchR
  rw [any_perm hp outB, sum_perm hp, (perm_ways hp _ 0).1, (perm_ways hp _ _).2, hl, hb, hs, dist_compl _ _ _ _ (by simp), (compl_ways (a ++ b) a.length 0 (by simp)).1, (compl_ways (a ++ b) a.length _ (by simp)).2]
/-- The test of a choice of a sample. -/
theorem exchR_picks (l : List Int) (m : Nat) (hn : l.length ≤ 12) (hs : l.any outB = false) :
    exchR (picks l m) (others l m) = ((redI (wayh l (popc l.length m) (gap l (popc l.length m) m) (2 ^ l.length)) (ways l (popc l.length m) (2 ^ l.length))).1, (redI (wayh l (popc l.length m) (gap l (popc l.length m) m) (2 ^ l.length)) (ways l (popc l.length m) (2 ^ l.length))).2, 0) := by
  have hp := picks_perm l m
  unfold exchR
  rw [any_perm hp outB, sum_perm hp, hp.length_eq, if_pos ⟨hn, hs⟩, picks_length, picks_sum, ← hp.length_eq, (perm_ways hp _ 0).1, (perm_ways hp _ _).2, hp.length_eq]
  rfl
/-- The test depends on the samples' elements alone. -/
theorem exchR_perm {a b a' b' : List Int} (ha : a.Perm a') (hb : b.Perm b') : exchR a b = exchR a' b' := by
  have hp : (a ++ b).Perm (a' ++ b') := ha.append hb
  unfold exchR
  rw [any_perm hp outB, sum_perm hp, (perm_ways hp _ 0).1, (perm_ways hp _ _).2, hp.length_eq, ha.length_eq, sum_perm ha]

/-! Exactness: among as many as go as far. -/
theorem count_lt {A : Type} {f g : A → Bool} : ∀ (L : List A), (∀ c, f c = true → g c = true) → ∀ k ∈ L, f k = false → g k = true → L.countP f < L.countP g
  | [], _, k, hk, _, _ => by cases hk
  | x :: r, h, k, hk, h1, h2 => by
    have hle : r.countP f ≤ r.countP g := List.countP_mono_left fun c _ => h c
    rw [List.countP_cons, List.countP_cons]
    rcases List.mem_cons.1 hk with rfl | hk
    · rw [h1, h2]; simp; omega
    · have := count_lt r h k hk h1 h2
      have : (if f x = true then 1 else 0) ≤ (if g x = true then 1 else 0) := by
        by_cases hf : f x = true
        · rw [if_pos hf, if_pos (h x hf)]; exact Nat.le_refl 1
        · rw [if_neg hf]; omega
      omega
theorem exact_count {A : Type} (L : List A) (f : A → Nat) (x : A) : L.countP (fun y => decide (L.countP (fun c => decide (f y ≤ f c)) ≤ L.countP (fun c => decide (f x ≤ f c)))) = L.countP (fun c => decide (f x ≤ f c)) := by
  refine List.countP_congr fun y hy => ?_
  simp only [decide_eq_true_eq]
  constructor
  · intro h
    refine Decidable.byContradiction fun hn => ?_
    have := count_lt (f := fun c => decide (f x ≤ f c)) (g := fun c => decide (f y ≤ f c)) L (fun c hc => by simp only [decide_eq_true_eq] at hc ⊢; omega) y hy (by simp; omega) (by simp)
    omega
  · intro h
    exact List.countP_mono_left fun c _ hc => by simp only [decide_eq_true_eq] at hc ⊢; omega

/-- Parts of one number in lowest terms are compared like the numbers themselves. -/
theorem redI_cmp (h k n : Nat) (hp : 0 < n) : cmpI ((redI h n).1 * (redI k n).2) ((redI k n).1 * (redI h n).2) = cmpI h k := by
  have gh : 0 < Nat.gcd h n := Nat.gcd_pos_of_pos_right _ hp
  have gk : 0 < Nat.gcd k n := Nat.gcd_pos_of_pos_right _ hp
  have d1 := Nat.div_mul_cancel (Nat.gcd_dvd_left h n)
  have d2 := Nat.div_mul_cancel (Nat.gcd_dvd_right h n)
  have d3 := Nat.div_mul_cancel (Nat.gcd_dvd_left k n)
  have d4 := Nat.div_mul_cancel (Nat.gcd_dvd_right k n)
  unfold redI
  simp only [← Int.natCast_mul]
  generalize Nat.gcd h n = g at *
  generalize Nat.gcd k n = g' at *
  generalize h / g = u at *
  generalize n / g = v at *
  generalize k / g' = u' at *
  generalize n / g' = v' at *
  have e1 : u * v' * (g * g') = h * n := by rw [Nat.mul_mul_mul_comm, d1, d4]
  have e2 : u' * v * (g * g') = k * n := by rw [Nat.mul_comm g g', Nat.mul_mul_mul_comm, d3, d2]
  have hg : 0 < g * g' := Nat.mul_pos gh gk
  have l1 : u * v' < u' * v ↔ h < k := by
    rw [← Nat.mul_lt_mul_right hg, e1, e2, Nat.mul_lt_mul_right hp]
  have l2 : u' * v < u * v' ↔ k < h := by
    rw [← Nat.mul_lt_mul_right hg, e1, e2, Nat.mul_lt_mul_right hp]
  generalize u * v' = p at *
  generalize u' * v = q at *
  unfold cmpI
  repeat' split
  all_goals omega
/-- A part in lowest terms is the part. -/
theorem redI_same (h n : Nat) : cmpI ((h : Int) * (redI h n).2) ((redI h n).1 * (n : Int)) = 0 := by
  have d1 := Nat.div_mul_cancel (Nat.gcd_dvd_left h n)
  have d2 := Nat.div_mul_cancel (Nat.gcd_dvd_right h n)
  have : h * (n / Nat.gcd h n) = h / Nat.gcd h n * n := by
    generalize Nat.gcd h n = g at *
    generalize h / g = u at *
    generalize n / g = v at *
    rw [← d1, ← d2, Nat.mul_assoc, Nat.mul_comm g v]
  unfold redI
  simp only [← Int.natCast_mul, this]
  simp [cmpI]

end Go.Proofs.Ytepjbmlhfhahcaa
