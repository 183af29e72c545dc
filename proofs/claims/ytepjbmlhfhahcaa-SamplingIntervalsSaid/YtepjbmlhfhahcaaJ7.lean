/- Parts put together: Vf. -/
import Derived.Test.YtepjbmlhfhahcaaJ6
set_option linter.unusedSimpArgs false
set_option linter.unusedVariables false
/- Intervals for the median: that they are as they should be, and that the tails add up to all. -/
namespace Go.Proofs.Ytepjbmlhfhahcaa
open Go Go.PM

theorem bin_pos : ∀ (n k : Nat), k ≤ n → 0 < bin n k
  | n, 0, _ => by rw [bin_zero]; omega
  | 0, k + 1, h => by omega
  | n + 1, k + 1, h => by
    have := bin_pos n k (by omega)
    simp only [bin]; omega
theorem bin_sym : ∀ (m n k : Nat), n + k = m → bin m k = bin m n
  | 0, n, k, h => by
    have h1 : n = 0 := by omega
    have h2 : k = 0 := by omega
    subst h1 h2; rfl
  | m + 1, 0, k, h => by
    have : k = m + 1 := by omega
    subst this; rw [bin_zero, bin_self]
  | m + 1, n + 1, 0, h => by
    have : n = m := by omega
    subst this; rw [bin_zero, bin_self]
  | m + 1, n + 1, k + 1, h => by
    simp only [bin]
    rw [bin_sym m (n + 1) k (by omega), bin_sym m n (k + 1) (by omega)]
    omega
theorem tsum_sym (n : Nat) : ∀ k, k ≤ n + 1 → tsum n k + tsum n (n + 1 - k) = 2 ^ n
  | 0, _ => by simp only [Nat.sub_zero, tsum_all, tsum]; omega
  | k + 1, h => by
    have ih := tsum_sym n k (by omega)
    have e : n + 1 - k = (n + 1 - (k + 1)) + 1 := by omega
    rw [e] at ih
    simp only [tsum] at ih ⊢
    rw [bin_sym n k (n + 1 - (k + 1)) (by omega)] at ih
    omega

theorem redI_self (n : Nat) (h : 0 < n) : redI n n = (1, 1) := by
  unfold redI
  rw [Nat.gcd_self, Nat.div_self h]; rfl

theorem ranks_half {n : Nat} {a b : Int} (ha : 0 ≤ a) (hab : a ≤ b) (hb : 1 ≤ b) : 2 * ranksN n a b ≤ n + 1 := by
  have hr := ranksN_le (n := n) ha hb
  have h0 := over_iff (n := n) ha hab (ranksN n a b) (by omega)
  rw [show decide (ranksN n a b < ranksN n a b) = false from decide_eq_false (by omega)] at h0
  unfold over at h0
  rw [decide_eq_false_iff_not] at h0
  generalize ranksN n a b = r at hr h0
  have hs := tsum_sym n r (by omega)
  -- twice the sum is at most all
  have h1 : 2 * ((tsum n r : Nat) : Int) * b ≤ ((2 ^ n : Nat) : Int) * b := by
    have h2 : (b - a) * ((2 ^ n : Nat) : Int) ≤ b * ((2 ^ n : Nat) : Int) := Int.mul_le_mul_of_nonneg_right (by omega) (Int.natCast_nonneg _)
    rw [Int.mul_comm b] at h2
    exact Int.le_trans (Int.not_lt.1 h0) h2
  have h2 : 2 * ((tsum n r : Nat) : Int) ≤ ((2 ^ n : Nat) : Int) := Int.le_of_mul_le_mul_right h1 (by omega)
  by_cases hc : 2 * r ≤ n + 1
  · exact hc
  · exfalso
    have h3 := tsum_mono n (show n + 1 - r + 1 ≤ r by omega)
    have h4 : tsum n (n + 1 - r + 1) = tsum n (n + 1 - r) + bin n (n + 1 - r) := rfl
    have h5 := bin_pos n (n + 1 - r) (by omega)
    omega

theorem over_level {n : Nat} {a b p q : Int} (hb : 1 ≤ b) (hq : 1 ≤ q) (h : a * q ≤ p * b) (k : Nat) (ho : over n a b k = true) : over n p q k = true := by
  unfold over at ho ⊢
  rw [decide_eq_true_eq] at ho ⊢
  have hN : (0 : Int) ≤ ((2 ^ n : Nat) : Int) := Int.natCast_nonneg _
  generalize ((2 ^ n : Nat) : Int) = N at ho hN ⊢
  generalize 2 * ((tsum n k : Nat) : Int) = t at ho ⊢
  have h1 : (q - p) * b ≤ (b - a) * q := by
    rw [Int.sub_mul, Int.sub_mul, Int.mul_comm q b]; omega
  have h2 : (q - p) * b * N ≤ (b - a) * q * N := Int.mul_le_mul_of_nonneg_right h1 hN
  have h3 : (b - a) * N * q < t * b * q := Int.mul_lt_mul_of_pos_right ho (by omega)
  rw [Int.mul_right_comm (q - p), Int.mul_right_comm (b - a)] at h2
  rw [Int.mul_right_comm t] at h3
  exact Int.lt_of_mul_lt_mul_right (Int.lt_of_le_of_lt h2 h3) (by omega)
theorem ranks_level {n : Nat} {a b p q : Int} (ha : 0 ≤ a) (hab : a ≤ b) (hb : 1 ≤ b) (hp : 0 ≤ p) (hpq : p ≤ q) (hq : 1 ≤ q) (h : a * q ≤ p * b) : ranksN n p q ≤ ranksN n a b := by
  have h1 := ranksN_le (n := n) ha hb
  have h2 := over_iff (n := n) ha hab (ranksN n a b + 1) (by omega)
  rw [show decide (ranksN n a b < ranksN n a b + 1) = true from decide_eq_true (by omega)] at h2
  have h3 := over_level hb hq h _ h2
  rw [over_iff hp hpq _ (by omega), decide_eq_true_eq] at h3
  omega

theorem lv100 (m : Nat) (h : m ≤ 100) : lvB (redI m 100).1 (redI m 100).2 = true := by
  have := List.all_eq_true.1 (show ((List.range 101).all fun m => lvB (redI m 100).1 (redI m 100).2) = true by decide +kernel) m (by simp; omega)
  exact this

theorem sorted_le {s : List Int} {i j : Nat} (h : i ≤ j) (hj : j < s.length) : (sortI s).getD i 0 ≤ (sortI s).getD j 0 := by
  have hj' : j < (sortI s).length := by rw [sortI_length]; exact hj
  have hi' : i < (sortI s).length := by omega
  rw [getD_at hi', getD_at hj']
  by_cases e : i = j
  · subst e; exact Int.le_refl _
  · exact List.pairwise_iff_getElem.1 (sorted_sortI s) i j hi' hj' (by omega)
theorem sorted_mem {s : List Int} {i : Nat} (h : i < s.length) : (sortI s).getD i 0 ∈ s := by
  have h' : i < (sortI s).length := by rw [sortI_length]; exact h
  rw [getD_at h']
  exact mem_sortI.1 (List.getElem_mem h')

/-- Where there is an interval. -/
theorem med_zero {s : List Int} {a b : Int} (h : (medR s a b).2.2 = 0) : s.length ≤ 50 ∧ s.any outB = false ∧ lvB a b = true ∧ 1 ≤ ranksN s.length a b ∧
    medR s a b = ((sortI s).getD (ranksN s.length a b - 1) 0, (sortI s).getD (s.length - ranksN s.length a b) 0, 0) := by
  unfold medR at h ⊢
  split at h
  · rename_i hc
    rcases ranksR_cases (s.length : Int) a b with e | ⟨r, e, hr, hrr, hl⟩
    · rw [e] at h; simp at h
    · rw [e] at h ⊢
      simp only [Int.toNat_natCast] at hrr
      simp only [ne_eq, not_true_eq_false, if_false] at h
      by_cases h3 : (r : Int) = 0
      · rw [if_pos h3] at h; simp at h
      · rw [if_pos hc]
        simp only [ne_eq, not_true_eq_false, if_false, if_neg h3]
        subst hrr
        refine ⟨hc.1, hc.2, hl, by omega, ?_⟩
        rw [show (((ranksN s.length a b : Nat) : Int) - 1).toNat = ranksN s.length a b - 1 by omega, show ((s.length : Int) - ((ranksN s.length a b : Nat) : Int)).toNat = s.length - ranksN s.length a b by omega]
  · simp at h
theorem med_of {s : List Int} {a b : Int} (h1 : s.length ≤ 50) (h2 : s.any outB = false) (h3 : lvB a b = true) (h4 : 1 ≤ ranksN s.length a b) : (medR s a b).2.2 = 0 := by
  unfold medR
  rw [if_pos ⟨h1, h2⟩]
  have : ranksR (s.length : Int) a b = (((ranksN s.length a b : Nat) : Int), 0) := by
    unfold ranksR
    rw [if_pos ⟨by omega, by omega, h3⟩]; rfl
  rw [this]
  simp only [ne_eq, not_true_eq_false, if_false, if_neg (show ¬ ((ranksN s.length a b : Nat) : Int) = 0 by omega)]

theorem sp_in (fu d : Nat) (hf : 18446744073709551616 ≤ fu) (s : List Int) (x : Int) (hs : s.length ≤ 1000000) : cl fu (d + 1) fn_synopticlaw39_in [V.c (C.sl s.length (ints s)), I x] [] = some ⟨B (s.any fun y => x == y), [], none⟩ := by
  rw [eq_synopticlaw39_in]
  generalize hbody : (fun (y : Bool × Int × Unit) => _) = body
  obtain ⟨e, z, r1, r2⟩ := iter_meas (body := body) (fun y => ∃ j : Nat, j ≤ s.length ∧ y = (false, (j : Int), ()) ∧ ∀ i (hi : i < s.length), i < j → (x == s[i]) = false) (fun y => s.length - y.2.1.toNat) (fun e z => (e = 0 ∧ (s.any fun y => x == y) = false) ∨ (e = 1 ∧ z.1 = true ∧ (s.any fun y => x == y) = true)) (by
    rintro y ⟨j, hj, rfl, hall⟩
    subst hbody
    by_cases hlt : j < s.length
    · simp only [lt_yes (show (j : Int) < (s.length : Int) by omega), ct, inR_nat hlt, need_true, Int.toNat_natCast, Nat.mul_one, unc_ik hlt, asI_int]
      cases hx : x == s[j] with
      | true => exact .inr ⟨1, _, rfl, .inr ⟨rfl, rfl, List.any_eq_true.2 ⟨s[j], List.getElem_mem hlt, hx⟩⟩⟩
      | false =>
        refine .inl ⟨(false, ((j + 1 : Nat) : Int), ()), ?_, ⟨j + 1, by omega, rfl, fun i hi h => ?_⟩, by simp only [Int.toNat_natCast]; omega⟩
        · rw [IntWalk.i64_in _ ⟨by omega, by omega⟩]; rfl
        · by_cases e : i = j
          · subst e; exact hx
          · exact hall i hi (by omega)
    · refine .inr ⟨0, (false, (j : Int), ()), ?_, .inl ⟨rfl, ?_⟩⟩
      · simp only [show decide ((j : Int) < (s.length : Int)) = false from decide_eq_false (by omega), cf]
      · rw [List.any_eq_false]
        intro y hy
        obtain ⟨i, hi, rfl⟩ := List.mem_iff_getElem.1 hy
        rw [hall i hi (by omega)]; simp) fu (false, 0, ()) ⟨0, by omega, rfl, fun i _ h => by omega⟩ (by simp; omega)
  rw [r1]
  rcases r2 with ⟨rfl, h⟩ | ⟨rfl, h1, h2⟩
  · rw [h]; rfl
  · rw [h2]; simp only [obs, natD_succ, h1]
theorem any_mem {s : List Int} {x : Int} (h : x ∈ s) : (s.any fun y => x == y) = true := List.any_eq_true.2 ⟨x, h, by simp⟩

theorem tails (fu d : Nat) (hf : 18446744073709551616 ≤ fu) (n k : Nat) (hn : n ≤ 50) (hk : k ≤ n + 1) : (
need (!(((n : Int) + 2) == 0)) <|
          (cl fu (d + 8) fn_sampling_Tail [I (n : Int), I (IntKind.i64.wrap ((k : Int) - 1))] []).bind fun out19 =>
          rT out19.r fun xs11 =>
          uncV xs11 fun x24 ys24 =>
          rA x24 fun cs13 =>
          need (Nat.beq cs13.length 2) <|
          unc cs13 fun c46 r26 =>
          asI .i64 c46 fun i40 =>
          unc r26 fun c47 _ =>
          asI .i64 c47 fun i41 =>
          uncV ys24 fun x25 ys25 =>
          rC x25 fun c48 =>
          asI .i64 c48 fun i42 =>
          nilV ys25 <|
          bd (IntKind.i64.wrap ((n : Int) - (k : Int))) fun z9 =>
          (cl fu (d + 8) fn_sampling_Tail [I (n : Int), I z9] []).bind fun out20 =>
          rT out20.r fun xs12 =>
          uncV xs12 fun x26 ys26 =>
          rA x26 fun cs14 =>
          need (Nat.beq cs14.length 2) <|
          unc cs14 fun c49 r28 =>
          asI .i64 c49 fun i43 =>
          unc r28 fun c50 _ =>
          asI .i64 c50 fun i44 =>
          uncV ys26 fun x27 ys27 =>
          rC x27 fun c51 =>
          asI .i64 c51 fun i45 =>
          nilV ys27 <|
          bif decide (i41 < 1) then
            some ⟨B false, [], none⟩
          else
            bif decide (i44 < 1) then
              some ⟨B false, [], none⟩
            else
              need (!(decide (IntKind.u64.wrap (n : Int) < 0))) <|
              need (!(i41 == 0)) <|
              bd (IntKind.i64.wrap (Int.tdiv (IntKind.i64.wrap (1 * 2 ^ (min (IntKind.u64.wrap (n : Int)).toNat (IntKind.bits .i64)))) i41)) fun z10 =>
              need (!(decide (IntKind.u64.wrap (n : Int) < 0))) <|
              need (!(i44 == 0)) <|
              bd (IntKind.i64.wrap (Int.tdiv (IntKind.i64.wrap (1 * 2 ^ (min (IntKind.u64.wrap (n : Int)).toNat (IntKind.bits .i64)))) i44)) fun z11 =>
              need (!(decide (IntKind.u64.wrap (n : Int) < 0))) <|
              (cl fu (d + 8) fn_score_Reduce [I (IntKind.i64.wrap ((IntKind.i64.wrap (i40 * z10)) + (IntKind.i64.wrap (i43 * z11)))), I (IntKind.i64.wrap (1 * 2 ^ (min (IntKind.u64.wrap (n : Int)).toNat (IntKind.bits .i64))))] []).bind fun out21 =>
              rT out21.r fun xs13 =>
              uncV xs13 fun x28 ys28 =>
              rA x28 fun cs15 =>
              need (Nat.beq cs15.length 2) <|
              unc cs15 fun c52 r30 =>
              asI .i64 c52 fun i46 =>
              unc r30 fun c53 _ =>
              asI .i64 c53 fun i47 =>
              uncV ys28 fun x29 ys29 =>
              rC x29 fun c54 =>
              asI .i64 c54 fun i48 =>
              nilV ys29 <|
              bif i42 == 0 then
                bif i45 == 0 then
                  bif i48 == 0 then
                    some ⟨B ((i46 == 1) && ((i47 == 1) && true)), [], none⟩
                  else
                    some ⟨B false, [], none⟩
                else
                  some ⟨B false, [], none⟩
              else
                some ⟨B false, [], none⟩ : Option Out) = some ⟨B true, [], none⟩ := by
  have hp := pow50 n hn
  have hs := tsum_sym n k hk
  have u1 : upto n ((k : Int) - 1) = k := by
    unfold upto; split <;> omega
  have u2 : upto n ((n : Int) - (k : Int)) = n + 1 - k := by
    unfold upto; split <;> omega
  obtain ⟨g1, hg1, a1, a2, a3, a4, a5, a6⟩ := redI_eq (tsum n k) (2 ^ n) hp.1
  obtain ⟨g2, hg2, b1, b2, b3, b4, b5, b6⟩ := redI_eq (tsum n (n + 1 - k)) (2 ^ n) hp.1
  rw [IntWalk.i64_in ((k : Int) - 1) ⟨by omega, by omega⟩, IntWalk.i64_in ((n : Int) - (k : Int)) ⟨by omega, by omega⟩]
  simp only [bd_eq, show ((n : Int) + 2 == 0) = false by rw [beq_eq_false_iff_ne]; omega, Bool.not_false, need_true]
  rw [sp_Tail_any fu (d + 5) hf, sp_Tail_any fu (d + 5) hf]
  unfold tailR
  rw [if_pos ⟨by omega, by omega⟩, if_pos ⟨by omega, by omega⟩]
  simp only [Int.toNat_natCast, u1, u2]
  generalize (redI (tsum n k) (2 ^ n)).1 = p1 at *
  generalize (redI (tsum n k) (2 ^ n)).2 = q1 at *
  generalize (redI (tsum n (n + 1 - k)) (2 ^ n)).1 = p2 at *
  generalize (redI (tsum n (n + 1 - k)) (2 ^ n)).2 = q2 at *
  simp only [out3, obs, rT_tup, uncV_cons, rA_agg, List.length_cons, List.length_nil, Nat.zero_add, Nat.reduceAdd, beqN_self, need_true, unc_cons, asI_int, rC_c, nilV_nil, show decide (q1 < 1) = false from decide_eq_false (by omega), show decide (q2 < 1) = false from decide_eq_false (by omega), cf, u64i n (by omega), show decide ((n : Int) < 0) = false from decide_eq_false (by omega), Bool.not_false, show (q1 == 0) = false by rw [beq_eq_false_iff_ne]; omega, show (q2 == 0) = false by rw [beq_eq_false_iff_ne]; omega, Int.toNat_natCast, two_pow_i64 n (by omega)]
  have d1 : Int.tdiv ((2 ^ n : Nat) : Int) q1 = (g1 : Int) := by rw [← a2]; exact Int.mul_tdiv_cancel_left _ (by omega)
  have d2 : Int.tdiv ((2 ^ n : Nat) : Int) q2 = (g2 : Int) := by rw [← b2]; exact Int.mul_tdiv_cancel_left _ (by omega)
  have l1 : (g1 : Int) ≤ ((2 ^ n : Nat) : Int) := by have := Int.mul_le_mul_of_nonneg_right (show (1 : Int) ≤ q1 by omega) (show (0 : Int) ≤ g1 by omega); omega
  have l2 : (g2 : Int) ≤ ((2 ^ n : Nat) : Int) := by have := Int.mul_le_mul_of_nonneg_right (show (1 : Int) ≤ q2 by omega) (show (0 : Int) ≤ g2 by omega); omega
  have t1 := tsum_le n k
  have t2 := tsum_le n (n + 1 - k)
  rw [d1, d2, IntWalk.i64_in (g1 : Int) ⟨by omega, by omega⟩, IntWalk.i64_in (g2 : Int) ⟨by omega, by omega⟩, a1, b1, IntWalk.i64_in ((tsum n k : Nat) : Int) ⟨by omega, by omega⟩, IntWalk.i64_in ((tsum n (n + 1 - k) : Nat) : Int) ⟨by omega, by omega⟩, ← Int.natCast_add, hs, IntWalk.i64_in ((2 ^ n : Nat) : Int) ⟨by omega, by omega⟩]
  rw [sp_Reduce_any fu (d + 6) hf (2 ^ n) (2 ^ n) (Nat.le_refl _) hp.1 (by omega), redI_self _ hp.1]
  rfl

set_option maxRecDepth 100000 in
theorem sp_SamplingIntervals (fu d : Nat) (hf : 18446744073709551616 ≤ fu) (bs : List Int) (hb : bytes bs) (x1 x2 x3 x4 : Nat) (h1 : x1 ≤ 255) (h2 : x2 ≤ 255) (h3 : x3 ≤ 255) (h4 : x4 ≤ 255) :
    cl fu (d + 9) fn_synopticlaw39_SamplingIntervals [V.c (C.sl bs.length (ik .u8 bs)), V.c (C.v (.int .u8 (x1 : Int))), V.c (C.v (.int .u8 (x2 : Int))), V.c (C.v (.int .u8 (x3 : Int))), V.c (C.v (.int .u8 (x4 : Int)))] [] = some ⟨B true, [], none⟩ := by
  rw [eq_synopticlaw39_SamplingIntervals, sp_awake fu d hf]
  simp only [obs, rC_c, asB_bool, Bool.not_true, cf]
  have hN := sp_New fu (d + 7) bs 80
  unfold codesO codesC at hN
  have hb' : bytes (bs.take 80) := fun x hx => hb x (List.mem_of_mem_take hx)
  have hbl : (bs.take 80).length ≤ 1000000000000 := by simp; omega
  generalize bs.take 80 = cs at hN hb' hbl
  rw [show (80 : Int) = ((80 : Nat) : Int) from rfl, hN]
  obtain ⟨s, q', hsam, hss, hsl, hq'⟩ := sp_sample fu (d + 5) hf cs hb' 0 (by omega) hbl 20 (by omega)
  unfold codesO codesC at hsam
  simp only [obs, rP_ptr, show OUT = 1000000 from rfl, Nat.add_zero, beqN_self, Bool.and_self, need_true, uncO_cons, rN_ob, List.length_cons, List.length_nil, Nat.zero_add, Nat.reduceAdd, unc_cons, asI_int]
  rw [hsam]
  simp only [obs, uncO_cons, rO_ob, beqN_self, Bool.and_self, need_true, List.length_cons, List.length_nil, Nat.zero_add, Nat.reduceAdd, unc_cons, asI_int, rC_c, nrm, noYl_sl]
  obtain ⟨pa, qa, e1, ma, ma1, rfl, rfl⟩ := sp_level fu (d + 6) hf (IntKind.i64.wrap (if (x2 : Int) < (x1 : Int) then (x2 : Int) else (x1 : Int)))
  obtain ⟨pb, qb, e2, mb, mb1, rfl, rfl⟩ := sp_level fu (d + 6) hf (IntKind.i64.wrap (if (x2 : Int) > (x1 : Int) then (x2 : Int) else (x1 : Int)))
  rw [e1, e2]
  simp only [obs, rA_agg, List.length_cons, List.length_nil, Nat.zero_add, Nat.reduceAdd, beqN_self, need_true, unc_cons, asI_int]
  obtain ⟨ga, _, _, _, ua0, ua1, ua2, ua3⟩ := redI_eq ma 100 (by omega)
  obtain ⟨gb, _, _, _, ub0, ub1, ub2, ub3⟩ := redI_eq mb 100 (by omega)
  rw [sp_Compare fu (d + 4) hf _ _ _ _ ⟨by omega, by omega⟩ ⟨by omega, by omega⟩ ⟨by omega, by omega⟩ ⟨by omega, by omega⟩]
  simp only [obs, rC_c, asI_int, cmpI_gt]
  obtain ⟨a, b, p, q, hpick, hla, hlp, hle⟩ : ∃ a b p q : Int, (bif decide ((redI mb 100).1 * (redI ma 100).2 < (redI ma 100).1 * (redI mb 100).2) then some (0, (((redI mb 100).1, (redI mb 100).2, ()), ((redI ma 100).1, (redI ma 100).2, ()), ())) else some (0, (((redI ma 100).1, (redI ma 100).2, ()), ((redI mb 100).1, (redI mb 100).2, ()), ())) : Option (Nat × (Int × Int × Unit) × (Int × Int × Unit) × Unit)) = some (0, (a, b, ()), (p, q, ()), ()) ∧ lvB a b = true ∧ lvB p q = true ∧ a * q ≤ p * b := by
    by_cases hc : (redI mb 100).1 * (redI ma 100).2 < (redI ma 100).1 * (redI mb 100).2
    · rw [decide_eq_true hc]
      exact ⟨_, _, _, _, rfl, lv100 mb mb1, lv100 ma ma1, by omega⟩
    · rw [show decide ((redI mb 100).1 * (redI ma 100).2 < (redI ma 100).1 * (redI mb 100).2) = false from decide_eq_false hc]
      exact ⟨_, _, _, _, rfl, lv100 ma ma1, lv100 mb mb1, by omega⟩
  rw [hpick]
  simp only [obs]
  have hsl' : s.length ≤ 20 := by omega
  rw [sp_Median fu (d + 2) hf s a b (by omega), sp_Median fu (d + 2) hf s p q (by omega)]
  simp only [obs, rT_tup, uncV_cons, rC_c, asI_int, nilV_nil]
  have w3 : IntKind.i64.wrap (x3 : Int) = (x3 : Int) := IntWalk.i64_in _ ⟨by omega, by omega⟩
  have w4 : IntKind.i64.wrap (x4 : Int) = (x4 : Int) := IntWalk.i64_in _ ⟨by omega, by omega⟩
  have w5 : Int.tmod (x3 : Int) 51 = ((x3 % 51 : Nat) : Int) := by rw [IntWalk.rem_in _ _ (by omega)]; omega
  have w6 : IntKind.i64.wrap (((x3 % 51 : Nat) : Int) + 2) = ((x3 % 51 : Nat) : Int) + 2 := IntWalk.i64_in _ ⟨by omega, by omega⟩
  have w7 : Int.tmod (x4 : Int) (((x3 % 51 : Nat) : Int) + 2) = ((x4 % (x3 % 51 + 2) : Nat) : Int) := by rw [IntWalk.rem_in _ _ (by omega)]; rfl
  simp only [w3, w4, w5, w6, w7]
  have hn : x3 % 51 ≤ 50 := by omega
  have hk : x4 % (x3 % 51 + 2) ≤ x3 % 51 + 1 := by have := Nat.mod_lt x4 (show 0 < x3 % 51 + 2 by omega); omega
  have T := tails fu d hf (x3 % 51) (x4 % (x3 % 51 + 2)) hn hk
  generalize x3 % 51 = n at *
  generalize x4 % (n + 2) = k at *
  rw [T]
  clear T
  obtain ⟨la1, la2, la3, la4⟩ := lvB_in hla
  obtain ⟨lp1, lp2, lp3, lp4⟩ := lvB_in hlp
  by_cases hz1 : (medR s a b).2.2 = 0
  · obtain ⟨f1, f2, f3, f4, f5⟩ := med_zero hz1
    have hh := ranks_half (n := s.length) la3 la4 la1
    have hr := ranksN_le (n := s.length) la3 la1
    rw [f5]
    simp only [beq_self_eq_true, ct, bne_self_eq_false, cf]
    rw [show decide ((sortI s).getD (ranksN s.length a b - 1) 0 > (sortI s).getD (s.length - ranksN s.length a b) 0) = false from decide_eq_false (Int.not_lt.2 (sorted_le (by omega) (by omega)))]
    simp only [cf]
    rw [sp_in fu (d + 7) hf s _ (by omega), sp_in fu (d + 7) hf s _ (by omega), any_mem (sorted_mem (by omega)), any_mem (sorted_mem (by omega))]
    simp only [obs, rC_c, asB_bool, Bool.not_true, cf]
    by_cases hz2 : (medR s p q).2.2 = 0
    · obtain ⟨g1, g2, g3, g4, g5⟩ := med_zero hz2
      have hrl := ranks_level (n := s.length) la3 la4 la1 lp3 lp4 lp1 hle
      rw [g5]
      simp only [beq_self_eq_true, ct]
      rw [show decide ((sortI s).getD (ranksN s.length p q - 1) 0 > (sortI s).getD (ranksN s.length a b - 1) 0) = false from decide_eq_false (Int.not_lt.2 (sorted_le (by omega) (by omega))), show decide ((sortI s).getD (s.length - ranksN s.length p q) 0 < (sortI s).getD (s.length - ranksN s.length a b) 0) = false from decide_eq_false (Int.not_lt.2 (sorted_le (by omega) (by omega)))]
      simp only [cf]
    · rw [show ((medR s p q).2.2 == 0) = false by simpa using hz2]
      simp only [cf]
  · rw [show ((medR s a b).2.2 == 0) = false by simpa using hz1]
    have hz2 : ¬ (medR s p q).2.2 = 0 := fun h => by
      obtain ⟨g1, g2, g3, g4, g5⟩ := med_zero h
      have hrl := ranks_level (n := s.length) la3 la4 la1 lp3 lp4 lp1 hle
      exact hz1 (med_of g1 g2 hla (by omega))
    rw [show ((medR s p q).2.2 == 0) = false by simpa using hz2]
    simp only [cf]

theorem sp_SamplingIntervals' (fu d : Nat) (hf : 18446744073709551616 ≤ fu) (bs : List Int) (hb : bytes bs) (a1 a2 a3 a4 : Int) (h1 : 0 ≤ a1 ∧ a1 ≤ 255) (h2 : 0 ≤ a2 ∧ a2 ≤ 255) (h3 : 0 ≤ a3 ∧ a3 ≤ 255) (h4 : 0 ≤ a4 ∧ a4 ≤ 255) :
    cl fu (d + 9) fn_synopticlaw39_SamplingIntervals [V.c (C.sl bs.length (ik .u8 bs)), V.c (C.v (.int .u8 a1)), V.c (C.v (.int .u8 a2)), V.c (C.v (.int .u8 a3)), V.c (C.v (.int .u8 a4))] [] = some ⟨B true, [], none⟩ := by
  obtain ⟨x1, rfl⟩ : ∃ m : Nat, a1 = m := ⟨a1.toNat, by omega⟩
  obtain ⟨x2, rfl⟩ : ∃ m : Nat, a2 = m := ⟨a2.toNat, by omega⟩
  obtain ⟨x3, rfl⟩ : ∃ m : Nat, a3 = m := ⟨a3.toNat, by omega⟩
  obtain ⟨x4, rfl⟩ : ∃ m : Nat, a4 = m := ⟨a4.toNat, by omega⟩
  exact sp_SamplingIntervals fu d hf bs hb x1 x2 x3 x4 (by omega) (by omega) (by omega) (by omega)

end Go.Proofs.Ytepjbmlhfhahcaa
