/- What the comparison of fractions and the reduction to lowest terms come to (the numbers within their bounds). -/
import Derived.Test.YtepjbmlhfhahcaaEq
set_option linter.unusedVariables false
set_option linter.unusedSimpArgs false
namespace Go.Proofs.Ytepjbmlhfhahcaa
open Go Go.PM

def cmpI (a b : Int) : Int := if a < b then -1 else if a > b then 1 else 0

theorem sp_isNaN_int (fu d : Nat) (a : Int) : cl fu (d + 1) fn_cmp_isNaN_int [I a] [] = some ⟨B false, [], none⟩ := by
  rw [eq_cmp_isNaN_int]; simp
theorem sp_isNaN_uint64 (fu d : Nat) (a : Int) : cl fu (d + 1) fn_cmp_isNaN_uint64 [V.c (C.v (.int .u64 a))] [] = some ⟨B false, [], none⟩ := by
  rw [eq_cmp_isNaN_uint64]; simp
theorem sp_Compare_int (fu d : Nat) (a b : Int) : cl fu (d + 2) fn_cmp_Compare_int [I a, I b] [] = some ⟨I (cmpI a b), [], none⟩ := by
  rw [eq_cmp_Compare_int, sp_isNaN_int, sp_isNaN_int]
  simp only [obs, rC_c, asB_bool, cf, cmpI]
  by_cases h : a < b
  · simp [h]
  · by_cases h' : a > b <;> simp [h, h']
theorem sp_Compare_uint64 (fu d : Nat) (a b : Int) : cl fu (d + 2) fn_cmp_Compare_uint64 [V.c (C.v (.int .u64 a)), V.c (C.v (.int .u64 b))] [] = some ⟨I (cmpI a b), [], none⟩ := by
  rw [eq_cmp_Compare_uint64, sp_isNaN_uint64, sp_isNaN_uint64]
  simp only [obs, rC_c, asB_bool, cf, cmpI]
  by_cases h : a < b
  · simp [h]
  · by_cases h' : a > b <;> simp [h, h']
theorem sp_sign (fu d : Nat) (a : Int) : cl fu (d + 3) fn_score_sign [I a] [] = some ⟨I (cmpI a 0), [], none⟩ := by
  rw [eq_score_sign, sp_Compare_int]
  simp

/-- The first of two that is not nought. -/
theorem sp_Or_int2 (fu d : Nat) (a b : Int) : cl (fu + 3) (d + 1) fn_cmp_Or_int [V.c (C.sl 2 [C.v (.int .i64 a), C.v (.int .i64 b)])] [] = some ⟨I (if a = 0 then b else a), [], none⟩ := by
  rw [eq_cmp_Or_int]
  by_cases ha : a = 0
  · by_cases hb : b = 0
    · rw [iter_next (z := (0, 1, ())) (by simp [inR, need, ha]; rfl), iter_next (z := (0, 2, ())) (by simp [inR, need, hb]; rfl), iter_one (e := 0) (z := (0, 2, ())) (by omega) (by simp)]
      simp [ha, hb]
    · rw [iter_next (z := (0, 1, ())) (by simp [inR, need, ha]; rfl), iter_one (e := 1) (z := (b, 1, ())) (by omega) (by simp [inR, need, show (b != 0) = true by simpa using hb])]
      simp [ha]
  · rw [iter_one (e := 1) (z := (a, 0, ())) (by omega) (by simp [inR, need, show (a != 0) = true by simpa using ha])]
    simp [ha]

theorem u32mask (x : Nat) : IntKind.u64.wrap (BitVec.ofInt (IntKind.bits .u64) (x : Int) &&& BitVec.ofInt (IntKind.bits .u64) 4294967295).toNat = ((x % 4294967296 : Nat) : Int) := by
  have h := and_mask (kd := .u64) (by decide) x 32 (by decide)
  simp only [Nat.reducePow, Nat.reduceSub] at h
  rw [show (4294967295 : Int) = ((4294967295 : Nat) : Int) from rfl, h]
  exact IntWalk.u64_in _ ⟨by omega, by omega⟩
theorem shr32 (x : Nat) : Int.fdiv (x : Int) (2 ^ 32) = ((x / 4294967296 : Nat) : Int) := fdiv_pow x 32
theorem u64nat (x : Nat) (h : x < 18446744073709551616) : IntKind.u64.wrap (x : Int) = (x : Int) := IntWalk.u64_in _ ⟨by omega, by omega⟩
theorem u64mod (x : Nat) : IntKind.u64.wrap (x : Int) = ((x % 18446744073709551616 : Nat) : Int) := by
  simp [IntKind.wrap, IntKind.bits, IntKind.signed]

theorem u64mul (x y : Nat) : IntKind.u64.wrap ((x : Int) * (y : Int)) = ((x * y % 18446744073709551616 : Nat) : Int) := by rw [← Int.natCast_mul, u64mod]
theorem u64add (x y : Nat) : IntKind.u64.wrap ((x : Int) + (y : Int)) = (((x + y) % 18446744073709551616 : Nat) : Int) := by rw [← Int.natCast_add, u64mod]
theorem mul_lt32 {a b : Nat} (ha : a < 4294967296) (hb : b < 4294967296) : a * b ≤ 4294967295 * 4294967295 := Nat.mul_le_mul (by omega) (by omega)

/-- The product of two 64-bit numbers, in two words. -/
theorem sp_Mul64 (fu d : Nat) (a b : Nat) (ha : a < 18446744073709551616) (hb : b < 18446744073709551616) :
    cl fu (d + 1) fn_bits_Mul64 [V.c (C.v (.int .u64 a)), V.c (C.v (.int .u64 b))] [] = some ⟨V.tup [V.c (C.v (.int .u64 ((a * b / 18446744073709551616 : Nat) : Int))), V.c (C.v (.int .u64 ((a * b % 18446744073709551616 : Nat) : Int)))], [], none⟩ := by
  rw [eq_bits_Mul64]
  simp only [bd_eq, u32mask, shr32, u64mul, u64add, Option.some.injEq, Out.mk.injEq, and_true, V.tup.injEq, List.cons.injEq, V.c.injEq, C.v.injEq, Value.int.injEq, true_and, Int.ofNat_inj]
  generalize hx0 : a % 4294967296 = x0
  generalize hx1 : a / 4294967296 = x1
  generalize hy0 : b % 4294967296 = y0
  generalize hy1 : b / 4294967296 = y1
  have h00 := mul_lt32 (a := x0) (b := y0) (by omega) (by omega)
  have h10 := mul_lt32 (a := x1) (b := y0) (by omega) (by omega)
  have h01 := mul_lt32 (a := x0) (b := y1) (by omega) (by omega)
  have h11 := mul_lt32 (a := x1) (b := y1) (by omega) (by omega)
  have hab : a * b = x1 * y1 * 18446744073709551616 + (x1 * y0 + x0 * y1) * 4294967296 + x0 * y0 := by
    have e1 : a = x1 * 4294967296 + x0 := by omega
    have e2 : b = y1 * 4294967296 + y0 := by omega
    rw [e1, e2]
    simp only [Nat.add_mul, Nat.mul_add]
    have e3 : x1 * 4294967296 * (y1 * 4294967296) = x1 * y1 * 18446744073709551616 := by rw [Nat.mul_mul_mul_comm]
    have e4 : x1 * 4294967296 * y0 = x1 * y0 * 4294967296 := by rw [Nat.mul_right_comm]
    have e5 : x0 * (y1 * 4294967296) = x0 * y1 * 4294967296 := by rw [Nat.mul_assoc]
    rw [e3, e4, e5]
    omega
  rw [hab]
  generalize x0 * y0 = p at *
  generalize x1 * y0 = q at *
  generalize x0 * y1 = r at *
  generalize x1 * y1 = s at *
  omega

theorem absI (a : Int) (h : -9223372036854775807 ≤ a ∧ a ≤ 9223372036854775807) : (if IntKind.i64.wrap (0 - a) > a then IntKind.i64.wrap (0 - a) else a) = (a.natAbs : Int) := by
  rw [IntWalk.i64_in (0 - a) ⟨by omega, by omega⟩]
  split <;> omega

theorem cmpI_words (p q : Nat) : (if cmpI ((p / 18446744073709551616 : Nat) : Int) ((q / 18446744073709551616 : Nat) : Int) = 0 then cmpI ((p % 18446744073709551616 : Nat) : Int) ((q % 18446744073709551616 : Nat) : Int) else cmpI ((p / 18446744073709551616 : Nat) : Int) ((q / 18446744073709551616 : Nat) : Int)) = cmpI p q := by
  unfold cmpI
  repeat' split
  all_goals omega

theorem cmpI_sign (a : Int) : cmpI a 0 = a.sign := by
  unfold cmpI
  rcases Int.lt_trichotomy a 0 with h | h | h
  · rw [if_pos h, Int.sign_eq_neg_one_of_neg h]
  · subst h; rfl
  · rw [if_neg (by omega), if_pos h, Int.sign_eq_one_of_pos h]

theorem sp_Compare (fu d : Nat) (hf : 18446744073709551616 ≤ fu) (a b p q : Int) (ha : -9223372036854775807 ≤ a ∧ a ≤ 9223372036854775807) (hb : 0 < b ∧ b ≤ 9223372036854775807) (hp : -9223372036854775807 ≤ p ∧ p ≤ 9223372036854775807) (hq : 0 < q ∧ q ≤ 9223372036854775807) :
    cl fu (d + 4) fn_score_Compare [V.agg [C.v (.int .i64 a), C.v (.int .i64 b)], V.agg [C.v (.int .i64 p), C.v (.int .i64 q)]] [] = some ⟨I (cmpI (a * q) (p * b)), [], none⟩ := by
  obtain ⟨fu, rfl⟩ : ∃ n, fu = n + 3 := ⟨fu - 3, by omega⟩
  rw [eq_score_Compare, sp_sign, sp_sign]
  simp only [obs, rC_c, asI_int]
  have hbq : ∃ x y : Nat, b = x ∧ q = y := ⟨b.toNat, q.toNat, by omega, by omega⟩
  obtain ⟨x, y, rfl, rfl⟩ := hbq
  rw [absI a ha, absI p hp, u64nat a.natAbs (by omega), u64nat p.natAbs (by omega), u64nat x (by omega), u64nat y (by omega), sp_Mul64 _ _ _ _ (by omega) (by omega), sp_Mul64 _ _ _ _ (by omega) (by omega)]
  simp only [obs, rT_tup, uncV_cons, rC_c, asI_int, nilV_nil, sp_Compare_uint64, sp_Or_int2, sp_Compare_int, cmpI_words]
  by_cases hs : cmpI a 0 = cmpI p 0
  · rw [show (cmpI a 0 != cmpI p 0) = false by simp [hs]]
    simp only [cf]
    by_cases hz : cmpI a 0 = 0
    · have ha0 : a = 0 := by unfold cmpI at hz; repeat' split at hz; all_goals omega
      have hp0 : p = 0 := by rw [hz] at hs; unfold cmpI at hs; repeat' split at hs; all_goals omega
      subst ha0 hp0
      simp [cmpI]
    · rw [show (cmpI a 0 == 0) = false by simpa using hz]
      simp only [cf, Option.some.injEq, Out.mk.injEq, and_true, V.c.injEq, C.v.injEq, Value.int.injEq, true_and]
      rcases Int.lt_trichotomy a 0 with h | h | h
      · have h2 : p < 0 := by
          unfold cmpI at hs; repeat' split at hs; all_goals omega
        have e1 : ((a.natAbs * y : Nat) : Int) = -(a * y) := by rw [Int.natCast_mul, show ((a.natAbs : Nat) : Int) = -a by omega, Int.neg_mul]
        have e2 : ((p.natAbs * x : Nat) : Int) = -(p * x) := by rw [Int.natCast_mul, show ((p.natAbs : Nat) : Int) = -p by omega, Int.neg_mul]
        rw [e1, e2]
        generalize a * (y : Int) = u
        generalize p * (x : Int) = v
        rw [show cmpI a 0 = -1 by unfold cmpI; rw [if_pos h]]
        unfold cmpI
        repeat' split
        all_goals first | rfl | omega
      · subst h; simp [cmpI] at hz
      · have h2 : 0 < p := by
          unfold cmpI at hs; repeat' split at hs; all_goals omega
        have e1 : ((a.natAbs * y : Nat) : Int) = a * y := by rw [Int.natCast_mul, show ((a.natAbs : Nat) : Int) = a by omega]
        have e2 : ((p.natAbs * x : Nat) : Int) = p * x := by rw [Int.natCast_mul, show ((p.natAbs : Nat) : Int) = p by omega]
        rw [e1, e2]
        generalize a * (y : Int) = u
        generalize p * (x : Int) = v
        rw [show cmpI a 0 = 1 by unfold cmpI; rw [if_neg (by omega), if_pos h]]
        unfold cmpI
        repeat' split
        all_goals first | rfl | omega
  · rw [show (cmpI a 0 != cmpI p 0) = true by simpa using hs]
    simp only [ct, Option.some.injEq, Out.mk.injEq, and_true, V.c.injEq, C.v.injEq, Value.int.injEq, true_and]
    have h1 : (0 < a → 0 < a * y) ∧ (a < 0 → a * y < 0) ∧ (a = 0 → a * (y : Int) = 0) := ⟨fun h => Int.mul_pos h hq.1, fun h => Int.mul_neg_of_neg_of_pos h hq.1, fun h => by subst h; simp⟩
    have h2 : (0 < p → 0 < p * x) ∧ (p < 0 → p * x < 0) ∧ (p = 0 → p * (x : Int) = 0) := ⟨fun h => Int.mul_pos h hb.1, fun h => Int.mul_neg_of_neg_of_pos h hb.1, fun h => by subst h; simp⟩
    generalize a * (y : Int) = u at *
    generalize p * (x : Int) = v at *
    unfold cmpI at hs ⊢
    repeat' split
    all_goals repeat' split at hs
    all_goals omega

/-- The greatest common divisor's loop. -/
theorem sp_gcd (fu : Nat) (x y : Nat) (h : y < fu) : iter (fun (y : Int × Int × (Int × Int × Unit) × Unit) =>
      bif y.2.1 != 0 then
        need (!(y.2.1 == 0)) <|
        some (0, (y.2.1, Int.tmod y.1 y.2.1, (y.2.2.1.1, y.2.2.1.2.1, ()), ()))
      else
        some (1, (y.1, y.2.1, (y.2.2.1.1, y.2.2.1.2.1, ()), ()))) fu ((x : Int), (y : Int), (0, 0, ()), ()) = some (0, (((Nat.gcd x y : Nat) : Int), 0, (0, 0, ()), ())) := by
  obtain ⟨e, z, h1, h2⟩ := iter_meas (body := (fun (y : Int × Int × (Int × Int × Unit) × Unit) =>
      bif y.2.1 != 0 then
        need (!(y.2.1 == 0)) <|
        some (0, (y.2.1, Int.tmod y.1 y.2.1, (y.2.2.1.1, y.2.2.1.2.1, ()), ()))
      else
        some (1, (y.1, y.2.1, (y.2.2.1.1, y.2.2.1.2.1, ()), ())))) (fun s => ∃ u v : Nat, s = ((u : Int), (v : Int), (0, 0, ()), ()) ∧ Nat.gcd u v = Nat.gcd x y) (fun s => s.2.1.toNat) (fun e z => e = 0 ∧ z = (((Nat.gcd x y : Nat) : Int), 0, (0, 0, ()), ())) (by
    rintro s ⟨u, v, rfl, hg⟩
    by_cases hv : v = 0
    · subst hv
      refine .inr ⟨0, _, by simp; rfl, rfl, ?_⟩
      simp at hg
      simp [hg]
    · have hv' : (v : Int) ≠ 0 := by omega
      have e : Int.tmod (u : Int) (v : Int) = ((u % v : Nat) : Int) := rfl
      refine .inl ⟨((v : Int), ((u % v : Nat) : Int), (0, 0, ()), ()), ?_, ⟨v, u % v, rfl, ?_⟩, ?_⟩
      · have t : ((v : Int) != 0) = true := by simpa using hv
        have t' : ((v : Int) == 0) = false := by simpa using hv
        simp [t', t, need, e]
      · rw [← hg, Nat.gcd_comm u v, Nat.gcd_rec v u, Nat.gcd_comm]
      · simp only [Int.toNat_natCast]
        exact Nat.mod_lt _ (by omega)) fu ((x : Int), (y : Int), (0, 0, ()), ()) ⟨x, y, rfl, rfl⟩ (by simpa using h)
  rw [h1, h2.1, h2.2]

/-- A fraction in lowest terms, its denominator positive. -/
theorem sp_Reduce (fu d : Nat) (hf : 18446744073709551616 ≤ fu) (a : Int) (b : Nat) (ha : -1152921504606846976 ≤ a ∧ a ≤ 1152921504606846976) (hb : 0 < b ∧ b ≤ 1152921504606846976) :
    cl fu (d + 2) fn_score_Reduce [I a, I b] [] = some ⟨V.tup [V.agg [C.v (.int .i64 (a / (Nat.gcd a.natAbs b : Nat))), C.v (.int .i64 ((b / Nat.gcd a.natAbs b : Nat) : Int))], I 0], [], none⟩ := by
  rw [eq_score_Reduce, eq_score_within, eq_score_within]
  have hb0 : ((b : Int) == 0) = false := by simp; omega
  have hbn : decide ((b : Int) < 0) = false := decide_eq_false (by omega)
  simp only [hb0, hbn, cf, ct, decide_eq_true ha.1, decide_eq_true ha.2, show decide ((-1152921504606846976 : Int) ≤ b) = true from decide_eq_true (by omega), show decide ((b : Int) ≤ 1152921504606846976) = true from decide_eq_true (by omega), obs, rC_c, asB_bool, Bool.not_true]
  rw [absI a (by omega), sp_gcd _ _ _ (by omega)]
  have hg : 0 < Nat.gcd a.natAbs b := Nat.gcd_pos_of_pos_right _ hb.1
  have hg' : Nat.gcd a.natAbs b ≤ b := Nat.gcd_le_right _ hb.1
  have hz : (((Nat.gcd a.natAbs b : Nat) : Int) == 0) = false := by simp; omega
  have hd1 : ((Nat.gcd a.natAbs b : Nat) : Int) ∣ a := by
    have := Nat.gcd_dvd_left a.natAbs b
    exact Int.ofNat_dvd_left.2 this
  have e1 : Int.tdiv a ((Nat.gcd a.natAbs b : Nat) : Int) = a / ((Nat.gcd a.natAbs b : Nat) : Int) := Int.tdiv_eq_ediv_of_dvd hd1
  have e2 : Int.tdiv (b : Int) ((Nat.gcd a.natAbs b : Nat) : Int) = ((b / Nat.gcd a.natAbs b : Nat) : Int) := rfl
  have b1 : b / Nat.gcd a.natAbs b ≤ b := Nat.div_le_self _ _
  have b2 : (a / ((Nat.gcd a.natAbs b : Nat) : Int)).natAbs ≤ a.natAbs := by
    rw [Int.natAbs_ediv_of_dvd hd1]
    exact Nat.div_le_self _ _
  simp only [obs, hz, Bool.not_false, need_true, e1, e2]
  generalize a / ((Nat.gcd a.natAbs b : Nat) : Int) = u at *
  generalize b / Nat.gcd a.natAbs b = v at *
  rw [IntWalk.i64_in u ⟨by omega, by omega⟩, IntWalk.i64_in v ⟨by omega, by omega⟩]

end Go.Proofs.Ytepjbmlhfhahcaa
