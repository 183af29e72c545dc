/- Parts put together: Sa, Sb, Sc, Sd, Se, Sf, Ta, Tb, Tc, Td, Te, Ua, Ub, Uc, Va, Vb, Vc, Qc, Vd, Ve. -/
import Derived.Test.YtepjbmlhfhahcaaEq
import Derived.Test.YtepjbmlhfhahcaaJ4
set_option linter.unusedSimpArgs false
set_option linter.unusedVariables false
/- What the comparison of fractions and the reduction to lowest terms come to (the numbers within their bounds). -/
namespace Go.Proofs.Ytepjbmlhfhahcaa
open Go Go.PM

def cmpI (a b : Int) : Int := if a < b then -1 else if a > b then 1 else 0

theorem sp_isNaN_int (fu d : Nat) (a : Int) : cl fu (d + 1) fn_cmp_isNaN_int [I a] [] = some ⟨B false, [], none⟩ := by
  rw [eq_cmp_isNaN_int]; simp
theorem sp_isNaN_uint64 (fu d : Nat) (a : Int) : cl fu (d + 1) fn_cmp_isNaN_uint64 [V.c (C.v (.int .u64 a))] [] = some ⟨B false, [], none⟩ := by
  rw [eq_cmp_isNaN_uint64]; simp
theorem sp_Compare_int (fu d : Nat) (a b : Int) : cl fu (d + 2) fn_cmp_Compare_int [I a, I b] [] = some ⟨I (cmpI a b), [], none⟩ := by
  rw [eq_cmp_Compare_int, sp_isNaN_int, sp_isNaN_int]
  simp only [obs, rC_c, asB_bool, cf, cmpI]
  by_cases h : a < b
  · simp [h]
  · by_cases h' : a > b <;> simp [h, h']
theorem sp_Compare_uint64 (fu d : Nat) (a b : Int) : cl fu (d + 2) fn_cmp_Compare_uint64 [V.c (C.v (.int .u64 a)), V.c (C.v (.int .u64 b))] [] = some ⟨I (cmpI a b), [], none⟩ := by
  rw [eq_cmp_Compare_uint64, sp_isNaN_uint64, sp_isNaN_uint64]
  simp only [obs, rC_c, asB_bool, cf, cmpI]
  by_cases h : a < b
  · simp [h]
  · by_cases h' : a > b <;> simp [h, h']
theorem sp_sign (fu d : Nat) (a : Int) : cl fu (d + 3) fn_score_sign [I a] [] = some ⟨I (cmpI a 0), [], none⟩ := by
  rw [eq_score_sign, sp_Compare_int]
  simp

/-- The first of two that is not nought. -/
theorem sp_Or_int2 (fu d : Nat) (a b : Int) : cl (fu + 3) (d + 1) fn_cmp_Or_int [V.c (C.sl 2 [C.v (.int .i64 a), C.v (.int .i64 b)])] [] = some ⟨I (if a = 0 then b else a), [], none⟩ := by
  rw [eq_cmp_Or_int]
  by_cases ha : a = 0
  · by_cases hb : b = 0
    · rw [iter_next (z := (0, 1, ())) (by simp [inR, need, ha]; rfl), iter_next (z := (0, 2, ())) (by simp [inR, need, hb]; rfl), iter_one (e := 0) (z := (0, 2, ())) (by omega) (by simp)]
      simp [ha, hb]
    · rw [iter_next (z := (0, 1, ())) (by simp [inR, need, ha]; rfl), iter_one (e := 1) (z := (b, 1, ())) (by omega) (by simp [inR, need, show (b != 0) = true by simpa using hb])]
      simp [ha]
  · rw [iter_one (e := 1) (z := (a, 0, ())) (by omega) (by simp [inR, need, show (a != 0) = true by simpa using ha])]
    simp [ha]

theorem u32mask (x : Nat) : IntKind.u64.wrap (BitVec.ofInt (IntKind.bits .u64) (x : Int) &&& BitVec.ofInt (IntKind.bits .u64) 4294967295).toNat = ((x % 4294967296 : Nat) : Int) := by
  have h := and_mask (kd := .u64) (by decide) x 32 (by decide)
  simp only [Nat.reducePow, Nat.reduceSub] at h
  rw [show (4294967295 : Int) = ((4294967295 : Nat) : Int) from rfl, h]
  exact IntWalk.u64_in _ ⟨by omega, by omega⟩
theorem shr32 (x : Nat) : Int.fdiv (x : Int) (2 ^ 32) = ((x / 4294967296 : Nat) : Int) := fdiv_pow x 32
theorem u64nat (x : Nat) (h : x < 18446744073709551616) : IntKind.u64.wrap (x : Int) = (x : Int) := IntWalk.u64_in _ ⟨by omega, by omega⟩
theorem u64mod (x : Nat) : IntKind.u64.wrap (x : Int) = ((x % 18446744073709551616 : Nat) : Int) := by
  simp [IntKind.wrap, IntKind.bits, IntKind.signed]

theorem u64mul (x y : Nat) : IntKind.u64.wrap ((x : Int) * (y : Int)) = ((x * y % 18446744073709551616 : Nat) : Int) := by rw [← Int.natCast_mul, u64mod]
theorem u64add (x y : Nat) : IntKind.u64.wrap ((x : Int) + (y : Int)) = (((x + y) % 18446744073709551616 : Nat) : Int) := by rw [← Int.natCast_add, u64mod]
theorem mul_lt32 {a b : Nat} (ha : a < 4294967296) (hb : b < 4294967296) : a * b ≤ 4294967295 * 4294967295 := Nat.mul_le_mul (by omega) (by omega)

/-- The product of two 64-bit numbers, in two words. -/
theorem sp_Mul64 (fu d : Nat) (a b : Nat) (ha : a < 18446744073709551616) (hb : b < 18446744073709551616) :
    cl fu (d + 1) fn_bits_Mul64 [V.c (C.v (.int .u64 a)), V.c (C.v (.int .u64 b))] [] = some ⟨V.tup [V.c (C.v (.int .u64 ((a * b / 18446744073709551616 : Nat) : Int))), V.c (C.v (.int .u64 ((a * b % 18446744073709551616 : Nat) : Int)))], [], none⟩ := by
  rw [eq_bits_Mul64]
  simp only [bd_eq, u32mask, shr32, u64mul, u64add, Option.some.injEq, Out.mk.injEq, and_true, V.tup.injEq, List.cons.injEq, V.c.injEq, C.v.injEq, Value.int.injEq, true_and, Int.ofNat_inj]
  generalize hx0 : a % 4294967296 = x0
  generalize hx1 : a / 4294967296 = x1
  generalize hy0 : b % 4294967296 = y0
  generalize hy1 : b / 4294967296 = y1
  have h00 := mul_lt32 (a := x0) (b := y0) (by omega) (by omega)
  have h10 := mul_lt32 (a := x1) (b := y0) (by omega) (by omega)
  have h01 := mul_lt32 (a := x0) (b := y1) (by omega) (by omega)
  have h11 := mul_lt32 (a := x1) (b := y1) (by omega) (by omega)
  have hab : a * b = x1 * y1 * 18446744073709551616 + (x1 * y0 + x0 * y1) * 4294967296 + x0 * y0 := by
    have e1 : a = x1 * 4294967296 + x0 := by omega
    have e2 : b = y1 * 4294967296 + y0 := by omega
    rw [e1, e2]
    simp only [Nat.add_mul, Nat.mul_add]
    have e3 : x1 * 4294967296 * (y1 * 4294967296) = x1 * y1 * 18446744073709551616 := by rw [Nat.mul_mul_mul_comm]
    have e4 : x1 * 4294967296 * y0 = x1 * y0 * 4294967296 := by rw [Nat.mul_right_comm]
    have e5 : x0 * (y1 * 4294967296) = x0 * y1 * 4294967296 := by rw [Nat.mul_assoc]
    rw [e3, e4, e5]
    omega
  rw [hab]
  generalize x0 * y0 = p at *
  generalize x1 * y0 = q at *
  generalize x0 * y1 = r at *
  generalize x1 * y1 = s at *
  omega

theorem absI (a : Int) (h : -9223372036854775807 ≤ a ∧ a ≤ 9223372036854775807) : (if IntKind.i64.wrap (0 - a) > a then IntKind.i64.wrap (0 - a) else a) = (a.natAbs : Int) := by
  rw [IntWalk.i64_in (0 - a) ⟨by omega, by omega⟩]
  split <;> omega

theorem cmpI_words (p q : Nat) : (if cmpI ((p / 18446744073709551616 : Nat) : Int) ((q / 18446744073709551616 : Nat) : Int) = 0 then cmpI ((p % 18446744073709551616 : Nat) : Int) ((q % 18446744073709551616 : Nat) : Int) else cmpI ((p / 18446744073709551616 : Nat) : Int) ((q / 18446744073709551616 : Nat) : Int)) = cmpI p q := by
  unfold cmpI
  repeat' split
  all_goals omega

theorem cmpI_sign (a : Int) : cmpI a 0 = a.sign := by
  unfold cmpI
  rcases Int.lt_trichotomy a 0 with h | h | h
  · rw [if_pos h, Int.sign_eq_neg_one_of_neg h]
  · subst h; rfl
  · rw [if_neg (by omega), if_pos h, Int.sign_eq_one_of_pos h]

theorem sp_Compare (fu d : Nat) (hf : 18446744073709551616 ≤ fu) (a b p q : Int) (ha : -9223372036854775807 ≤ a ∧ a ≤ 9223372036854775807) (hb : 0 < b ∧ b ≤ 9223372036854775807) (hp : -9223372036854775807 ≤ p ∧ p ≤ 9223372036854775807) (hq : 0 < q ∧ q ≤ 9223372036854775807) :
    cl fu (d + 4) fn_score_Compare [V.agg [C.v (.int .i64 a), C.v (.int .i64 b)], V.agg [C.v (.int .i64 p), C.v (.int .i64 q)]] [] = some ⟨I (cmpI (a * q) (p * b)), [], none⟩ := by
  obtain ⟨fu, rfl⟩ : ∃ n, fu = n + 3 := ⟨fu - 3, by omega⟩
  rw [eq_score_Compare, sp_sign, sp_sign]
  simp only [obs, rC_c, asI_int]
  have hbq : ∃ x y : Nat, b = x ∧ q = y := ⟨b.toNat, q.toNat, by omega, by omega⟩
  obtain ⟨x, y, rfl, rfl⟩ := hbq
  rw [absI a ha, absI p hp, u64nat a.natAbs (by omega), u64nat p.natAbs (by omega), u64nat x (by omega), u64nat y (by omega), sp_Mul64 _ _ _ _ (by omega) (by omega), sp_Mul64 _ _ _ _ (by omega) (by omega)]
  simp only [obs, rT_tup, uncV_cons, rC_c, asI_int, nilV_nil, sp_Compare_uint64, sp_Or_int2, sp_Compare_int, cmpI_words]
  by_cases hs : cmpI a 0 = cmpI p 0
  · rw [show (cmpI a 0 != cmpI p 0) = false by simp [hs]]
    simp only [cf]
    by_cases hz : cmpI a 0 = 0
    · have ha0 : a = 0 := by unfold cmpI at hz; repeat' split at hz; all_goals omega
      have hp0 : p = 0 := by rw [hz] at hs; unfold cmpI at hs; repeat' split at hs; all_goals omega
      subst ha0 hp0
      simp [cmpI]
    · rw [show (cmpI a 0 == 0) = false by simpa using hz]
      simp only [cf, Option.some.injEq, Out.mk.injEq, and_true, V.c.injEq, C.v.injEq, Value.int.injEq, true_and]
      rcases Int.lt_trichotomy a 0 with h | h | h
      · have h2 : p < 0 := by
          unfold cmpI at hs; repeat' split at hs; all_goals omega
        have e1 : ((a.natAbs * y : Nat) : Int) = -(a * y) := by rw [Int.natCast_mul, show ((a.natAbs : Nat) : Int) = -a by omega, Int.neg_mul]
        have e2 : ((p.natAbs * x : Nat) : Int) = -(p * x) := by rw [Int.natCast_mul, show ((p.natAbs : Nat) : Int) = -p by omega, Int.neg_mul]
        rw [e1, e2]
        generalize a * (y : Int) = u
        generalize p * (x : Int) = v
        rw [show cmpI a 0 = -1 by unfold cmpI; rw [if_pos h]]
        unfold cmpI
        repeat' split
        all_goals first | rfl | omega
      · subst h; simp [cmpI] at hz
      · have h2 : 0 < p := by
          unfold cmpI at hs; repeat' split at hs; all_goals omega
        have e1 : ((a.natAbs * y : Nat) : Int) = a * y := by rw [Int.natCast_mul, show ((a.natAbs : Nat) : Int) = a by omega]
        have e2 : ((p.natAbs * x : Nat) : Int) = p * x := by rw [Int.natCast_mul, show ((p.natAbs : Nat) : Int) = p by omega]
        rw [e1, e2]
        generalize a * (y : Int) = u
        generalize p * (x : Int) = v
        rw [show cmpI a 0 = 1 by unfold cmpI; rw [if_neg (by omega), if_pos h]]
        unfold cmpI
        repeat' split
        all_goals first | rfl | omega
  · rw [show (cmpI a 0 != cmpI p 0) = true by simpa using hs]
    simp only [ct, Option.some.injEq, Out.mk.injEq, and_true, V.c.injEq, C.v.injEq, Value.int.injEq, true_and]
    have h1 : (0 < a → 0 < a * y) ∧ (a < 0 → a * y < 0) ∧ (a = 0 → a * (y : Int) = 0) := ⟨fun h => Int.mul_pos h hq.1, fun h => Int.mul_neg_of_neg_of_pos h hq.1, fun h => by subst h; simp⟩
    have h2 : (0 < p → 0 < p * x) ∧ (p < 0 → p * x < 0) ∧ (p = 0 → p * (x : Int) = 0) := ⟨fun h => Int.mul_pos h hb.1, fun h => Int.mul_neg_of_neg_of_pos h hb.1, fun h => by subst h; simp⟩
    generalize a * (y : Int) = u at *
    generalize p * (x : Int) = v at *
    unfold cmpI at hs ⊢
    repeat' split
    all_goals repeat' split at hs
    all_goals omega

/-- The greatest common divisor's loop. -/
theorem sp_gcd (fu : Nat) (x y : Nat) (h : y < fu) : iter (fun (y : Int × Int × (Int × Int × Unit) × Unit) =>
      bif y.2.1 != 0 then
        need (!(y.2.1 == 0)) <|
        some (0, (y.2.1, Int.tmod y.1 y.2.1, (y.2.2.1.1, y.2.2.1.2.1, ()), ()))
      else
        some (1, (y.1, y.2.1, (y.2.2.1.1, y.2.2.1.2.1, ()), ()))) fu ((x : Int), (y : Int), (0, 0, ()), ()) = some (0, (((Nat.gcd x y : Nat) : Int), 0, (0, 0, ()), ())) := by
  obtain ⟨e, z, h1, h2⟩ := iter_meas (body := (fun (y : Int × Int × (Int × Int × Unit) × Unit) =>
      bif y.2.1 != 0 then
        need (!(y.2.1 == 0)) <|
        some (0, (y.2.1, Int.tmod y.1 y.2.1, (y.2.2.1.1, y.2.2.1.2.1, ()), ()))
      else
        some (1, (y.1, y.2.1, (y.2.2.1.1, y.2.2.1.2.1, ()), ())))) (fun s => ∃ u v : Nat, s = ((u : Int), (v : Int), (0, 0, ()), ()) ∧ Nat.gcd u v = Nat.gcd x y) (fun s => s.2.1.toNat) (fun e z => e = 0 ∧ z = (((Nat.gcd x y : Nat) : Int), 0, (0, 0, ()), ())) (by
    rintro s ⟨u, v, rfl, hg⟩
    by_cases hv : v = 0
    · subst hv
      refine .inr ⟨0, _, by simp; rfl, rfl, ?_⟩
      simp at hg
      simp [hg]
    · have hv' : (v : Int) ≠ 0 := by omega
      have e : Int.tmod (u : Int) (v : Int) = ((u % v : Nat) : Int) := rfl
      refine .inl ⟨((v : Int), ((u % v : Nat) : Int), (0, 0, ()), ()), ?_, ⟨v, u % v, rfl, ?_⟩, ?_⟩
      · have t : ((v : Int) != 0) = true := by simpa using hv
        have t' : ((v : Int) == 0) = false := by simpa using hv
        simp [t', t, need, e]
      · rw [← hg, Nat.gcd_comm u v, Nat.gcd_rec v u, Nat.gcd_comm]
      · simp only [Int.toNat_natCast]
        exact Nat.mod_lt _ (by omega)) fu ((x : Int), (y : Int), (0, 0, ()), ()) ⟨x, y, rfl, rfl⟩ (by simpa using h)
  rw [h1, h2.1, h2.2]

/-- A fraction in lowest terms, its denominator positive. -/
theorem sp_Reduce (fu d : Nat) (hf : 18446744073709551616 ≤ fu) (a : Int) (b : Nat) (ha : -1152921504606846976 ≤ a ∧ a ≤ 1152921504606846976) (hb : 0 < b ∧ b ≤ 1152921504606846976) :
    cl fu (d + 2) fn_score_Reduce [I a, I b] [] = some ⟨V.tup [V.agg [C.v (.int .i64 (a / (Nat.gcd a.natAbs b : Nat))), C.v (.int .i64 ((b / Nat.gcd a.natAbs b : Nat) : Int))], I 0], [], none⟩ := by
  rw [eq_score_Reduce, eq_score_within, eq_score_within]
  have hb0 : ((b : Int) == 0) = false := by simp; omega
  have hbn : decide ((b : Int) < 0) = false := decide_eq_false (by omega)
  simp only [hb0, hbn, cf, ct, decide_eq_true ha.1, decide_eq_true ha.2, show decide ((-1152921504606846976 : Int) ≤ b) = true from decide_eq_true (by omega), show decide ((b : Int) ≤ 1152921504606846976) = true from decide_eq_true (by omega), obs, rC_c, asB_bool, Bool.not_true]
  rw [absI a (by omega), sp_gcd _ _ _ (by omega)]
  have hg : 0 < Nat.gcd a.natAbs b := Nat.gcd_pos_of_pos_right _ hb.1
  have hg' : Nat.gcd a.natAbs b ≤ b := Nat.gcd_le_right _ hb.1
  have hz : (((Nat.gcd a.natAbs b : Nat) : Int) == 0) = false := by simp; omega
  have hd1 : ((Nat.gcd a.natAbs b : Nat) : Int) ∣ a := by
    have := Nat.gcd_dvd_left a.natAbs b
    exact Int.ofNat_dvd_left.2 this
  have e1 : Int.tdiv a ((Nat.gcd a.natAbs b : Nat) : Int) = a / ((Nat.gcd a.natAbs b : Nat) : Int) := Int.tdiv_eq_ediv_of_dvd hd1
  have e2 : Int.tdiv (b : Int) ((Nat.gcd a.natAbs b : Nat) : Int) = ((b / Nat.gcd a.natAbs b : Nat) : Int) := rfl
  have b1 : b / Nat.gcd a.natAbs b ≤ b := Nat.div_le_self _ _
  have b2 : (a / ((Nat.gcd a.natAbs b : Nat) : Int)).natAbs ≤ a.natAbs := by
    rw [Int.natAbs_ediv_of_dvd hd1]
    exact Nat.div_le_self _ _
  simp only [obs, hz, Bool.not_false, need_true, e1, e2]
  generalize a / ((Nat.gcd a.natAbs b : Nat) : Int) = u at *
  generalize b / Nat.gcd a.natAbs b = v at *
  rw [IntWalk.i64_in u ⟨by omega, by omega⟩, IntWalk.i64_in v ⟨by omega, by omega⟩]

end Go.Proofs.Ytepjbmlhfhahcaa
/- What the parts of the sampling tests come to (the samples within their bounds). -/
namespace Go.Proofs.Ytepjbmlhfhahcaa
open Go Go.PM

/-- The sum of the elements whose bit is set. -/
def csum : List Int → Nat → Int
  | [], _ => 0
  | x :: r, m => (if m % 2 = 1 then x else 0) + csum r (m / 2)
def small (a : List Int) : Prop := ∀ x ∈ a, -1000000 ≤ x ∧ x ≤ 1000000

theorem csum_take (a : List Int) (m j : Nat) (h : j < a.length) : csum (a.take (j + 1)) m = csum (a.take j) m + if m / 2 ^ j % 2 = 1 then a[j] else 0 := by
  induction a generalizing m j with
  | nil => simp at h
  | cons x r ih =>
    cases j with
    | zero => simp [csum]
    | succ j =>
      simp only [List.take_succ_cons, csum, List.getElem_cons_succ]
      rw [ih (m / 2) j (by simpa using h), Nat.div_div_eq_div_mul, show 2 * 2 ^ j = 2 ^ (j + 1) by rw [Nat.pow_succ]; omega]
      omega
theorem csum_bound (a : List Int) (m : Nat) (h : small a) : -(1000000 * (a.length : Int)) ≤ csum a m ∧ csum a m ≤ 1000000 * (a.length : Int) := by
  induction a generalizing m with
  | nil => simp [csum]
  | cons x r ih =>
    have h1 := h x (by simp)
    have h2 := ih (m / 2) (fun y hy => h y (by simp [hy]))
    simp only [csum, List.length_cons]
    split <;> omega
theorem small_take {a : List Int} (h : small a) (j : Nat) : small (a.take j) := fun x hx => h x (List.mem_of_mem_take hx)

theorem andone64 (x : Nat) : IntKind.u64.wrap (BitVec.ofInt (IntKind.bits .u64) (x : Int) &&& BitVec.ofInt (IntKind.bits .u64) 1).toNat = ((x % 2 : Nat) : Int) := by
  rw [and_one (kd := .u64) (by decide)]
  exact IntWalk.u64_in _ ⟨by omega, by omega⟩
theorem andoneI (x : Nat) : IntKind.i64.wrap (BitVec.ofInt (IntKind.bits .i64) (x : Int) &&& BitVec.ofInt (IntKind.bits .i64) 1).toNat = ((x % 2 : Nat) : Int) := by
  rw [and_one (kd := .i64) (by decide)]
  exact IntWalk.i64_in _ ⟨by omega, by omega⟩

theorem sp_chosen (fu d : Nat) (hf : 18446744073709551616 ≤ fu) (a : List Int) (m : Nat) (hn : a.length ≤ 60) (hs : small a) :
    cl fu (d + 1) fn_sampling_chosen [V.c (C.sl a.length (ints a)), V.c (C.v (.int .u64 m))] [] = some ⟨I (csum a m), [], none⟩ := by
  rw [eq_sampling_chosen]
  have hz : ((0 : Int), (0 : Int), ()) = (fun j : Nat => (csum (a.take j) m, (j : Int), ())) 0 := by simp [csum]
  rw [hz, iter_run (fun j : Nat => (csum (a.take j) m, (j : Int), ())) 0 (csum a m, (a.length : Int), ()) a.length 0 fu ?_ ?_ (by omega)]
  · simp
  · intro j _ hj
    have hj : j < a.length := by omega
    have hx := hs a[j] (List.getElem_mem hj)
    have hb := csum_bound (a.take j) m (small_take hs j)
    have hl : (a.take j).length = j := by simp; omega
    rw [hl] at hb
    simp only [lt_yes (show (j : Int) < (a.length : Int) by omega), ct, inR_nat hj, need_true, Int.toNat_natCast, Nat.mul_one, unc_ik hj, asI_int, show decide ((j : Int) < 0) = false from decide_eq_false (by omega), Bool.not_false, bd_eq]
    rw [show min j (IntKind.bits .u64) = j by simp [IntKind.bits]; omega, fdiv_pow, andone64, csum_take a m j hj, IntWalk.i64_in ((j : Int) + 1) ⟨by omega, by omega⟩]
    by_cases hbit : m / 2 ^ j % 2 = 1
    · rw [hbit]
      simp only [if_true]
      rw [IntWalk.i64_in (csum (a.take j) m + a[j]) ⟨by omega, by omega⟩]
      simp
    · rw [if_neg hbit]
      have : (((m / 2 ^ j % 2 : Nat) : Int) == 1) = false := by rw [beq_eq_false_iff_ne]; omega
      rw [this]
      simp
  · simp

/-- The elements of a slice of numbers. -/
theorem elems_eq : ∀ {cs : List C} {xs : List (List V)}, elems cs = some xs → ∃ a : List Int, cs = ints a ∧ xs = a.map fun n => [V.c (C.v (.int .i64 n))]
  | [], xs, h => ⟨[], rfl, by cases h; rfl⟩
  | c :: cs, xs, h => by
    unfold elems asI at h
    split at h
    · rename_i kd n
      split at h
      · rename_i hk
        subst hk
        obtain ⟨r, h1, h2⟩ := Option.bind_eq_some_iff.1 h
        obtain ⟨a, e1, e2⟩ := elems_eq h1
        cases h2
        exact ⟨n :: a, by rw [e1]; rfl, by rw [e2]; rfl⟩
      · cases h
    · cases h

theorem elems_ints (a : List Int) : elems (ints a) = some (a.map fun n => [V.c (C.v (.int .i64 n))]) := by
  induction a with
  | nil => rfl
  | cons n a ih =>
    show asI .i64 (C.v (.int .i64 n)) (fun n => (elems (ints a)).bind fun r => some ([V.c (C.v (.int .i64 n))] :: r)) = _
    rw [asI_int, ih]; rfl

theorem values_ok (fu d : Nat) (hf : 18446744073709551616 ≤ fu) (a : List Int) (hn : a.length ≤ 1000000000000) (l : Nat) (go : Nat → Bool) (c : C) (r : List C) (hc : ∀ {R : Type} (k : Nat → List C → Option R), asSl c k = k a.length (ints a)) : ∃ out lg, cl fu (d + 1) fn_slices_Values_sint_int_1 [V.c (C.yl l go (a.map fun n => [V.c (C.v (.int .i64 n))])), V.c (C.cp (c :: r))] [] = some out ∧ out.log = some lg ∧ (lg.st = true ∨ lg.rest = []) := by
  rw [eq_slices_Values_sint_int_1]
  simp only [unc_cons, hc]
  generalize hbody : (fun (y : Int × Log × Unit) => _) = body
  obtain ⟨e, z, h1, h2⟩ := iter_meas (body := body) (fun s => ∃ i : Nat, i ≤ a.length ∧ s = ((i : Int), ⟨l, go, i, (a.map fun n => [V.c (C.v (.int .i64 n))]).drop i, false⟩, ())) (fun s => a.length - s.1.toNat) (fun _ z => z.2.1.st = true ∨ z.2.1.rest = []) (by
    rintro s ⟨i, hi, rfl⟩
    subst hbody
    by_cases hlt : i < a.length
    · have hd : (a.map fun n => [V.c (C.v (.int .i64 n))]).drop i = [V.c (C.v (.int .i64 a[i]))] :: (a.map fun n => [V.c (C.v (.int .i64 n))]).drop (i + 1) := by
        rw [List.drop_eq_getElem_cons (by simpa using hlt)]
        simp
      simp only [lt_yes (show (i : Int) < (a.length : Int) by omega), ct, hd, inR_nat hlt, Int.toNat_natCast, Nat.mul_one, unc_ik hlt, asI_int, unI_cons, eqV_self, beqN_self, Bool.not_false, Bool.and_self, need_true]
      cases hg : go i with
      | true =>
        refine .inl ⟨_, by simp only [Bool.not_true, cf]; rfl, ⟨i + 1, by omega, ?_⟩, ?_⟩
        · rw [IntWalk.i64_in _ ⟨by omega, by omega⟩]; simp
        · rw [IntWalk.i64_in _ ⟨by omega, by omega⟩]; simp only; omega
      | false => exact .inr ⟨1, _, by simp only [Bool.not_false, ct]; rfl, .inl rfl⟩
    · have he : i = a.length := by omega
      simp only [show decide ((i : Int) < (a.length : Int)) = false from decide_eq_false (by omega)]
      exact .inr ⟨0, _, rfl, .inr (by simp only; rw [List.drop_eq_nil_iff]; simp; omega)⟩) fu ((0 : Int), ⟨l, go, 0, a.map fun n => [V.c (C.v (.int .i64 n))], false⟩, ()) ⟨0, by omega, rfl⟩ (by simp; omega)
  rw [h1]
  refine ⟨⟨V.tup [], [], some z.2.1⟩, z.2.1, ?_, rfl, h2⟩
  cases e <;> rfl

/-- The iterator of all choices. -/
theorem iterOk (fu : Nat) (hf : 18446744073709551616 ≤ fu) : IterOk Try.prog prim laid fu := by
  intro d f caps xs h l go
  cases d with
  | zero => cases h
  | succ d =>
    replace h : iterC f caps = some xs := h
    unfold iterC at h
    cases hfq : Nat.beq f fn_sampling_choices_1 with
    | false =>
      rw [hfq] at h
      simp only [cf] at h
      cases hfv : Nat.beq f fn_slices_Values_sint_int_1 with
      | false => rw [hfv] at h; cases h
      | true =>
        have hfe := Nat.eq_of_beq_eq_true hfv
        subst hfe
        rw [hfv] at h
        simp only [ct] at h
        split at h
        · rename_i c
          unfold asP at h
          split at h
          · rename_i cs
            cases cs with
            | nil => cases h
            | cons c r =>
              replace h : asSl c (fun n l => need (Nat.beq n l.length && Nat.ble n 1000000000000) (elems l)) = some xs := h
              have fin : ∀ (n : Nat) (cs : List C), need (Nat.beq n cs.length && Nat.ble n 1000000000000) (elems cs) = some xs → ∃ a : List Int, cs = ints a ∧ n = a.length ∧ a.length ≤ 1000000000000 ∧ xs = a.map fun n => [V.c (C.v (.int .i64 n))] := fun n cs h => by
                obtain ⟨hc, h⟩ := need_some h
                rw [Bool.and_eq_true] at hc
                obtain ⟨a, e1, e2⟩ := elems_eq h
                have h1 := Nat.eq_of_beq_eq_true hc.1
                have h2 := Nat.le_of_ble_eq_true hc.2
                rw [e1, ik_length] at h1
                exact ⟨a, e1, h1, by omega, e2⟩
              unfold asSl at h
              split at h
              · obtain ⟨a, rfl, rfl, h3, rfl⟩ := fin _ _ h
                exact values_ok fu d hf a h3 l go _ r fun _ => rfl
              · obtain ⟨a, h1, h2, h3, rfl⟩ := fin _ _ h
                obtain rfl : a = [] := List.eq_nil_of_length_eq_zero h2.symm
                exact values_ok fu d hf [] h3 l go _ r fun _ => rfl
              · cases h
          · cases h
        · cases h
    | true =>
      have hfe := Nat.eq_of_beq_eq_true hfq
      subst hfe
      rw [hfq] at h
      simp only [ct] at h
      split at h
      · rename_i c
        unfold asP at h
        split at h
        · rename_i cs
          replace h : unc cs (fun c _ => asI .i64 c fun n => need (decide (0 ≤ n) && decide (n ≤ 13)) (some (chosen n.toNat))) = some xs := h
          unfold unc at h
          split at h
          · cases h
          · rename_i c r
            replace h : asI .i64 c (fun n => need (decide (0 ≤ n) && decide (n ≤ 13)) (some (chosen n.toNat))) = some xs := h
            unfold asI at h
            split at h
            · rename_i kd n
              split at h
              · rename_i hk
                subst hk
                obtain ⟨hc, h⟩ := need_some h
                simp only [Bool.and_eq_true, decide_eq_true_eq] at hc
                cases h
                obtain ⟨n, rfl⟩ : ∃ k : Nat, n = k := ⟨n.toNat, by omega⟩
                have hp : (2 : Nat) ^ n ≤ 2 ^ 13 := Nat.pow_le_pow_right (by omega) (by omega)
                have hp : (2 : Nat) ^ n ≤ 8192 := hp
                have hlen : (chosen n).length = 2 ^ n := by simp [chosen]
                show ∃ out lg, cl fu (d + 1) fn_sampling_choices_1 [V.c (C.yl l go (chosen n)), V.c (C.cp (C.v (.int .i64 (n : Int)) :: r))] [] = some out ∧ _
                rw [eq_sampling_choices_1]
                simp only [unc_cons, asI_int, show decide ((n : Int) < 0) = false from decide_eq_false (by omega), Bool.not_false, need_true, Int.toNat_natCast]
                have hw : IntKind.u64.wrap (1 * 2 ^ (min n (IntKind.bits .u64))) = ((2 ^ n : Nat) : Int) := by
                  rw [show min n (IntKind.bits .u64) = n by simp [IntKind.bits]; omega, show (1 : Int) * 2 ^ n = ((2 ^ n : Nat) : Int) by simp]
                  exact IntWalk.u64_in _ ⟨by omega, by omega⟩
                simp only [hw]
                obtain ⟨e, z, h1, h2⟩ := iter_meas (body := fun (y : Int × Log × Unit) =>
                  bif decide (y.1 < ((2 ^ n : Nat) : Int)) then
                    need ((Nat.beq y.2.1.l l) && (!y.2.1.st)) <|
                    unI y.2.1.rest fun x rest =>
                    need (eqV [V.c (C.v (.int .u64 y.1))] x) <|
                    bif !(y.2.1.go y.2.1.i) then
                      some (2, (y.1, ⟨y.2.1.l, y.2.1.go, Nat.succ y.2.1.i, rest, !(y.2.1.go y.2.1.i)⟩, ()))
                    else
                      some (0, (IntKind.u64.wrap (y.1 + 1), ⟨y.2.1.l, y.2.1.go, Nat.succ y.2.1.i, rest, !(y.2.1.go y.2.1.i)⟩, ()))
                  else
                    some (1, (y.1, y.2.1, ()))) (fun s => ∃ i : Nat, i ≤ 2 ^ n ∧ s = ((i : Int), ⟨l, go, i, (chosen n).drop i, false⟩, ())) (fun s => 2 ^ n - s.1.toNat) (fun _ z => z.2.1.st = true ∨ z.2.1.rest = []) (by
                  rintro s ⟨i, hi, rfl⟩
                  by_cases hlt : i < 2 ^ n
                  · have hd : (chosen n).drop i = [V.c (C.v (.int .u64 (i : Nat)))] :: (chosen n).drop (i + 1) := by
                      rw [List.drop_eq_getElem_cons (by omega)]
                      simp [chosen]
                    simp only [lt_yes (show (i : Int) < ((2 ^ n : Nat) : Int) by omega), ct, hd, unI_cons, eqV_self, beqN_self, Bool.not_false, Bool.and_self, need_true]
                    cases hg : go i with
                    | true =>
                      refine .inl ⟨_, by simp only [Bool.not_true, cf]; rfl, ⟨i + 1, by omega, ?_⟩, ?_⟩
                      · rw [IntWalk.u64_in _ ⟨by omega, by omega⟩]; simp
                      · rw [IntWalk.u64_in _ ⟨by omega, by omega⟩]; simp only [Int.toNat_natCast]; omega
                    | false => exact .inr ⟨1, _, by simp only [Bool.not_false, ct]; rfl, .inl rfl⟩
                  · have he : i = 2 ^ n := by omega
                    rw [show decide ((i : Int) < ((2 ^ n : Nat) : Int)) = false from decide_eq_false (by omega)]
                    exact .inr ⟨0, _, rfl, .inr (by simp only; rw [List.drop_eq_nil_iff]; omega)⟩) fu ((0 : Int), ⟨l, go, 0, chosen n, false⟩, ()) ⟨0, by omega, rfl⟩ (by simp; omega)
                rw [h1]
                refine ⟨⟨V.tup [], [], some z.2.1⟩, z.2.1, ?_, rfl, h2⟩
                cases e <;> rfl
              · cases h
            · cases h
        · cases h
      · cases h

theorem sp_choices (fu d n : Nat) : cl fu (d + 1) fn_sampling_choices [I (n : Int)] [] = some ⟨V.c (C.fn fn_sampling_choices_1 [C.cp [C.v (.int .i64 n)]]), [], none⟩ := eq_sampling_choices fu d n
theorem iter_choices (d n : Nat) (h : n ≤ 13) : prim.iter (d + 1) fn_sampling_choices_1 [C.cp [C.v (.int .i64 n)]] = some (chosen n) := by
  show iterC fn_sampling_choices_1 [C.cp [C.v (.int .i64 n)]] = some (chosen n)
  unfold iterC
  simp only [beqN_self, ct, asP_cp, unc_cons, asI_int, Int.toNat_natCast, decide_eq_true (show (0 : Int) ≤ (n : Int) by omega), decide_eq_true (show (n : Int) ≤ 13 by omega), Bool.and_self, need_true]

/-- The first element that a function of the program chooses. -/
theorem sp_IndexFunc (fu d k : Nat) (hf : 18446744073709551616 ≤ fu) (a : List Int) (p : Int → Bool) (hn : a.length ≤ 1000000000000) (hp : ∀ x ∈ a, cl fu d k [I x] [] = some ⟨B (p x), [], none⟩) :
    cl fu (d + 1) fn_slices_IndexFunc_sint_int [V.c (C.sl a.length (ints a)), V.c (C.fn k [])] [] = some ⟨I (if a.any p then (a.findIdx p : Int) else -1), [], none⟩ := by
  rw [eq_slices_IndexFunc_sint_int]
  have hle : a.findIdx p ≤ a.length := List.findIdx_le_length
  have step : ∀ j (hj : j < a.length), (bif decide ((j : Int) < (a.length : Int)) then need (inR (j : Int) a.length) <| unc (List.drop (((j : Int).toNat) * 1) (ints a)) fun c _ => asI .i64 c fun i => (cl fu d k [I i] []).bind fun out => rC out.r fun c1 => asB c1 fun b => bif b then some (2, ((j : Int), (j : Int), ())) else some (0, ((0 : Int), IntKind.i64.wrap ((j : Int) + 1), ())) else some (1, ((0 : Int), (j : Int), ()))) = bif p a[j] then some (2, ((j : Int), (j : Int), ())) else some (0, ((0 : Int), ((j + 1 : Nat) : Int), ())) := by
    intro j hj
    simp only [lt_yes (show (j : Int) < (a.length : Int) by omega), ct, inR_nat hj, need_true, Int.toNat_natCast, Nat.mul_one, unc_ik hj, asI_int, hp a[j] (List.getElem_mem hj), obs, rC_c, asB_bool]
    rw [IntWalk.i64_in ((j : Int) + 1) ⟨by omega, by omega⟩]
    rfl
  by_cases ha : a.any p = true
  · have hlt : a.findIdx p < a.length := by
      rw [List.findIdx_lt_length]
      simpa using ha
    rw [show ((0 : Int), (0 : Int), ()) = (fun j : Nat => ((0 : Int), (j : Int), ())) 0 from rfl, iter_run (fun j : Nat => ((0 : Int), (j : Int), ())) 1 ((a.findIdx p : Int), (a.findIdx p : Int), ()) (a.findIdx p) 0 fu ?_ ?_ (by omega), if_pos ha]
    · rfl
    · intro j _ hj
      have hj : j < a.findIdx p := by omega
      have hq := List.not_of_lt_findIdx hj
      refine (step j (by omega)).trans ?_
      simp [hq]
    · simp only [Nat.zero_add]
      refine (step _ hlt).trans ?_
      rw [List.findIdx_getElem (w := hlt)]
      rfl
  · have hno : ∀ x ∈ a, p x = false := by simpa using ha
    rw [show ((0 : Int), (0 : Int), ()) = (fun j : Nat => ((0 : Int), (j : Int), ())) 0 from rfl, iter_run (fun j : Nat => ((0 : Int), (j : Int), ())) 0 (0, (a.length : Int), ()) a.length 0 fu ?_ ?_ (by omega), if_neg ha]
    · rfl
    · intro j _ hj
      have hj : j < a.length := by omega
      refine (step j hj).trans ?_
      rw [hno _ (List.getElem_mem hj)]
      rfl
    · simp

theorem sp_ContainsFunc (fu d k : Nat) (hf : 18446744073709551616 ≤ fu) (a : List Int) (p : Int → Bool) (hn : a.length ≤ 1000000000000) (hp : ∀ x ∈ a, cl fu d k [I x] [] = some ⟨B (p x), [], none⟩) :
    cl fu (d + 2) fn_slices_ContainsFunc_sint_int [V.c (C.sl a.length (ints a)), V.c (C.fn k [])] [] = some ⟨B (a.any p), [], none⟩ := by
  rw [eq_slices_ContainsFunc_sint_int, sp_IndexFunc fu d k hf a p hn hp]
  simp only [obs, rC_c, asI_int]
  cases a.any p <;> simp

def outB (x : Int) : Bool := !(decide (-1000000 ≤ x) && decide (x ≤ 1000000))
theorem sp_outside (fu d : Nat) (hf : 18446744073709551616 ≤ fu) (a : List Int) (hn : a.length ≤ 1000000000000) :
    cl fu (d + 5) fn_sampling_outside [V.c (C.sl a.length (ints a))] [] = some ⟨B (a.any outB), [], none⟩ := by
  rw [eq_sampling_outside, sp_ContainsFunc fu (d + 2) _ hf a outB hn]
  · simp
  · intro x _
    rw [eq_sampling_outside_1, eq_sampling_within]
    unfold outB
    cases decide (-1000000 ≤ x) <;> simp
theorem outside_small {a : List Int} (h : small a) : a.any outB = false := by
  simp only [List.any_eq_false, outB]
  intro x hx
  have := h x hx
  simp [this.1, this.2]

end Go.Proofs.Ytepjbmlhfhahcaa
/- What the test of signs comes to (the sample within its bounds). -/
namespace Go.Proofs.Ytepjbmlhfhahcaa
open Go Go.PM

/-- The sample's sum under the signs of a choice, without its sign. -/
def dev (a : List Int) (c : Nat) : Nat := (csum a (2 ^ a.length - 1) - 2 * csum a c).natAbs
/-- How many choices go as far as the sample itself. -/
def hits (a : List Int) : Nat := (List.range (2 ^ a.length)).countP fun c => decide ((csum a (2 ^ a.length - 1)).natAbs ≤ dev a c)
/-- A part of 2^n in lowest terms. -/
def redP (h n : Nat) : Int × Int := (((h / Nat.gcd h (2 ^ n) : Nat) : Int), ((2 ^ n / Nat.gcd h (2 ^ n) : Nat) : Int))

theorem sp_absolute (fu d : Nat) (a : Int) (h : -9223372036854775807 ≤ a ∧ a ≤ 9223372036854775807) : cl fu (d + 1) fn_sampling_absolute [I a] [] = some ⟨I (a.natAbs : Int), [], none⟩ := by
  rw [eq_sampling_absolute, absI a h]

theorem sp_Reduce_nat (fu d : Nat) (hf : 18446744073709551616 ≤ fu) (h n : Nat) (hh : h ≤ 2 ^ n) (hn : n ≤ 60) :
    cl fu (d + 2) fn_score_Reduce [I (h : Int), I ((2 ^ n : Nat) : Int)] [] = some ⟨V.tup [V.agg [C.v (.int .i64 (redP h n).1), C.v (.int .i64 (redP h n).2)], I 0], [], none⟩ := by
  have h1 := Nat.two_pow_pos n
  have h2 : (2 : Nat) ^ n ≤ 2 ^ 60 := Nat.pow_le_pow_right (by omega) hn
  have h2 : (2 : Nat) ^ n ≤ 1152921504606846976 := h2
  have := sp_Reduce fu d hf (h : Int) (2 ^ n) (by omega) ⟨h1, h2⟩
  exact this

theorem two_pow_i64 (n : Nat) (hn : n ≤ 60) : IntKind.i64.wrap (1 * 2 ^ (min n (IntKind.bits .i64))) = ((2 ^ n : Nat) : Int) := by
  have h2 : (2 : Nat) ^ n ≤ 2 ^ 60 := Nat.pow_le_pow_right (by omega) hn
  have h2 : (2 : Nat) ^ n ≤ 1152921504606846976 := h2
  rw [show min n (IntKind.bits .i64) = n by simp [IntKind.bits]; omega, show (1 : Int) * 2 ^ n = ((2 ^ n : Nat) : Int) by simp]
  generalize (2 : Nat) ^ n = N at *
  exact IntWalk.i64_in _ ⟨by omega, by omega⟩
theorem two_pow_u64 (n : Nat) (hn : n ≤ 60) : IntKind.u64.wrap (1 * 2 ^ (min n (IntKind.bits .u64))) = ((2 ^ n : Nat) : Int) := by
  have h2 : (2 : Nat) ^ n ≤ 2 ^ 60 := Nat.pow_le_pow_right (by omega) hn
  have h2 : (2 : Nat) ^ n ≤ 1152921504606846976 := h2
  rw [show min n (IntKind.bits .u64) = n by simp [IntKind.bits]; omega, show (1 : Int) * 2 ^ n = ((2 ^ n : Nat) : Int) by simp]
  generalize (2 : Nat) ^ n = N at *
  exact IntWalk.u64_in _ ⟨by omega, by omega⟩

theorem countP_range_succ (p : Nat → Bool) (j : Nat) : (List.range (j + 1)).countP p = (List.range j).countP p + if p j then 1 else 0 := by
  rw [List.range_succ, List.countP_append]
  simp [List.countP_cons]

theorem sp_Signs (fu d : Nat) (hf : 18446744073709551616 ≤ fu) (a : List Int) (hn : a.length ≤ 12) (hs : small a) :
    cl fu (d + 7) fn_sampling_Signs [V.c (C.sl a.length (ints a))] [] = some ⟨V.tup [V.agg [C.v (.int .i64 (redP (hits a) a.length).1), C.v (.int .i64 (redP (hits a) a.length).2)], I 0], [], none⟩ := by
  rw [eq_sampling_Signs, sp_outside fu _ hf a (by omega), outside_small hs]
  have hp := Nat.two_pow_pos a.length
  have hp2 : (2 : Nat) ^ a.length ≤ 2 ^ 12 := Nat.pow_le_pow_right (by omega) hn
  have hp2 : (2 : Nat) ^ a.length ≤ 4096 := hp2
  have hb := csum_bound a (2 ^ a.length - 1) hs
  simp only [show decide ((a.length : Int) > 12) = false from decide_eq_false (by omega), show decide ((a.length : Int) < 0) = false from decide_eq_false (by omega), Bool.not_false, cf, obs, rC_c, asB_bool, need_true, Int.toNat_natCast, two_pow_u64 a.length (by omega), two_pow_i64 a.length (by omega)]
  rw [show IntKind.u64.wrap (((2 ^ a.length : Nat) : Int) - 1) = ((2 ^ a.length - 1 : Nat) : Int) by rw [IntWalk.u64_in _ ⟨by omega, by omega⟩]; omega, sp_chosen fu _ hf a _ (by omega) hs, sp_choices]
  simp only [obs, rC_c, asI_int, asFn_fn, iter_choices _ a.length (show a.length ≤ 13 by omega)]
  have hlen : (chosen a.length).length = 2 ^ a.length := by simp [chosen]
  have hz : (((0 : Int), (0 : Int), ()), ((0 : Int), ()), ()) = (fun j : Nat => (((0 : Int), (0 : Int), ()), ((((List.range j).countP fun c => decide ((csum a (2 ^ a.length - 1)).natAbs ≤ dev a c) : Nat) : Int), ()), ())) 0 := by simp
  rw [hz, overK_run (chosen a.length) (fun j : Nat => (((0 : Int), (0 : Int), ()), ((((List.range j).countP fun c => decide ((csum a (2 ^ a.length - 1)).natAbs ≤ dev a c) : Nat) : Int), ()), ())), hlen]
  · have hh : hits a ≤ 2 ^ a.length := by
      have := List.countP_le_length (p := fun c => decide ((csum a (2 ^ a.length - 1)).natAbs ≤ dev a c)) (l := List.range (2 ^ a.length))
      simpa [hits] using this
    simp only [obs]
    rw [show (List.range (2 ^ a.length)).countP (fun c => decide ((csum a (2 ^ a.length - 1)).natAbs ≤ dev a c)) = hits a from rfl, sp_Reduce_nat fu (d + 4) hf (hits a) a.length hh (by omega)]
    simp
  · intro j hj
    rw [hlen] at hj
    have hb2 := csum_bound a j hs
    have hx : (chosen a.length)[j]'(by omega) = [V.c (C.v (.int .u64 (j : Nat)))] := by simp [chosen]
    have hc : ((List.range j).countP fun c => decide ((csum a (2 ^ a.length - 1)).natAbs ≤ dev a c)) ≤ j := by
      have := List.countP_le_length (p := fun c => decide ((csum a (2 ^ a.length - 1)).natAbs ≤ dev a c)) (l := List.range j)
      simpa using this
    rw [hx]
    simp only [uncV_cons, rC_c, asI_int, nilV_nil, sp_chosen fu _ hf a j (by omega) hs, obs]
    rw [IntWalk.i64_in (2 * csum a j) ⟨by omega, by omega⟩, IntWalk.i64_in (csum a (2 ^ a.length - 1) - 2 * csum a j) ⟨by omega, by omega⟩, sp_absolute _ _ _ ⟨by omega, by omega⟩, sp_absolute _ _ _ ⟨by omega, by omega⟩]
    simp only [rC_c, asI_int, obs]
    rw [countP_range_succ]
    have hd : decide (((csum a (2 ^ a.length - 1) - 2 * csum a j).natAbs : Int) ≥ ((csum a (2 ^ a.length - 1)).natAbs : Int)) = decide ((csum a (2 ^ a.length - 1)).natAbs ≤ dev a j) := by
      unfold dev
      by_cases h : (csum a (2 ^ a.length - 1)).natAbs ≤ (csum a (2 ^ a.length - 1) - 2 * csum a j).natAbs
      · rw [decide_eq_true h, decide_eq_true (by omega)]
      · rw [decide_eq_false h, decide_eq_false (by omega)]
    rw [hd]
    cases decide ((csum a (2 ^ a.length - 1)).natAbs ≤ dev a j) with
    | true =>
      simp only [ct, if_true]
      rw [IntWalk.i64_in _ ⟨by omega, by omega⟩]
      rfl
    | false => rfl

end Go.Proofs.Ytepjbmlhfhahcaa
/- What reading codes comes to, and a sample drawn from them. -/
namespace Go.Proofs.Ytepjbmlhfhahcaa
open Go Go.PM

/-- Bytes, as integers. -/
def bytes (bs : List Int) : Prop := ∀ x ∈ bs, 0 ≤ x ∧ x ≤ 255
/-- The state of the codes: what they are, how many are read. -/
def codesC (bs : List Int) (i : Nat) : List C := [C.sl bs.length (ik .u8 bs), C.v (.int .i64 (i : Nat))]
abbrev codesO (bs : List Int) (i : Nat) : PM.Obj := .ob ty_synopticfield_Codes 0 (codesC bs i)

theorem sp_Left (fu d : Nat) (bs : List Int) (i : Nat) : cl fu (d + 1) fn_synopticfield_Codes_Left [V.ptr 1000000 0] [codesO bs i] = some ⟨B (decide (i < bs.length)), [codesO bs i], none⟩ := by
  unfold codesO codesC
  rw [eq_synopticfield_Codes_Left]
  simp

/-- The next code below n. -/
theorem sp_Next (fu d : Nat) (bs : List Int) (hb : bytes bs) (i : Nat) (hi : i ≤ 1000000000000) (hl : bs.length ≤ 1000000000000) (n : Int) (hn : 1 ≤ n ∧ n ≤ 1000000) :
    ∃ (v : Int) (j : Nat), cl fu (d + 2) fn_synopticfield_Codes_Next [V.ptr 1000000 0, I n] [codesO bs i] = some ⟨I v, [codesO bs j], none⟩ ∧ 0 ≤ v ∧ v < n ∧ j ≤ 1000000000000 := by
  have hL := sp_Left fu d bs i
  unfold codesO codesC at hL ⊢
  rw [eq_synopticfield_Codes_Next, hL]
  simp only [obs, uncO_cons, rO_ob, beqN_self, Bool.and_self, need_true, List.length_cons, List.length_nil, Nat.zero_add, Nat.reduceAdd, unc_cons, asI_int, rC_c, asB_bool]
  by_cases h : i < bs.length
  · rw [decide_eq_true h]
    have hx := hb bs[i] (List.getElem_mem h)
    simp only [Bool.not_true, cf, show decide (n < 1) = false from decide_eq_false (by omega), asSl_sl]
    rw [IntWalk.i64_in ((i : Int) + 1) ⟨by omega, by omega⟩, show (i : Int) + 1 - 1 = i by omega, IntWalk.i64_in (i : Int) ⟨by omega, by omega⟩]
    simp only [inR_nat h, need_true, Int.toNat_natCast, Nat.mul_one, unc_ik h, asI_int, show (n == 0) = false by rw [beq_eq_false_iff_ne]; omega, Bool.not_false]
    rw [IntWalk.i64_in bs[i] ⟨by omega, by omega⟩, IntWalk.rem_in _ _ hx.1]
    refine ⟨bs[i] % n, i + 1, by simp, Int.emod_nonneg _ (by omega), Int.emod_lt_of_pos _ (by omega), by omega⟩
  · rw [decide_eq_false h]
    exact ⟨0, i, by simp, by omega, by omega, hi⟩

theorem pick5 (v1 v2 v3 : Int) (h1 : 0 ≤ v1 ∧ v1 < 7) (h2 : 0 ≤ v2 ∧ v2 < 200) (h3 : 0 ≤ v3 ∧ v3 < 5) : ∃ w : Int, (∀ {R : Type} (f : C → Option R), unc (List.drop (v3.toNat * 1) ([C.v (.int .i64 (IntKind.i64.wrap (v1 - 3))), C.v (.int .i64 (IntKind.i64.wrap (v2 - 100))), C.v (.int .i64 1000000), C.v (.int .i64 (-1000000)), C.v (.int .i64 0)])) (fun c _ => f c) = f (C.v (.int .i64 w))) ∧ -1000000 ≤ w ∧ w ≤ 1000000 := by
  rw [IntWalk.i64_in (v1 - 3) ⟨by omega, by omega⟩, IntWalk.i64_in (v2 - 100) ⟨by omega, by omega⟩, Nat.mul_one]
  obtain ⟨n, rfl⟩ : ∃ n : Nat, v3 = n := ⟨v3.toNat, by omega⟩
  rw [Int.toNat_natCast]
  rcases n with _ | _ | _ | _ | _ | n
  · exact ⟨v1 - 3, fun f => rfl, by omega, by omega⟩
  · exact ⟨v2 - 100, fun f => rfl, by omega, by omega⟩
  · exact ⟨1000000, fun f => rfl, by omega, by omega⟩
  · exact ⟨-1000000, fun f => rfl, by omega, by omega⟩
  · exact ⟨0, fun f => rfl, by omega, by omega⟩
  · omega

/-- A sample of at most k values. -/
theorem sp_sample (fu d : Nat) (hf : 18446744073709551616 ≤ fu) (bs : List Int) (hb : bytes bs) (i : Nat) (hi : i ≤ 1000000000000) (hl : bs.length ≤ 1000000000000) (k : Int) (hk : 0 ≤ k ∧ k ≤ 1000) :
    ∃ (a : List Int) (j : Nat), cl fu (d + 3) fn_synopticlaw39_sample [V.ptr 1000000 0, I k] [codesO bs i] = some ⟨V.c (C.sl a.length (ints a)), [codesO bs j], none⟩ ∧ small a ∧ (a.length : Int) ≤ k ∧ j ≤ 1000000000000 := by
  show ∃ (a : List Int) (j : Nat), cl fu (d + 3) fn_synopticlaw39_sample [V.ptr 1000000 0, I k] [.ob ty_synopticfield_Codes 0 [C.sl bs.length (ik .u8 bs), C.v (.int .i64 (i : Nat))]] = _ ∧ _
  rw [eq_synopticlaw39_sample]
  obtain ⟨m, j, h1, h2, h3, h4⟩ := sp_Next fu d bs hb i hi hl (IntKind.i64.wrap (k + 1)) (by rw [IntWalk.i64_in _ ⟨by omega, by omega⟩]; omega)
  unfold codesO codesC at h1
  rw [IntWalk.i64_in (k + 1) ⟨by omega, by omega⟩] at h1 h3
  rw [IntWalk.i64_in (k + 1) ⟨by omega, by omega⟩, h1]
  simp only [obs, uncO_cons, rO_ob, beqN_self, Bool.and_self, need_true, List.length_cons, List.length_nil, Nat.zero_add, Nat.reduceAdd, unc_cons, asI_int, rC_c, asB_bool]
  generalize hbody : (fun (y : List C × Int × (C × Int × Unit) × Unit) => _) = body
  obtain ⟨e, z, r1, r2⟩ := iter_meas (body := body) (fun s => ∃ (l : List Int) (r : Nat) (q : Nat), s = (ints l, (r : Int), (C.sl bs.length (ik .u8 bs), (q : Int), ()), ()) ∧ small l ∧ (l.length : Int) + r = m ∧ q ≤ 1000000000000) (fun s => s.2.1.toNat) (fun e z => e = 0 ∧ ∃ (l : List Int) (q : Nat), z = (ints l, 0, (C.sl bs.length (ik .u8 bs), (q : Int), ()), ()) ∧ small l ∧ (l.length : Int) = m ∧ q ≤ 1000000000000) (by
    rintro s ⟨l, r, q, rfl, hs, hm, hq⟩
    subst hbody
    by_cases hr : r = 0
    · subst hr
      refine .inr ⟨0, (ints l, 0, (C.sl bs.length (ik .u8 bs), (q : Int), ()), ()), ?_, rfl, l, q, rfl, hs, by omega, hq⟩
      simp
    · obtain ⟨v1, q1, a1, a2, a3, a4⟩ := sp_Next fu d bs hb q hq hl 7 (by omega)
      obtain ⟨v2, q2, b1, b2, b3, b4⟩ := sp_Next fu d bs hb q1 a4 hl 200 (by omega)
      obtain ⟨v3, q3, c1, c2, c3, c4⟩ := sp_Next fu d bs hb q2 b4 hl 5 (by omega)
      unfold codesO codesC at a1 b1 c1
      obtain ⟨w, hw, hw1, hw2⟩ := pick5 v1 v2 v3 (by omega) (by omega) (by omega)
      refine .inl ⟨(ints (l ++ [w]), ((r - 1 : Nat) : Int), (C.sl bs.length (ik .u8 bs), (q3 : Int), ()), ()), ?_, ⟨l ++ [w], r - 1, q3, rfl, ?_, by simp; omega, c4⟩, ?_⟩
      · simp only [decide_eq_true (show (r : Int) > 0 by omega), ct, a1, b1, c1, obs, uncO_cons, rO_ob, beqN_self, Bool.and_self, need_true, List.length_cons, List.length_nil, Nat.zero_add, Nat.reduceAdd, unc_cons, asI_int, rC_c, inR_int c2 (show v3 < ((5 : Nat) : Int) by omega)]
        rw [hw]
        simp only [asI_int, Nat.div_one, Nat.mul_one, beqN_self, ik_length, ik_snoc, List.length_append, List.length_cons, List.length_nil, Nat.zero_add, Bool.and_self, Bool.and_true]
        rw [bleN_le (show (l.length + 1) * 8 ≤ 140737488355328 by omega), bleN_le (show l.length + 1 ≤ 140737488355328 by omega), IntWalk.i64_in ((r : Int) - 1) ⟨by omega, by omega⟩]
        simp only [Bool.and_self, need_true]
        rw [show ((r - 1 : Nat) : Int) = (r : Int) - 1 by omega]
      · intro x hx
        rcases List.mem_append.1 hx with h | h
        · exact hs x h
        · simp at h; subst h; exact ⟨hw1, hw2⟩
      · simp only [Int.toNat_natCast]; omega) fu ([], m, (C.sl bs.length (ik .u8 bs), (j : Int), ()), ()) ⟨[], m.toNat, j, by simp; omega, by simp [small], by simp; omega, h4⟩ (by simp only; omega)
  rw [r1]
  obtain ⟨rfl, l, q, rfl, hs, hm, hq⟩ := r2
  refine ⟨l, q, ?_, hs, by omega, hq⟩
  simp only [obs, Nat.div_one, Nat.mul_one, ik_length, Nat.zero_add, bleN_le (Nat.le_refl _), need_true, ik_take, List.take_length]
  rfl

end Go.Proofs.Ytepjbmlhfhahcaa
/- The plain law of the test of signs: how many choices go as far does not depend on the sample's own signs. -/
namespace Go.Proofs.Ytepjbmlhfhahcaa
open Go Go.PM

/-- The sample under the signs of a choice. -/
def flipS : List Int → Nat → List Int
  | [], _ => []
  | x :: r, m => (if m % 2 = 1 then -x else x) :: flipS r (m / 2)
@[simp] theorem flipS_length (a : List Int) (m : Nat) : (flipS a m).length = a.length := by
  induction a generalizing m with
  | nil => rfl
  | cons x r ih => simp [flipS, ih]
theorem flipS_small {a : List Int} (h : small a) (m : Nat) : small (flipS a m) := by
  induction a generalizing m with
  | nil => intro y hy; cases hy
  | cons x r ih =>
    intro y hy
    have hx := h x (by simp)
    simp only [flipS, List.mem_cons] at hy
    rcases hy with rfl | hy
    · split <;> omega
    · exact ih (fun z hz => h z (by simp [hz])) (m / 2) y hy
theorem csum_full (a : List Int) : csum a (2 ^ a.length - 1) = a.sum := by
  induction a with
  | nil => rfl
  | cons x r ih =>
    have hp := Nat.two_pow_pos r.length
    have e1 : (2 ^ (r.length + 1) - 1) % 2 = 1 := by rw [Nat.pow_succ]; omega
    have e2 : (2 ^ (r.length + 1) - 1) / 2 = 2 ^ r.length - 1 := by rw [Nat.pow_succ]; omega
    simp only [csum, List.length_cons, e1, e2, ih, List.sum_cons, if_true]
theorem flip_sum (a : List Int) (c : Nat) : (flipS a c).sum = a.sum - 2 * csum a c := by
  induction a generalizing c with
  | nil => rfl
  | cons x r ih =>
    simp only [flipS, csum, List.sum_cons, ih]
    split <;> omega
theorem dev_eq (a : List Int) (c : Nat) : dev a c = (flipS a c).sum.natAbs := by
  unfold dev; rw [flip_sum, csum_full]

theorem countP_two (f : Nat → Bool) (N : Nat) : (List.range (2 * N)).countP f = (List.range N).countP (fun c => f (2 * c)) + (List.range N).countP (fun c => f (2 * c + 1)) := by
  induction N with
  | zero => rfl
  | succ N ih =>
    rw [show 2 * (N + 1) = 2 * N + 1 + 1 by omega, countP_range_succ, countP_range_succ, countP_range_succ, countP_range_succ, ih]
    omega
theorem countP_ext {f g : Nat → Bool} (N : Nat) (h : ∀ c, f c = g c) : (List.range N).countP f = (List.range N).countP g := by
  rw [show f = g from funext h]
/-- The signs of a sample may be changed: all choices together are the same. -/
theorem flip_count (a : List Int) (m : Nat) (p : Int → Bool) : (List.range (2 ^ a.length)).countP (fun c => p (flipS (flipS a m) c).sum) = (List.range (2 ^ a.length)).countP (fun c => p (flipS a c).sum) := by
  induction a generalizing m p with
  | nil => rfl
  | cons x r ih =>
    have e : (2 : Nat) ^ (x :: r).length = 2 * 2 ^ r.length := by rw [List.length_cons, Nat.pow_succ]; omega
    rw [e, countP_two, countP_two]
    simp only [flipS, List.sum_cons, show ∀ c : Nat, 2 * c % 2 = 0 by omega, show ∀ c : Nat, (2 * c + 1) % 2 = 1 by omega, show ∀ c : Nat, 2 * c / 2 = c by omega, show ∀ c : Nat, (2 * c + 1) / 2 = c by omega, show ¬ (0 : Nat) = 1 by omega, if_true, if_false]
    rw [ih (m / 2) (fun s => p ((if m % 2 = 1 then -x else x) + s)), ih (m / 2) (fun s => p (-(if m % 2 = 1 then -x else x) + s))]
    split
    · rw [Nat.add_comm, show - -x = x by omega]
    · rfl

/-- How far the choice m goes. -/
def far (a : List Int) (m : Nat) : Nat := (flipS a m).sum.natAbs
def farther (a : List Int) (m : Nat) : Nat := (List.range (2 ^ a.length)).countP fun c => decide (far a m ≤ far a c)
theorem hits_flip (a : List Int) (m : Nat) : hits (flipS a m) = farther a m := by
  unfold hits farther far
  simp only [dev_eq]
  rw [show csum (flipS a m) (2 ^ (flipS a m).length - 1) = (flipS a m).sum from csum_full _, flipS_length]
  exact flip_count a m fun s => decide ((flipS a m).sum.natAbs ≤ s.natAbs)

theorem countP_lt {f g : Nat → Bool} : ∀ (N k : Nat), (∀ c, f c = true → g c = true) → k < N → f k = false → g k = true → (List.range N).countP f < (List.range N).countP g
  | 0, k, _, hk, _, _ => by omega
  | N + 1, k, h, hk, h1, h2 => by
    rw [countP_range_succ, countP_range_succ]
    have hle : (List.range N).countP f ≤ (List.range N).countP g := List.countP_mono_left fun c _ => h c
    by_cases hN : k = N
    · subst hN
      rw [h1, h2]
      simp; omega
    · have := countP_lt N k h (by omega) h1 h2
      have : (if f N = true then 1 else 0) ≤ (if g N = true then 1 else 0) := by
        by_cases hf : f N = true
        · rw [if_pos hf, if_pos (h N hf)]; exact Nat.le_refl 1
        · rw [if_neg hf]; omega
      omega
theorem farther_le (a : List Int) {x y : Nat} (hy : y < 2 ^ a.length) : farther a y ≤ farther a x ↔ far a x ≤ far a y := by
  constructor
  · intro h
    refine Decidable.byContradiction fun hn => ?_
    have := countP_lt (f := fun c => decide (far a x ≤ far a c)) (g := fun c => decide (far a y ≤ far a c)) (2 ^ a.length) y (fun c hc => by simp only [decide_eq_true_eq] at hc ⊢; omega) hy (by simp; omega) (by simp)
    unfold farther at h
    omega
  · intro h
    exact List.countP_mono_left fun c _ hc => by simp only [decide_eq_true_eq] at hc ⊢; omega
theorem farther_count (a : List Int) {x : Nat} : (List.range (2 ^ a.length)).countP (fun y => decide (farther a y ≤ farther a x)) = farther a x := by
  show _ = (List.range (2 ^ a.length)).countP fun c => decide (far a x ≤ far a c)
  refine List.countP_congr fun y hy => ?_
  simp only [decide_eq_true_eq]
  exact farther_le a (by simpa using hy)

/-- Parts in lowest terms are compared like the numbers themselves. -/
theorem redP_cmp (h k n : Nat) : cmpI ((redP h n).1 * (redP k n).2) ((redP k n).1 * (redP h n).2) = cmpI h k := by
  have hp := Nat.two_pow_pos n
  have gh : 0 < Nat.gcd h (2 ^ n) := Nat.gcd_pos_of_pos_right _ hp
  have gk : 0 < Nat.gcd k (2 ^ n) := Nat.gcd_pos_of_pos_right _ hp
  have d1 := Nat.div_mul_cancel (Nat.gcd_dvd_left h (2 ^ n))
  have d2 := Nat.div_mul_cancel (Nat.gcd_dvd_right h (2 ^ n))
  have d3 := Nat.div_mul_cancel (Nat.gcd_dvd_left k (2 ^ n))
  have d4 := Nat.div_mul_cancel (Nat.gcd_dvd_right k (2 ^ n))
  unfold redP
  simp only [← Int.natCast_mul]
  generalize Nat.gcd h (2 ^ n) = g at *
  generalize Nat.gcd k (2 ^ n) = g' at *
  generalize h / g = u at *
  generalize 2 ^ n / g = v at *
  generalize k / g' = u' at *
  generalize 2 ^ n / g' = v' at *
  have e1 : u * v' * (g * g') = h * 2 ^ n := by rw [Nat.mul_mul_mul_comm, d1, d4]
  have e2 : u' * v * (g * g') = k * 2 ^ n := by rw [Nat.mul_comm g g', Nat.mul_mul_mul_comm, d3, d2]
  have hg : 0 < g * g' := Nat.mul_pos gh gk
  have l1 : u * v' < u' * v ↔ h < k := by
    rw [← Nat.mul_lt_mul_right hg, e1, e2, Nat.mul_lt_mul_right hp]
  have l2 : u' * v < u * v' ↔ k < h := by
    rw [← Nat.mul_lt_mul_right hg, e1, e2, Nat.mul_lt_mul_right hp]
  generalize u * v' = p at *
  generalize u' * v = q at *
  unfold cmpI
  repeat' split
  all_goals omega

end Go.Proofs.Ytepjbmlhfhahcaa
/- What the statement that the test of signs is exact comes to: true, at any bytes. -/
namespace Go.Proofs.Ytepjbmlhfhahcaa
open Go Go.PM

theorem sp_awake (fu d : Nat) (hf : 18446744073709551616 ≤ fu) : cl fu (d + 8) fn_synopticlaw39_awake [] [] = some ⟨B true, [], none⟩ := by
  rw [eq_synopticlaw39_awake]
  have h := sp_Signs fu d hf [1, 1, 1] (by decide) (by intro x hx; simp at hx; omega)
  have e : redP (hits [1, 1, 1]) ([1, 1, 1] : List Int).length = (1, 4) := by decide
  rw [e] at h
  have h' : cl fu (d + 7) fn_sampling_Signs [V.c (C.sl 3 ([C.v (.int .i64 1), C.v (.int .i64 1), C.v (.int .i64 1)]))] [] = some ⟨V.tup [V.agg [C.v (.int .i64 1), C.v (.int .i64 4)], I 0], [], none⟩ := h
  rw [h']
  simp

theorem flipS_snoc (a : List Int) (m j : Nat) (h : j < a.length) : flipS (a.take (j + 1)) m = flipS (a.take j) m ++ [if m / 2 ^ j % 2 = 1 then -a[j] else a[j]] := by
  induction a generalizing m j with
  | nil => simp at h
  | cons x r ih =>
    cases j with
    | zero => simp [flipS]
    | succ j =>
      simp only [List.take_succ_cons, flipS, List.getElem_cons_succ, List.cons_append]
      rw [ih (m / 2) j (by simpa using h), Nat.div_div_eq_div_mul, show 2 * 2 ^ j = 2 ^ (j + 1) by rw [Nat.pow_succ]; omega]
/-- The sample as it is when j signs are set. -/
def mix (a : List Int) (m j : Nat) : List Int := flipS (a.take j) m ++ a.drop j
theorem mix_length (a : List Int) (m j : Nat) : (mix a m j).length = a.length := by simp [mix]; omega
theorem mix_zero (a : List Int) (m : Nat) : mix a m 0 = a := by simp [mix, flipS]
theorem mix_full (a : List Int) (m : Nat) : mix a m a.length = flipS a m := by simp [mix]
theorem mix_get (a : List Int) (m j : Nat) (h : j < a.length) : (mix a m j)[j]'(by rw [mix_length]; exact h) = a[j] := by
  unfold mix
  rw [List.getElem_append_right (by simp; omega)]
  simp [Nat.min_eq_left (Nat.le_of_lt h)]
theorem mix_succ (a : List Int) (m j : Nat) (h : j < a.length) : mix a m (j + 1) = if m / 2 ^ j % 2 = 1 then (mix a m j).set j (-a[j]) else mix a m j := by
  unfold mix
  rw [flipS_snoc a m j h, List.drop_eq_getElem_cons h, List.append_assoc]
  split
  · rw [List.set_append_right _ _ (by simp; omega)]
    simp [Nat.min_eq_left (Nat.le_of_lt h)]
    rw [List.drop_eq_getElem_cons h]
    rfl
  · rfl

theorem sp_New (fu d : Nat) (bs : List Int) (k : Nat) : cl fu (d + 1) fn_synopticfield_New [V.c (C.sl bs.length (ik .u8 bs)), I (k : Int)] [] = some ⟨V.ptr 1000000 0, [codesO (bs.take k) 0], none⟩ := by
  rw [eq_synopticfield_New]
  unfold codesO codesC
  by_cases h : bs.length > k
  · rw [decide_eq_true (show (bs.length : Int) > (k : Int) by omega)]
    simp only [ct, decide_eq_true (show (0 : Int) ≤ (k : Int) by omega), decide_eq_true (show (k : Int) ≤ (bs.length : Int) by omega), Bool.and_self, need_true, Int.toNat_natCast, Nat.mul_one, ik_take, List.length_take, Nat.min_eq_left (Nat.le_of_lt h)]
    rfl
  · rw [decide_eq_false (show ¬ (bs.length : Int) > (k : Int) by omega), show bs.take k = bs from List.take_of_length_le (by omega)]
    rfl

/-- The flips of one choice. -/
theorem sp_flips (fu : Nat) (hf : 18446744073709551616 ≤ fu) (a : List Int) (hs : small a) (hn : a.length ≤ 60) (fs : List (Int × Int)) (m : Nat) :
    iter (fun (y1 : List C × List C × Int × Unit) =>
            bif decide (y1.2.2.1 < ((a.length : Nat) : Int)) then
              need (!(decide (IntKind.u64.wrap y1.2.2.1 < 0))) <|
              bd (IntKind.i64.wrap (BitVec.ofInt (IntKind.bits .i64) (Int.fdiv (m : Int) (2 ^ (min (IntKind.u64.wrap y1.2.2.1).toNat (IntKind.bits .i64)))) &&& BitVec.ofInt (IntKind.bits .i64) 1).toNat) fun z =>
              bif z == 1 then
                need (inR y1.2.2.1 (y1.2.1.length / 1)) <|
                unc (List.drop (0 + (y1.2.2.1.toNat * 1)) y1.2.1) fun c6 _ =>
                asI .i64 c6 fun i2 =>
                need (inR y1.2.2.1 (y1.2.1.length / 1)) <|
                need (((Nat.ble 0 (0 + (y1.2.2.1.toNat * 1))) && (Nat.ble ((0 + (y1.2.2.1.toNat * 1)) + 1) y1.2.1.length)) && true) <|
                need (((Nat.beq ((y1.1.length / 2) * 2) y1.1.length) && true) && true) <|
                need (((Nat.beq ((y1.2.1.length / 1) * 1) ((putAt y1.2.1 (0 + (y1.2.2.1.toNat * 1)) ([C.v (.int .i64 (IntKind.i64.wrap (0 - i2)))])).length)) && true) && true) <|
                some (0, (y1.1, putAt y1.2.1 (0 + (y1.2.2.1.toNat * 1)) ([C.v (.int .i64 (IntKind.i64.wrap (0 - i2)))]), IntKind.i64.wrap (y1.2.2.1 + 1), ()))
              else
                need (((Nat.beq ((y1.1.length / 2) * 2) y1.1.length) && true) && true) <|
                need (((Nat.beq ((y1.2.1.length / 1) * 1) y1.2.1.length) && true) && true) <|
                some (0, (y1.1, y1.2.1, IntKind.i64.wrap (y1.2.2.1 + 1), ()))
            else
              need (((Nat.beq ((y1.1.length / 2) * 2) y1.1.length) && true) && true) <|
              need (((Nat.beq ((y1.2.1.length / 1) * 1) y1.2.1.length) && true) && true) <|
              some (1, (y1.1, y1.2.1, y1.2.2.1, ()))) fu (prs fs, ints a, 0, ()) = some (0, (prs fs, ints (flipS a m), (a.length : Int), ())) := by
  have hdiv : Nat.beq (fs.length * 2 / 2 * 2) (fs.length * 2) = true := beqN_eq (by omega)
  rw [show (prs fs, ints a, (0 : Int), ()) = (fun j : Nat => (prs fs, ints (mix a m j), (j : Int), ())) 0 by simp [mix_zero], iter_run (fun j : Nat => (prs fs, ints (mix a m j), (j : Int), ())) 0 (prs fs, ints (flipS a m), (a.length : Int), ()) a.length 0 fu ?_ ?_ (by omega)]
  · intro j _ hj
    have hj : j < a.length := by omega
    have hx := hs a[j] (List.getElem_mem hj)
    have hm : j < (mix a m j).length := by rw [mix_length]; exact hj
    simp only [lt_yes (show (j : Int) < (a.length : Int) by omega), ct, IntWalk.u64_in (j : Int) ⟨by omega, by omega⟩, show decide ((j : Int) < 0) = false from decide_eq_false (by omega), Bool.not_false, need_true, Int.toNat_natCast, bd_eq, show min j (IntKind.bits .i64) = j by simp [IntKind.bits]; omega, fdiv_pow, andoneI, prs_length, ik_length, mix_length, Nat.div_one, Nat.mul_one, Nat.zero_add, hdiv, beqN_self, Bool.and_self, inR_nat hj, unc_ik hm, mix_get a m j hj, asI_int, Bool.and_true, bleN_le (Nat.zero_le j), bleN_le (Nat.succ_le_of_lt hj)]
    rw [IntWalk.i64_in ((j : Int) + 1) ⟨by omega, by omega⟩, IntWalk.i64_in (0 - a[j]) ⟨by omega, by omega⟩, ik_put hm, mix_succ a m j hj]
    by_cases hbit : m / 2 ^ j % 2 = 1
    · rw [hbit]
      simp only [ik_length, List.length_set, mix_length, beqN_self, need_true, if_true, show (((1 : Nat) : Int) == 1) = true from rfl, ct, show (0 : Int) - a[j] = -a[j] by omega]
      rfl
    · rw [if_neg hbit, show (((m / 2 ^ j % 2 : Nat) : Int) == 1) = false by rw [beq_eq_false_iff_ne]; omega]
      rfl
  · simp only [Nat.zero_add, show decide ((a.length : Int) < (a.length : Int)) = false from decide_eq_false (by omega), cf, prs_length, ik_length, mix_length, Nat.div_one, Nat.mul_one, hdiv, beqN_self, Bool.and_self, need_true, mix_full]

end Go.Proofs.Ytepjbmlhfhahcaa
/- What the parts of the test of two samples come to: joined slices, numbers of bits, the document's own checks. -/
namespace Go.Proofs.Ytepjbmlhfhahcaa
open Go Go.PM

theorem sp_Grow_nil (fu d n : Nat) (hn : n ≤ 1000) : cl fu (d + 1) fn_slices_Grow_sint_int [V.c C.nl, I (n : Int)] [] = some ⟨V.own 1000000 0 0, [.sb ty_int 0 []], none⟩ := by
  rw [eqn0_slices_Grow_sint_int]
  simp only [show decide ((n : Int) < 0) = false from decide_eq_false (by omega), cf, obs, show (n : Int) - 0 = n by omega, IntWalk.i64_in (n : Int) ⟨by omega, by omega⟩]
  by_cases h : n = 0
  · subst h; rfl
  · simp only [show decide ((n : Int) > 0) = true from decide_eq_true (by omega), ct, show decide ((0 : Int) < (n : Int)) = true from decide_eq_true (by omega), show decide ((8 : Int) * n ≤ 140737488355328) = true from decide_eq_true (by omega), show decide ((n : Int) ≤ 140737488355328) = true from decide_eq_true (by omega), Bool.and_self, need_true, show decide ((0 : Int) ≤ (((n : Int).toNat : Nat) : Int)) = true from decide_eq_true (by omega), bleN_le (Nat.zero_le _), List.take_zero]

theorem sp_Concat (fu d : Nat) (hf : 18446744073709551616 ≤ fu) (a b : List Int) (ha : a.length ≤ 100) (hb : b.length ≤ 100) :
    cl fu (d + 2) fn_slices_Concat_sint_int [V.c (C.sl 2 [C.sl a.length (ints a), C.sl b.length (ints b)])] [] = some ⟨V.c (C.sl (a ++ b).length (ints (a ++ b))), [], none⟩ := by
  obtain ⟨fu, rfl⟩ : ∃ n, fu = n + 3 := ⟨fu - 3, by omega⟩
  rw [eq_slices_Concat_sint_int]
  rw [iter_next (z := ((a.length : Int), 1, ())) (by
    simp only [show decide ((0 : Int) < ((2 : Nat) : Int)) = true from rfl, ct, show inR (0 : Int) 2 = true from rfl, need_true, show (0 : Int).toNat * 1 = 0 from rfl, List.drop_zero, unc_cons, asSl_sl]
    rw [IntWalk.i64_in (0 + (a.length : Int)) ⟨by omega, by omega⟩, show decide ((0 : Int) + (a.length : Int) < 0) = false from decide_eq_false (by omega)]
    simp only [cf, Int.zero_add, show IntKind.i64.wrap 1 = 1 from rfl]),
    iter_next (z := (((a.length + b.length : Nat) : Int), 2, ())) (by
    simp only [show decide ((1 : Int) < ((2 : Nat) : Int)) = true from rfl, ct, show inR (1 : Int) 2 = true from rfl, need_true, show (1 : Int).toNat * 1 = 1 from rfl, List.drop_succ_cons, List.drop_zero, unc_cons, asSl_sl]
    rw [IntWalk.i64_in ((a.length : Int) + (b.length : Int)) ⟨by omega, by omega⟩, show decide ((a.length : Int) + (b.length : Int) < 0) = false from decide_eq_false (by omega)]
    simp only [cf, show IntKind.i64.wrap (1 + 1) = 2 from rfl, Int.natCast_add]),
    iter_one (e := 0) (z := (((a.length + b.length : Nat) : Int), 2, ())) (by omega) (by simp)]
  simp only [obs]
  rw [sp_Grow_nil _ _ _ (by omega)]
  simp only [obs, rW_own, uncO_cons, rS_sb, beqN_self, show Nat.beq 1000000 (OUT + 0) = true from rfl, Bool.and_self, need_true, Nat.mul_one, List.length_nil]
  rw [iter_next (z := (ints a, 1, ())) (by
    simp only [show decide ((0 : Int) < ((2 : Nat) : Int)) = true from rfl, ct, show inR (0 : Int) 2 = true from rfl, need_true, Int.toNat_zero, List.drop_zero, unc_cons, asSl_sl, ik_length, beqN_self, List.length_nil, Nat.zero_div, Nat.zero_mul, Nat.mul_one, Nat.div_one, Bool.and_self, Bool.and_true, Nat.zero_add, bleN_le (show a.length * 8 ≤ 140737488355328 by omega), bleN_le (show a.length ≤ 140737488355328 by omega), List.nil_append, show IntKind.i64.wrap (0 + 1) = 1 from rfl]),
    iter_next (z := (ints (a ++ b), 2, ())) (by
    simp only [show decide ((1 : Int) < ((2 : Nat) : Int)) = true from rfl, ct, show inR (1 : Int) 2 = true from rfl, need_true, show (1 : Int).toNat = 1 from rfl, List.drop_succ_cons, List.drop_zero, unc_cons, asSl_sl, ik_length, Bool.and_true, beqN_self, Nat.mul_one, Nat.div_one, Bool.and_self, bleN_le (show (a.length + b.length) * 8 ≤ 140737488355328 by omega), bleN_le (show a.length + b.length ≤ 140737488355328 by omega), ← ik_append, List.length_append, show IntKind.i64.wrap (1 + 1) = 2 from rfl]),
    iter_one (e := 0) (z := (ints (a ++ b), 2, ())) (by omega) (by simp)]
  simp only [obs, ik_length, Nat.div_one, Nat.mul_one, Nat.zero_add, bleN_le (Nat.le_refl _), need_true, ik_take, List.take_length]

/-- How many of the first n bits are set. -/
def popc : Nat → Nat → Nat
  | 0, _ => 0
  | n + 1, m => m % 2 + popc n (m / 2)
theorem popc_le (n m : Nat) : popc n m ≤ n := by
  induction n generalizing m with
  | zero => exact Nat.le_refl 0
  | succ n ih => have := ih (m / 2); simp only [popc]; omega
theorem popc_zero (n : Nat) : popc n 0 = 0 := by
  induction n with
  | zero => rfl
  | succ n ih => simp [popc, ih]
theorem popc_add (n k m : Nat) : popc (n + k) m = popc n m + popc k (m / 2 ^ n) := by
  induction n generalizing m with
  | zero => simp [popc]
  | succ n ih =>
    rw [show n + 1 + k = n + k + 1 by omega]
    simp only [popc]
    rw [ih (m / 2), Nat.div_div_eq_div_mul, show 2 * 2 ^ n = 2 ^ (n + 1) by rw [Nat.pow_succ]; omega]
    omega
theorem popc_succ (n m : Nat) : popc (n + 1) m = popc n m + m / 2 ^ n % 2 := by
  rw [popc_add n 1 m]; simp [popc]
theorem popc_small {n k m : Nat} (h : m < 2 ^ n) : popc (n + k) m = popc n m := by
  rw [popc_add, Nat.div_eq_of_lt h, popc_zero, Nat.add_zero]

/-- What the library does to count bits. -/
def onesI (a0 : Int) : Int :=
  let z := IntKind.u64.wrap (BitVec.ofInt (IntKind.bits .u64) (Int.fdiv a0 (2 ^ 1)) &&& BitVec.ofInt (IntKind.bits .u64) 6148914691236517205).toNat
  let z1 := IntKind.u64.wrap (z + (IntKind.u64.wrap (BitVec.ofInt (IntKind.bits .u64) a0 &&& BitVec.ofInt (IntKind.bits .u64) 6148914691236517205).toNat))
  let z2 := IntKind.u64.wrap (BitVec.ofInt (IntKind.bits .u64) (Int.fdiv z1 (2 ^ 2)) &&& BitVec.ofInt (IntKind.bits .u64) 3689348814741910323).toNat
  let z3 := IntKind.u64.wrap (z2 + (IntKind.u64.wrap (BitVec.ofInt (IntKind.bits .u64) z1 &&& BitVec.ofInt (IntKind.bits .u64) 3689348814741910323).toNat))
  let z4 := IntKind.u64.wrap (BitVec.ofInt (IntKind.bits .u64) (IntKind.u64.wrap ((Int.fdiv z3 (2 ^ 4)) + z3)) &&& BitVec.ofInt (IntKind.bits .u64) 1085102592571150095).toNat
  let z5 := IntKind.u64.wrap ((IntKind.u64.wrap (z4 + (Int.fdiv z4 (2 ^ 8)))) + (Int.fdiv (IntKind.u64.wrap (z4 + (Int.fdiv z4 (2 ^ 8)))) (2 ^ 16)))
  IntKind.i64.wrap (BitVec.ofInt (IntKind.bits .i64) (IntKind.i64.wrap (IntKind.u64.wrap (z5 + (Int.fdiv z5 (2 ^ 32))))) &&& BitVec.ofInt (IntKind.bits .i64) 127).toNat
theorem ones_all : ((List.range 4096).all fun x => onesI (x : Int) == ((popc 12 x : Nat) : Int)) = true := by decide +kernel
theorem sp_OnesCount (fu d n m : Nat) (hn : n ≤ 12) (hm : m < 2 ^ n) : cl fu (d + 2) fn_bits_OnesCount [V.c (C.v (.int .u64 (m : Int)))] [] = some ⟨I ((popc n m : Nat) : Int), [], none⟩ := by
  have h2 : (2 : Nat) ^ n ≤ 2 ^ 12 := Nat.pow_le_pow_right (by omega) hn
  have h2 : (2 : Nat) ^ n ≤ 4096 := h2
  have h := List.all_eq_true.1 ones_all m (by simp; omega)
  have h : onesI (m : Int) = ((popc 12 m : Nat) : Int) := by simpa using h
  have h64 : cl fu (d + 1) fn_bits_OnesCount64 [V.c (C.v (.int .u64 (m : Int)))] [] = some ⟨I (onesI (m : Int)), [], none⟩ := eq_bits_OnesCount64 fu d m
  rw [eq_bits_OnesCount, h64, h, show 12 = n + (12 - n) by omega, popc_small hm]
  simp only [obs, rC_c, asI_int]

theorem sp_size (fu d : Nat) (a : Int) (h : -9223372036854775807 ≤ a ∧ a ≤ 9223372036854775807) : cl fu (d + 1) fn_synopticref39_size [I a] [] = some ⟨I (a.natAbs : Int), [], none⟩ := by
  rw [eq_synopticref39_size, absI a h]

theorem sp_Small (fu d : Nat) (hf : 18446744073709551616 ≤ fu) (a : List Int) (hn : a.length ≤ 1000000000000) :
    cl fu (d + 1) fn_synopticref22_Small [V.c (C.sl a.length (ints a)), I 1000000] [] = some ⟨B (!a.any outB), [], none⟩ := by
  rw [eq_synopticref22_Small]
  have step : ∀ j (hj : j < a.length), (bif decide ((j : Int) < (a.length : Int)) then need (inR (j : Int) a.length) <| unc (List.drop (((j : Int).toNat) * 1) (ints a)) fun c _ => asI .i64 c fun i => bif decide (i > 1000000) then some (2, (false, (j : Int), ())) else need (inR (j : Int) a.length) <| unc (List.drop (((j : Int).toNat) * 1) (ints a)) fun c1 _ => asI .i64 c1 fun i1 => bif decide (i1 < IntKind.i64.wrap (0 - 1000000)) then some (2, (false, (j : Int), ())) else some (0, (false, IntKind.i64.wrap ((j : Int) + 1), ())) else some (1, (false, (j : Int), ()))) = bif outB a[j] then some (2, (false, (j : Int), ())) else some (0, (false, ((j + 1 : Nat) : Int), ())) := by
    intro j hj
    simp only [lt_yes (show (j : Int) < (a.length : Int) by omega), ct, inR_nat hj, need_true, Int.toNat_natCast, Nat.mul_one, unc_ik hj, asI_int, show IntKind.i64.wrap (0 - 1000000) = -1000000 from rfl]
    rw [IntWalk.i64_in ((j : Int) + 1) ⟨by omega, by omega⟩]
    unfold outB
    by_cases h1 : a[j] > 1000000
    · rw [decide_eq_true h1, show decide (a[j] ≤ 1000000) = false from decide_eq_false (by omega), Bool.and_false]
      rfl
    · rw [decide_eq_false h1, show decide (a[j] ≤ 1000000) = true from decide_eq_true (by omega), Bool.and_true]
      by_cases h2 : a[j] < -1000000
      · rw [decide_eq_true h2, show decide (-1000000 ≤ a[j]) = false from decide_eq_false (by omega)]
        rfl
      · rw [decide_eq_false h2, show decide (-1000000 ≤ a[j]) = true from decide_eq_true (by omega)]
        rfl
  by_cases ha : a.any outB = true
  · have hlt : a.findIdx outB < a.length := by
      rw [List.findIdx_lt_length]
      simpa using ha
    rw [show (false, (0 : Int), ()) = (fun j : Nat => (false, (j : Int), ())) 0 from rfl, iter_run (fun j : Nat => (false, (j : Int), ())) 1 (false, (a.findIdx outB : Int), ()) (a.findIdx outB) 0 fu ?_ ?_ (by omega), ha]
    · rfl
    · intro j _ hj
      have hj : j < a.findIdx outB := by omega
      have hq := List.not_of_lt_findIdx hj
      refine (step j (by omega)).trans ?_
      simp [hq]
    · simp only [Nat.zero_add]
      refine (step _ hlt).trans ?_
      rw [List.findIdx_getElem (w := hlt)]
      rfl
  · have ha : a.any outB = false := by simpa using ha
    have hno : ∀ x ∈ a, outB x = false := by simpa using ha
    rw [show (false, (0 : Int), ()) = (fun j : Nat => (false, (j : Int), ())) 0 from rfl, iter_run (fun j : Nat => (false, (j : Int), ())) 0 (false, (a.length : Int), ()) a.length 0 fu ?_ ?_ (by omega), ha]
    · rfl
    · intro j _ hj
      have hj : j < a.length := by omega
      refine (step j hj).trans ?_
      rw [hno _ (List.getElem_mem hj)]
      rfl
    · simp

/-- The document's reduction to lowest terms. -/
theorem sp_ref_Reduce (fu d : Nat) (hf : 18446744073709551616 ≤ fu) (a : Int) (b : Nat) (ha : -1152921504606846976 ≤ a ∧ a ≤ 1152921504606846976) (hb : 0 < b ∧ b ≤ 1152921504606846976) :
    cl fu (d + 1) fn_synopticref38_Reduce [I a, I b] [] = some ⟨V.tup [V.agg [C.v (.int .i64 (a / (Nat.gcd a.natAbs b : Nat))), C.v (.int .i64 ((b / Nat.gcd a.natAbs b : Nat) : Int))], I 0], [], none⟩ := by
  rw [eq_synopticref38_Reduce]
  have hb0 : ((b : Int) == 0) = false := by simp; omega
  have hbn : decide ((b : Int) < 0) = false := decide_eq_false (by omega)
  simp only [hb0, hbn, cf, show decide (a > 1152921504606846976) = false from decide_eq_false (by omega), show decide (a < -1152921504606846976) = false from decide_eq_false (by omega), show decide ((b : Int) > 1152921504606846976) = false from decide_eq_false (by omega), show decide ((b : Int) < -1152921504606846976) = false from decide_eq_false (by omega), obs]
  rw [absI a (by omega), sp_gcd _ _ _ (by omega)]
  have hg : 0 < Nat.gcd a.natAbs b := Nat.gcd_pos_of_pos_right _ hb.1
  have hg' : Nat.gcd a.natAbs b ≤ b := Nat.gcd_le_right _ hb.1
  have hz : (((Nat.gcd a.natAbs b : Nat) : Int) == 0) = false := by simp; omega
  have hd1 : ((Nat.gcd a.natAbs b : Nat) : Int) ∣ a := by
    have := Nat.gcd_dvd_left a.natAbs b
    exact Int.ofNat_dvd_left.2 this
  have e1 : Int.tdiv a ((Nat.gcd a.natAbs b : Nat) : Int) = a / ((Nat.gcd a.natAbs b : Nat) : Int) := Int.tdiv_eq_ediv_of_dvd hd1
  have e2 : Int.tdiv (b : Int) ((Nat.gcd a.natAbs b : Nat) : Int) = ((b / Nat.gcd a.natAbs b : Nat) : Int) := rfl
  have b1 : b / Nat.gcd a.natAbs b ≤ b := Nat.div_le_self _ _
  have b2 : (a / ((Nat.gcd a.natAbs b : Nat) : Int)).natAbs ≤ a.natAbs := by
    rw [Int.natAbs_ediv_of_dvd hd1]
    exact Nat.div_le_self _ _
  simp only [obs, hz, Bool.not_false, need_true, e1, e2]
  generalize a / ((Nat.gcd a.natAbs b : Nat) : Int) = u at *
  generalize b / Nat.gcd a.natAbs b = v at *
  rw [IntWalk.i64_in u ⟨by omega, by omega⟩, IntWalk.i64_in v ⟨by omega, by omega⟩]

end Go.Proofs.Ytepjbmlhfhahcaa
/- The test of signs, the program's and the document's: they answer alike at any sample. -/
namespace Go.Proofs.Ytepjbmlhfhahcaa
open Go Go.PM

/-- The test of signs: its part and its error. -/
def signsR (a : List Int) : Int × Int × Int :=
  if a.length ≤ 12 ∧ a.any outB = false then ((redP (hits a) a.length).1, (redP (hits a) a.length).2, 0) else (0, 0, 1)
def out3 (r : Int × Int × Int) : Out := ⟨V.tup [V.agg [C.v (.int .i64 r.1), C.v (.int .i64 r.2.1)], I r.2.2], [], none⟩
theorem small_of {a : List Int} (h : a.any outB = false) : small a := by
  intro x hx
  have := List.any_eq_false.1 h x hx
  simp only [outB, Bool.not_eq_true', Bool.not_eq_false', Bool.and_eq_true, decide_eq_true_eq, Bool.not_eq_true, Bool.not_eq_false] at this
  exact this

theorem sp_Signs_any (fu d : Nat) (hf : 18446744073709551616 ≤ fu) (a : List Int) (hn : a.length ≤ 1000000000000) :
    cl fu (d + 7) fn_sampling_Signs [V.c (C.sl a.length (ints a))] [] = some (out3 (signsR a)) := by
  unfold signsR
  by_cases h : a.length ≤ 12 ∧ a.any outB = false
  · rw [if_pos h]
    exact sp_Signs fu d hf a h.1 (small_of h.2)
  · rw [if_neg h, eq_sampling_Signs]
    by_cases h1 : a.length ≤ 12
    · have h2 : a.any outB = true := by
        cases hx : a.any outB with
        | true => rfl
        | false => exact absurd ⟨h1, hx⟩ h
      rw [sp_outside fu _ hf a (by omega), h2, show decide ((a.length : Int) > 12) = false from decide_eq_false (by omega)]
      rfl
    · rw [show decide ((a.length : Int) > 12) = true from decide_eq_true (by omega)]
      rfl

theorem sum_take (a : List Int) (j : Nat) (h : j < a.length) : (a.take (j + 1)).sum = (a.take j).sum + a[j] := by
  rw [List.take_succ_eq_append_getElem h, List.sum_append]; simp
theorem small_sum {a : List Int} (h : small a) : -(1000000 * (a.length : Int)) ≤ a.sum ∧ a.sum ≤ 1000000 * (a.length : Int) := by
  rw [← csum_full]; exact csum_bound a _ h

/-- A part of two numbers in lowest terms. -/
def redI (h n : Nat) : Int × Int := (((h / Nat.gcd h n : Nat) : Int), ((n / Nat.gcd h n : Nat) : Int))
theorem sp_ref_Reduce_nat (fu d : Nat) (hf : 18446744073709551616 ≤ fu) (h n : Nat) (hh : h ≤ n) (h0 : 0 < n) (hn : n ≤ 1152921504606846976) :
    cl fu (d + 1) fn_synopticref38_Reduce [I (h : Int), I (n : Int)] [] = some (out3 ((redI h n).1, (redI h n).2, 0)) :=
  sp_ref_Reduce fu d hf (h : Int) n (by omega) ⟨h0, hn⟩
theorem sp_Reduce_any (fu d : Nat) (hf : 18446744073709551616 ≤ fu) (h n : Nat) (hh : h ≤ n) (h0 : 0 < n) (hn : n ≤ 1152921504606846976) :
    cl fu (d + 2) fn_score_Reduce [I (h : Int), I (n : Int)] [] = some (out3 ((redI h n).1, (redI h n).2, 0)) :=
  sp_Reduce fu d hf (h : Int) n (by omega) ⟨h0, hn⟩
theorem redI_pow (h n : Nat) : redI h (2 ^ n) = redP h n := rfl

theorem u64i (n : Nat) (h : n ≤ 1000000000000) : IntKind.u64.wrap ((n : Nat) : Int) = (n : Int) := IntWalk.u64_in _ ⟨by omega, by omega⟩

theorem sp_ref_Signs (fu d : Nat) (hf : 18446744073709551616 ≤ fu) (a : List Int) (hn : a.length ≤ 1000000000000) :
    cl fu (d + 2) fn_synopticref39_Signs [V.c (C.sl a.length (ints a))] [] = some (out3 (signsR a)) := by
  unfold signsR
  rw [eq_synopticref39_Signs, sp_Small fu d hf a hn]
  by_cases h1 : a.length ≤ 12
  · by_cases h2 : a.any outB = true
    · rw [if_neg (by simp [h2]), h2, show decide ((a.length : Int) > 12) = false from decide_eq_false (by omega)]
      rfl
    · have h2 : a.any outB = false := by simpa using h2
      have hs := small_of h2
      have hp := Nat.two_pow_pos a.length
      have hp2 : (2 : Nat) ^ a.length ≤ 2 ^ 12 := Nat.pow_le_pow_right (by omega) h1
      have hp2 : (2 : Nat) ^ a.length ≤ 4096 := hp2
      have hsum := small_sum hs
      have hm0 : (a.length : Int) ≥ 0 := by omega
      rw [if_pos ⟨h1, h2⟩, h2, show decide ((a.length : Int) > 12) = false from decide_eq_false (by omega)]
      simp only [cf, obs, rC_c, asB_bool, Bool.not_false, Bool.not_true, u64i a.length hn, show decide ((a.length : Int) < 0) = false from decide_eq_false (by omega), need_true, Int.toNat_natCast, two_pow_i64 a.length (by omega)]
      rw [show ((0 : Int), (0 : Int), ((0 : Int), (0 : Int), ()), ()) = (fun j : Nat => ((a.take j).sum, (j : Int), ((0 : Int), (0 : Int), ()), ())) 0 by simp, iter_run (fun j : Nat => ((a.take j).sum, (j : Int), ((0 : Int), (0 : Int), ()), ())) 0 (a.sum, (a.length : Int), ((0 : Int), (0 : Int), ()), ()) a.length 0 fu ?_ ?_ (by omega)]
      · simp only [obs]
        rw [show ((0 : Int), (0 : Int), ((0 : Int), (0 : Int), ()), ()) = (fun m : Nat => ((((List.range m).countP fun c => decide ((csum a (2 ^ a.length - 1)).natAbs ≤ dev a c) : Nat) : Int), (m : Int), ((0 : Int), (0 : Int), ()), ())) 0 by simp, iter_run (fun m : Nat => ((((List.range m).countP fun c => decide ((csum a (2 ^ a.length - 1)).natAbs ≤ dev a c) : Nat) : Int), (m : Int), ((0 : Int), (0 : Int), ()), ())) 0 ((((List.range (2 ^ a.length)).countP fun c => decide ((csum a (2 ^ a.length - 1)).natAbs ≤ dev a c) : Nat) : Int), ((2 ^ a.length : Nat) : Int), ((0 : Int), (0 : Int), ()), ()) (2 ^ a.length) 0 fu ?_ ?_ (by omega)]
        · have hh : hits a ≤ 2 ^ a.length := by
            have := List.countP_le_length (p := fun c => decide ((csum a (2 ^ a.length - 1)).natAbs ≤ dev a c)) (l := List.range (2 ^ a.length))
            simpa [hits] using this
          simp only [obs]
          rw [show (List.range (2 ^ a.length)).countP (fun c => decide ((csum a (2 ^ a.length - 1)).natAbs ≤ dev a c)) = hits a from rfl, sp_ref_Reduce_nat fu _ hf (hits a) (2 ^ a.length) hh hp (by omega), redI_pow]
          simp [out3]
        · intro m _ hm
          have hm : m < 2 ^ a.length := by omega
          have hc : ((List.range m).countP fun c => decide ((csum a (2 ^ a.length - 1)).natAbs ≤ dev a c)) ≤ m := by
            have := List.countP_le_length (p := fun c => decide ((csum a (2 ^ a.length - 1)).natAbs ≤ dev a c)) (l := List.range m)
            simpa using this
          simp only [lt_yes (show (m : Int) < ((2 ^ a.length : Nat) : Int) by omega), ct]
          have hz : ((0 : Int), (0 : Int), ((0 : Int), (0 : Int), ()), ()) = (fun j : Nat => ((flipS (a.take j) m).sum, (j : Int), ((0 : Int), (0 : Int), ()), ())) 0 := by simp [flipS]
          rw [hz, iter_run (fun j : Nat => ((flipS (a.take j) m).sum, (j : Int), ((0 : Int), (0 : Int), ()), ())) 0 ((flipS a m).sum, (a.length : Int), ((0 : Int), (0 : Int), ()), ()) a.length 0 fu ?_ ?_ (by omega)]
          · have hfs := small_sum (flipS_small hs m)
            rw [flipS_length] at hfs
            simp only [obs]
            rw [sp_size _ _ _ ⟨by omega, by omega⟩, sp_size _ _ _ ⟨by omega, by omega⟩]
            simp only [obs, rC_c, asI_int]
            rw [countP_range_succ, IntWalk.i64_in ((m : Int) + 1) ⟨by omega, by omega⟩]
            have hd : decide (((flipS a m).sum.natAbs : Int) ≥ (a.sum.natAbs : Int)) = decide ((csum a (2 ^ a.length - 1)).natAbs ≤ dev a m) := by
              rw [dev_eq, csum_full]
              by_cases h : a.sum.natAbs ≤ (flipS a m).sum.natAbs
              · rw [decide_eq_true h, decide_eq_true (by omega)]
              · rw [decide_eq_false h, decide_eq_false (by omega)]
            rw [hd]
            cases decide ((csum a (2 ^ a.length - 1)).natAbs ≤ dev a m) with
            | true =>
              simp only [ct, if_true]
              rw [IntWalk.i64_in _ ⟨by omega, by omega⟩]
              rfl
            | false => rfl
          · intro j _ hj
            have hj : j < a.length := by omega
            have hx := hs a[j] (List.getElem_mem hj)
            have hfs := small_sum (flipS_small (small_take hs j) m)
            rw [flipS_length, List.length_take, Nat.min_eq_left (Nat.le_of_lt hj)] at hfs
            simp only [lt_yes (show (j : Int) < (a.length : Int) by omega), ct, inR_nat hj, need_true, Int.toNat_natCast, Nat.mul_one, unc_ik hj, asI_int, u64i j (by omega), show decide ((j : Int) < 0) = false from decide_eq_false (by omega), Bool.not_false, bd_eq]
            rw [show min j (IntKind.bits .i64) = j by simp [IntKind.bits]; omega, fdiv_pow, andoneI, flipS_snoc a m j hj, IntWalk.i64_in ((j : Int) + 1) ⟨by omega, by omega⟩]
            by_cases hbit : m / 2 ^ j % 2 = 1
            · rw [hbit, if_pos rfl, IntWalk.i64_in ((flipS (a.take j) m).sum - a[j]) ⟨by omega, by omega⟩]
              simp
              omega
            · rw [if_neg hbit]
              have : (((m / 2 ^ j % 2 : Nat) : Int) == 1) = false := by rw [beq_eq_false_iff_ne]; omega
              rw [this, IntWalk.i64_in ((flipS (a.take j) m).sum + a[j]) ⟨by omega, by omega⟩]
              simp
          · simp
        · simp
      · intro j _ hj
        have hj : j < a.length := by omega
        have hx := hs a[j] (List.getElem_mem hj)
        have hb := small_sum (small_take hs j)
        rw [List.length_take, Nat.min_eq_left (Nat.le_of_lt hj)] at hb
        simp only [lt_yes (show (j : Int) < (a.length : Int) by omega), ct, inR_nat hj, need_true, Int.toNat_natCast, Nat.mul_one, unc_ik hj, asI_int]
        rw [IntWalk.i64_in ((j : Int) + 1) ⟨by omega, by omega⟩, IntWalk.i64_in ((a.take j).sum + a[j]) ⟨by omega, by omega⟩, sum_take a j hj]
        rfl
      · simp
  · rw [if_neg (by omega), show decide ((a.length : Int) > 12) = true from decide_eq_true (by omega)]
    rfl

end Go.Proofs.Ytepjbmlhfhahcaa
/- The test of two samples, the program's and the document's: they answer alike at any samples. -/
namespace Go.Proofs.Ytepjbmlhfhahcaa
open Go Go.PM

/-- How far a choice of the sum s goes, among n elements of the sum T, if k are chosen. -/
def dist (n k : Nat) (T s : Int) : Nat := (s * (n : Int) - T * (k : Int)).natAbs
/-- The choices of as many elements. -/
def ways (l : List Int) (k m : Nat) : Nat := (List.range m).countP fun c => popc l.length c == k
/-- Those of them that go at least as far as w. -/
def wayh (l : List Int) (k w m : Nat) : Nat := (List.range m).countP fun c => popc l.length c == k && decide (w ≤ dist l.length k l.sum (csum l c))
/-- The test of two samples: its part and its error. -/
def exchR (a b : List Int) : Int × Int × Int :=
  if (a ++ b).length ≤ 12 ∧ (a ++ b).any outB = false then
    ((redI (wayh (a ++ b) a.length (dist (a ++ b).length a.length (a ++ b).sum a.sum) (2 ^ (a ++ b).length)) (ways (a ++ b) a.length (2 ^ (a ++ b).length))).1,
     (redI (wayh (a ++ b) a.length (dist (a ++ b).length a.length (a ++ b).sum a.sum) (2 ^ (a ++ b).length)) (ways (a ++ b) a.length (2 ^ (a ++ b).length))).2, 0)
  else (0, 0, 1)

theorem csum_pre (a b : List Int) : csum (a ++ b) (2 ^ a.length - 1) = a.sum := by
  induction a with
  | nil =>
    have : ∀ l : List Int, csum l 0 = 0 := by
      intro l
      induction l with
      | nil => rfl
      | cons x r ih => simp [csum, ih]
    simpa using this b
  | cons x r ih =>
    have hp := Nat.two_pow_pos r.length
    have e1 : (2 ^ (r.length + 1) - 1) % 2 = 1 := by rw [Nat.pow_succ]; omega
    have e2 : (2 ^ (r.length + 1) - 1) / 2 = 2 ^ r.length - 1 := by rw [Nat.pow_succ]; omega
    simp only [List.cons_append, csum, List.length_cons, e1, e2, ih, List.sum_cons, if_true]
theorem popc_pre (k n : Nat) : popc (k + n) (2 ^ k - 1) = k := by
  induction k with
  | zero => simp [popc_zero]
  | succ k ih =>
    have hp := Nat.two_pow_pos k
    have e1 : (2 ^ (k + 1) - 1) % 2 = 1 := by rw [Nat.pow_succ]; omega
    have e2 : (2 ^ (k + 1) - 1) / 2 = 2 ^ k - 1 := by rw [Nat.pow_succ]; omega
    rw [show k + 1 + n = k + n + 1 by omega]
    simp only [popc, e1, e2, ih]; omega
theorem ways_succ (l : List Int) (k m : Nat) : ways l k (m + 1) = ways l k m + if popc l.length m == k then 1 else 0 := countP_range_succ _ _
theorem wayh_succ (l : List Int) (k w m : Nat) : wayh l k w (m + 1) = wayh l k w m + if popc l.length m == k && decide (w ≤ dist l.length k l.sum (csum l m)) then 1 else 0 := countP_range_succ _ _
theorem ways_le (l : List Int) (k m : Nat) : ways l k m ≤ m := by
  have := List.countP_le_length (p := fun c => popc l.length c == k) (l := List.range m)
  simpa [ways] using this
theorem wayh_le (l : List Int) (k w m : Nat) : wayh l k w m ≤ ways l k m := by
  refine List.countP_mono_left fun c _ hc => ?_
  exact (Bool.and_eq_true_iff.1 hc).1
theorem ways_pos (a b : List Int) : 0 < ways (a ++ b) a.length (2 ^ (a ++ b).length) := by
  unfold ways
  rw [List.countP_pos_iff]
  have hp := Nat.two_pow_pos a.length
  have : 2 ^ a.length ≤ 2 ^ (a ++ b).length := Nat.pow_le_pow_right (by omega) (by simp)
  exact ⟨2 ^ a.length - 1, by simp only [List.mem_range]; omega, by rw [List.length_append, popc_pre]; simp⟩

theorem dist_bound {n k : Nat} {T s : Int} (hn : n ≤ 12) (hk : k ≤ n) (hT : -12000000 ≤ T ∧ T ≤ 12000000) (hs : -12000000 ≤ s ∧ s ≤ 12000000) :
    (-144000000 ≤ s * (n : Int) ∧ s * (n : Int) ≤ 144000000) ∧ (-144000000 ≤ T * (k : Int) ∧ T * (k : Int) ≤ 144000000) := by
  have h : ∀ (x : Int) (m : Nat), -12000000 ≤ x ∧ x ≤ 12000000 → m ≤ 12 → -144000000 ≤ x * (m : Int) ∧ x * (m : Int) ≤ 144000000 := by
    intro x m hx hm
    constructor
    · have h1 : -12000000 * (m : Int) ≤ x * (m : Int) := Int.mul_le_mul_of_nonneg_right hx.1 (by omega)
      omega
    · have h1 : x * (m : Int) ≤ 12000000 * (m : Int) := Int.mul_le_mul_of_nonneg_right hx.2 (by omega)
      omega
  exact ⟨h s n hs hn, h T k hT (by omega)⟩

theorem sp_diff (fu d : Nat) (hf : 18446744073709551616 ≤ fu) (l a : List Int) (m : Nat) (hn : l.length ≤ 12) (hk : a.length ≤ l.length) (hs : small l) :
    cl fu (d + 2) fn_sampling_Exchange_1 [V.c (C.v (.int .u64 m)), V.c (C.cp [C.sl l.length (ints l)]), V.c (C.cp [C.v (.int .i64 l.sum)]), V.c (C.cp [C.sl a.length (ints a)])] [] = some ⟨I ((dist l.length a.length l.sum (csum l m) : Nat) : Int), [], none⟩ := by
  have hT := small_sum hs
  have hc := csum_bound l m hs
  obtain ⟨⟨b1, b2⟩, b3, b4⟩ := dist_bound (T := l.sum) (s := csum l m) hn hk ⟨by omega, by omega⟩ ⟨by omega, by omega⟩
  rw [eq_sampling_Exchange_1]
  simp only [unc_cons, nrm_sl, noYl_sl, need_true, sp_chosen fu d hf l m (by omega) hs, obs, rC_c, asI_int, asSl_sl]
  rw [IntWalk.i64_in (csum l m * (l.length : Int)) ⟨by omega, by omega⟩, IntWalk.i64_in (l.sum * (a.length : Int)) ⟨by omega, by omega⟩, IntWalk.i64_in (csum l m * (l.length : Int) - l.sum * (a.length : Int)) ⟨by omega, by omega⟩, sp_absolute _ _ _ ⟨by omega, by omega⟩]
  simp only [obs, rC_c, asI_int]
  rfl

theorem u64_pre (k : Nat) (hk : k ≤ 60) : IntKind.u64.wrap (((2 ^ k : Nat) : Int) - 1) = ((2 ^ k - 1 : Nat) : Int) := by
  have hp := Nat.two_pow_pos k
  have h2 : (2 : Nat) ^ k ≤ 2 ^ 60 := Nat.pow_le_pow_right (by omega) hk
  have h2 : (2 : Nat) ^ k ≤ 1152921504606846976 := h2
  rw [IntWalk.u64_in _ ⟨by omega, by omega⟩]; omega

theorem decide_natAbs (x y : Nat) : decide ((y : Int) ≥ (x : Int)) = decide (x ≤ y) := by
  by_cases h : x ≤ y
  · rw [decide_eq_true h, decide_eq_true (by omega)]
  · rw [decide_eq_false h, decide_eq_false (by omega)]
theorem bneN (x y : Nat) : ((x : Int) != (y : Int)) = !(x == y) := by
  by_cases h : x = y
  · subst h; simp
  · have h1 : (x == y) = false := by simpa using h
    have h2 : ((x : Int) != (y : Int)) = true := by simp; omega
    rw [h1, h2]; rfl

theorem sp_Exchange (fu d : Nat) (hf : 18446744073709551616 ≤ fu) (a b : List Int) (ha : a.length ≤ 100) (hb : b.length ≤ 100) :
    cl fu (d + 7) fn_sampling_Exchange [V.c (C.sl a.length (ints a)), V.c (C.sl b.length (ints b))] [] = some (out3 (exchR a b)) := by
  unfold exchR
  rw [eq_sampling_Exchange, sp_Concat fu _ hf a b ha hb]
  simp only [obs, rC_c, asSl_sl, nrm_sl, noYl_sl, need_true, Int.toNat_natCast]
  have hl : a.length ≤ (a ++ b).length := by simp
  have hlen : (a ++ b).length ≤ 200 := by simp; omega
  rw [← csum_pre a b]
  generalize a ++ b = l at *
  by_cases h1 : l.length ≤ 12
  · rw [show decide ((l.length : Int) > 12) = false from decide_eq_false (by omega)]
    simp only [cf]
    rw [sp_outside fu _ hf l (by omega)]
    by_cases h2 : l.any outB = true
    · rw [if_neg (by simp [h2]), h2]
      rfl
    · have h2 : l.any outB = false := by simpa using h2
      have hs := small_of h2
      rw [if_pos ⟨h1, h2⟩, h2]
      have hp := Nat.two_pow_pos l.length
      have hp2 : (2 : Nat) ^ l.length ≤ 2 ^ 12 := Nat.pow_le_pow_right (by omega) h1
      have hp2 : (2 : Nat) ^ l.length ≤ 4096 := hp2
      have hk2 : 2 ^ a.length ≤ 2 ^ l.length := Nat.pow_le_pow_right (by omega) hl
      simp only [obs, rC_c, asB_bool, cf, show decide ((l.length : Int) < 0) = false from decide_eq_false (by omega), show decide ((a.length : Int) < 0) = false from decide_eq_false (by omega), Bool.not_false, need_true, two_pow_u64 l.length (by omega), two_pow_u64 a.length (by omega), u64_pre l.length (by omega), u64_pre a.length (by omega)]
      rw [sp_chosen fu _ hf l _ (by omega) hs, csum_full]
      simp only [obs, rC_c, asI_int]
      rw [sp_diff fu _ hf l a _ h1 hl hs, sp_choices]
      simp only [obs, rC_c, asI_int, asFn_fn, iter_choices _ l.length (show l.length ≤ 13 by omega)]
      generalize hw : dist l.length a.length l.sum (csum l (2 ^ a.length - 1)) = w
      have hcl : (chosen l.length).length = 2 ^ l.length := by simp [chosen]
      have hz : (((0 : Int), (0 : Int), ()), ((0 : Int), ()), ((0 : Int), ()), ()) = (fun j : Nat => (((0 : Int), (0 : Int), ()), (((wayh l a.length w j : Nat) : Int), ()), (((ways l a.length j : Nat) : Int), ()), ())) 0 := rfl
      rw [hz, overK_run (chosen l.length) (fun j : Nat => (((0 : Int), (0 : Int), ()), (((wayh l a.length w j : Nat) : Int), ()), (((ways l a.length j : Nat) : Int), ()), ())), hcl]
      · have hle := wayh_le l a.length w (2 ^ l.length)
        have hwl := ways_le l a.length (2 ^ l.length)
        have hpos : 0 < ways l a.length (2 ^ l.length) := by
          unfold ways
          rw [List.countP_pos_iff]
          refine ⟨2 ^ a.length - 1, by simp only [List.mem_range]; have := Nat.two_pow_pos a.length; omega, ?_⟩
          obtain ⟨q, hq⟩ : ∃ q, l.length = a.length + q := ⟨l.length - a.length, by omega⟩
          rw [hq, popc_pre]; simp
        simp only [obs]
        rw [sp_Reduce_any fu _ hf _ _ hle hpos (by omega)]
        simp [out3]
      · intro j hj
        rw [hcl] at hj
        have hx : (chosen l.length)[j]'(by omega) = [V.c (C.v (.int .u64 (j : Nat)))] := by simp [chosen]
        have w1 := wayh_le l a.length w j
        have w2 := ways_le l a.length j
        rw [hx]
        simp only [uncV_cons, rC_c, asI_int, nilV_nil]
        rw [sp_OnesCount fu _ l.length j h1 hj]
        simp only [obs, rC_c, asI_int]
        rw [bneN, ways_succ, wayh_succ, sp_diff fu _ hf l a j h1 hl hs]
        cases hq : popc l.length j == a.length with
        | false => rfl
        | true =>
          simp only [Bool.not_true, cf, obs, rC_c, asI_int, decide_natAbs, Bool.true_and, if_true]
          rw [IntWalk.i64_in (((wayh l a.length w j : Nat) : Int) + 1) ⟨by omega, by omega⟩, IntWalk.i64_in (((ways l a.length j : Nat) : Int) + 1) ⟨by omega, by omega⟩]
          cases decide (w ≤ dist l.length a.length l.sum (csum l j)) <;> rfl
  · rw [if_neg (by omega), show decide ((l.length : Int) > 12) = true from decide_eq_true (by omega)]
    rfl

end Go.Proofs.Ytepjbmlhfhahcaa
/- The document's test of two samples. -/
namespace Go.Proofs.Ytepjbmlhfhahcaa
open Go Go.PM

/-- The sum of the elements at the first k places of the first j. -/
theorem sum_pre (a b : List Int) (j : Nat) (hj : j < (a ++ b).length) : (a.take (j + 1)).sum = (a.take j).sum + if j < a.length then (a ++ b)[j] else 0 := by
  by_cases h : j < a.length
  · rw [if_pos h, sum_take a j h, List.getElem_append_left h]
  · rw [if_neg h, List.take_of_length_le (by omega), List.take_of_length_le (by omega)]; omega

theorem sp_ref_Exchange (fu d : Nat) (hf : 18446744073709551616 ≤ fu) (a b : List Int) (ha : a.length ≤ 100) (hb : b.length ≤ 100) :
    cl fu (d + 2) fn_synopticref39_Exchange [V.c (C.sl a.length (ints a)), V.c (C.sl b.length (ints b))] [] = some (out3 (exchR a b)) := by
  unfold exchR
  rw [eq_synopticref39_Exchange]
  have hl : a.length ≤ (a ++ b).length := by simp
  have hlen : (a ++ b).length ≤ 200 := by simp; omega
  have hpre := sum_pre a b
  have hsm : ∀ j, small (a ++ b) → small (a.take j) := fun j h x hx => h x (List.mem_append_left _ (List.mem_of_mem_take hx))
  have hways := ways_pos a b
  have hab : a.length + b.length = (a ++ b).length := by simp
  simp only [Nat.mul_one, ik_length, beqN_self, need_true, Bool.and_self, Bool.and_true, ← ik_append, Nat.zero_add, hab, bleN_le (show a.length * 8 ≤ 140737488355328 by omega), bleN_le (show a.length ≤ 140737488355328 by omega), bleN_le (show (a ++ b).length * 8 ≤ 140737488355328 by omega), bleN_le (show (a ++ b).length ≤ 140737488355328 by omega), bleN_le (Nat.le_refl _), ik_take, List.take_length]
  rw [sp_Small fu _ hf (a ++ b) (by omega)]
  generalize a ++ b = l at *
  by_cases h1 : l.length ≤ 12
  · rw [show decide ((l.length : Int) > 12) = false from decide_eq_false (by omega)]
    simp only [cf]
    by_cases h2 : l.any outB = true
    · rw [if_neg (by simp [h2]), h2]
      rfl
    · have h2 : l.any outB = false := by simpa using h2
      have hs := small_of h2
      rw [if_pos ⟨h1, h2⟩, h2]
      have hp := Nat.two_pow_pos l.length
      have hp2 : (2 : Nat) ^ l.length ≤ 2 ^ 12 := Nat.pow_le_pow_right (by omega) h1
      have hp2 : (2 : Nat) ^ l.length ≤ 4096 := hp2
      have hT := small_sum hs
      simp only [obs, rC_c, asB_bool, cf, Bool.not_false, Bool.not_true, need_true, u64i l.length (by omega), show decide ((l.length : Int) < 0) = false from decide_eq_false (by omega), Int.toNat_natCast, two_pow_i64 l.length (by omega), bd_eq]
      rw [show ((0 : Int), (0 : Int), (0 : Int), ((0 : Int), (0 : Int), ()), ()) = (fun j : Nat => ((l.take j).sum, (a.take j).sum, (j : Int), ((0 : Int), (0 : Int), ()), ())) 0 by simp, iter_run (fun j : Nat => ((l.take j).sum, (a.take j).sum, (j : Int), ((0 : Int), (0 : Int), ()), ())) 0 (l.sum, a.sum, (l.length : Int), ((0 : Int), (0 : Int), ()), ()) l.length 0 fu ?_ ?_ (by omega)]
      · simp only [obs]
        have hA : -12000000 ≤ a.sum ∧ a.sum ≤ 12000000 := by
          have hsa := hsm a.length hs
          rw [List.take_length] at hsa
          have := small_sum hsa
          omega
        obtain ⟨⟨b1, b2⟩, b3, b4⟩ := dist_bound (T := l.sum) (s := a.sum) h1 hl ⟨by omega, by omega⟩ hA
        rw [IntWalk.i64_in (a.sum * (l.length : Int)) ⟨by omega, by omega⟩, IntWalk.i64_in (l.sum * (a.length : Int)) ⟨by omega, by omega⟩, IntWalk.i64_in (a.sum * (l.length : Int) - l.sum * (a.length : Int)) ⟨by omega, by omega⟩, sp_size _ _ _ ⟨by omega, by omega⟩]
        simp only [obs, rC_c, asI_int]
        rw [show (a.sum * (l.length : Int) - l.sum * (a.length : Int)).natAbs = dist l.length a.length l.sum a.sum from rfl]
        generalize hw : dist l.length a.length l.sum a.sum = w
        rw [show ((0 : Int), (0 : Int), (0 : Int), ((0 : Int), (0 : Int), ()), ()) = (fun m : Nat => (((wayh l a.length w m : Nat) : Int), ((ways l a.length m : Nat) : Int), (m : Int), ((0 : Int), (0 : Int), ()), ())) 0 from rfl, iter_run (fun m : Nat => (((wayh l a.length w m : Nat) : Int), ((ways l a.length m : Nat) : Int), (m : Int), ((0 : Int), (0 : Int), ()), ())) 0 (((wayh l a.length w (2 ^ l.length) : Nat) : Int), ((ways l a.length (2 ^ l.length) : Nat) : Int), ((2 ^ l.length : Nat) : Int), ((0 : Int), (0 : Int), ()), ()) (2 ^ l.length) 0 fu ?_ ?_ (by omega)]
        · simp only [obs]
          have hwl := ways_le l a.length (2 ^ l.length)
          rw [sp_ref_Reduce_nat fu _ hf _ _ (wayh_le l a.length w (2 ^ l.length)) hways (by omega)]
          simp [out3]
        · intro m _ hm
          have hm : m < 2 ^ l.length := by omega
          have hpc := popc_le l.length m
          have w1 := wayh_le l a.length w m
          have w2 := ways_le l a.length m
          simp only [lt_yes (show (m : Int) < ((2 ^ l.length : Nat) : Int) by omega), ct]
          have hz : ((0 : Int), (0 : Int), (0 : Int), ((0 : Int), (0 : Int), ()), ()) = (fun j : Nat => (((popc j m : Nat) : Int), csum (l.take j) m, (j : Int), ((0 : Int), (0 : Int), ()), ())) 0 := by simp [popc, csum]
          rw [hz, iter_run (fun j : Nat => (((popc j m : Nat) : Int), csum (l.take j) m, (j : Int), ((0 : Int), (0 : Int), ()), ())) 0 (((popc l.length m : Nat) : Int), csum l m, (l.length : Int), ((0 : Int), (0 : Int), ()), ()) l.length 0 fu ?_ ?_ (by omega)]
          · have hc := csum_bound l m hs
            obtain ⟨⟨c1, c2⟩, c3, c4⟩ := dist_bound (T := l.sum) (s := csum l m) h1 hl ⟨by omega, by omega⟩ ⟨by omega, by omega⟩
            simp only [obs]
            rw [bneN, ways_succ, wayh_succ, IntWalk.i64_in ((m : Int) + 1) ⟨by omega, by omega⟩, IntWalk.i64_in (csum l m * (l.length : Int)) ⟨by omega, by omega⟩, IntWalk.i64_in (csum l m * (l.length : Int) - l.sum * (a.length : Int)) ⟨by omega, by omega⟩, sp_size _ _ _ ⟨by omega, by omega⟩]
            rw [show (csum l m * (l.length : Int) - l.sum * (a.length : Int)).natAbs = dist l.length a.length l.sum (csum l m) from rfl]
            cases hq : popc l.length m == a.length with
            | false => rfl
            | true =>
              simp only [Bool.not_true, cf, obs, rC_c, asI_int, decide_natAbs, Bool.true_and, if_true]
              rw [IntWalk.i64_in (((wayh l a.length w m : Nat) : Int) + 1) ⟨by omega, by omega⟩, IntWalk.i64_in (((ways l a.length m : Nat) : Int) + 1) ⟨by omega, by omega⟩]
              cases decide (w ≤ dist l.length a.length l.sum (csum l m)) <;> rfl
          · intro j _ hj
            have hj : j < l.length := by omega
            have hx := hs l[j] (List.getElem_mem hj)
            have hcj := csum_bound (l.take j) m (small_take hs j)
            rw [List.length_take, Nat.min_eq_left (Nat.le_of_lt hj)] at hcj
            have hpj := popc_le j m
            simp only [lt_yes (show (j : Int) < (l.length : Int) by omega), ct, inR_nat hj, need_true, Int.toNat_natCast, unc_ik hj, asI_int, u64i j (by omega), show decide ((j : Int) < 0) = false from decide_eq_false (by omega), Bool.not_false]
            rw [show min j (IntKind.bits .i64) = j by simp [IntKind.bits]; omega, fdiv_pow, andoneI, popc_succ, csum_take l m j hj, IntWalk.i64_in ((j : Int) + 1) ⟨by omega, by omega⟩]
            by_cases hbit : m / 2 ^ j % 2 = 1
            · rw [hbit, if_pos rfl, IntWalk.i64_in (((popc j m : Nat) : Int) + 1) ⟨by omega, by omega⟩, IntWalk.i64_in (csum (l.take j) m + l[j]) ⟨by omega, by omega⟩]
              simp
            · rw [if_neg hbit]
              have e0 : m / 2 ^ j % 2 = 0 := by omega
              rw [e0]
              simp
          · simp
        · simp
      · intro j _ hj
        have hj : j < l.length := by omega
        have hx := hs l[j] (List.getElem_mem hj)
        have hb1 := small_sum (small_take hs j)
        rw [List.length_take, Nat.min_eq_left (Nat.le_of_lt hj)] at hb1
        have hb2 := small_sum (hsm j hs)
        rw [List.length_take] at hb2
        simp only [lt_yes (show (j : Int) < (l.length : Int) by omega), ct, inR_nat hj, need_true, Int.toNat_natCast, unc_ik hj, asI_int]
        rw [IntWalk.i64_in ((j : Int) + 1) ⟨by omega, by omega⟩, IntWalk.i64_in ((l.take j).sum + l[j]) ⟨by omega, by omega⟩, sum_take l j hj, hpre j hj]
        by_cases hja : j < a.length
        · rw [decide_eq_true (show (j : Int) < (a.length : Int) by omega), if_pos hja, IntWalk.i64_in ((a.take j).sum + l[j]) ⟨by omega, by omega⟩]
          rfl
        · rw [decide_eq_false (show ¬ (j : Int) < (a.length : Int) by omega), if_neg hja, Int.add_zero]
          rfl
      · rw [Nat.zero_add, List.take_length, List.take_of_length_le hl]
        simp
  · rw [if_neg (by omega), show decide ((l.length : Int) > 12) = true from decide_eq_true (by omega)]
    rfl

end Go.Proofs.Ytepjbmlhfhahcaa
/- The statement that both tests return what the document specifies: its function answers true, at any samples and bytes. -/
namespace Go.Proofs.Ytepjbmlhfhahcaa
open Go Go.PM

theorem out3_r (r : Int × Int × Int) : (out3 r).r = V.tup [V.agg [C.v (.int .i64 r.1), C.v (.int .i64 r.2.1)], I r.2.2] := id rfl

theorem sp_SamplingTests (fu d : Nat) (hf : 18446744073709551616 ≤ fu) (a b bs : List Int) (hbs : bytes bs) :
    cl fu (d + 9) fn_synopticlaw39_SamplingTests [V.c (C.sl a.length (ints a)), V.c (C.sl b.length (ints b)), V.c (C.sl bs.length (ik .u8 bs))] [] = some ⟨B true, [], none⟩ := by
  rw [eq_synopticlaw39_SamplingTests, sp_awake fu d hf]
  simp only [obs, rC_c, asB_bool, Bool.not_true, cf]
  by_cases h1 : a.length ≤ 20
  · rw [show decide ((a.length : Int) > 20) = false from decide_eq_false (by omega)]
    simp only [cf]
    by_cases h2 : b.length ≤ 20
    · rw [show decide ((b.length : Int) > 20) = false from decide_eq_false (by omega)]
      simp only [cf]
      have hb' : bytes (bs.take 60) := fun x hx => hbs x (List.mem_of_mem_take hx)
      have hl' : (bs.take 60).length ≤ 1000000000000 := by simp; omega
      have hN := sp_New fu (d + 7) bs 60
      unfold codesO codesC at hN
      rw [show ((60 : Nat) : Int) = 60 from rfl] at hN
      rw [hN]
      obtain ⟨x, i, h3, xs, xl, hi⟩ := sp_sample fu (d + 5) hf (bs.take 60) hb' 0 (by omega) hl' 6 (by omega)
      obtain ⟨y, j, h4, ys, yl, hj⟩ := sp_sample fu (d + 5) hf (bs.take 60) hb' i hi hl' 5 (by omega)
      unfold codesO codesC at h3 h4
      simp only [obs, rP_ptr, show (Nat.beq 1000000 (OUT + 0)) = true from rfl, beqN_self, Bool.and_self, need_true, uncO_cons, rN_ob, List.length_cons, List.length_nil, Nat.zero_add, Nat.reduceAdd, unc_cons, asI_int, h3, h4, rO_ob, rC_c]
      obtain ⟨fu', rfl⟩ : ∃ n, fu = n + 5 := ⟨fu - 5, by omega⟩
      have e0 : signsR ([] : List Int) = signsR [] := rfl
      have s1 := sp_Signs_any (fu' + 5) (d + 1) hf a (by omega)
      have s2 := sp_Signs_any (fu' + 5) (d + 1) hf x (by omega)
      have s3 := sp_Signs_any (fu' + 5) (d + 1) hf [] (by simp)
      have r1 := sp_ref_Signs (fu' + 5) (d + 6) hf a (by omega)
      have r2 := sp_ref_Signs (fu' + 5) (d + 6) hf x (by omega)
      have r3 := sp_ref_Signs (fu' + 5) (d + 6) hf [] (by simp)
      have x1 := sp_Exchange (fu' + 5) (d + 1) hf a b (by omega) (by omega)
      have x2 := sp_Exchange (fu' + 5) (d + 1) hf x y (by omega) (by omega)
      have x3 := sp_Exchange (fu' + 5) (d + 1) hf x [] (by omega) (by simp)
      have x4 := sp_Exchange (fu' + 5) (d + 1) hf [] y (by simp) (by omega)
      have y1 := sp_ref_Exchange (fu' + 5) (d + 6) hf a b (by omega) (by omega)
      have y2 := sp_ref_Exchange (fu' + 5) (d + 6) hf x y (by omega) (by omega)
      have y3 := sp_ref_Exchange (fu' + 5) (d + 6) hf x [] (by omega) (by simp)
      have y4 := sp_ref_Exchange (fu' + 5) (d + 6) hf [] y (by simp) (by omega)
      simp only [ik_nil, List.length_nil] at s3 r3 x3 x4 y3 y4
      generalize signsR a = sa at *
      generalize signsR x = sx at *
      generalize signsR [] = sn at *
      generalize exchR a b = ea at *
      generalize exchR x y = ex at *
      generalize exchR x [] = en at *
      generalize exchR [] y = em at *
      rw [iter_next (z := (false, 1, ())) ?_, iter_next (z := (false, 2, ())) ?_, iter_next (z := (false, 3, ())) ?_, iter_next (z := (false, 4, ())) ?_, iter_one (e := 0) (z := (false, 4, ())) (by omega) (by simp)]
      · rfl
      · simp only [show decide ((3 : Int) < 4) = true from rfl, ct, show inR (3 : Int) 4 = true from rfl, need_true, show (3 : Int).toNat = 3 from rfl, Nat.reduceMul, Nat.reduceAdd, Nat.zero_add, List.drop_succ_cons, List.drop_zero, List.take_succ_cons, List.take_zero, List.length_cons, List.length_nil, show ∀ p q : C, putAt [C.nl, C.nl] 0 [p, q] = [p, q] from fun _ _ => id rfl, unc_cons, nrm_sl, nrm_nl, noYl_sl, show Nat.ble 2 2 = true from rfl, beqN_self, Bool.and_self, s3, r3, x4, y4, obs, out3_r, rT_tup, uncV_cons, rA_agg, rC_c, asI_int, nilV_nil, bne_self_eq_false, beq_self_eq_true, Bool.and_true, Bool.not_true, cf]
        rfl
      · simp only [show decide ((2 : Int) < 4) = true from rfl, ct, show inR (2 : Int) 4 = true from rfl, need_true, show (2 : Int).toNat = 2 from rfl, Nat.reduceMul, Nat.reduceAdd, Nat.zero_add, List.drop_succ_cons, List.drop_zero, List.take_succ_cons, List.take_zero, List.length_cons, List.length_nil, show ∀ p q : C, putAt [C.nl, C.nl] 0 [p, q] = [p, q] from fun _ _ => id rfl, unc_cons, nrm_sl, nrm_nl, noYl_sl, show Nat.ble 2 4 = true from rfl, show Nat.ble 2 2 = true from rfl, beqN_self, Bool.and_self, s2, r2, x3, y3, obs, out3_r, rT_tup, uncV_cons, rA_agg, rC_c, asI_int, nilV_nil, bne_self_eq_false, beq_self_eq_true, Bool.and_true, Bool.not_true, cf]
        rfl
      · simp only [show decide ((1 : Int) < 4) = true from rfl, ct, show inR (1 : Int) 4 = true from rfl, need_true, show (1 : Int).toNat = 1 from rfl, Nat.reduceMul, Nat.reduceAdd, Nat.zero_add, List.drop_succ_cons, List.drop_zero, List.take_succ_cons, List.take_zero, List.length_cons, List.length_nil, show ∀ p q : C, putAt [C.nl, C.nl] 0 [p, q] = [p, q] from fun _ _ => id rfl, unc_cons, nrm_sl, nrm_nl, noYl_sl, show Nat.ble 2 6 = true from rfl, show Nat.ble 2 2 = true from rfl, beqN_self, Bool.and_self, s2, r2, x2, y2, obs, out3_r, rT_tup, uncV_cons, rA_agg, rC_c, asI_int, nilV_nil, bne_self_eq_false, beq_self_eq_true, Bool.and_true, Bool.not_true, cf]
        rfl
      · simp only [show decide ((0 : Int) < 4) = true from rfl, ct, show inR (0 : Int) 4 = true from rfl, need_true, Int.toNat_zero, Nat.zero_mul, Nat.reduceAdd, Nat.zero_add, List.drop_succ_cons, List.drop_zero, List.take_succ_cons, List.take_zero, List.length_cons, List.length_nil, show ∀ p q : C, putAt [C.nl, C.nl] 0 [p, q] = [p, q] from fun _ _ => id rfl, unc_cons, nrm_sl, nrm_nl, noYl_sl, show Nat.ble 2 8 = true from rfl, show Nat.ble 2 2 = true from rfl, beqN_self, Bool.and_self, s1, r1, x1, y1, obs, out3_r, rT_tup, uncV_cons, rA_agg, rC_c, asI_int, nilV_nil, bne_self_eq_false, beq_self_eq_true, Bool.and_true, Bool.not_true, cf]
        rfl
    · rw [show decide ((b.length : Int) > 20) = true from decide_eq_true (by omega)]
      rfl
  · rw [show decide ((a.length : Int) > 20) = true from decide_eq_true (by omega)]
    rfl

end Go.Proofs.Ytepjbmlhfhahcaa
/- The plain law of the test of two samples: it does not depend on the order, nor on which sample is the first; and it is exact. -/
namespace Go.Proofs.Ytepjbmlhfhahcaa
open Go Go.PM

/-- All choices: how many elements, and their sum. -/
def subs : List Int → List (Nat × Int)
  | [] => [(0, 0)]
  | x :: r => subs r ++ (subs r).map fun q => (q.1 + 1, x + q.2)

theorem subs_count (l : List Int) (p : Nat → Int → Bool) : (List.range (2 ^ l.length)).countP (fun c => p (popc l.length c) (csum l c)) = (subs l).countP fun q => p q.1 q.2 := by
  induction l generalizing p with
  | nil => rfl
  | cons x r ih =>
    have e : (2 : Nat) ^ (x :: r).length = 2 * 2 ^ r.length := by rw [List.length_cons, Nat.pow_succ]; omega
    rw [e, countP_two]
    simp only [subs, List.length_cons, popc, csum, show ∀ c : Nat, 2 * c % 2 = 0 by omega, show ∀ c : Nat, (2 * c + 1) % 2 = 1 by omega, show ∀ c : Nat, 2 * c / 2 = c by omega, show ∀ c : Nat, (2 * c + 1) / 2 = c by omega, show ¬ (0 : Nat) = 1 by omega, if_true, if_false, List.countP_append, List.countP_map, Function.comp_def, Nat.zero_add, Int.zero_add]
    rw [ih p, ih fun k s => p (1 + k) (x + s)]
    simp only [Nat.add_comm]
theorem subs_perm {l l' : List Int} (h : l.Perm l') : ∀ p : Nat × Int → Bool, (subs l).countP p = (subs l').countP p := by
  induction h with
  | nil => intro p; rfl
  | cons x h ih =>
    intro p
    simp only [subs, List.countP_append, List.countP_map]
    rw [ih, ih]
  | swap x y r =>
    intro p
    simp only [subs, List.countP_append, List.countP_map, List.map_append, List.map_map, Function.comp_def, show ∀ s : Int, y + (x + s) = x + (y + s) by intro s; omega]
    omega
  | trans _ _ ih1 ih2 => intro p; rw [ih1, ih2]
theorem subs_le (l : List Int) : ∀ q ∈ subs l, q.1 ≤ l.length := by
  induction l with
  | nil => intro q h; simp [subs] at h; simp [h]
  | cons x r ih =>
    intro q h
    simp only [subs, List.mem_append, List.mem_map] at h
    rcases h with h | ⟨q', h, rfl⟩
    · have := ih q h; simp; omega
    · have := ih q' h; simp; omega
theorem subs_compl (l : List Int) : ∀ p : Nat → Int → Bool, ((subs l).countP fun q => p (l.length - q.1) (l.sum - q.2)) = (subs l).countP fun q => p q.1 q.2 := by
  induction l with
  | nil => intro p; rfl
  | cons x r ih =>
    intro p
    simp only [subs, List.countP_append, List.countP_map, Function.comp_def, List.length_cons, List.sum_cons, show ∀ k, r.length + 1 - (k + 1) = r.length - k by intro k; omega, show ∀ s : Int, x + r.sum - (x + s) = r.sum - s by intro s; omega]
    rw [ih p]
    have : (subs r).countP (fun q => p (r.length + 1 - q.1) (x + r.sum - q.2)) = (subs r).countP fun q => p (q.1 + 1) (x + q.2) := by
      rw [← ih fun k s => p (k + 1) (x + s)]
      refine List.countP_congr fun q hq => ?_
      have := subs_le r q hq
      rw [show r.length + 1 - q.1 = r.length - q.1 + 1 by omega, show x + r.sum - q.2 = x + (r.sum - q.2) by omega]
    rw [this]; omega

/-- The elements whose bit is set, and the others. -/
def picks : List Int → Nat → List Int
  | [], _ => []
  | x :: r, m => if m % 2 = 1 then x :: picks r (m / 2) else picks r (m / 2)
def others : List Int → Nat → List Int
  | [], _ => []
  | x :: r, m => if m % 2 = 1 then others r (m / 2) else x :: others r (m / 2)
theorem picks_snoc (a : List Int) (m j : Nat) (h : j < a.length) : picks (a.take (j + 1)) m = picks (a.take j) m ++ if m / 2 ^ j % 2 = 1 then [a[j]] else [] := by
  induction a generalizing m j with
  | nil => simp at h
  | cons x r ih =>
    cases j with
    | zero => simp [picks]
    | succ j =>
      simp only [List.take_succ_cons, picks, List.getElem_cons_succ]
      rw [ih (m / 2) j (by simpa using h), Nat.div_div_eq_div_mul, show 2 * 2 ^ j = 2 ^ (j + 1) by rw [Nat.pow_succ]; omega]
      split <;> simp
theorem others_snoc (a : List Int) (m j : Nat) (h : j < a.length) : others (a.take (j + 1)) m = others (a.take j) m ++ if m / 2 ^ j % 2 = 1 then [] else [a[j]] := by
  induction a generalizing m j with
  | nil => simp at h
  | cons x r ih =>
    cases j with
    | zero => simp [others]
    | succ j =>
      simp only [List.take_succ_cons, others, List.getElem_cons_succ]
      rw [ih (m / 2) j (by simpa using h), Nat.div_div_eq_div_mul, show 2 * 2 ^ j = 2 ^ (j + 1) by rw [Nat.pow_succ]; omega]
      split <;> simp
theorem picks_perm (l : List Int) (m : Nat) : (picks l m ++ others l m).Perm l := by
  induction l generalizing m with
  | nil => exact List.Perm.nil
  | cons x r ih =>
    simp only [picks, others]
    split
    · exact (ih (m / 2)).cons x
    · exact List.perm_middle.trans ((ih (m / 2)).cons x)
theorem picks_length (l : List Int) (m : Nat) : (picks l m).length = popc l.length m := by
  induction l generalizing m with
  | nil => rfl
  | cons x r ih =>
    simp only [picks, List.length_cons, popc]
    split
    · rw [List.length_cons, ih]; omega
    · rw [ih]; omega
theorem picks_sum (l : List Int) (m : Nat) : (picks l m).sum = csum l m := by
  induction l generalizing m with
  | nil => rfl
  | cons x r ih =>
    simp only [picks, csum]
    split
    · rw [List.sum_cons, ih]
    · rw [ih]; omega
theorem sum_perm {a b : List Int} (h : a.Perm b) : a.sum = b.sum := by
  induction h with
  | nil => rfl
  | cons x _ ih => simp [ih]
  | swap x y r => simp; omega
  | trans _ _ h1 h2 => rw [h1, h2]
theorem any_perm {a b : List Int} (h : a.Perm b) (p : Int → Bool) : a.any p = b.any p := by
  rw [Bool.eq_iff_iff, List.any_eq_true, List.any_eq_true]
  exact ⟨fun ⟨x, hx, hp⟩ => ⟨x, h.mem_iff.1 hx, hp⟩, fun ⟨x, hx, hp⟩ => ⟨x, h.mem_iff.2 hx, hp⟩⟩

/-- How far the choice c of k elements goes, and how many go as far. -/
def gap (l : List Int) (k c : Nat) : Nat := dist l.length k l.sum (csum l c)
theorem ways_subs (l : List Int) (k : Nat) : ways l k (2 ^ l.length) = (subs l).countP fun q => q.1 == k := subs_count l fun n _ => n == k
theorem wayh_subs (l : List Int) (k w : Nat) : wayh l k w (2 ^ l.length) = (subs l).countP fun q => q.1 == k && decide (w ≤ dist l.length k l.sum q.2) := subs_count l fun n s => n == k && decide (w ≤ dist l.length k l.sum s)
theorem dist_compl (n k : Nat) (T s : Int) (h : k ≤ n) : dist n (n - k) T (T - s) = dist n k T s := by
  unfold dist
  rw [Int.ofNat_sub h, Int.sub_mul, Int.mul_sub]
  omega
theorem perm_ways {l l' : List Int} (h : l.Perm l') (k w : Nat) : ways l k (2 ^ l.length) = ways l' k (2 ^ l'.length) ∧ wayh l k w (2 ^ l.length) = wayh l' k w (2 ^ l'.length) := by
  rw [ways_subs, ways_subs, wayh_subs, wayh_subs, subs_perm h, subs_perm h, h.length_eq, sum_perm h]
  exact ⟨rfl, rfl⟩
theorem compl_ways (l : List Int) (k w : Nat) (hk : k ≤ l.length) : ways l (l.length - k) (2 ^ l.length) = ways l k (2 ^ l.length) ∧ wayh l (l.length - k) w (2 ^ l.length) = wayh l k w (2 ^ l.length) := by
  rw [ways_subs, ways_subs, wayh_subs, wayh_subs]
  constructor
  · rw [← subs_compl l fun n s => n == l.length - k]
    refine List.countP_congr fun q hq => ?_
    have := subs_le l q hq
    simp only [beq_iff_eq]; omega
  · rw [← subs_compl l fun n s => n == l.length - k && decide (w ≤ dist l.length (l.length - k) l.sum s)]
    refine List.countP_congr fun q hq => ?_
    have := subs_le l q hq
    rw [dist_compl _ _ _ _ hk]
    simp only [Bool.and_eq_true, beq_iff_eq, decide_eq_true_eq]
    exact ⟨fun h => ⟨by omega, h.2⟩, fun h => ⟨by omega, h.2⟩⟩

theorem exchR_swap (a b : List Int) : exchR b a = exchR a b := by
  have hp : (b ++ a).Perm (a ++ b) := List.perm_append_comm
  have hl : (b ++ a).length = (a ++ b).length := hp.length_eq
  have hb : b.length = (a ++ b).length - a.length := by simp
  have hs : b.sum = (a ++ b).sum - a.sum := by rw [List.sum_append]; omega
  unfold exchR
  rw [any_perm hp outB, sum_perm hp, (perm_ways hp _ 0).1, (perm_ways hp _ _).2, hl, hb, hs, dist_compl _ _ _ _ (by simp), (compl_ways (a ++ b) a.length 0 (by simp)).1, (compl_ways (a ++ b) a.length _ (by simp)).2]
/-- The test of a choice of a sample. -/
theorem exchR_picks (l : List Int) (m : Nat) (hn : l.length ≤ 12) (hs : l.any outB = false) :
    exchR (picks l m) (others l m) = ((redI (wayh l (popc l.length m) (gap l (popc l.length m) m) (2 ^ l.length)) (ways l (popc l.length m) (2 ^ l.length))).1, (redI (wayh l (popc l.length m) (gap l (popc l.length m) m) (2 ^ l.length)) (ways l (popc l.length m) (2 ^ l.length))).2, 0) := by
  have hp := picks_perm l m
  unfold exchR
  rw [any_perm hp outB, sum_perm hp, hp.length_eq, if_pos ⟨hn, hs⟩, picks_length, picks_sum, ← hp.length_eq, (perm_ways hp _ 0).1, (perm_ways hp _ _).2, hp.length_eq]
  rfl
/-- The test depends on the samples' elements alone. -/
theorem exchR_perm {a b a' b' : List Int} (ha : a.Perm a') (hb : b.Perm b') : exchR a b = exchR a' b' := by
  have hp : (a ++ b).Perm (a' ++ b') := ha.append hb
  unfold exchR
  rw [any_perm hp outB, sum_perm hp, (perm_ways hp _ 0).1, (perm_ways hp _ _).2, hp.length_eq, ha.length_eq, sum_perm ha]

/-! Exactness: among as many as go as far. -/
theorem count_lt {A : Type} {f g : A → Bool} : ∀ (L : List A), (∀ c, f c = true → g c = true) → ∀ k ∈ L, f k = false → g k = true → L.countP f < L.countP g
  | [], _, k, hk, _, _ => by cases hk
  | x :: r, h, k, hk, h1, h2 => by
    have hle : r.countP f ≤ r.countP g := List.countP_mono_left fun c _ => h c
    rw [List.countP_cons, List.countP_cons]
    rcases List.mem_cons.1 hk with rfl | hk
    · rw [h1, h2]; simp; omega
    · have := count_lt r h k hk h1 h2
      have : (if f x = true then 1 else 0) ≤ (if g x = true then 1 else 0) := by
        by_cases hf : f x = true
        · rw [if_pos hf, if_pos (h x hf)]; exact Nat.le_refl 1
        · rw [if_neg hf]; omega
      omega
theorem exact_count {A : Type} (L : List A) (f : A → Nat) (x : A) : L.countP (fun y => decide (L.countP (fun c => decide (f y ≤ f c)) ≤ L.countP (fun c => decide (f x ≤ f c)))) = L.countP (fun c => decide (f x ≤ f c)) := by
  refine List.countP_congr fun y hy => ?_
  simp only [decide_eq_true_eq]
  constructor
  · intro h
    refine Decidable.byContradiction fun hn => ?_
    have := count_lt (f := fun c => decide (f x ≤ f c)) (g := fun c => decide (f y ≤ f c)) L (fun c hc => by simp only [decide_eq_true_eq] at hc ⊢; omega) y hy (by simp; omega) (by simp)
    omega
  · intro h
    exact List.countP_mono_left fun c _ hc => by simp only [decide_eq_true_eq] at hc ⊢; omega

/-- Parts of one number in lowest terms are compared like the numbers themselves. -/
theorem redI_cmp (h k n : Nat) (hp : 0 < n) : cmpI ((redI h n).1 * (redI k n).2) ((redI k n).1 * (redI h n).2) = cmpI h k := by
  have gh : 0 < Nat.gcd h n := Nat.gcd_pos_of_pos_right _ hp
  have gk : 0 < Nat.gcd k n := Nat.gcd_pos_of_pos_right _ hp
  have d1 := Nat.div_mul_cancel (Nat.gcd_dvd_left h n)
  have d2 := Nat.div_mul_cancel (Nat.gcd_dvd_right h n)
  have d3 := Nat.div_mul_cancel (Nat.gcd_dvd_left k n)
  have d4 := Nat.div_mul_cancel (Nat.gcd_dvd_right k n)
  unfold redI
  simp only [← Int.natCast_mul]
  generalize Nat.gcd h n = g at *
  generalize Nat.gcd k n = g' at *
  generalize h / g = u at *
  generalize n / g = v at *
  generalize k / g' = u' at *
  generalize n / g' = v' at *
  have e1 : u * v' * (g * g') = h * n := by rw [Nat.mul_mul_mul_comm, d1, d4]
  have e2 : u' * v * (g * g') = k * n := by rw [Nat.mul_comm g g', Nat.mul_mul_mul_comm, d3, d2]
  have hg : 0 < g * g' := Nat.mul_pos gh gk
  have l1 : u * v' < u' * v ↔ h < k := by
    rw [← Nat.mul_lt_mul_right hg, e1, e2, Nat.mul_lt_mul_right hp]
  have l2 : u' * v < u * v' ↔ k < h := by
    rw [← Nat.mul_lt_mul_right hg, e1, e2, Nat.mul_lt_mul_right hp]
  generalize u * v' = p at *
  generalize u' * v = q at *
  unfold cmpI
  repeat' split
  all_goals omega
/-- A part in lowest terms is the part. -/
theorem redI_same (h n : Nat) : cmpI ((h : Int) * (redI h n).2) ((redI h n).1 * (n : Int)) = 0 := by
  have d1 := Nat.div_mul_cancel (Nat.gcd_dvd_left h n)
  have d2 := Nat.div_mul_cancel (Nat.gcd_dvd_right h n)
  have : h * (n / Nat.gcd h n) = h / Nat.gcd h n * n := by
    generalize Nat.gcd h n = g at *
    generalize h / g = u at *
    generalize n / g = v at *
    rw [← d1, ← d2, Nat.mul_assoc, Nat.mul_comm g v]
  unfold redI
  simp only [← Int.natCast_mul, this]
  simp [cmpI]

end Go.Proofs.Ytepjbmlhfhahcaa
/- The statement that the test of two samples is exact: its function answers true, at any bytes and any size. -/
namespace Go.Proofs.Ytepjbmlhfhahcaa
open Go Go.PM

/-- The choices of k elements, the first m. -/
def chs (n k m : Nat) : List Nat := (List.range m).filter fun c => popc n c == k
theorem chs_succ (n k m : Nat) : chs n k (m + 1) = chs n k m ++ if popc n m == k then [m] else [] := by
  unfold chs
  rw [List.range_succ, List.filter_append]
  congr 1
  cases h : popc n m == k <;> simp [List.filter_cons, h]
theorem chs_length (l : List Int) (k m : Nat) : (chs l.length k m).length = ways l k m := by
  unfold chs ways
  rw [List.countP_eq_length_filter]
/-- The part that the test finds for a choice. -/
def found (l : List Int) (k c : Nat) : Int × Int := redI (wayh l k (gap l k c) (2 ^ l.length)) (ways l k (2 ^ l.length))
theorem wayh_chs (l : List Int) (k c : Nat) : wayh l k (gap l k c) (2 ^ l.length) = (chs l.length k (2 ^ l.length)).countP fun x => decide (gap l k c ≤ gap l k x) := by
  unfold wayh chs gap
  rw [List.countP_filter]
  refine List.countP_congr fun x _ => ?_
  simp only [Bool.and_eq_true]
  exact And.comm
theorem chs_le (n k m : Nat) : (chs n k m).length ≤ m := by
  have := List.length_filter_le (fun c => popc n c == k) (List.range m)
  simpa [chs] using this
theorem found_bounds (l : List Int) (k c : Nat) (hn : l.length ≤ 12) (hc : c ∈ chs l.length k (2 ^ l.length)) : (0 ≤ (found l k c).1 ∧ (found l k c).1 ≤ 4096) ∧ 0 < (found l k c).2 ∧ (found l k c).2 ≤ 4096 ∧ 0 < ways l k (2 ^ l.length) := by
  have hp2 : (2 : Nat) ^ l.length ≤ 2 ^ 12 := Nat.pow_le_pow_right (by omega) hn
  have hp2 : (2 : Nat) ^ l.length ≤ 4096 := hp2
  have h1 := ways_le l k (2 ^ l.length)
  have h2 := wayh_le l k (gap l k c) (2 ^ l.length)
  have h3 : 0 < ways l k (2 ^ l.length) := by rw [← chs_length]; exact List.length_pos_of_mem hc
  unfold found redI
  have g1 : 0 < Nat.gcd (wayh l k (gap l k c) (2 ^ l.length)) (ways l k (2 ^ l.length)) := Nat.gcd_pos_of_pos_right _ h3
  have g2 : Nat.gcd (wayh l k (gap l k c) (2 ^ l.length)) (ways l k (2 ^ l.length)) ≤ ways l k (2 ^ l.length) := Nat.gcd_le_right _ h3
  have d1 := Nat.div_le_self (wayh l k (gap l k c) (2 ^ l.length)) (Nat.gcd (wayh l k (gap l k c) (2 ^ l.length)) (ways l k (2 ^ l.length)))
  have d2 := Nat.div_le_self (ways l k (2 ^ l.length)) (Nat.gcd (wayh l k (gap l k c) (2 ^ l.length)) (ways l k (2 ^ l.length)))
  have d3 := Nat.div_pos g2 g1
  simp only
  generalize wayh l k (gap l k c) (2 ^ l.length) / Nat.gcd (wayh l k (gap l k c) (2 ^ l.length)) (ways l k (2 ^ l.length)) = u at *
  generalize ways l k (2 ^ l.length) / Nat.gcd (wayh l k (gap l k c) (2 ^ l.length)) (ways l k (2 ^ l.length)) = v at *
  refine ⟨⟨by omega, by omega⟩, by omega, by omega, h3⟩

theorem inner (fu : Nat) (hf : 18446744073709551616 ≤ fu) (l : List Int) (hs : small l) (hn : l.length ≤ 60) (fs : List (Int × Int)) (m : Nat) :
    iter (fun (y1 : List C × List C × List C × Int × Unit) =>
            bif decide (y1.2.2.2.1 < ((l.length : Nat) : Int)) then
              need (!(decide (IntKind.u64.wrap y1.2.2.2.1 < 0))) <|
              bd (IntKind.i64.wrap (BitVec.ofInt (IntKind.bits .i64) (Int.fdiv (m : Int) (2 ^ (min (IntKind.u64.wrap y1.2.2.2.1).toNat (IntKind.bits .i64)))) &&& BitVec.ofInt (IntKind.bits .i64) 1).toNat) fun z =>
              bif z == 1 then
                asSl (C.sl l.length (ints l)) fun n3 cs5 =>
                need (inR y1.2.2.2.1 n3) <|
                unc (List.drop (y1.2.2.2.1.toNat * 1) cs5) fun c6 _ =>
                asI .i64 c6 fun i2 =>
                need ((((Nat.beq ((y1.2.1.length / 1) * 1) y1.2.1.length) && true) && (Nat.ble (((y1.2.1.length / 1) + 1) * 8) 140737488355328)) && (Nat.ble ((y1.2.1.length / 1) + 1) 140737488355328)) <|
                need (((Nat.beq ((y1.1.length / 2) * 2) y1.1.length) && true) && true) <|
                need (((Nat.beq (((y1.2.1.length / 1) + 1) * 1) ((y1.2.1 ++ ([C.v (.int .i64 i2)])).length)) && true) && true) <|
                need (((Nat.beq ((y1.2.2.1.length / 1) * 1) y1.2.2.1.length) && true) && true) <|
                some (0, (y1.1, y1.2.1 ++ ([C.v (.int .i64 i2)]), y1.2.2.1, IntKind.i64.wrap (y1.2.2.2.1 + 1), ()))
              else
                asSl (C.sl l.length (ints l)) fun n4 cs6 =>
                need (inR y1.2.2.2.1 n4) <|
                unc (List.drop (y1.2.2.2.1.toNat * 1) cs6) fun c7 _ =>
                asI .i64 c7 fun i3 =>
                need ((((Nat.beq ((y1.2.2.1.length / 1) * 1) y1.2.2.1.length) && true) && (Nat.ble (((y1.2.2.1.length / 1) + 1) * 8) 140737488355328)) && (Nat.ble ((y1.2.2.1.length / 1) + 1) 140737488355328)) <|
                need (((Nat.beq ((y1.1.length / 2) * 2) y1.1.length) && true) && true) <|
                need (((Nat.beq ((y1.2.1.length / 1) * 1) y1.2.1.length) && true) && true) <|
                need (((Nat.beq (((y1.2.2.1.length / 1) + 1) * 1) ((y1.2.2.1 ++ ([C.v (.int .i64 i3)])).length)) && true) && true) <|
                some (0, (y1.1, y1.2.1, y1.2.2.1 ++ ([C.v (.int .i64 i3)]), IntKind.i64.wrap (y1.2.2.2.1 + 1), ()))
            else
              need (((Nat.beq ((y1.1.length / 2) * 2) y1.1.length) && true) && true) <|
              need (((Nat.beq ((y1.2.1.length / 1) * 1) y1.2.1.length) && true) && true) <|
              need (((Nat.beq ((y1.2.2.1.length / 1) * 1) y1.2.2.1.length) && true) && true) <|
              some (1, (y1.1, y1.2.1, y1.2.2.1, y1.2.2.2.1, ()))) fu (prs fs, [], [], 0, ()) = some (0, (prs fs, ints (picks l m), ints (others l m), (l.length : Int), ())) := by
  have hdiv : Nat.beq (fs.length * 2 / 2 * 2) (fs.length * 2) = true := beqN_eq (by omega)
  rw [show (prs fs, ([] : List C), ([] : List C), (0 : Int), ()) = (fun j : Nat => (prs fs, ints (picks (l.take j) m), ints (others (l.take j) m), (j : Int), ())) 0 by simp [picks, others], iter_run (fun j : Nat => (prs fs, ints (picks (l.take j) m), ints (others (l.take j) m), (j : Int), ())) 0 (prs fs, ints (picks l m), ints (others l m), (l.length : Int), ()) l.length 0 fu ?_ ?_ (by omega)]
  · intro j _ hj
    have hj : j < l.length := by omega
    have hpl := (picks_perm (l.take j) m).length_eq
    rw [List.length_append, List.length_take, Nat.min_eq_left (Nat.le_of_lt hj)] at hpl
    simp only [lt_yes (show (j : Int) < (l.length : Int) by omega), ct, IntWalk.u64_in (j : Int) ⟨by omega, by omega⟩, show decide ((j : Int) < 0) = false from decide_eq_false (by omega), Bool.not_false, need_true, Int.toNat_natCast, bd_eq, show min j (IntKind.bits .i64) = j by simp [IntKind.bits]; omega, fdiv_pow, andoneI, prs_length, ik_length, Nat.div_one, Nat.mul_one, hdiv, beqN_self, Bool.and_self, inR_nat hj, unc_ik hj, asI_int, asSl_sl, ik_snoc, List.length_append, List.length_cons, List.length_nil, Nat.zero_add, bleN_le (show ((picks (l.take j) m).length + 1) * 8 ≤ 140737488355328 by omega), bleN_le (show (picks (l.take j) m).length + 1 ≤ 140737488355328 by omega), bleN_le (show ((others (l.take j) m).length + 1) * 8 ≤ 140737488355328 by omega), bleN_le (show (others (l.take j) m).length + 1 ≤ 140737488355328 by omega)]
    rw [IntWalk.i64_in ((j : Int) + 1) ⟨by omega, by omega⟩, picks_snoc l m j hj, others_snoc l m j hj]
    by_cases hbit : m / 2 ^ j % 2 = 1
    · rw [hbit]
      simp only [if_true, show (((1 : Nat) : Int) == 1) = true from rfl, ct, List.append_nil]
      rfl
    · rw [if_neg hbit, if_neg hbit, show (((m / 2 ^ j % 2 : Nat) : Int) == 1) = false by rw [beq_eq_false_iff_ne]; omega, List.append_nil]
      rfl
  · simp only [Nat.zero_add, show decide ((l.length : Int) < (l.length : Int)) = false from decide_eq_false (by omega), cf, prs_length, ik_length, Nat.div_one, Nat.mul_one, hdiv, beqN_self, Bool.and_self, need_true, List.take_length]

end Go.Proofs.Ytepjbmlhfhahcaa
/- The statement that the test of two samples is exact: its function answers true, at any bytes and any size. -/
namespace Go.Proofs.Ytepjbmlhfhahcaa
open Go Go.PM

theorem sp_SamplingExchanges (fu d : Nat) (hf : 18446744073709551616 ≤ fu) (bs : List Int) (hbs : bytes bs) (size : Int) (hsz : 0 ≤ size ∧ size ≤ 255) :
    cl fu (d + 9) fn_synopticlaw39_SamplingExchanges [V.c (C.sl bs.length (ik .u8 bs)), V.c (C.v (.int .u8 size))] [] = some ⟨B true, [], none⟩ := by
  rw [eq_synopticlaw39_SamplingExchanges, sp_awake fu d hf]
  have hb' : bytes (bs.take 40) := fun x hx => hbs x (List.mem_of_mem_take hx)
  have hl' : (bs.take 40).length ≤ 1000000000000 := by simp; omega
  have hN := sp_New fu (d + 7) bs 40
  unfold codesO codesC at hN
  rw [show ((40 : Nat) : Int) = 40 from rfl] at hN
  rw [hN]
  obtain ⟨l, i, h3, hs, hl, hi⟩ := sp_sample fu (d + 5) hf (bs.take 40) hb' 0 (by omega) hl' 7 (by omega)
  unfold codesO codesC at h3
  simp only [obs, rC_c, asB_bool, Bool.not_true, cf, rP_ptr, show (Nat.beq 1000000 (OUT + 0)) = true from rfl, beqN_self, Bool.and_self, need_true, uncO_cons, rN_ob, List.length_cons, List.length_nil, Nat.zero_add, Nat.reduceAdd, unc_cons, asI_int, h3, rO_ob, asSl_sl]
  have hk1 : IntKind.i64.wrap ((l.length : Int) + 1) = ((l.length + 1 : Nat) : Int) := by rw [IntWalk.i64_in _ ⟨by omega, by omega⟩]; omega
  obtain ⟨s, rfl⟩ : ∃ s : Nat, size = s := ⟨size.toNat, by omega⟩
  have hk2 : Int.tmod (IntKind.i64.wrap (s : Int)) ((l.length + 1 : Nat) : Int) = ((s % (l.length + 1) : Nat) : Int) := by rw [IntWalk.i64_in _ ⟨by omega, by omega⟩]; rfl
  have hkl : s % (l.length + 1) ≤ l.length := by have := Nat.mod_lt s (show 0 < l.length + 1 by omega); omega
  have hp := Nat.two_pow_pos l.length
  have hp2 : (2 : Nat) ^ l.length ≤ 2 ^ 7 := Nat.pow_le_pow_right (by omega) (by omega)
  have hp2 : (2 : Nat) ^ l.length ≤ 128 := hp2
  simp only [hk1, hk2, show (((l.length + 1 : Nat) : Int) == 0) = false by rw [beq_eq_false_iff_ne]; omega, u64i l.length (by omega), show decide ((l.length : Int) < 0) = false from decide_eq_false (by omega), Bool.not_false, need_true, Int.toNat_natCast, two_pow_i64 l.length (by omega)]
  generalize s % (l.length + 1) = k at *
  have hout : l.any outB = false := outside_small hs
  rw [show (false, ([] : List C), (0 : Int), ()) = (fun m : Nat => (false, prs ((chs l.length k m).map (found l k)), (m : Int), ())) 0 from rfl, iter_run (fun m : Nat => (false, prs ((chs l.length k m).map (found l k)), (m : Int), ())) 0 (false, prs ((chs l.length k (2 ^ l.length)).map (found l k)), ((2 ^ l.length : Nat) : Int), ()) (2 ^ l.length) 0 fu ?_ ?_ (by omega)]
  · generalize hL : chs l.length k (2 ^ l.length) = L
    have hLl : L.length ≤ 128 := by rw [← hL]; exact Nat.le_trans (chs_le _ _ _) hp2
    have hLw : L.length = ways l k (2 ^ l.length) := by rw [← hL]; exact chs_length l k _
    have hb : ∀ c ∈ L, (0 ≤ (found l k c).1 ∧ (found l k c).1 ≤ 4096) ∧ 0 < (found l k c).2 ∧ (found l k c).2 ≤ 4096 ∧ 0 < ways l k (2 ^ l.length) := by rw [← hL]; exact fun c hc => found_bounds l k c (by omega) hc
    have hH : ∀ c, wayh l k (gap l k c) (2 ^ l.length) = L.countP fun x => decide (gap l k c ≤ gap l k x) := by rw [← hL]; exact wayh_chs l k
    have hml : (L.map (found l k)).length = L.length := List.length_map ..
    have hdiv : L.length * 2 / 2 = L.length := by omega
    simp only [obs, natD_zero, prs_length, hml, hdiv, Nat.zero_add, bleN_le (Nat.le_refl _), need_true, show List.take (L.length * 2) (prs (L.map (found l k))) = prs (L.map (found l k)) from List.take_of_length_le (by simp)]
    rw [show (false, (0 : Int), ()) = (fun x : Nat => (false, (x : Int), ())) 0 from rfl, iter_run (fun x : Nat => (false, (x : Int), ())) 0 (false, (L.length : Int), ()) L.length 0 fu ?_ ?_ (by omega)]
    · rfl
    · intro x _ hx
      have hx : x < L.length := by omega
      have hxl : x < (L.map (found l k)).length := by rw [hml]; exact hx
      have bx := hb L[x] (List.getElem_mem hx)
      simp only [lt_yes (show (x : Int) < ((L.length : Nat) : Int) by omega), ct, inR_nat hx, need_true, Int.toNat_natCast, unc_prs hxl, asI_int, unc_cons, List.getElem_map]
      generalize hX : L[x] = X at *
      have hc : ∀ y, (L.take y).countP (fun c => decide (wayh l k (gap l k c) (2 ^ l.length) ≤ wayh l k (gap l k X) (2 ^ l.length))) ≤ y := fun y => by
        have := List.countP_le_length (p := fun c => decide (wayh l k (gap l k c) (2 ^ l.length) ≤ wayh l k (gap l k X) (2 ^ l.length))) (l := L.take y)
        rw [List.length_take] at this
        omega
      rw [show ((0 : Int), (0 : Int), ((found l k X).1, (found l k X).2, ()), ()) = (fun y : Nat => ((((L.take y).countP fun c => decide (wayh l k (gap l k c) (2 ^ l.length) ≤ wayh l k (gap l k X) (2 ^ l.length)) : Nat) : Int), (y : Int), ((found l k X).1, (found l k X).2, ()), ())) 0 by simp, iter_run (fun y : Nat => ((((L.take y).countP fun c => decide (wayh l k (gap l k c) (2 ^ l.length) ≤ wayh l k (gap l k X) (2 ^ l.length)) : Nat) : Int), (y : Int), ((found l k X).1, (found l k X).2, ()), ())) 0 (((wayh l k (gap l k X) (2 ^ l.length) : Nat) : Int), (L.length : Int), ((found l k X).1, (found l k X).2, ()), ()) L.length 0 fu ?_ ?_ (by omega)]
      · have w1 := wayh_le l k (gap l k X) (2 ^ l.length)
        simp only [obs]
        rw [sp_Compare fu (d + 4) hf _ _ _ _ (by omega) (by omega) (by omega) (by omega), hLw]
        rw [show cmpI (((wayh l k (gap l k X) (2 ^ l.length) : Nat) : Int) * (found l k X).2) ((found l k X).1 * ((ways l k (2 ^ l.length) : Nat) : Int)) = 0 from redI_same _ _]
        simp only [obs, rC_c, asI_int, show decide ((0 : Int) > 0) = false from rfl, cf]
        rw [IntWalk.i64_in ((x : Int) + 1) ⟨by omega, by omega⟩]
        rfl
      · intro y _ hy
        have hy : y < L.length := by omega
        have hyl : y < (L.map (found l k)).length := by rw [hml]; exact hy
        have by' := hb L[y] (List.getElem_mem hy)
        have hcy := hc y
        simp only [lt_yes (show (y : Int) < ((L.length : Nat) : Int) by omega), ct, inR_nat hy, need_true, Int.toNat_natCast, unc_prs hyl, asI_int, unc_cons, List.getElem_map]
        rw [sp_Compare fu (d + 4) hf _ _ _ _ (by omega) (by omega) (by omega) (by omega), show cmpI ((found l k L[y]).1 * (found l k X).2) ((found l k X).1 * (found l k L[y]).2) = cmpI ((wayh l k (gap l k L[y]) (2 ^ l.length) : Nat) : Int) ((wayh l k (gap l k X) (2 ^ l.length) : Nat) : Int) from redI_cmp _ _ _ bx.2.2.2]
        simp only [obs, rC_c, asI_int]
        rw [List.take_succ_eq_append_getElem hy, List.countP_append, IntWalk.i64_in ((y : Int) + 1) ⟨by omega, by omega⟩, IntWalk.i64_in (((L.take y).countP (fun c => decide (wayh l k (gap l k c) (2 ^ l.length) ≤ wayh l k (gap l k X) (2 ^ l.length))) : Int) + 1) ⟨by omega, by omega⟩]
        by_cases h : wayh l k (gap l k L[y]) (2 ^ l.length) ≤ wayh l k (gap l k X) (2 ^ l.length)
        · rw [show decide (cmpI ((wayh l k (gap l k L[y]) (2 ^ l.length) : Nat) : Int) ((wayh l k (gap l k X) (2 ^ l.length) : Nat) : Int) ≤ 0) = true from decide_eq_true (by unfold cmpI; repeat' split; all_goals omega)]
          simp [List.countP_cons, h]
        · rw [show decide (cmpI ((wayh l k (gap l k L[y]) (2 ^ l.length) : Nat) : Int) ((wayh l k (gap l k X) (2 ^ l.length) : Nat) : Int) ≤ 0) = false from decide_eq_false (by unfold cmpI; repeat' split; all_goals omega)]
          simp [List.countP_cons, h]
      · simp only [Nat.zero_add, show decide (((L.length : Nat) : Int) < ((L.length : Nat) : Int)) = false from decide_eq_false (by omega), cf, List.take_length]
        have := exact_count L (gap l k) X
        simp only [hH] at this ⊢
        rw [this]
    · simp only [Nat.zero_add, show decide (((L.length : Nat) : Int) < ((L.length : Nat) : Int)) = false from decide_eq_false (by omega), cf]
  · intro m _ hm
    have hm : m < 2 ^ l.length := by omega
    have hcl := chs_le l.length k m
    have hml : ((chs l.length k m).map (found l k)).length = (chs l.length k m).length := List.length_map ..
    have hdiv : (chs l.length k m).length * 2 / 2 = (chs l.length k m).length := by omega
    have hpl := (picks_perm l m).length_eq
    rw [List.length_append] at hpl
    simp only [lt_yes (show (m : Int) < ((2 ^ l.length : Nat) : Int) by omega), ct, prs_length, hml, hdiv, beqN_self, Bool.and_self, need_true]
    have hin := inner fu hf l hs (by omega) ((chs l.length k m).map (found l k)) m
    simp only [asSl_sl] at hin
    rw [hin]
    simp only [obs, ik_length, Nat.div_one, Nat.mul_one, Nat.zero_add, bleN_le (Nat.le_refl _), need_true, ik_take, List.take_length, prs_length, hml, hdiv, beqN_self, Bool.and_self, picks_length]
    rw [bneN, chs_succ]
    cases hq : popc l.length m == k with
    | false =>
      simp only [Bool.not_false, ct]
      rw [IntWalk.i64_in ((m : Int) + 1) ⟨by omega, by omega⟩]
      simp
    | true =>
      have hqe : popc l.length m = k := by simpa using hq
      have e1 := sp_Exchange fu (d + 1) hf (picks l m) (others l m) (by omega) (by omega)
      have e2 := sp_Exchange fu (d + 1) hf (others l m) (picks l m) (by omega) (by omega)
      rw [picks_length] at e1 e2
      rw [exchR_swap] at e2
      rw [exchR_picks l m (by omega) hout, hqe] at e1 e2
      rw [hqe]
      simp only [Bool.not_true, cf, e1, e2, obs, out3_r, rT_tup, uncV_cons, rA_agg, rC_c, asI_int, nilV_nil, List.length_cons, List.length_nil, Nat.zero_add, Nat.reduceAdd, beqN_self, need_true, unc_cons, bne_self_eq_false, beq_self_eq_true, Bool.and_true, Bool.not_true, bleN_le (show ((chs l.length k m).length + 1) * 16 ≤ 140737488355328 by omega), bleN_le (show (chs l.length k m).length + 1 ≤ 140737488355328 by omega), prs_snoc, prs_length, List.length_append, hml, Bool.and_self]
      rw [IntWalk.i64_in ((m : Int) + 1) ⟨by omega, by omega⟩, List.map_append]
      rfl
  · have hcl := chs_le l.length k (2 ^ l.length)
    have hdiv : Nat.beq ((chs l.length k (2 ^ l.length)).length * 2 / 2 * 2) ((chs l.length k (2 ^ l.length)).length * 2) = true := beqN_eq (by omega)
    simp only [Nat.zero_add, show decide (((2 ^ l.length : Nat) : Int) < ((2 ^ l.length : Nat) : Int)) = false from decide_eq_false (by omega), cf, prs_length, List.length_map, hdiv, Bool.and_self, need_true]

end Go.Proofs.Ytepjbmlhfhahcaa
/- Numbers of choices: what Choose comes to. -/
namespace Go.Proofs.Ytepjbmlhfhahcaa
open Go Go.PM

def bin : Nat → Nat → Nat
  | _, 0 => 1
  | 0, _ + 1 => 0
  | n + 1, k + 1 => bin n k + bin n (k + 1)
theorem bin_zero (n : Nat) : bin n 0 = 1 := by cases n <;> rfl
theorem bin_gt : ∀ (n k : Nat), n < k → bin n k = 0
  | 0, k + 1, _ => rfl
  | n + 1, 0, h => by omega
  | n + 1, k + 1, h => by simp only [bin]; rw [bin_gt n k (by omega), bin_gt n (k + 1) (by omega)]
theorem bin_self : ∀ n : Nat, bin n n = 1
  | 0 => rfl
  | n + 1 => by simp only [bin]; rw [bin_self n, bin_gt n (n + 1) (by omega)]
/-- The sum of the first ones. -/
def tsum (n : Nat) : Nat → Nat
  | 0 => 0
  | k + 1 => tsum n k + bin n k
theorem tsum_step (n : Nat) : ∀ k, tsum (n + 1) (k + 1) = tsum n k + tsum n (k + 1)
  | 0 => by simp [tsum, bin_zero]
  | k + 1 => by
    have := tsum_step n k
    simp only [tsum] at this ⊢
    simp only [bin]
    omega
theorem tsum_all : ∀ n : Nat, tsum n (n + 1) = 2 ^ n
  | 0 => rfl
  | n + 1 => by
    rw [tsum_step, tsum_all n]
    have : tsum n (n + 1 + 1) = tsum n (n + 1) + bin n (n + 1) := rfl
    rw [this, tsum_all n, bin_gt n (n + 1) (by omega), Nat.pow_succ]
    omega
theorem tsum_mono (n : Nat) {a b : Nat} (h : a ≤ b) : tsum n a ≤ tsum n b := by
  induction b with
  | zero => have : a = 0 := by omega
            subst this; exact Nat.le_refl _
  | succ b ih =>
    by_cases e : a = b + 1
    · subst e; exact Nat.le_refl _
    · exact Nat.le_trans (ih (by omega)) (by simp [tsum])
theorem tsum_le (n k : Nat) : tsum n k ≤ 2 ^ n := by
  by_cases h : k ≤ n + 1
  · rw [← tsum_all n]; exact tsum_mono n h
  · have : ∀ j, tsum n (n + 1 + j) = 2 ^ n := fun j => by
      induction j with
      | zero => exact tsum_all n
      | succ j ih => show tsum n (n + 1 + j) + bin n (n + 1 + j) = _; rw [ih, bin_gt n _ (by omega)]; omega
    have e : k = n + 1 + (k - (n + 1)) := by omega
    rw [e, this]; exact Nat.le_refl _
theorem bin_le (n k : Nat) : bin n k ≤ 2 ^ n := by
  have := tsum_le n (k + 1)
  simp only [tsum] at this
  omega
theorem bin60 (n k : Nat) (h : n ≤ 60) : bin n k ≤ 1152921504606846976 :=
  Nat.le_trans (bin_le n k) (Nat.pow_le_pow_right (by omega) h)

def row (n : Nat) : List Int := (List.range (n + 1)).map fun t => ((bin n t : Nat) : Int)
def part (j i : Nat) : List Int := (List.range (j + 2)).map fun t => (((if t < i then bin (j + 1) t else if t = i then (if i = 0 then 0 else bin j (i - 1)) else 0) : Nat) : Int)
theorem row_length (n : Nat) : (row n).length = n + 1 := by simp [row]
theorem part_length (j i : Nat) : (part j i).length = j + 2 := by simp [part]
theorem row_get (n k : Nat) (h : k < (row n).length) : (row n)[k] = ((bin n k : Nat) : Int) := by simp [row]
theorem part_get (j i k : Nat) (h : k < (part j i).length) : (part j i)[k] = (((if k < i then bin (j + 1) k else if k = i then (if i = 0 then 0 else bin j (i - 1)) else 0) : Nat) : Int) := by simp [part]
theorem bin_step (j i : Nat) : (if i = 0 then 0 else bin j (i - 1)) + bin j i = bin (j + 1) i := by
  cases i with
  | zero => simp [bin_zero]
  | succ i => simp [bin]
theorem part_step (j i : Nat) (h : i ≤ j) : ((part j i).set i ((bin (j + 1) i : Nat) : Int)).set (i + 1) ((bin j i : Nat) : Int) = part j (i + 1) := by
  apply List.ext_getElem
  · simp [part]
  · intro k h1 h2
    rw [List.getElem_set, List.getElem_set, part_get _ _ _ (by simpa using h1), part_get _ _ _ h2]
    by_cases e1 : i + 1 = k
    · subst e1; simp
    · rw [if_neg e1]
      by_cases e2 : i = k
      · subst e2; simp
      · rw [if_neg e2]
        congr 1
        by_cases e3 : k < i
        · rw [if_pos e3, if_pos (by omega)]
        · rw [if_neg e3, if_neg (fun h => e2 h.symm), if_neg (by omega), if_neg (by omega)]
theorem part_zero (j : Nat) : part j 0 = List.replicate (j + 2) 0 := by
  apply List.ext_getElem
  · simp [part]
  · intro k h1 h2; simp [part]
theorem part_end (j : Nat) : part j (j + 1) = row (j + 1) := by
  apply List.ext_getElem
  · simp [part, row]
  · intro k h1 h2
    rw [part_get _ _ _ h1, row_get _ _ h2]
    rw [row_length] at h2
    congr 1
    by_cases e : k < j + 1
    · rw [if_pos e]
    · have : k = j + 1 := by omega
      subst this
      rw [if_neg e, if_pos rfl, if_neg (by omega), Nat.add_sub_cancel, bin_self, bin_self]

theorem reps_zero (n : Nat) : reps n [C.v (.int .i64 0)] = ints (List.replicate n 0) := by
  induction n with
  | zero => rfl
  | succ n ih =>
    unfold reps at ih ⊢
    rw [List.replicate_succ, List.flatten_cons, ih]; rfl

theorem sp_within (fu d : Nat) (a b c : Int) : cl fu (d + 1) fn_sampling_within [I a, I b, I c] [] = some ⟨B (decide (b ≤ a) && decide (a ≤ c)), [], none⟩ := by
  rw [eq_sampling_within]
  cases decide (b ≤ a) <;> rfl

theorem sp_Choose (fu d : Nat) (hf : 18446744073709551616 ≤ fu) (n k : Nat) (hn : n ≤ 60) (hk : k ≤ n) :
    cl fu (d + 2) fn_sampling_Choose [I (n : Int), I (k : Int)] [] = some ⟨V.tup [I ((bin n k : Nat) : Int), I 0], [], none⟩ := by
  rw [eq_sampling_Choose, sp_within, sp_within]
  simp only [obs, rC_c, asB_bool, decide_eq_true (show (0 : Int) ≤ (n : Int) by omega), decide_eq_true (show (n : Int) ≤ 60 by omega), decide_eq_true (show (0 : Int) ≤ (k : Int) by omega), decide_eq_true (show (k : Int) ≤ (n : Int) by omega), Bool.and_self, Bool.not_true, cf]
  have h0 : (([C.v (.int .i64 1)] : List C), (0 : Int), ()) = (fun j : Nat => (ints (row j), (j : Int), ())) 0 := rfl
  rw [h0, iter_run (fun j : Nat => (ints (row j), (j : Int), ())) 0 (ints (row n), (n : Int), ()) n 0 fu ?_ ?_ (by omega)]
  · simp only [obs, ik_length, row_length, Nat.div_one]
    rw [inR_nat (show k < n + 1 by omega), need_true, Nat.zero_add, Int.toNat_natCast, Nat.mul_one, unc_ik (by rw [row_length]; omega), asI_int, row_get]
  · intro j _ hj
    have hj : j < n := by omega
    simp only [lt_yes (show (j : Int) < (n : Int) by omega), ct, ik_length, row_length, Nat.div_one]
    rw [IntWalk.i64_in _ ⟨by omega, by omega⟩]
    rw [show (((j + 1 : Nat) : Int) + 1) = ((j + 2 : Nat) : Int) by omega]
    simp only [Int.toNat_natCast, reps_zero, ik_length, List.length_replicate, Nat.mul_one, beqN_self, Bool.and_true, Bool.and_self, need_true, decide_eq_true (show (0 : Int) ≤ ((j + 2 : Nat) : Int) by omega), decide_eq_true (show ((j + 2 : Nat) : Int) ≤ ((j + 2 : Nat) : Int) by omega), decide_eq_true (show (8 : Int) * ((j + 2 : Nat) : Int) ≤ 140737488355328 by omega), decide_eq_true (show ((j + 2 : Nat) : Int) ≤ 140737488355328 by omega)]
    rw [← part_zero]
    have h1 : (ints (part j 0), ints (row j), (0 : Int), ()) = (fun i : Nat => (ints (part j i), ints (row j), (i : Int), ())) 0 := rfl
    rw [h1, iter_run (fun i : Nat => (ints (part j i), ints (row j), (i : Int), ())) 0 (ints (row (j + 1)), ints (row j), ((j + 1 : Nat) : Int), ()) (j + 1) 0 fu ?_ ?_ (by omega)]
    · simp only [obs, ik_length, row_length, Nat.div_one, Nat.mul_one, beqN_self, Bool.and_true, need_true]
      rw [IntWalk.i64_in _ ⟨by omega, by omega⟩]
      simp
    · intro i _ hi
      have hi : i ≤ j := by omega
      have b1 := bin60 (j + 1) i (by omega)
      have b2 := bin60 j i (by omega)
      simp only [lt_yes (show (i : Int) < ((j + 1 : Nat) : Int) by omega), ct, ik_length, row_length, part_length, Nat.div_one, inR_nat (show i < j + 1 by omega), inR_nat (show i < j + 2 by omega), need_true, Nat.zero_add, Int.toNat_natCast, Nat.mul_one, unc_ik (show i < (row j).length by rw [row_length]; omega), unc_ik (show i < (part j i).length by rw [part_length]; omega), asI_int, row_get, part_get, Nat.lt_irrefl, if_false, if_true]
      rw [IntWalk.i64_in ((i : Int) + 1) ⟨by omega, by omega⟩, show ((i : Int) + 1) = ((i + 1 : Nat) : Int) by omega, ← Int.natCast_add, bin_step, IntWalk.i64_in _ ⟨by omega, by omega⟩]
      simp only [inR_nat (show i + 1 < j + 2 by omega), need_true, Int.toNat_natCast, Nat.mul_one, bleN_le (Nat.zero_le i), bleN_le (show i + 1 ≤ j + 2 by omega), Bool.and_self, Bool.and_true]
      rw [ik_put (show i < (part j i).length by rw [part_length]; omega), unc_ik (by rw [List.length_set, part_length]; omega)]
      rw [List.getElem_set_ne (by omega), part_get, if_neg (by omega), if_neg (by omega)]
      simp only [asI_int, ik_length, List.length_set, part_length, bleN_le (Nat.zero_le (i + 1)), bleN_le (show i + 1 + 1 ≤ j + 2 by omega), Bool.and_self, Bool.and_true, need_true, bd_eq, inR_nat (show i + 1 < j + 2 by omega)]
      rw [← Int.natCast_add, Nat.zero_add, IntWalk.i64_in _ ⟨by omega, by omega⟩, ik_put (by rw [List.length_set, part_length]; omega), part_step j i hi]
      simp only [ik_length, part_length, beqN_self, need_true]
    · simp only [Nat.zero_add, show decide (((j + 1 : Nat) : Int) < ((j + 1 : Nat) : Int)) = false from decide_eq_false (by omega), cf, ik_length, row_length, part_length, Nat.div_one, Nat.mul_one, beqN_self, Bool.and_self, need_true]
      rw [part_end]
  · simp only [Nat.zero_add, show decide ((n : Int) < (n : Int)) = false from decide_eq_false (by omega), cf, ik_length, row_length, Nat.div_one, Nat.mul_one, beqN_self, Bool.and_self, need_true, Nat.zero_add]

end Go.Proofs.Ytepjbmlhfhahcaa
/- Choose of the document, Tail. -/
namespace Go.Proofs.Ytepjbmlhfhahcaa
open Go Go.PM

theorem sp_ref_Choose (fu d : Nat) (hf : 18446744073709551616 ≤ fu) (n k : Nat) (hn : n ≤ 60) (hk : k ≤ n) :
    cl fu (d + 1) fn_synopticref39_Choose [I (n : Int), I (k : Int)] [] = some ⟨V.tup [I ((bin n k : Nat) : Int), I 0], [], none⟩ := by
  rw [eq_synopticref39_Choose]
  simp only [show decide ((n : Int) < 0) = false from decide_eq_false (by omega), show decide ((n : Int) > 60) = false from decide_eq_false (by omega), show decide ((k : Int) < 0) = false from decide_eq_false (by omega), show decide ((k : Int) > (n : Int)) = false from decide_eq_false (by omega), cf]
  have h0 : (([C.v (.int .i64 1)] : List C), (0 : Int), ()) = (fun j : Nat => (ints (row j), (j : Int), ())) 0 := rfl
  rw [h0, iter_run (fun j : Nat => (ints (row j), (j : Int), ())) 0 (ints (row n), (n : Int), ()) n 0 fu ?_ ?_ (by omega)]
  · simp only [obs, ik_length, row_length, Nat.div_one]
    rw [inR_nat (show k < n + 1 by omega), need_true, Nat.zero_add, Int.toNat_natCast, Nat.mul_one, unc_ik (by rw [row_length]; omega), asI_int, row_get]
  · intro j _ hj
    have hj : j < n := by omega
    simp only [lt_yes (show (j : Int) < (n : Int) by omega), ct, ik_length, row_length, Nat.div_one]
    rw [IntWalk.i64_in _ ⟨by omega, by omega⟩]
    rw [show (((j + 1 : Nat) : Int) + 1) = ((j + 2 : Nat) : Int) by omega]
    simp only [Int.toNat_natCast, reps_zero, ik_length, List.length_replicate, Nat.mul_one, beqN_self, Bool.and_true, Bool.and_self, need_true, decide_eq_true (show (0 : Int) ≤ ((j + 2 : Nat) : Int) by omega), decide_eq_true (show ((j + 2 : Nat) : Int) ≤ ((j + 2 : Nat) : Int) by omega), decide_eq_true (show (8 : Int) * ((j + 2 : Nat) : Int) ≤ 140737488355328 by omega), decide_eq_true (show ((j + 2 : Nat) : Int) ≤ 140737488355328 by omega)]
    rw [← part_zero]
    have h1 : (ints (row j), ints (part j 0), (0 : Int), ()) = (fun i : Nat => (ints (row j), ints (part j i), (i : Int), ())) 0 := rfl
    rw [h1, iter_run (fun i : Nat => (ints (row j), ints (part j i), (i : Int), ())) 0 (ints (row j), ints (row (j + 1)), ((j + 1 : Nat) : Int), ()) (j + 1) 0 fu ?_ ?_ (by omega)]
    · simp only [obs, ik_length, row_length, Nat.div_one, Nat.mul_one, beqN_self, Bool.and_true, need_true]
      rw [IntWalk.i64_in _ ⟨by omega, by omega⟩]
      simp
    · intro i _ hi
      have hi : i ≤ j := by omega
      have b1 := bin60 (j + 1) i (by omega)
      have b2 := bin60 j i (by omega)
      simp only [lt_yes (show (i : Int) < ((j + 1 : Nat) : Int) by omega), ct, ik_length, row_length, part_length, Nat.div_one, inR_nat (show i < j + 1 by omega), inR_nat (show i < j + 2 by omega), need_true, Nat.zero_add, Int.toNat_natCast, Nat.mul_one, unc_ik (show i < (row j).length by rw [row_length]; omega), unc_ik (show i < (part j i).length by rw [part_length]; omega), asI_int, row_get, part_get, Nat.lt_irrefl, if_false, if_true]
      rw [IntWalk.i64_in ((i : Int) + 1) ⟨by omega, by omega⟩, show ((i : Int) + 1) = ((i + 1 : Nat) : Int) by omega, ← Int.natCast_add, bin_step, IntWalk.i64_in _ ⟨by omega, by omega⟩]
      simp only [inR_nat (show i + 1 < j + 2 by omega), need_true, Int.toNat_natCast, Nat.mul_one, bleN_le (Nat.zero_le i), bleN_le (show i + 1 ≤ j + 2 by omega), Bool.and_self, Bool.and_true]
      rw [ik_put (show i < (part j i).length by rw [part_length]; omega), unc_ik (by rw [List.length_set, part_length]; omega)]
      rw [List.getElem_set_ne (by omega), part_get, if_neg (by omega), if_neg (by omega)]
      simp only [asI_int, ik_length, List.length_set, part_length, bleN_le (Nat.zero_le (i + 1)), bleN_le (show i + 1 + 1 ≤ j + 2 by omega), Bool.and_self, Bool.and_true, need_true, bd_eq, inR_nat (show i + 1 < j + 2 by omega)]
      rw [← Int.natCast_add, Nat.zero_add, IntWalk.i64_in _ ⟨by omega, by omega⟩, ik_put (by rw [List.length_set, part_length]; omega), part_step j i hi]
      simp only [ik_length, part_length, beqN_self, need_true]
    · simp only [Nat.zero_add, show decide (((j + 1 : Nat) : Int) < ((j + 1 : Nat) : Int)) = false from decide_eq_false (by omega), cf, ik_length, row_length, part_length, Nat.div_one, Nat.mul_one, beqN_self, Bool.and_self, need_true]
      rw [part_end]
  · simp only [Nat.zero_add, show decide ((n : Int) < (n : Int)) = false from decide_eq_false (by omega), cf, ik_length, row_length, Nat.div_one, Nat.mul_one, beqN_self, Bool.and_self, need_true]

def chooseR (n k : Int) : Int × Int := if 0 ≤ n ∧ n ≤ 60 ∧ 0 ≤ k ∧ k ≤ n then (((bin n.toNat k.toNat : Nat) : Int), 0) else (0, 1)
theorem sp_Choose_any (fu d : Nat) (hf : 18446744073709551616 ≤ fu) (n k : Int) : cl fu (d + 2) fn_sampling_Choose [I n, I k] [] = some ⟨V.tup [I (chooseR n k).1, I (chooseR n k).2], [], none⟩ := by
  unfold chooseR
  split
  · rename_i h
    obtain ⟨m, rfl⟩ : ∃ m : Nat, n = m := ⟨n.toNat, by omega⟩
    obtain ⟨j, rfl⟩ : ∃ j : Nat, k = j := ⟨k.toNat, by omega⟩
    rw [sp_Choose fu d hf m j (by omega) (by omega)]; rfl
  · rename_i h
    rw [eq_sampling_Choose, sp_within, sp_within]
    simp only [obs, rC_c, asB_bool]
    by_cases h1 : 0 ≤ n ∧ n ≤ 60
    · rw [decide_eq_true h1.1, decide_eq_true h1.2]
      simp only [Bool.and_self, Bool.not_true, cf]
      by_cases h2 : 0 ≤ k
      · rw [decide_eq_true h2, show decide (k ≤ n) = false from decide_eq_false (by omega)]; rfl
      · rw [show decide (0 ≤ k) = false from decide_eq_false h2]; rfl
    · have : (decide (0 ≤ n) && decide (n ≤ 60)) = false := by
        rw [Bool.and_eq_false_iff]; by_cases h2 : 0 ≤ n
        · exact .inr (decide_eq_false (by omega))
        · exact .inl (decide_eq_false h2)
      rw [this]; rfl
theorem sp_ref_Choose_any (fu d : Nat) (hf : 18446744073709551616 ≤ fu) (n k : Int) : cl fu (d + 1) fn_synopticref39_Choose [I n, I k] [] = some ⟨V.tup [I (chooseR n k).1, I (chooseR n k).2], [], none⟩ := by
  unfold chooseR
  split
  · rename_i h
    obtain ⟨m, rfl⟩ : ∃ m : Nat, n = m := ⟨n.toNat, by omega⟩
    obtain ⟨j, rfl⟩ : ∃ j : Nat, k = j := ⟨k.toNat, by omega⟩
    rw [sp_ref_Choose fu d hf m j (by omega) (by omega)]; rfl
  · rename_i h
    rw [eq_synopticref39_Choose]
    by_cases h1 : n < 0
    · rw [decide_eq_true h1]; rfl
    rw [show decide (n < 0) = false from decide_eq_false h1]
    by_cases h2 : n > 60
    · rw [decide_eq_true h2]; rfl
    rw [show decide (n > 60) = false from decide_eq_false h2]
    by_cases h3 : k < 0
    · rw [decide_eq_true h3]; rfl
    rw [show decide (k < 0) = false from decide_eq_false h3, show decide (k > n) = true from decide_eq_true (by omega)]
    rfl

/-- How many are counted. -/
def upto (n : Nat) (x : Int) : Nat := if x < 0 then 0 else min n x.toNat + 1
theorem upto_le (n : Nat) (x : Int) : upto n x ≤ n + 1 := by unfold upto; split <;> omega
def tailR (n x : Int) : Int × Int × Int :=
  if 0 ≤ n ∧ n ≤ 50 then ((redI (tsum n.toNat (upto n.toNat x)) (2 ^ n.toNat)).1, (redI (tsum n.toNat (upto n.toNat x)) (2 ^ n.toNat)).2, 0) else (0, 0, 1)

theorem min_upto (n k : Nat) (x : Int) : decide ((k : Int) ≤ (if (n : Int) < x then (n : Int) else x)) = decide (k < upto n x) := by
  unfold upto
  by_cases h : x < 0
  · rw [if_pos h, if_neg (by omega)]
    rw [show decide ((k : Int) ≤ x) = false from decide_eq_false (by omega)]; simp
  · rw [if_neg h]
    split
    · rw [decide_eq_decide]; omega
    · rw [decide_eq_decide]; omega

theorem pow50 (n : Nat) (h : n ≤ 50) : 0 < 2 ^ n ∧ 2 ^ n ≤ 1125899906842624 := ⟨Nat.two_pow_pos n, Nat.pow_le_pow_right (by omega) h⟩

theorem sp_Tail (fu d : Nat) (hf : 18446744073709551616 ≤ fu) (n : Nat) (x : Int) (hn : n ≤ 50) : cl fu (d + 3) fn_sampling_Tail [I (n : Int), I x] [] = some (out3 (tailR n x)) := by
  have hp := pow50 n hn
  rw [eq_sampling_Tail, sp_within]
  simp only [obs, rC_c, asB_bool, decide_eq_true (show (0 : Int) ≤ (n : Int) by omega), decide_eq_true (show (n : Int) ≤ 50 by omega), Bool.and_self, Bool.not_true, cf]
  have h0 : ((0 : Int), (0 : Int), ((0 : Int), (0 : Int), ()), ()) = (fun j : Nat => (((tsum n j : Nat) : Int), (j : Int), ((0 : Int), (0 : Int), ()), ())) 0 := rfl
  rw [h0, iter_run (fun j : Nat => (((tsum n j : Nat) : Int), (j : Int), ((0 : Int), (0 : Int), ()), ())) 0 (((tsum n (upto n x) : Nat) : Int), ((upto n x : Nat) : Int), ((0 : Int), (0 : Int), ()), ()) (upto n x) 0 fu ?_ ?_ (by have := upto_le n x; omega)]
  · simp only [obs, Int.toNat_natCast, show decide ((n : Int) < 0) = false from decide_eq_false (by omega), Bool.not_false, need_true, two_pow_i64 n (by omega)]
    rw [sp_Reduce_any fu d hf _ _ (tsum_le n _) hp.1 (by omega)]
    simp only [out3, obs, rT_tup, uncV_cons, rA_agg, List.length_cons, List.length_nil, Nat.zero_add, Nat.reduceAdd, beqN_self, need_true, unc_cons, asI_int, rC_c, nilV_nil]
    unfold tailR
    rw [if_pos ⟨by omega, by omega⟩]
    simp only [Int.toNat_natCast]
  · intro j _ hj
    have hju := upto_le n x
    have hj : j < upto n x := by omega
    have b1 := tsum_le n (j + 1)
    simp only [min_upto, decide_eq_true hj, ct]
    rw [sp_Choose_any fu d hf]
    simp only [obs, rT_tup, uncV_cons, rC_c, asI_int, nilV_nil]
    unfold chooseR
    rw [if_pos ⟨by omega, by omega, by omega, by omega⟩]
    simp only [Int.toNat_natCast]
    rw [← Int.natCast_add, show tsum n j + bin n j = tsum n (j + 1) from rfl, IntWalk.i64_in _ ⟨by omega, by omega⟩, IntWalk.i64_in _ ⟨by omega, by omega⟩]
    rfl
  · simp only [Nat.zero_add, min_upto, Nat.lt_irrefl, decide_false, cf]

theorem sp_ref_Tail (fu d : Nat) (hf : 18446744073709551616 ≤ fu) (n : Nat) (x : Int) (hn : n ≤ 50) : cl fu (d + 2) fn_synopticref39_Tail [I (n : Int), I x] [] = some (out3 (tailR n x)) := by
  have hp := pow50 n hn
  rw [eq_synopticref39_Tail]
  simp only [show decide ((n : Int) < 0) = false from decide_eq_false (by omega), show decide ((n : Int) > 50) = false from decide_eq_false (by omega), cf]
  have h0 : ((0 : Int), (0 : Int), ((0 : Int), (0 : Int), ()), ()) = (fun j : Nat => (((tsum n j : Nat) : Int), (j : Int), ((0 : Int), (0 : Int), ()), ())) 0 := rfl
  rw [h0, iter_run (fun j : Nat => (((tsum n j : Nat) : Int), (j : Int), ((0 : Int), (0 : Int), ()), ())) 0 (((tsum n (upto n x) : Nat) : Int), ((upto n x : Nat) : Int), ((0 : Int), (0 : Int), ()), ()) (upto n x) 0 fu ?_ ?_ (by have := upto_le n x; omega)]
  · simp only [obs, u64i n (by omega), Int.toNat_natCast, show decide ((n : Int) < 0) = false from decide_eq_false (by omega), Bool.not_false, need_true, two_pow_i64 n (by omega)]
    rw [sp_ref_Reduce_nat fu d hf _ _ (tsum_le n _) hp.1 (by omega)]
    simp only [out3, obs, rT_tup, uncV_cons, rA_agg, List.length_cons, List.length_nil, Nat.zero_add, Nat.reduceAdd, beqN_self, need_true, unc_cons, asI_int, rC_c, nilV_nil]
    unfold tailR
    rw [if_pos ⟨by omega, by omega⟩]
    simp only [Int.toNat_natCast]
  · intro j _ hj
    have hju := upto_le n x
    have hj : j < upto n x := by omega
    have b1 := tsum_le n (j + 1)
    simp only [min_upto, decide_eq_true hj, ct]
    rw [sp_ref_Choose_any fu d hf]
    simp only [obs, rT_tup, uncV_cons, rC_c, asI_int, nilV_nil]
    unfold chooseR
    rw [if_pos ⟨by omega, by omega, by omega, by omega⟩]
    simp only [Int.toNat_natCast]
    rw [← Int.natCast_add, show tsum n j + bin n j = tsum n (j + 1) from rfl, IntWalk.i64_in _ ⟨by omega, by omega⟩, IntWalk.i64_in _ ⟨by omega, by omega⟩]
    rfl
  · simp only [Nat.zero_add, min_upto, Nat.lt_irrefl, decide_false, cf]

theorem sp_Tail_any (fu d : Nat) (hf : 18446744073709551616 ≤ fu) (n x : Int) : cl fu (d + 3) fn_sampling_Tail [I n, I x] [] = some (out3 (tailR n x)) := by
  by_cases h : 0 ≤ n ∧ n ≤ 50
  · obtain ⟨m, rfl⟩ : ∃ m : Nat, n = m := ⟨n.toNat, by omega⟩
    exact sp_Tail fu d hf m x (by omega)
  · unfold tailR
    rw [if_neg h, eq_sampling_Tail, sp_within]
    have : (decide (0 ≤ n) && decide (n ≤ 50)) = false := by
      rw [Bool.and_eq_false_iff]; by_cases h2 : 0 ≤ n
      · exact .inr (decide_eq_false (by omega))
      · exact .inl (decide_eq_false h2)
    rw [this]; rfl
theorem sp_ref_Tail_any (fu d : Nat) (hf : 18446744073709551616 ≤ fu) (n x : Int) : cl fu (d + 2) fn_synopticref39_Tail [I n, I x] [] = some (out3 (tailR n x)) := by
  by_cases h : 0 ≤ n ∧ n ≤ 50
  · obtain ⟨m, rfl⟩ : ∃ m : Nat, n = m := ⟨n.toNat, by omega⟩
    exact sp_ref_Tail fu d hf m x (by omega)
  · unfold tailR
    rw [if_neg h, eq_synopticref39_Tail]
    by_cases h1 : n < 0
    · rw [decide_eq_true h1]; rfl
    · rw [show decide (n < 0) = false from decide_eq_false h1, show decide (n > 50) = true from decide_eq_true (by omega)]; rfl

end Go.Proofs.Ytepjbmlhfhahcaa
/- Ranks. -/
namespace Go.Proofs.Ytepjbmlhfhahcaa
open Go Go.PM

/-- The greatest number up to k that does not hold. -/
def rk (p : Nat → Bool) : Nat → Nat
  | 0 => 0
  | k + 1 => bif p (k + 1) then rk p k else k + 1
theorem rk_le (p : Nat → Bool) : ∀ k, rk p k ≤ k
  | 0 => Nat.le_refl _
  | k + 1 => by
    have := rk_le p k
    unfold rk
    cases p (k + 1)
    · exact Nat.le_refl _
    · exact Nat.le_succ_of_le this
theorem rk_spec {p : Nat → Bool} (hm : ∀ i, p i = true → p (i + 1) = true) (h0 : p 0 = false) : ∀ (k i : Nat), i ≤ k → p i = decide (rk p k < i)
  | 0, i, h => by
    have : i = 0 := by omega
    subst this; rw [h0]; rfl
  | k + 1, i, h => by
    have ih := rk_spec hm h0 k
    have hle := rk_le p k
    unfold rk
    cases hp : p (k + 1) with
    | true =>
      by_cases e : i = k + 1
      · subst e; rw [hp]; exact (decide_eq_true (by simp only [cond_true]; omega)).symm
      · exact ih i (by omega)
    | false =>
      have : ∀ j, j ≤ k + 1 → p j = true → p (k + 1) = true := by
        intro j hj hpj
        obtain ⟨t, ht⟩ : ∃ t, k + 1 = j + t := ⟨k + 1 - j, by omega⟩
        rw [ht]
        clear ht hj
        induction t with
        | zero => exact hpj
        | succ t iht => exact hm _ iht
      cases hi : p i with
      | true => have := this i h hi; rw [hp] at this; cases this
      | false => exact (decide_eq_false (by simp only [cond_false]; omega)).symm

/-- More than half of what is left out. -/
def over (n : Nat) (a b : Int) (k : Nat) : Bool := decide ((b - a) * ((2 ^ n : Nat) : Int) < 2 * ((tsum n k : Nat) : Int) * b)
theorem over_mono {n : Nat} {a b : Int} (hb : 0 ≤ b) (i : Nat) (h : over n a b i = true) : over n a b (i + 1) = true := by
  unfold over at h ⊢
  rw [decide_eq_true_eq] at h ⊢
  have h1 : 2 * ((tsum n i : Nat) : Int) ≤ 2 * ((tsum n (i + 1) : Nat) : Int) := by
    have := tsum_mono n (show i ≤ i + 1 by omega)
    omega
  exact Int.lt_of_lt_of_le h (Int.mul_le_mul_of_nonneg_right h1 hb)
theorem over_zero {n : Nat} {a b : Int} (h : a ≤ b) : over n a b 0 = false := by
  unfold over
  refine decide_eq_false ?_
  have : 0 ≤ (b - a) * ((2 ^ n : Nat) : Int) := Int.mul_nonneg (by omega) (Int.natCast_nonneg _)
  simp only [tsum]
  omega
theorem over_end {n : Nat} {a b : Int} (ha : 0 ≤ a) (hb : 1 ≤ b) : over n a b (n + 1) = true := by
  unfold over
  rw [tsum_all, decide_eq_true_eq]
  have h1 : (0 : Int) < ((2 ^ n : Nat) : Int) := by have := Nat.two_pow_pos n; omega
  have e : 2 * ((2 ^ n : Nat) : Int) * b = (2 * b) * ((2 ^ n : Nat) : Int) := by rw [Int.mul_comm (2 * b), ← Int.mul_assoc, Int.mul_comm ((2 ^ n : Nat) : Int) 2]
  rw [e]
  exact Int.mul_lt_mul_of_pos_right (by omega) h1
def ranksN (n : Nat) (a b : Int) : Nat := rk (over n a b) (n + 1)
theorem ranksN_le {n : Nat} {a b : Int} (ha : 0 ≤ a) (hb : 1 ≤ b) : ranksN n a b ≤ n := by
  unfold ranksN rk
  rw [over_end ha hb]
  exact rk_le _ _
theorem over_iff {n : Nat} {a b : Int} (ha : 0 ≤ a) (hab : a ≤ b) (i : Nat) (hi : i ≤ n + 1) : over n a b i = decide (ranksN n a b < i) :=
  rk_spec (fun i => over_mono (by omega) i) (over_zero hab) (n + 1) i hi

theorem redI_eq (h n : Nat) (h0 : 0 < n) : ∃ g : Nat, 0 < g ∧ (redI h n).1 * g = h ∧ (redI h n).2 * g = n ∧ 0 ≤ (redI h n).1 ∧ 0 < (redI h n).2 ∧ (redI h n).1 ≤ h ∧ (redI h n).2 ≤ n := by
  have hg : 0 < Nat.gcd h n := Nat.gcd_pos_of_pos_right _ h0
  refine ⟨Nat.gcd h n, hg, ?_, ?_, ?_, ?_, ?_, ?_⟩
  · show ((h / Nat.gcd h n : Nat) : Int) * ((Nat.gcd h n : Nat) : Int) = _
    rw [← Int.natCast_mul, Nat.div_mul_cancel (Nat.gcd_dvd_left h n)]
  · show ((n / Nat.gcd h n : Nat) : Int) * ((Nat.gcd h n : Nat) : Int) = _
    rw [← Int.natCast_mul, Nat.div_mul_cancel (Nat.gcd_dvd_right h n)]
  · exact Int.natCast_nonneg _
  · show (0 : Int) < ((n / Nat.gcd h n : Nat) : Int)
    have := Nat.div_pos (Nat.le_of_dvd h0 (Nat.gcd_dvd_right h n)) hg
    omega
  · show ((h / Nat.gcd h n : Nat) : Int) ≤ _
    have := Nat.div_le_self h (Nat.gcd h n)
    omega
  · show ((n / Nat.gcd h n : Nat) : Int) ≤ _
    have := Nat.div_le_self n (Nat.gcd h n)
    omega

theorem lt_scale {x y g : Int} (hg : 0 < g) : x * g < y * g ↔ x < y :=
  ⟨fun h => Int.lt_of_mul_lt_mul_right h (by omega), fun h => Int.mul_lt_mul_of_pos_right h hg⟩
/-- The comparison, with the reduced share. -/
theorem over_red (n : Nat) (a b : Int) (k : Nat) : over n a b k = decide ((b - a) * (redI (tsum n k) (2 ^ n)).2 < 2 * (redI (tsum n k) (2 ^ n)).1 * b) := by
  obtain ⟨g, hg, h1, h2, _⟩ := redI_eq (tsum n k) (2 ^ n) (Nat.two_pow_pos n)
  generalize (redI (tsum n k) (2 ^ n)).1 = p at h1 ⊢
  generalize (redI (tsum n k) (2 ^ n)).2 = q at h2 ⊢
  unfold over
  rw [decide_eq_decide, ← h1, ← h2]
  rw [show (b - a) * (q * (g : Int)) = (b - a) * q * g by rw [Int.mul_assoc], show 2 * (p * (g : Int)) * b = 2 * p * b * g by rw [← Int.mul_assoc, Int.mul_assoc, Int.mul_comm (g : Int), ← Int.mul_assoc]]
  exact lt_scale (by omega)

theorem sp_size22 (fu d a : Nat) (h : a < 9223372036854775808) : cl fu (d + 1) fn_synopticref22_size [I (a : Int)] [] = some ⟨V.c (C.v (.int .u64 a)), [], none⟩ := by
  rw [eq_synopticref22_size, show decide ((a : Int) < 0) = false from decide_eq_false (by omega), u64nat a (by omega)]; rfl
theorem sp_Product (fu d a b : Nat) (ha : a < 9223372036854775808) (hb : b < 9223372036854775808) :
    cl fu (d + 2) fn_synopticref22_Product [I (a : Int), I (b : Int)] [] = some ⟨V.agg [C.v (.int .i64 ((a * b / 18446744073709551616 : Nat) : Int)), C.v (.int .u64 ((a * b % 18446744073709551616 : Nat) : Int))], [], none⟩ := by
  rw [eq_synopticref22_Product, sp_size22 fu d a ha, sp_size22 fu d b hb]
  simp only [obs, rC_c, asI_int]
  rw [sp_Mul64 fu d a b (by omega) (by omega)]
  simp only [obs, rT_tup, uncV_cons, rC_c, asI_int, nilV_nil, show decide ((a : Int) < 0) = false from decide_eq_false (by omega), show decide ((b : Int) < 0) = false from decide_eq_false (by omega), beq_self_eq_true, Bool.not_true, cf]
  have : a * b ≤ 9223372036854775807 * 9223372036854775807 := Nat.mul_le_mul (by omega) (by omega)
  rw [IntWalk.i64_in _ ⟨by omega, by omega⟩]
theorem sp_Compare22 (fu d : Nat) (x y : Nat) :
    cl fu (d + 1) fn_synopticref22_Compare [V.agg [C.v (.int .i64 ((x / 18446744073709551616 : Nat) : Int)), C.v (.int .u64 ((x % 18446744073709551616 : Nat) : Int))], V.agg [C.v (.int .i64 ((y / 18446744073709551616 : Nat) : Int)), C.v (.int .u64 ((y % 18446744073709551616 : Nat) : Int))]] [] = some ⟨I (cmpI x y), [], none⟩ := by
  rw [eq_synopticref22_Compare, ← cmpI_words x y]
  generalize ((x / 18446744073709551616 : Nat) : Int) = a
  generalize ((x % 18446744073709551616 : Nat) : Int) = b
  generalize ((y / 18446744073709551616 : Nat) : Int) = c
  generalize ((y % 18446744073709551616 : Nat) : Int) = e
  by_cases h1 : a < c
  · have e1 : cmpI a c = -1 := if_pos h1
    rw [decide_eq_true h1, e1]; rfl
  · rw [show decide (a < c) = false from decide_eq_false h1]
    by_cases h2 : a = c
    · subst h2
      have e1 : cmpI a a = 0 := by unfold cmpI; rw [if_neg h1, if_neg h1]
      rw [e1, if_pos rfl]
      unfold cmpI
      simp only [beq_self_eq_true, cf, ct, Bool.true_and, Bool.and_true]
      by_cases h3 : b < e
      · rw [decide_eq_true h3, if_pos h3]; rfl
      · rw [show decide (b < e) = false from decide_eq_false h3, if_neg h3]
        by_cases h4 : b = e
        · subst h4; rw [if_neg h3]; simp
        · rw [show (b == e) = false by simpa using h4, if_pos (show b > e by omega)]; rfl
    · have : (a == c) = false := by simpa using h2
      have e1 : cmpI a c = 1 := by unfold cmpI; rw [if_neg h1, if_pos (by omega)]
      rw [this, e1]; rfl

theorem sp_ref_Compare (fu d : Nat) (a b p q : Int) (ha : 0 ≤ a ∧ a < 9223372036854775808) (hb : 0 ≤ b ∧ b < 9223372036854775808) (hp : 0 ≤ p ∧ p < 9223372036854775808) (hq : 0 ≤ q ∧ q < 9223372036854775808) :
    cl fu (d + 3) fn_synopticref38_Compare [V.agg [C.v (.int .i64 a), C.v (.int .i64 b)], V.agg [C.v (.int .i64 p), C.v (.int .i64 q)]] [] = some ⟨I (cmpI (a * q) (p * b)), [], none⟩ := by
  obtain ⟨a, rfl⟩ : ∃ m : Nat, a = m := ⟨a.toNat, by omega⟩
  obtain ⟨b, rfl⟩ : ∃ m : Nat, b = m := ⟨b.toNat, by omega⟩
  obtain ⟨p, rfl⟩ : ∃ m : Nat, p = m := ⟨p.toNat, by omega⟩
  obtain ⟨q, rfl⟩ : ∃ m : Nat, q = m := ⟨q.toNat, by omega⟩
  rw [eq_synopticref38_Compare, sp_Product fu d a q (by omega) (by omega), sp_Product fu d p b (by omega) (by omega)]
  simp only [obs, rA_agg, List.length_cons, List.length_nil, Nat.zero_add, Nat.reduceAdd, beqN_self, need_true, unc_cons, asI_int]
  have := sp_Compare22 fu (d + 1) (a * q) (p * b)
  rw [this]
  simp only [obs, rC_c, asI_int, Int.natCast_mul]

/-- What a level is. -/
def lvB (a b : Int) : Bool := (decide (1 ≤ b) && decide (b ≤ 1000000)) && ((decide (0 ≤ a) && decide (a ≤ b)) && (((redI a.toNat b.toNat).1 == a) && (((redI a.toNat b.toNat).2 == b) && true)))
theorem lvB_in {a b : Int} (h : lvB a b = true) : 1 ≤ b ∧ b ≤ 1000000 ∧ 0 ≤ a ∧ a ≤ b := by
  unfold lvB at h
  simp only [Bool.and_eq_true, decide_eq_true_eq] at h
  exact ⟨h.1.1, h.1.2, h.2.1.1, h.2.1.2⟩
theorem sp_reduced (fu d : Nat) (hf : 18446744073709551616 ≤ fu) (a b : Int) : cl fu (d + 3) fn_sampling_reduced [V.agg [C.v (.int .i64 a), C.v (.int .i64 b)]] [] = some ⟨B (lvB a b), [], none⟩ := by
  rw [eq_sampling_reduced, sp_within, sp_within]
  simp only [obs, rC_c, asB_bool]
  unfold lvB
  cases h1 : (decide (1 ≤ b) && decide (b ≤ 1000000)) with
  | false => rfl
  | true =>
    simp only [Bool.not_true, cf, Bool.true_and]
    cases h2 : (decide (0 ≤ a) && decide (a ≤ b)) with
    | false => rfl
    | true =>
      simp only [Bool.and_eq_true, decide_eq_true_eq] at h1 h2
      obtain ⟨x, rfl⟩ : ∃ m : Nat, a = m := ⟨a.toNat, by omega⟩
      obtain ⟨y, rfl⟩ : ∃ m : Nat, b = m := ⟨b.toNat, by omega⟩
      simp only [Bool.not_true, cf, Bool.true_and]
      rw [sp_Reduce_any fu d hf x y (by omega) (by omega) (by omega)]
      simp only [out3, obs, rT_tup, uncV_cons, rA_agg, List.length_cons, List.length_nil, Nat.zero_add, Nat.reduceAdd, beqN_self, need_true, unc_cons, asI_int, rC_c, nilV_nil, Int.toNat_natCast]
      rfl
theorem sp_ref_level (fu d : Nat) (hf : 18446744073709551616 ≤ fu) (a b : Int) : cl fu (d + 2) fn_synopticref39_level [V.agg [C.v (.int .i64 a), C.v (.int .i64 b)]] [] = some ⟨B (lvB a b), [], none⟩ := by
  rw [eq_synopticref39_level]
  unfold lvB
  by_cases h1 : a < 0
  · rw [decide_eq_true h1, show decide (0 ≤ a) = false from decide_eq_false (by omega)]; simp
  rw [show decide (a < 0) = false from decide_eq_false h1, show decide (0 ≤ a) = true from decide_eq_true (by omega)]
  by_cases h2 : b < 1
  · rw [decide_eq_true h2, show decide (1 ≤ b) = false from decide_eq_false (by omega)]; rfl
  rw [show decide (b < 1) = false from decide_eq_false h2, show decide (1 ≤ b) = true from decide_eq_true (by omega)]
  by_cases h3 : b > 1000000
  · rw [decide_eq_true h3, show decide (b ≤ 1000000) = false from decide_eq_false (by omega)]; rfl
  rw [show decide (b > 1000000) = false from decide_eq_false h3, show decide (b ≤ 1000000) = true from decide_eq_true (by omega)]
  by_cases h4 : a > b
  · rw [decide_eq_true h4, show decide (a ≤ b) = false from decide_eq_false (by omega)]; rfl
  rw [show decide (a > b) = false from decide_eq_false h4, show decide (a ≤ b) = true from decide_eq_true (by omega)]
  obtain ⟨x, rfl⟩ : ∃ m : Nat, a = m := ⟨a.toNat, by omega⟩
  obtain ⟨y, rfl⟩ : ∃ m : Nat, b = m := ⟨b.toNat, by omega⟩
  simp only [cf, Bool.true_and]
  rw [sp_ref_Reduce_nat fu d hf x y (by omega) (by omega) (by omega)]
  simp only [out3, obs, rT_tup, uncV_cons, rA_agg, List.length_cons, List.length_nil, Nat.zero_add, Nat.reduceAdd, beqN_self, need_true, unc_cons, asI_int, rC_c, nilV_nil, Int.toNat_natCast]

def ranksR (n a b : Int) : Int × Int := if 0 ≤ n ∧ n ≤ 50 ∧ lvB a b = true then (((ranksN n.toNat a b : Nat) : Int), 0) else (0, 1)

theorem upto_nat (n k : Nat) (h : k ≤ n) : upto n (k : Int) = k + 1 := by unfold upto; rw [if_neg (by omega)]; simp; omega
theorem tail_nat (n k : Nat) (hn : n ≤ 50) (hk : k ≤ n) : tailR (n : Int) (k : Int) = ((redI (tsum n (k + 1)) (2 ^ n)).1, (redI (tsum n (k + 1)) (2 ^ n)).2, 0) := by
  unfold tailR
  rw [if_pos ⟨by omega, by omega⟩]
  simp only [Int.toNat_natCast, upto_nat n k hk]
theorem cmpI_le {x y : Int} : decide (cmpI x y ≤ 0) = !decide (y < x) := by
  unfold cmpI
  by_cases h1 : x < y
  · rw [if_pos h1, show decide (y < x) = false from decide_eq_false (by omega)]; rfl
  · rw [if_neg h1]
    by_cases h2 : x > y
    · rw [if_pos h2, show decide (y < x) = true from decide_eq_true h2]; rfl
    · rw [if_neg h2, show decide (y < x) = false from decide_eq_false h2]; rfl
theorem cmpI_gt {x y : Int} : decide (cmpI x y > 0) = decide (y < x) := by
  unfold cmpI
  by_cases h1 : x < y
  · rw [if_pos h1, show decide (y < x) = false from decide_eq_false (by omega)]; rfl
  · rw [if_neg h1]
    by_cases h2 : x > y
    · rw [if_pos h2, show decide (y < x) = true from decide_eq_true h2]; rfl
    · rw [if_neg h2, show decide (y < x) = false from decide_eq_false h2]; rfl

theorem sp_Ranks (fu d : Nat) (hf : 18446744073709551616 ≤ fu) (n a b : Int) : cl fu (d + 5) fn_sampling_Ranks [I n, V.agg [C.v (.int .i64 a), C.v (.int .i64 b)]] [] = some ⟨V.tup [I (ranksR n a b).1, I (ranksR n a b).2], [], none⟩ := by
  rw [eq_sampling_Ranks, sp_within]
  simp only [obs, rC_c, asB_bool]
  unfold ranksR
  by_cases hn : 0 ≤ n ∧ n ≤ 50
  · rw [decide_eq_true hn.1, decide_eq_true hn.2]
    simp only [Bool.and_self, Bool.not_true, cf]
    rw [sp_reduced fu (d + 1) hf]
    simp only [obs, rC_c, asB_bool]
    cases hl : lvB a b with
    | false => rw [if_neg (by simp)]; rfl
    | true =>
      obtain ⟨l1, l2, l3, l4⟩ := lvB_in hl
      rw [if_pos ⟨hn.1, hn.2, rfl⟩]
      obtain ⟨n, rfl⟩ : ∃ m : Nat, n = m := ⟨n.toNat, by omega⟩
      have hn : n ≤ 50 := by omega
      have hr := ranksN_le (n := n) l3 l1
      simp only [Bool.not_true, cf, Int.toNat_natCast]
      rw [IntWalk.i64_in ((n : Int) + 1) ⟨by omega, by omega⟩, IntWalk.i64_in (b - a) ⟨by omega, by omega⟩, IntWalk.i64_in (2 * b) ⟨by omega, by omega⟩]
      have h0 : ((0 : Int), (1 : Int), ()) = (fun j : Nat => (((min j (ranksN n a b) : Nat) : Int), ((j + 1 : Nat) : Int), ())) 0 := by simp
      rw [h0, iter_run (fun j : Nat => (((min j (ranksN n a b) : Nat) : Int), ((j + 1 : Nat) : Int), ())) 0 (((ranksN n a b : Nat) : Int), ((n + 2 : Nat) : Int), ()) (n + 1) 0 fu ?_ ?_ (by omega)]
      · simp only [obs]
      · intro j _ hj
        have hj : j ≤ n := by omega
        simp only [decide_eq_true (show ((j + 1 : Nat) : Int) ≤ (n : Int) + 1 by omega), ct]
        rw [IntWalk.i64_in (((j + 1 : Nat) : Int) - 1) ⟨by omega, by omega⟩, show ((j + 1 : Nat) : Int) - 1 = (j : Int) by omega, sp_Tail_any fu (d + 1) hf, tail_nat n j hn hj]
        obtain ⟨g, hg, q1, q2, q3, q4, q5, q6⟩ := redI_eq (tsum n (j + 1)) (2 ^ n) (Nat.two_pow_pos n)
        have b1 := tsum_le n (j + 1)
        have b2 := pow50 n hn
        simp only [out3, obs, rT_tup, uncV_cons, rA_agg, List.length_cons, List.length_nil, Nat.zero_add, Nat.reduceAdd, beqN_self, need_true, unc_cons, asI_int, rC_c, nilV_nil, beq_self_eq_true, ct]
        rw [sp_Compare fu d hf _ _ _ _ ⟨by omega, by omega⟩ ⟨by omega, by omega⟩ ⟨by omega, by omega⟩ ⟨by omega, by omega⟩]
        simp only [obs, rC_c, asI_int, cmpI_le]
        rw [show (redI (tsum n (j + 1)) (2 ^ n)).1 * (2 * b) = 2 * (redI (tsum n (j + 1)) (2 ^ n)).1 * b by rw [← Int.mul_assoc, Int.mul_comm _ 2], ← over_red, over_iff l3 l4 (j + 1) (by omega)]
        rw [IntWalk.i64_in (((j + 1 : Nat) : Int) + 1) ⟨by omega, by omega⟩]
        by_cases hc : ranksN n a b < j + 1
        · rw [decide_eq_true hc]
          simp only [Bool.not_true, cf]
          rw [show min j (ranksN n a b) = min (j + 1) (ranksN n a b) by omega]
          rfl
        · rw [show decide (ranksN n a b < j + 1) = false from decide_eq_false hc]
          simp only [Bool.not_false, ct]
          rw [show min (j + 1) (ranksN n a b) = j + 1 by omega]
          rfl
      · simp only [Nat.zero_add, show decide (((n + 1 + 1 : Nat) : Int) ≤ (n : Int) + 1) = false from decide_eq_false (by omega), cf]
        rw [show min (n + 1) (ranksN n a b) = ranksN n a b by omega]
  · have : (decide (0 ≤ n) && decide (n ≤ 50)) = false := by
      rw [Bool.and_eq_false_iff]; by_cases h2 : 0 ≤ n
      · exact .inr (decide_eq_false (by omega))
      · exact .inl (decide_eq_false h2)
    rw [this, if_neg (by omega)]; rfl

theorem sp_ref_Ranks (fu d : Nat) (hf : 18446744073709551616 ≤ fu) (n a b : Int) : cl fu (d + 4) fn_synopticref39_Ranks [I n, V.agg [C.v (.int .i64 a), C.v (.int .i64 b)]] [] = some ⟨V.tup [I (ranksR n a b).1, I (ranksR n a b).2], [], none⟩ := by
  rw [eq_synopticref39_Ranks]
  unfold ranksR
  by_cases h1 : n < 0
  · rw [decide_eq_true h1, if_neg (by omega)]; rfl
  rw [show decide (n < 0) = false from decide_eq_false h1]
  by_cases h2 : n > 50
  · rw [decide_eq_true h2, if_neg (by omega)]; rfl
  rw [show decide (n > 50) = false from decide_eq_false h2]
  simp only [cf]
  rw [sp_ref_level fu (d + 1) hf]
  simp only [obs, rC_c, asB_bool]
  cases hl : lvB a b with
  | false => rw [if_neg (by simp)]; rfl
  | true =>
    obtain ⟨l1, l2, l3, l4⟩ := lvB_in hl
    rw [if_pos ⟨by omega, by omega, rfl⟩]
    obtain ⟨n, rfl⟩ : ∃ m : Nat, n = m := ⟨n.toNat, by omega⟩
    have hn : n ≤ 50 := by omega
    have hr := ranksN_le (n := n) l3 l1
    simp only [Bool.not_true, cf, Int.toNat_natCast]
    rw [IntWalk.i64_in (b - a) ⟨by omega, by omega⟩]
    have step : ∀ j : Nat, j ≤ n → (cl fu (d + 3) fn_synopticref39_Tail [I (n : Int), I (j : Int)] []) = some (out3 ((redI (tsum n (j + 1)) (2 ^ n)).1, (redI (tsum n (j + 1)) (2 ^ n)).2, 0)) := fun j hj => by
      rw [sp_ref_Tail_any fu (d + 1) hf, tail_nat n j hn hj]
    have cmp : ∀ j : Nat, j ≤ n → cl fu (d + 3) fn_synopticref38_Compare [V.agg ([C.v (.int .i64 (IntKind.i64.wrap (2 * (redI (tsum n (j + 1)) (2 ^ n)).1))), C.v (.int .i64 (redI (tsum n (j + 1)) (2 ^ n)).2)]), V.agg ([C.v (.int .i64 (b - a)), C.v (.int .i64 b)])] [] = some ⟨I (cmpI (2 * (redI (tsum n (j + 1)) (2 ^ n)).1 * b) ((b - a) * (redI (tsum n (j + 1)) (2 ^ n)).2)), [], none⟩ := fun j hj => by
      obtain ⟨g, hg, q1, q2, q3, q4, q5, q6⟩ := redI_eq (tsum n (j + 1)) (2 ^ n) (Nat.two_pow_pos n)
      have b1 := tsum_le n (j + 1)
      have b2 := pow50 n hn
      rw [IntWalk.i64_in (2 * (redI (tsum n (j + 1)) (2 ^ n)).1) ⟨by omega, by omega⟩]
      exact sp_ref_Compare fu d _ _ _ _ ⟨by omega, by omega⟩ ⟨by omega, by omega⟩ ⟨by omega, by omega⟩ ⟨by omega, by omega⟩
    have h0 : ((0 : Int), ()) = (fun j : Nat => ((j : Int), ())) 0 := rfl
    rw [h0, iter_run (fun j : Nat => ((j : Int), ())) 0 (((ranksN n a b : Nat) : Int), ()) (ranksN n a b) 0 fu ?_ ?_ (by omega)]
    · simp only [obs]
    · intro j _ hj
      have hj : j < ranksN n a b := by omega
      simp only [decide_eq_true (show (j : Int) ≤ (n : Int) by omega), ct]
      rw [step j (by omega)]
      simp only [out3, obs, rT_tup, uncV_cons, rA_agg, List.length_cons, List.length_nil, Nat.zero_add, Nat.reduceAdd, beqN_self, need_true, unc_cons, asI_int, rC_c, nilV_nil]
      rw [cmp j (by omega)]
      simp only [obs, rC_c, asI_int, cmpI_gt]
      rw [← over_red, over_iff l3 l4 (j + 1) (by omega), show decide (ranksN n a b < j + 1) = false from decide_eq_false (by omega), IntWalk.i64_in ((j : Int) + 1) ⟨by omega, by omega⟩]
      rfl
    · simp only [Nat.zero_add, decide_eq_true (show ((ranksN n a b : Nat) : Int) ≤ (n : Int) by omega), ct]
      rw [step _ hr]
      simp only [out3, obs, rT_tup, uncV_cons, rA_agg, List.length_cons, List.length_nil, Nat.zero_add, Nat.reduceAdd, beqN_self, need_true, unc_cons, asI_int, rC_c, nilV_nil]
      rw [cmp _ hr]
      simp only [obs, rC_c, asI_int, cmpI_gt]
      rw [← over_red, over_iff l3 l4 _ (by omega), show decide (ranksN n a b < ranksN n a b + 1) = true from decide_eq_true (by omega)]
      rfl

end Go.Proofs.Ytepjbmlhfhahcaa
/- Sorted, each once: the plain laws. -/
namespace Go.PM
open Go Go.Lib

theorem mem_sortI {l : List Int} {x : Int} : x ∈ sortI l ↔ x ∈ l := by simp [sortI, List.mem_mergeSort]
theorem sorted_sortI (l : List Int) : (sortI l).Pairwise (· ≤ ·) := by
  have h := List.pairwise_mergeSort (le := fun x y : Int => decide (x ≤ y)) (by intro a b c; simp; omega) (by intro a b; simp; omega) l
  exact h.imp fun h => by simpa using h

theorem mem_compactUpTo (d : Array Int) (x : Int) : ∀ m, x ∈ compactUpTo d m ↔ ∃ j, j < m ∧ d[j]! = x
  | 0 => by simp [compactUpTo]
  | m + 1 => by
    rw [compactUpTo_succ, List.mem_append, mem_compactUpTo d x m]
    constructor
    · rintro (⟨j, hj, h⟩ | h)
      · exact ⟨j, by omega, h⟩
      · split at h
        · simp at h; exact ⟨m, by omega, h.symm⟩
        · cases h
    · rintro ⟨j, hj, h⟩
      by_cases hjm : j < m
      · exact .inl ⟨j, hjm, h⟩
      · obtain rfl : j = m := by omega
        cases hk : keeps d j with
        | true => exact .inr (by simp [h])
        | false =>
          simp only [keeps, decide_eq_false_iff_not] at hk
          by_cases h0 : j = 0
          · exact absurd (.inl h0) hk
          · refine .inl ⟨j - 1, by omega, ?_⟩
            rw [← h]
            exact Decidable.byContradiction fun hne => hk (.inr (Ne.symm hne))
theorem compactUpTo_lt (d : Array Int) (n : Nat) (hs : ∀ i j, i < j → j < n → d[i]! ≤ d[j]!) : ∀ m, m ≤ n → (compactUpTo d m).Pairwise (· < ·)
  | 0, _ => by simp [compactUpTo]
  | m + 1, hm => by
    have ih := compactUpTo_lt d n hs m (by omega)
    rw [compactUpTo_succ]
    split
    · rename_i hk
      rw [List.pairwise_append]
      refine ⟨ih, by simp, fun x hx y hy => ?_⟩
      simp at hy
      subst hy
      obtain ⟨j, hj, rfl⟩ := (mem_compactUpTo d x m).1 hx
      simp only [keeps, decide_eq_true_eq] at hk
      have h1 : d[m - 1]! ≤ d[m]! := hs _ _ (by omega) (by omega)
      have h2 : d[m]! ≠ d[m - 1]! := hk.resolve_left (by omega)
      by_cases e : j = m - 1
      · subst e; omega
      · have := hs j (m - 1) (by omega) (by omega); omega
    · simpa using ih
theorem get_list (l : List Int) (i : Nat) (h : i < l.length) : l.toArray[i]! = l[i] := by simp [h]
theorem mem_compactI {l : List Int} {x : Int} : x ∈ compactI l ↔ x ∈ l := by
  unfold compactI Lib.compact
  rw [mem_compactUpTo]
  constructor
  · rintro ⟨j, hj, h⟩
    rw [get_list l j hj] at h
    rw [← h]; exact List.getElem_mem hj
  · intro h
    obtain ⟨j, hj, e⟩ := List.mem_iff_getElem.1 h
    exact ⟨j, hj, by rw [get_list l j hj]; exact e⟩
theorem compactI_lt {l : List Int} (h : l.Pairwise (· ≤ ·)) : (compactI l).Pairwise (· < ·) := by
  refine compactUpTo_lt _ l.length (fun i j hij hj => ?_) _ (Nat.le_refl _)
  rw [get_list l i (by omega), get_list l j hj]
  exact List.pairwise_iff_getElem.1 h i j (by omega) hj hij
theorem compactI_length (l : List Int) : (compactI l).length ≤ l.length := by
  unfold compactI Lib.compact compactUpTo
  rw [List.length_map]
  have := List.length_filter_le (keeps l.toArray) (List.range l.length)
  simpa using this
/-- Each once, ascending. -/
def setI (l : List Int) : List Int := compactI (sortI l)
theorem mem_setI {l : List Int} {x : Int} : x ∈ setI l ↔ x ∈ l := by unfold setI; rw [mem_compactI, mem_sortI]
theorem setI_lt (l : List Int) : (setI l).Pairwise (· < ·) := compactI_lt (sorted_sortI l)
theorem setI_length (l : List Int) : (setI l).length ≤ l.length := by
  have := compactI_length (sortI l); rw [sortI_length] at this; exact this
theorem setI_nil {l : List Int} (h : l = []) : setI l = [] := by subst h; exact List.eq_nil_of_length_eq_zero (by have := setI_length []; simpa using this)
/-- Two ascending lists of the same elements. -/
theorem asc_ext : ∀ {a b : List Int}, a.Pairwise (· < ·) → b.Pairwise (· < ·) → (∀ x, x ∈ a ↔ x ∈ b) → a = b
  | [], [], _, _, _ => rfl
  | [], y :: b, _, _, h => by have := (h y).2 (by simp); cases this
  | x :: a, [], _, _, h => by have := (h x).1 (by simp); cases this
  | x :: a, y :: b, ha, hb, h => by
    rw [List.pairwise_cons] at ha hb
    have hxy : x = y := by
      have h1 := (h x).1 (by simp)
      have h2 := (h y).2 (by simp)
      rcases List.mem_cons.1 h1 with h1 | h1
      · exact h1
      · rcases List.mem_cons.1 h2 with h2 | h2
        · exact h2.symm
        · have := hb.1 x h1; have := ha.1 y h2; omega
    subst hxy
    congr 1
    refine asc_ext ha.2 hb.2 fun z => ?_
    constructor
    · intro hz
      have := (h z).1 (by simp [hz])
      rcases List.mem_cons.1 this with e | e
      · have := ha.1 z hz; omega
      · exact e
    · intro hz
      have := (h z).2 (by simp [hz])
      rcases List.mem_cons.1 this with e | e
      · have := hb.1 z hz; omega
      · exact e
end Go.PM
/- Sorted samples, Median. -/
namespace Go.Proofs.Ytepjbmlhfhahcaa
open Go Go.PM

theorem cl_Sort (fu d : Nat) (args : List V) (objs : List PM.Obj) : cl fu (d + 1) fn_slices_Sort_sint_int args objs = sortP ty_int args objs := by kernel_rfl
theorem sp_Sort (fu d : Nat) (l : List Int) (h : l.length ≤ 1000000000) : cl fu (d + 1) fn_slices_Sort_sint_int [V.own 1000000 0 l.length] [.sb ty_int 0 (ints l)] = some ⟨V.tup [], [.sb ty_int 0 (ints (sortI l))], none⟩ := by
  rw [cl_Sort, sortP, wholeI_of (by omega)]; rfl

theorem iter_values (d : Nat) (a : List Int) (h : a.length ≤ 1000000000000) : prim.iter (d + 1) fn_slices_Values_sint_int_1 [C.cp [C.sl a.length (ints a)]] = some (a.map fun n => [V.c (C.v (.int .i64 n))]) := by
  show iterC fn_slices_Values_sint_int_1 [C.cp [C.sl a.length (ints a)]] = _
  unfold iterC
  rw [show Nat.beq fn_slices_Values_sint_int_1 fn_sampling_choices_1 = false from rfl]
  simp only [cf, ct, beqN_self, asP_cp, unc_cons, asSl_sl, ik_length, bleN_le h, Bool.and_self, need_true]
  exact elems_ints a

theorem sp_AppendSeq (fu d : Nat) (a : List Int) (h : a.length ≤ 1000000) : cl fu (d + 2) fn_slices_AppendSeq_sint_int [V.c C.nl, V.c (C.fn fn_slices_Values_sint_int_1 [C.cp [C.sl a.length (ints a)]])] [] = some ⟨V.own 1000000 0 a.length, [.sb ty_int 0 (ints a)], none⟩ := by
  rw [eq1_slices_AppendSeq_sint_int, iter_values d a (by omega)]
  simp only [obs]
  have h0 : ((([] : List C), ()), ()) = (fun j : Nat => ((ints (a.take j), ()), ())) 0 := rfl
  rw [h0, overK_run (a.map fun n => [V.c (C.v (.int .i64 n))]) (fun j : Nat => ((ints (a.take j), ()), ()))]
  · simp only [obs, List.length_map, List.take_length, ik_length, Nat.div_one, Nat.mul_one, bleN_le (Nat.le_refl _), Bool.and_self, need_true, ik_take]
  · intro j hj
    have hj' : j < a.length := by simpa using hj
    simp only [List.getElem_map, uncV_cons, rC_c, asI_int, nilV_nil, ik_length, List.length_take, Nat.div_one, Nat.mul_one, List.length_append, List.length_cons, List.length_nil, beqN_self, ik_snoc, Nat.zero_add, Bool.and_true, Bool.true_and]
    rw [bleN_le (show (min j a.length + 1) * 8 ≤ 140737488355328 by omega), bleN_le (show min j a.length + 1 ≤ 140737488355328 by omega)]
    simp only [Bool.and_self, need_true]
    rw [List.take_append_getElem]

theorem sp_Sorted (fu d : Nat) (a : List Int) (h : a.length ≤ 1000000) : cl fu (d + 4) fn_slices_Sorted_int [V.c (C.fn fn_slices_Values_sint_int_1 [C.cp [C.sl a.length (ints a)]])] [] = some ⟨V.c (C.sl a.length (ints (sortI a))), [], none⟩ := by
  rw [eq1_slices_Sorted_int, eq1_slices_Collect_int, sp_AppendSeq fu d a h]
  simp only [obs, rW_own, show Nat.beq 1000000 OUT = true from rfl, Nat.add_zero, uncO_cons, rS_sb, beqN_self, Bool.and_self, Bool.and_true, need_true, Nat.mul_one, ik_length, bleN_le (Nat.le_refl _), ik_take, List.take_length]
  rw [sp_Sort fu (d + 2) a (by omega)]
  simp only [obs, uncO_cons, rS_sb, beqN_self, Bool.and_self, need_true, ik_length, sortI_length, Nat.zero_add, bleN_le (Nat.le_refl _), ik_take]
  rw [← sortI_length a, List.take_length]

/-- Moved up by one from a place on. -/
def gapI (s : List Int) (k : Nat) (w : Int) : List Int := s.take k ++ w :: s.drop k
theorem gapI_length (s : List Int) (k : Nat) (w : Int) : (gapI s k w).length = s.length + 1 := by
  simp only [gapI, List.length_append, List.length_cons, List.length_take, List.length_drop]; omega
theorem gapI_get (s : List Int) (k j : Nat) (w : Int) (hk : k ≤ s.length) (hj : j < k) (h : j < (gapI s k w).length) : (gapI s k w)[j] = s[j] := by
  simp only [gapI]
  rw [List.getElem_append_left (by simp; omega), List.getElem_take]
theorem gapI_set (s : List Int) (k : Nat) (w x : Int) (hk : k ≤ s.length) : (gapI s k w).set k x = gapI s k x := by
  simp only [gapI]
  have hl : (s.take k).length = k := by rw [List.length_take]; omega
  rw [List.set_append_right _ _ (by omega), hl, Nat.sub_self, List.set_cons_zero]
theorem gapI_down (s : List Int) (k : Nat) (hk : k < s.length) : gapI s (k + 1) s[k] = gapI s k s[k] := by
  simp only [gapI]
  have e1 : s.take (k + 1) = s.take k ++ [s[k]] := (List.take_append_getElem hk).symm
  have e2 : s.drop k = s[k] :: s.drop (k + 1) := List.drop_eq_getElem_cons hk
  rw [e1, e2, List.append_assoc]; rfl

theorem perm_gapI (s : List Int) (k : Nat) (w : Int) : (gapI s k w).Perm (w :: s) := by
  unfold gapI
  exact List.perm_middle.trans (by rw [List.take_append_drop])

theorem sorted_gapI {s : List Int} {k : Nat} {w : Int} (hs : s.Pairwise (· ≤ ·)) (hk : k ≤ s.length) (h1 : ∀ j (hj : j < s.length), j + 1 = k → s[j] ≤ w) (h2 : ∀ j (hj : j < s.length), k ≤ j → w < s[j]) : (gapI s k w).Pairwise (· ≤ ·) := by
  have h1' : ∀ x ∈ s.take k, x ≤ w := by
    intro x hx
    obtain ⟨j, hj, rfl⟩ := List.mem_iff_getElem.1 hx
    rw [List.length_take] at hj
    rw [List.getElem_take]
    by_cases e : j + 1 = k
    · exact h1 j (by omega) e
    · have := List.pairwise_iff_getElem.1 hs j (k - 1) (by omega) (by omega) (by omega)
      exact Int.le_trans this (h1 (k - 1) (by omega) (by omega))
  have h2' : ∀ x ∈ s.drop k, w ≤ x := by
    intro x hx
    obtain ⟨j, hj, rfl⟩ := List.mem_iff_getElem.1 hx
    rw [List.getElem_drop]
    rw [List.length_drop] at hj
    exact Int.le_of_lt (h2 (k + j) (by omega) (by omega))
  unfold gapI
  rw [List.pairwise_append]
  refine ⟨hs.sublist (List.take_sublist _ _), List.pairwise_cons.2 ⟨h2', hs.sublist (List.drop_sublist _ _)⟩, fun x hx y hy => ?_⟩
  rcases List.mem_cons.1 hy with rfl | hy
  · exact h1' x hx
  · exact Int.le_trans (h1' x hx) (h2' y hy)

theorem sorted_perm {a b : List Int} (ha : a.Pairwise (· ≤ ·)) (hb : b.Pairwise (· ≤ ·)) (h : a.Perm b) : a = b :=
  h.eq_of_pairwise (fun x y _ _ h1 h2 => Int.le_antisymm h1 h2) ha hb
theorem sortI_perm (a : List Int) : (sortI a).Perm a := List.mergeSort_perm _ _

theorem sp_ref_sorted (fu d : Nat) (hf : 18446744073709551616 ≤ fu) (a : List Int) (h : a.length ≤ 1000000) : cl fu (d + 1) fn_synopticref39_sorted [V.c (C.sl a.length (ints a))] [] = some ⟨V.c (C.sl a.length (ints (sortI a))), [], none⟩ := by
  rw [eq_synopticref39_sorted]
  have h0 : (([] : List C), (0 : Int), ()) = (fun j : Nat => (ints (sortI (a.take j)), (j : Int), ())) 0 := by simp [sortI, ik]
  rw [h0, iter_run (fun j : Nat => (ints (sortI (a.take j)), (j : Int), ())) 0 (ints (sortI a), (a.length : Int), ()) a.length 0 fu ?_ ?_ (by omega)]
  · simp only [obs, ik_length, sortI_length, Nat.div_one, Nat.mul_one, Nat.zero_add, bleN_le (Nat.le_refl _), need_true, ik_take]
    rw [← sortI_length a, List.take_length]
  · intro j _ hj
    have hj : j < a.length := by omega
    have hsl : (sortI (a.take j)).length = j := by rw [sortI_length, List.length_take]; omega
    have hss := sorted_sortI (a.take j)
    have hsp := sortI_perm (a.take j)
    have hsnext : ∀ k, (gapI (sortI (a.take j)) k a[j]).Pairwise (· ≤ ·) → gapI (sortI (a.take j)) k a[j] = sortI (a.take (j + 1)) := fun k hk => by
      refine sorted_perm hk (sorted_sortI _) (((perm_gapI _ _ _).trans ?_).trans (sortI_perm _).symm)
      rw [← List.take_append_getElem hj]
      exact (hsp.cons _).trans (List.perm_append_singleton _ _).symm
    generalize sortI (a.take j) = s at hsl hss hsnext ⊢
    simp only [lt_yes (show (j : Int) < (a.length : Int) by omega), ct, inR_nat hj, need_true, Int.toNat_natCast, Nat.mul_one, unc_ik hj, asI_int, ik_length, hsl, Nat.div_one, beqN_self, Bool.and_true, Bool.true_and, ik_snoc, List.length_append, List.length_cons, List.length_nil, Nat.zero_add]
    rw [bleN_le (show (j + 1) * 8 ≤ 140737488355328 by omega), bleN_le (show j + 1 ≤ 140737488355328 by omega)]
    simp only [Bool.and_self, need_true]
    rw [show s ++ [a[j]] = gapI s j a[j] by simp only [gapI]; rw [List.take_of_length_le (by omega), List.drop_of_length_le (by omega)]]
    generalize hbody : (fun (y1 : List C × Int × Unit) => _) = body
    obtain ⟨e, z, r1, r2⟩ := iter_meas (body := body) (fun y => ∃ (k : Nat) (w : Int), k ≤ j ∧ y = (ints (gapI s k w), (k : Int), ()) ∧ ∀ i (hi : i < s.length), k ≤ i → a[j] < s[i]) (fun y => y.2.1.toNat) (fun e z => e = 0 ∧ ∃ (k : Nat) (w : Int), k ≤ j ∧ z = (ints (gapI s k w), (k : Int), ()) ∧ (∀ i (hi : i < s.length), k ≤ i → a[j] < s[i]) ∧ ∀ i (hi : i < s.length), i + 1 = k → s[i] ≤ a[j]) (by
      rintro y ⟨k, w, hk, rfl, hall⟩
      subst hbody
      have hlen : (gapI s k w).length = j + 1 := by rw [gapI_length, hsl]
      cases k with
      | zero =>
        refine .inr ⟨0, (ints (gapI s 0 w), (0 : Int), ()), ?_, rfl, 0, w, hk, rfl, hall, fun i _ e => by omega⟩
        simp
      | succ k =>
        have hks : k < s.length := by omega
        simp only [decide_eq_true (show ((k + 1 : Nat) : Int) > 0 by omega), ct, ik_length, hlen, Nat.div_one, Nat.zero_add, Int.toNat_natCast, Nat.mul_one]
        rw [IntWalk.i64_in (((k + 1 : Nat) : Int) - 1) ⟨by omega, by omega⟩, show ((k + 1 : Nat) : Int) - 1 = (k : Int) by omega]
        simp only [inR_nat (show k < j + 1 by omega), need_true, Int.toNat_natCast, unc_ik (show k < (gapI s (k + 1) w).length by omega), asI_int, inR_nat hj, unc_ik hj, gapI_get s (k + 1) k w (by omega) (by omega)]
        by_cases hc : s[k] > a[j]
        · refine .inl ⟨(ints (gapI s k s[k]), (k : Int), ()), ?_, ⟨k, s[k], by omega, rfl, fun i hi hki => ?_⟩, by simp only [Int.toNat_natCast]; omega⟩
          · simp only [decide_eq_true hc, ct, inR_nat (show k + 1 < j + 1 by omega), need_true, bleN_le (Nat.zero_le _), bleN_le (show k + 1 + 1 ≤ j + 1 by omega), Bool.and_self, Bool.and_true]
            rw [ik_put (show k + 1 < (gapI s (k + 1) w).length by omega), gapI_set _ _ _ _ (by omega), gapI_down s k hks]
            simp only [ik_length, gapI_length, hsl, beqN_self, need_true]
          · by_cases e : i = k
            · subst e; exact hc
            · exact hall i hi (by omega)
        · refine .inr ⟨0, (ints (gapI s (k + 1) w), ((k + 1 : Nat) : Int), ()), ?_, rfl, k + 1, w, hk, rfl, hall, fun i hi e => ?_⟩
          · simp only [show decide (s[k] > a[j]) = false from decide_eq_false hc, cf, beqN_self, Bool.and_self, need_true]
          · have : i = k := by omega
            subst this; omega) fu (ints (gapI s j a[j]), (j : Int), ()) ⟨j, a[j], Nat.le_refl _, rfl, fun i hi h => by omega⟩ (by simp only [Int.toNat_natCast]; omega)
    rw [r1]
    obtain ⟨rfl, k, w, hk, rfl, hall, hle⟩ := r2
    have hlen : (gapI s k w).length = j + 1 := by rw [gapI_length, hsl]
    simp only [obs, ik_length, hlen, Nat.div_one, inR_nat (show k < j + 1 by omega), need_true, Nat.zero_add, Int.toNat_natCast, Nat.mul_one, bleN_le (Nat.zero_le _), bleN_le (show k + 1 ≤ j + 1 by omega), Bool.and_self, Bool.and_true]
    rw [ik_put (show k < (gapI s k w).length by omega), gapI_set _ _ _ _ (by omega)]
    simp only [ik_length, gapI_length, hsl, beqN_self, need_true]
    rw [hsnext k (sorted_gapI hss (by omega) hle hall), IntWalk.i64_in ((j : Int) + 1) ⟨by omega, by omega⟩]
    rfl
  · simp only [Nat.zero_add, show decide ((a.length : Int) < (a.length : Int)) = false from decide_eq_false (by omega), cf, List.take_length, ik_length, sortI_length, Nat.div_one, Nat.mul_one, beqN_self, Bool.and_self, need_true]

theorem getD_at {l : List Int} {k : Nat} (h : k < l.length) : l.getD k 0 = l[k] := by simp [List.getD, List.getElem?_eq_getElem h]

/-- The interval for the median. -/
def medR (s : List Int) (a b : Int) : Int × Int × Int :=
  if s.length ≤ 50 ∧ s.any outB = false then
    if (ranksR (s.length : Int) a b).2 ≠ 0 then (0, 0, (ranksR (s.length : Int) a b).2)
    else if (ranksR (s.length : Int) a b).1 = 0 then (0, 0, 9)
    else ((sortI s).getD ((ranksR (s.length : Int) a b).1 - 1).toNat 0, (sortI s).getD ((s.length : Int) - (ranksR (s.length : Int) a b).1).toNat 0, 0)
  else (0, 0, 1)

theorem ranksR_cases (n a b : Int) : (ranksR n a b = (0, 1)) ∨ ∃ r : Nat, ranksR n a b = ((r : Int), 0) ∧ (r : Int) ≤ n ∧ r = ranksN n.toNat a b ∧ lvB a b = true := by
  unfold ranksR
  split
  · rename_i h
    obtain ⟨l1, l2, l3, l4⟩ := lvB_in h.2.2
    have := ranksN_le (n := n.toNat) l3 l1
    exact .inr ⟨_, rfl, by omega, rfl, h.2.2⟩
  · exact .inl rfl

theorem sp_Median (fu d : Nat) (hf : 18446744073709551616 ≤ fu) (s : List Int) (a b : Int) (hs : s.length ≤ 1000000000000) :
    cl fu (d + 6) fn_sampling_Median [V.c (C.sl s.length (ints s)), V.agg [C.v (.int .i64 a), C.v (.int .i64 b)]] [] = some ⟨V.tup [I (medR s a b).1, I (medR s a b).2.1, I (medR s a b).2.2], [], none⟩ := by
  rw [eq_sampling_Median]
  unfold medR
  by_cases h1 : s.length ≤ 50
  · rw [show decide ((s.length : Int) > 50) = false from decide_eq_false (by omega)]
    simp only [cf]
    rw [sp_outside fu _ hf s hs]
    simp only [obs, rC_c, asB_bool]
    cases h2 : s.any outB with
    | true => rw [if_neg (by simp)]; rfl
    | false =>
      rw [if_pos ⟨h1, rfl⟩]
      simp only [cf]
      rw [sp_Ranks fu d hf]
      simp only [obs, rT_tup, uncV_cons, rC_c, asI_int, nilV_nil]
      rcases ranksR_cases (s.length : Int) a b with e | ⟨r, e, hr, _⟩
      · rw [e]; rfl
      · rw [e]
        simp only [ne_eq, not_true_eq_false, if_false, bne_self_eq_false, cf]
        by_cases h3 : r = 0
        · subst h3; rfl
        · rw [show (((r : Nat) : Int) == 0) = false by simpa using h3, if_neg (by omega)]
          simp only [cf]
          rw [eq_slices_Values_sint_int]
          simp only [obs, rC_c, noYl_fn, need_true]
          rw [sp_Sorted fu (d + 1) s (by omega)]
          simp only [obs, rC_c, asSl_sl]
          obtain ⟨q, rfl⟩ : ∃ q, r = q + 1 := ⟨r - 1, by omega⟩
          have hq : q < (sortI s).length := by rw [sortI_length]; omega
          have hq2 : s.length - (q + 1) < (sortI s).length := by rw [sortI_length]; omega
          rw [IntWalk.i64_in (((q + 1 : Nat) : Int) - 1) ⟨by omega, by omega⟩, IntWalk.i64_in ((s.length : Int) - ((q + 1 : Nat) : Int)) ⟨by omega, by omega⟩, show ((q + 1 : Nat) : Int) - 1 = (q : Int) by omega, show (s.length : Int) - ((q + 1 : Nat) : Int) = ((s.length - (q + 1) : Nat) : Int) by omega]
          simp only [inR_nat (show q < s.length by omega), inR_nat (show s.length - (q + 1) < s.length by omega), need_true, Int.toNat_natCast, Nat.mul_one, unc_ik hq, unc_ik hq2, asI_int]
          rw [getD_at hq, getD_at hq2]
  · rw [decide_eq_true (show (s.length : Int) > 50 by omega), if_neg (by omega)]; rfl

theorem sp_ref_Median (fu d : Nat) (hf : 18446744073709551616 ≤ fu) (s : List Int) (a b : Int) (hs : s.length ≤ 1000000000000) :
    cl fu (d + 5) fn_synopticref39_Median [V.c (C.sl s.length (ints s)), V.agg [C.v (.int .i64 a), C.v (.int .i64 b)]] [] = some ⟨V.tup [I (medR s a b).1, I (medR s a b).2.1, I (medR s a b).2.2], [], none⟩ := by
  rw [eq_synopticref39_Median]
  unfold medR
  by_cases h1 : s.length ≤ 50
  · rw [show decide ((s.length : Int) > 50) = false from decide_eq_false (by omega)]
    simp only [cf]
    rw [sp_Small fu _ hf s hs]
    simp only [obs, rC_c, asB_bool]
    cases h2 : s.any outB with
    | true => rw [if_neg (by simp)]; rfl
    | false =>
      rw [if_pos ⟨h1, rfl⟩]
      simp only [cf, Bool.not_false, Bool.not_true]
      rw [sp_ref_Ranks fu d hf]
      simp only [obs, rT_tup, uncV_cons, rC_c, asI_int, nilV_nil]
      rcases ranksR_cases (s.length : Int) a b with e | ⟨r, e, hr, _⟩
      · rw [e]; rfl
      · rw [e]
        simp only [ne_eq, not_true_eq_false, if_false, bne_self_eq_false, cf]
        by_cases h3 : r = 0
        · subst h3; rfl
        · rw [show (((r : Nat) : Int) == 0) = false by simpa using h3, if_neg (by omega)]
          simp only [cf]
          rw [sp_ref_sorted fu (d + 3) hf s (by omega)]
          simp only [obs, rC_c, asSl_sl]
          obtain ⟨q, rfl⟩ : ∃ q, r = q + 1 := ⟨r - 1, by omega⟩
          have hq : q < (sortI s).length := by rw [sortI_length]; omega
          have hq2 : s.length - (q + 1) < (sortI s).length := by rw [sortI_length]; omega
          rw [IntWalk.i64_in (((q + 1 : Nat) : Int) - 1) ⟨by omega, by omega⟩, IntWalk.i64_in ((s.length : Int) - ((q + 1 : Nat) : Int)) ⟨by omega, by omega⟩, show ((q + 1 : Nat) : Int) - 1 = (q : Int) by omega, show (s.length : Int) - ((q + 1 : Nat) : Int) = ((s.length - (q + 1) : Nat) : Int) by omega]
          simp only [inR_nat (show q < s.length by omega), inR_nat (show s.length - (q + 1) < s.length by omega), need_true, Int.toNat_natCast, Nat.mul_one, unc_ik hq, unc_ik hq2, asI_int]
          rw [getD_at hq, getD_at hq2]
  · rw [decide_eq_true (show (s.length : Int) > 50 by omega), if_neg (by omega)]; rfl

end Go.Proofs.Ytepjbmlhfhahcaa
/- Counts, ranks and medians are those of the document. -/
namespace Go.Proofs.Ytepjbmlhfhahcaa
open Go Go.PM

theorem sp_Mod (fu d : Nat) (a k : Int) (hk : 1 ≤ k ∧ k ≤ 1000000) : ∃ m : Int, 0 ≤ m ∧ m < k ∧ cl fu (d + 1) fn_synopticfield_Mod [I a, I k] [] = some ⟨I m, [], none⟩ := by
  rw [eq_synopticfield_Mod, show decide (k < 1) = false from decide_eq_false (by omega), show (k == 0) = false by rw [beq_eq_false_iff_ne]; omega]
  have h1 : Int.tmod a k < k := Int.tmod_lt_of_pos a (by omega)
  have h2 : -k < Int.tmod a k := by
    have := Int.tmod_lt_of_pos (-a) (show 0 < k by omega)
    rw [Int.neg_tmod] at this; omega
  by_cases h : Int.tmod a k < 0
  · refine ⟨Int.tmod a k + k, by omega, by omega, ?_⟩
    rw [decide_eq_true h, IntWalk.i64_in _ ⟨by omega, by omega⟩]; rfl
  · refine ⟨Int.tmod a k, by omega, by omega, ?_⟩
    rw [show decide (Int.tmod a k < 0) = false from decide_eq_false h]; rfl

theorem sp_level (fu d : Nat) (hf : 18446744073709551616 ≤ fu) (a : Int) : ∃ p q : Int, cl fu (d + 2) fn_synopticlaw39_level [I a] [] = some ⟨V.agg [C.v (.int .i64 p), C.v (.int .i64 q)], [], none⟩ ∧ ∃ m : Nat, m ≤ 100 ∧ p = (redI m 100).1 ∧ q = (redI m 100).2 := by
  obtain ⟨m, h1, h2, h3⟩ := sp_Mod fu d a 101 (by omega)
  obtain ⟨m, rfl⟩ : ∃ n : Nat, m = n := ⟨m.toNat, by omega⟩
  refine ⟨_, _, ?_, m, by omega, rfl, rfl⟩
  rw [eq_synopticlaw39_level, h3]
  simp only [obs, rC_c, asI_int]
  rw [show (100 : Int) = ((100 : Nat) : Int) from rfl, sp_ref_Reduce_nat fu d hf m 100 (by omega) (by omega) (by omega)]
  simp only [out3, obs, rT_tup, uncV_cons, rA_agg, List.length_cons, List.length_nil, Nat.zero_add, Nat.reduceAdd, beqN_self, need_true, unc_cons, asI_int, rC_c, nilV_nil]

theorem pair5 (p0 q0 p1 q1 : Int) (j : Nat) (hj : j < 5) : ∃ (p q : Int) (r : List C), List.drop (j * 2) ([C.v (.int .i64 p0), C.v (.int .i64 q0), C.v (.int .i64 p1), C.v (.int .i64 q1), C.v (.int .i64 2), C.v (.int .i64 4), C.v (.int .i64 1), C.v (.int .i64 1), C.v (.int .i64 0), C.v (.int .i64 1)]) = C.v (.int .i64 p) :: C.v (.int .i64 q) :: r := by
  rcases j with _ | _ | _ | _ | _ | j
  · exact ⟨_, _, _, rfl⟩
  · exact ⟨_, _, _, rfl⟩
  · exact ⟨_, _, _, rfl⟩
  · exact ⟨_, _, _, rfl⟩
  · exact ⟨_, _, _, rfl⟩
  · omega

set_option maxRecDepth 100000 in
theorem sp_SamplingCounts (fu d : Nat) (hf : 18446744073709551616 ≤ fu) (a0 a1 p0 q0 : Int) (s : List Int) (bs : List Int) (hb : bytes bs) :
    cl fu (d + 9) fn_synopticlaw39_SamplingCounts [I a0, I a1, V.agg [C.v (.int .i64 p0), C.v (.int .i64 q0)], V.c (C.sl s.length (ints s)), V.c (C.sl bs.length (ik .u8 bs))] [] = some ⟨B true, [], none⟩ := by
  rw [eq_synopticlaw39_SamplingCounts, sp_awake fu d hf]
  simp only [obs, rC_c, asB_bool, Bool.not_true, cf]
  by_cases h70 : s.length > 70
  · rw [decide_eq_true (show (s.length : Int) > 70 by omega)]; rfl
  have hs : s.length ≤ 1000000000000 := by omega
  rw [show decide ((s.length : Int) > 70) = false from decide_eq_false (by omega)]
  have hN := sp_New fu (d + 7) bs 120
  unfold codesO codesC at hN
  have hb' : bytes (bs.take 120) := fun x hx => hb x (List.mem_of_mem_take hx)
  have hbl : (bs.take 120).length ≤ 1000000000000 := by simp; omega
  generalize bs.take 120 = cs at hN hb' hbl
  obtain ⟨m1, g1, g2, hm1⟩ := sp_Mod fu (d + 7) a0 63 (by omega)
  obtain ⟨m2, g3, g4, hm2⟩ := sp_Mod fu (d + 7) a1 40 (by omega)
  obtain ⟨p1, q1, hlv, _⟩ := sp_level fu (d + 6) hf a1
  simp only [cf]
  rw [show (120 : Int) = ((120 : Nat) : Int) from rfl, hN]
  simp only [obs, rP_ptr, show OUT = 1000000 from rfl, Nat.add_zero, beqN_self, Bool.and_self, need_true, uncO_cons, rN_ob, List.length_cons, List.length_nil, Nat.zero_add, Nat.reduceAdd, unc_cons, asI_int]
  rw [hm1, hm2]
  simp only [obs, rC_c, asI_int]
  rw [IntWalk.i64_in (m2 - 2) ⟨by omega, by omega⟩]
  generalize m2 - 2 = m2
  generalize hbody : (fun (y : Bool × Int × (C × Int × Unit) × Unit) => _) = body
  obtain ⟨e, z, r1, r2⟩ := iter_meas (body := body) (fun y => ∃ (j q : Nat), j ≤ 2 ∧ q ≤ 1000000000000 ∧ y = (false, (j : Int), (C.sl cs.length (ik .u8 cs), (q : Int), ()), ())) (fun y => 2 - y.2.1.toNat) (fun e _ => e = 0) (by
    rintro y ⟨j, q, hj, hq, rfl⟩
    subst hbody
    by_cases hj2 : j < 2
    · refine .inl ?_
      simp only [lt_yes (show (j : Int) < 2 by omega), ct, inR_nat hj2, need_true, Int.toNat_natCast]
      obtain ⟨n, k, hnk⟩ : ∃ n k : Int, List.drop (j * 2) ([C.v (.int .i64 a0), C.v (.int .i64 a1), C.v (.int .i64 m1), C.v (.int .i64 m2)]) = C.v (.int .i64 n) :: C.v (.int .i64 k) :: List.drop (j * 2 + 2) ([C.v (.int .i64 a0), C.v (.int .i64 a1), C.v (.int .i64 m1), C.v (.int .i64 m2)]) := by
        rcases j with _ | _ | j
        · exact ⟨_, _, rfl⟩
        · exact ⟨_, _, rfl⟩
        · omega
      rw [hnk]
      have hput : putAt ([C.v (.int .i64 0), C.v (.int .i64 0)]) 0 [C.v (.int .i64 n), C.v (.int .i64 k)] = [C.v (.int .i64 n), C.v (.int .i64 k)] := rfl
      simp only [List.length_cons, List.take_succ_cons, List.take_zero, List.length_nil, Nat.zero_add, Nat.reduceAdd, beqN_self, Bool.and_self, bleN_le (Nat.le_refl 2), bleN_le (show 2 ≤ (List.drop (j * 2 + 2) ([C.v (.int .i64 a0), C.v (.int .i64 a1), C.v (.int .i64 m1), C.v (.int .i64 m2)])).length + 1 + 1 by omega), need_true, bd_eq, hput, unc_cons, asI_int, List.drop_succ_cons, List.drop_zero]
      rw [sp_Choose_any fu (d + 6) hf, sp_ref_Choose_any fu (d + 7) hf, sp_Tail_any fu (d + 5) hf, sp_ref_Tail_any fu (d + 6) hf, hlv]
      simp only [out3, obs, rT_tup, uncV_cons, rC_c, rA_agg, asI_int, nilV_nil, List.length_cons, List.length_nil, Nat.zero_add, Nat.reduceAdd, beqN_self, need_true, unc_cons, bne_self_eq_false, beq_self_eq_true, Bool.and_self, Bool.not_true, cf]
      generalize hbody1 : (fun (y1 : Bool × Int × List C × (C × Int × Unit) × Unit) => _) = body1
      obtain ⟨e1, z1, u1, u2⟩ := iter_meas (body := body1) (fun y => ∃ (i q : Nat), i ≤ 5 ∧ q ≤ 1000000000000 ∧ y = (false, (i : Int), [C.v (.int .i64 n), C.v (.int .i64 k)], (C.sl cs.length (ik .u8 cs), (q : Int), ()), ())) (fun y => 5 - y.2.1.toNat) (fun e z => e = 0 ∧ ∃ (i q : Nat), q ≤ 1000000000000 ∧ z = (false, (i : Int), [C.v (.int .i64 n), C.v (.int .i64 k)], (C.sl cs.length (ik .u8 cs), (q : Int), ()), ())) (by
        rintro y1 ⟨i, q, hi, hq, rfl⟩
        subst hbody1
        by_cases hi5 : i < 5
        · refine .inl ?_
          obtain ⟨a, b, r, hab⟩ := pair5 p0 q0 p1 q1 i hi5
          obtain ⟨t, q', hsam, hts, htl, hq'⟩ := sp_sample fu (d + 5) hf cs hb' q hq hbl 20 (by omega)
          unfold codesO codesC at hsam
          simp only [lt_yes (show (i : Int) < 5 by omega), ct, inR_nat hi5, need_true, Int.toNat_natCast]
          rw [hab]
          simp only [unc_cons, asI_int]
          rw [sp_Ranks fu (d + 3) hf, sp_ref_Ranks fu (d + 4) hf, hsam]
          simp only [obs, rT_tup, uncV_cons, rC_c, asI_int, nilV_nil, bne_self_eq_false, cf, uncO_cons, rO_ob, List.length_cons, List.length_nil, Nat.zero_add, Nat.reduceAdd, beqN_self, Bool.and_self, need_true, unc_cons]
          have h00 : ((false, (0 : Int), [C.v (.int .i64 n), C.v (.int .i64 k)], (a, b, ()), (C.sl cs.length (ik .u8 cs), (q' : Int), ()), ()) : Bool × Int × List C × (Int × Int × Unit) × (C × Int × Unit) × Unit) = (fun x : Nat => (false, (x : Int), [C.v (.int .i64 n), C.v (.int .i64 k)], (a, b, ()), (C.sl cs.length (ik .u8 cs), (q' : Int), ()), ())) 0 := rfl
          rw [h00, iter_run (fun x : Nat => ((false, (x : Int), [C.v (.int .i64 n), C.v (.int .i64 k)], (a, b, ()), (C.sl cs.length (ik .u8 cs), (q' : Int), ()), ()) : Bool × Int × List C × (Int × Int × Unit) × (C × Int × Unit) × Unit)) 0 (false, (2 : Int), [C.v (.int .i64 n), C.v (.int .i64 k)], (a, b, ()), (C.sl cs.length (ik .u8 cs), (q' : Int), ()), ()) 2 0 fu ?_ ?_ (by omega)]
          · refine ⟨(false, ((i + 1 : Nat) : Int), [C.v (.int .i64 n), C.v (.int .i64 k)], (C.sl cs.length (ik .u8 cs), (q' : Int), ()), ()), ?_, ⟨i + 1, q', by omega, hq', rfl⟩, by simp only [Int.toNat_natCast]; omega⟩
            simp only [obs, natD_zero]
            rw [IntWalk.i64_in ((i : Int) + 1) ⟨by omega, by omega⟩]
            rfl
          · intro x _ hx
            have hx : x < 2 := by omega
            obtain ⟨w, hwl, hw⟩ : ∃ w : List Int, w.length ≤ 1000000000000 ∧ List.drop x ([C.sl s.length (ints s), C.sl t.length (ints t)]) = C.sl w.length (ints w) :: List.drop (x + 1) ([C.sl s.length (ints s), C.sl t.length (ints t)]) := by
              rcases x with _ | _ | x
              · exact ⟨s, hs, rfl⟩
              · exact ⟨t, by omega, rfl⟩
              · omega
            simp only [lt_yes (show (x : Int) < 2 by omega), ct, inR_nat hx, need_true, Int.toNat_natCast, Nat.mul_one]
            rw [hw]
            simp only [unc_cons, nrm, noYl_sl, need_true]
            rw [sp_Median fu (d + 2) hf w a b hwl, sp_ref_Median fu (d + 3) hf w a b hwl]
            simp only [obs, rT_tup, uncV_cons, rC_c, asI_int, nilV_nil, bne_self_eq_false, cf]
            rw [IntWalk.i64_in ((x : Int) + 1) ⟨by omega, by omega⟩]
            rfl
          · rfl
        · refine .inr ⟨0, (false, (i : Int), [C.v (.int .i64 n), C.v (.int .i64 k)], (C.sl cs.length (ik .u8 cs), (q : Int), ()), ()), ?_, rfl, i, q, hq, rfl⟩
          simp only [show decide ((i : Int) < 5) = false from decide_eq_false (by omega), cf]) fu (false, (0 : Int), [C.v (.int .i64 n), C.v (.int .i64 k)], (C.sl cs.length (ik .u8 cs), (q : Int), ()), ()) ⟨0, q, by omega, hq, rfl⟩ (by simp; omega)
      rw [u1]
      obtain ⟨rfl, i, q', hq', rfl⟩ := u2
      refine ⟨(false, ((j + 1 : Nat) : Int), (C.sl cs.length (ik .u8 cs), (q' : Int), ()), ()), ?_, ⟨j + 1, q', by omega, hq', rfl⟩, by simp only [Int.toNat_natCast]; omega⟩
      simp only [obs, natD_zero]
      rw [IntWalk.i64_in ((j : Int) + 1) ⟨by omega, by omega⟩]
      rfl
    · refine .inr ⟨0, (false, (j : Int), (C.sl cs.length (ik .u8 cs), (q : Int), ()), ()), ?_, rfl⟩
      simp only [show decide ((j : Int) < 2) = false from decide_eq_false (by omega), cf]) fu (false, 0, (C.sl cs.length (ik .u8 cs), 0, ()), ()) ⟨0, 0, by omega, by omega, rfl⟩ (by simp; omega)
  have r1' := r1
  simp only [Int.natCast_zero] at r1' ⊢
  rw [r1']
  subst r2
  rfl

end Go.Proofs.Ytepjbmlhfhahcaa
