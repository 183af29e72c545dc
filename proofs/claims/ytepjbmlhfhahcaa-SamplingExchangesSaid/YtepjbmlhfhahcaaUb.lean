/- The statement that the test of two samples is exact: its function answers true, at any bytes and any size. -/
import Derived.Test.YtepjbmlhfhahcaaUa
set_option linter.unusedVariables false
set_option linter.unusedSimpArgs false
namespace Go.Proofs.Ytepjbmlhfhahcaa
open Go Go.PM

/-- The choices of k elements, the first m. -/
def chs (n k m : Nat) : List Nat := (List.range m).filter fun c => popc n c == k
theorem chs_succ (n k m : Nat) : chs n k (m + 1) = chs n k m ++ if popc n m == k then [m] else [] := by
  unfold chs
  rw [List.range_succ, List.filter_append]
  congr 1
  cases h : popc n m == k <;> simp [List.filter_cons, h]
theorem chs_length (l : List Int) (k m : Nat) : (chs l.length k m).length = ways l k m := by
  unfold chs ways
  rw [List.countP_eq_length_filter]
/-- The part that the test finds for a choice. -/
def found (l : List Int) (k c : Nat) : Int × Int := redI (wayh l k (gap l k c) (2 ^ l.length)) (ways l k (2 ^ l.length))
theorem wayh_chs (l : List Int) (k c : Nat) : wayh l k (gap l k c) (2 ^ l.length) = (chs l.length k (2 ^ l.length)).countP fun x => decide (gap l k c ≤ gap l k x) := by
  unfold wayh chs gap
  rw [List.countP_filter]
  refine List.countP_congr fun x _ => ?_
  simp only [Bool.and_eq_true]
  exact And.comm
theorem chs_le (n k m : Nat) : (chs n k m).length ≤ m := by
  have := List.length_filter_le (fun c => popc n c == k) (List.range m)
  simpa [chs] using this
theorem found_bounds (l : List Int) (k c : Nat) (hn : l.length ≤ 12) (hc : c ∈ chs l.length k (2 ^ l.length)) : (0 ≤ (found l k c).1 ∧ (found l k c).1 ≤ 4096) ∧ 0 < (found l k c).2 ∧ (found l k c).2 ≤ 4096 ∧ 0 < ways l k (2 ^ l.length) := by
  have hp2 : (2 : Nat) ^ l.length ≤ 2 ^ 12 := Nat.pow_le_pow_right (by omega) hn
  have hp2 : (2 : Nat) ^ l.length ≤ 4096 := hp2
  have h1 := ways_le l k (2 ^ l.length)
  have h2 := wayh_le l k (gap l k c) (2 ^ l.length)
  have h3 : 0 < ways l k (2 ^ l.length) := by rw [← chs_length]; exact List.length_pos_of_mem hc
  unfold found redI
  have g1 : 0 < Nat.gcd (wayh l k (gap l k c) (2 ^ l.length)) (ways l k (2 ^ l.length)) := Nat.gcd_pos_of_pos_right _ h3
  have g2 : Nat.gcd (wayh l k (gap l k c) (2 ^ l.length)) (ways l k (2 ^ l.length)) ≤ ways l k (2 ^ l.length) := Nat.gcd_le_right _ h3
  have d1 := Nat.div_le_self (wayh l k (gap l k c) (2 ^ l.length)) (Nat.gcd (wayh l k (gap l k c) (2 ^ l.length)) (ways l k (2 ^ l.length)))
  have d2 := Nat.div_le_self (ways l k (2 ^ l.length)) (Nat.gcd (wayh l k (gap l k c) (2 ^ l.length)) (ways l k (2 ^ l.length)))
  have d3 := Nat.div_pos g2 g1
  simp only
  generalize wayh l k (gap l k c) (2 ^ l.length) / Nat.gcd (wayh l k (gap l k c) (2 ^ l.length)) (ways l k (2 ^ l.length)) = u at *
  generalize ways l k (2 ^ l.length) / Nat.gcd (wayh l k (gap l k c) (2 ^ l.length)) (ways l k (2 ^ l.length)) = v at *
  refine ⟨⟨by omega, by omega⟩, by omega, by omega, h3⟩

theorem inner (fu : Nat) (hf : 18446744073709551616 ≤ fu) (l : List Int) (hs : small l) (hn : l.length ≤ 60) (fs : List (Int × Int)) (m : Nat) :
    iter (fun (y1 : List C × List C × List C × Int × Unit) =>
            bif decide (y1.2.2.2.1 < ((l.length : Nat) : Int)) then
              need (!(decide (IntKind.u64.wrap y1.2.2.2.1 < 0))) <|
              bd (IntKind.i64.wrap (BitVec.ofInt (IntKind.bits .i64) (Int.fdiv (m : Int) (2 ^ (min (IntKind.u64.wrap y1.2.2.2.1).toNat (IntKind.bits .i64)))) &&& BitVec.ofInt (IntKind.bits .i64) 1).toNat) fun z =>
              bif z == 1 then
                asSl (C.sl l.length (ints l)) fun n3 cs5 =>
                need (inR y1.2.2.2.1 n3) <|
                unc (List.drop (y1.2.2.2.1.toNat * 1) cs5) fun c6 _ =>
                asI .i64 c6 fun i2 =>
                need ((((Nat.beq ((y1.2.1.length / 1) * 1) y1.2.1.length) && true) && (Nat.ble (((y1.2.1.length / 1) + 1) * 8) 140737488355328)) && (Nat.ble ((y1.2.1.length / 1) + 1) 140737488355328)) <|
                need (((Nat.beq ((y1.1.length / 2) * 2) y1.1.length) && true) && true) <|
                need (((Nat.beq (((y1.2.1.length / 1) + 1) * 1) ((y1.2.1 ++ ([C.v (.int .i64 i2)])).length)) && true) && true) <|
                need (((Nat.beq ((y1.2.2.1.length / 1) * 1) y1.2.2.1.length) && true) && true) <|
                some (0, (y1.1, y1.2.1 ++ ([C.v (.int .i64 i2)]), y1.2.2.1, IntKind.i64.wrap (y1.2.2.2.1 + 1), ()))
              else
                asSl (C.sl l.length (ints l)) fun n4 cs6 =>
                need (inR y1.2.2.2.1 n4) <|
                unc (List.drop (y1.2.2.2.1.toNat * 1) cs6) fun c7 _ =>
                asI .i64 c7 fun i3 =>
                need ((((Nat.beq ((y1.2.2.1.length / 1) * 1) y1.2.2.1.length) && true) && (Nat.ble (((y1.2.2.1.length / 1) + 1) * 8) 140737488355328)) && (Nat.ble ((y1.2.2.1.length / 1) + 1) 140737488355328)) <|
                need (((Nat.beq ((y1.1.length / 2) * 2) y1.1.length) && true) && true) <|
                need (((Nat.beq ((y1.2.1.length / 1) * 1) y1.2.1.length) && true) && true) <|
                need (((Nat.beq (((y1.2.2.1.length / 1) + 1) * 1) ((y1.2.2.1 ++ ([C.v (.int .i64 i3)])).length)) && true) && true) <|
                some (0, (y1.1, y1.2.1, y1.2.2.1 ++ ([C.v (.int .i64 i3)]), IntKind.i64.wrap (y1.2.2.2.1 + 1), ()))
            else
              need (((Nat.beq ((y1.1.length / 2) * 2) y1.1.length) && true) && true) <|
              need (((Nat.beq ((y1.2.1.length / 1) * 1) y1.2.1.length) && true) && true) <|
              need (((Nat.beq ((y1.2.2.1.length / 1) * 1) y1.2.2.1.length) && true) && true) <|
              some (1, (y1.1, y1.2.1, y1.2.2.1, y1.2.2.2.1, ()))) fu (prs fs, [], [], 0, ()) = some (0, (prs fs, ints (picks l m), ints (others l m), (l.length : Int), ())) := by
  have hdiv : Nat.beq (fs.length * 2 / 2 * 2) (fs.length * 2) = true := beqN_eq (by omega)
  rw [show (prs fs, ([] : List C), ([] : List C), (0 : Int), ()) = (fun j : Nat => (prs fs, ints (picks (l.take j) m), ints (others (l.take j) m), (j : Int), ())) 0 by simp [picks, others], iter_run (fun j : Nat => (prs fs, ints (picks (l.take j) m), ints (others (l.take j) m), (j : Int), ())) 0 (prs fs, ints (picks l m), ints (others l m), (l.length : Int), ()) l.length 0 fu ?_ ?_ (by omega)]
  · intro j _ hj
    have hj : j < l.length := by omega
    have hpl := (picks_perm (l.take j) m).length_eq
    rw [List.length_append, List.length_take, Nat.min_eq_left (Nat.le_of_lt hj)] at hpl
    simp only [lt_yes (show (j : Int) < (l.length : Int) by omega), ct, IntWalk.u64_in (j : Int) ⟨by omega, by omega⟩, show decide ((j : Int) < 0) = false from decide_eq_false (by omega), Bool.not_false, need_true, Int.toNat_natCast, bd_eq, show min j (IntKind.bits .i64) = j by simp [IntKind.bits]; omega, fdiv_pow, andoneI, prs_length, ik_length, Nat.div_one, Nat.mul_one, hdiv, beqN_self, Bool.and_self, inR_nat hj, unc_ik hj, asI_int, asSl_sl, ik_snoc, List.length_append, List.length_cons, List.length_nil, Nat.zero_add, bleN_le (show ((picks (l.take j) m).length + 1) * 8 ≤ 140737488355328 by omega), bleN_le (show (picks (l.take j) m).length + 1 ≤ 140737488355328 by omega), bleN_le (show ((others (l.take j) m).length + 1) * 8 ≤ 140737488355328 by omega), bleN_le (show (others (l.take j) m).length + 1 ≤ 140737488355328 by omega)]
    rw [IntWalk.i64_in ((j : Int) + 1) ⟨by omega, by omega⟩, picks_snoc l m j hj, others_snoc l m j hj]
    by_cases hbit : m / 2 ^ j % 2 = 1
    · rw [hbit]
      simp only [if_true, show (((1 : Nat) : Int) == 1) = true from rfl, ct, List.append_nil]
      rfl
    · rw [if_neg hbit, if_neg hbit, show (((m / 2 ^ j % 2 : Nat) : Int) == 1) = false by rw [beq_eq_false_iff_ne]; omega, List.append_nil]
      rfl
  · simp only [Nat.zero_add, show decide ((l.length : Int) < (l.length : Int)) = false from decide_eq_false (by omega), cf, prs_length, ik_length, Nat.div_one, Nat.mul_one, hdiv, beqN_self, Bool.and_self, need_true, List.take_length]

end Go.Proofs.Ytepjbmlhfhahcaa
