/- What the parts of the sampling tests come to (the samples within their bounds). -/
import Derived.Test.YtepjbmlhfhahcaaSa
set_option linter.unusedVariables false
set_option linter.unusedSimpArgs false
namespace Go.Proofs.Ytepjbmlhfhahcaa
open Go Go.PM

/-- The sum of the elements whose bit is set. -/
def csum : List Int → Nat → Int
  | [], _ => 0
  | x :: r, m => (if m % 2 = 1 then x else 0) + csum r (m / 2)
def small (a : List Int) : Prop := ∀ x ∈ a, -1000000 ≤ x ∧ x ≤ 1000000

theorem csum_take (a : List Int) (m j : Nat) (h : j < a.length) : csum (a.take (j + 1)) m = csum (a.take j) m + if m / 2 ^ j % 2 = 1 then a[j] else 0 := by
  induction a generalizing m j with
  | nil => simp at h
  | cons x r ih =>
    cases j with
    | zero => simp [csum]
    | succ j =>
      simp only [List.take_succ_cons, csum, List.getElem_cons_succ]
      rw [ih (m / 2) j (by simpa using h), Nat.div_div_eq_div_mul, show 2 * 2 ^ j = 2 ^ (j + 1) by rw [Nat.pow_succ]; omega]
      omega
theorem csum_bound (a : List Int) (m : Nat) (h : small a) : -(1000000 * (a.length : Int)) ≤ csum a m ∧ csum a m ≤ 1000000 * (a.length : Int) := by
  induction a generalizing m with
  | nil => simp [csum]
  | cons x r ih =>
    have h1 := h x (by simp)
    have h2 := ih (m / 2) (fun y hy => h y (by simp [hy]))
    simp only [csum, List.length_cons]
    split <;> omega
theorem small_take {a : List Int} (h : small a) (j : Nat) : small (a.take j) := fun x hx => h x (List.mem_of_mem_take hx)

theorem andone64 (x : Nat) : IntKind.u64.wrap (BitVec.ofInt (IntKind.bits .u64) (x : Int) &&& BitVec.ofInt (IntKind.bits .u64) 1).toNat = ((x % 2 : Nat) : Int) := by
  rw [and_one (kd := .u64) (by decide)]
  exact IntWalk.u64_in _ ⟨by omega, by omega⟩
theorem andoneI (x : Nat) : IntKind.i64.wrap (BitVec.ofInt (IntKind.bits .i64) (x : Int) &&& BitVec.ofInt (IntKind.bits .i64) 1).toNat = ((x % 2 : Nat) : Int) := by
  rw [and_one (kd := .i64) (by decide)]
  exact IntWalk.i64_in _ ⟨by omega, by omega⟩

theorem sp_chosen (fu d : Nat) (hf : 18446744073709551616 ≤ fu) (a : List Int) (m : Nat) (hn : a.length ≤ 60) (hs : small a) :
    cl fu (d + 1) fn_sampling_chosen [V.c (C.sl a.length (ints a)), V.c (C.v (.int .u64 m))] [] = some ⟨I (csum a m), [], none⟩ := by
  rw [eq_sampling_chosen]
  have hz : ((0 : Int), (0 : Int), ()) = (fun j : Nat => (csum (a.take j) m, (j : Int), ())) 0 := by simp [csum]
  rw [hz, iter_run (fun j : Nat => (csum (a.take j) m, (j : Int), ())) 0 (csum a m, (a.length : Int), ()) a.length 0 fu ?_ ?_ (by omega)]
  · simp
  · intro j _ hj
    have hj : j < a.length := by omega
    have hx := hs a[j] (List.getElem_mem hj)
    have hb := csum_bound (a.take j) m (small_take hs j)
    have hl : (a.take j).length = j := by simp; omega
    rw [hl] at hb
    simp only [lt_yes (show (j : Int) < (a.length : Int) by omega), ct, inR_nat hj, need_true, Int.toNat_natCast, Nat.mul_one, unc_ik hj, asI_int, show decide ((j : Int) < 0) = false from decide_eq_false (by omega), Bool.not_false, bd_eq]
    rw [show min j (IntKind.bits .u64) = j by simp [IntKind.bits]; omega, fdiv_pow, andone64, csum_take a m j hj, IntWalk.i64_in ((j : Int) + 1) ⟨by omega, by omega⟩]
    by_cases hbit : m / 2 ^ j % 2 = 1
    · rw [hbit]
      simp only [if_true]
      rw [IntWalk.i64_in (csum (a.take j) m + a[j]) ⟨by omega, by omega⟩]
      simp
    · rw [if_neg hbit]
      have : (((m / 2 ^ j % 2 : Nat) : Int) == 1) = false := by rw [beq_eq_false_iff_ne]; omega
      rw [this]
      simp
  · simp

/-- The iterator of all choices. -/
theorem iterOk (fu : Nat) (hf : 18446744073709551616 ≤ fu) : IterOk Try.prog prim laid fu := by
  intro d f caps xs h l go
  cases d with
  | zero => cases h
  | succ d =>
    replace h : iterC f caps = some xs := h
    unfold iterC at h
    cases hfq : Nat.beq f fn_sampling_choices_1 with
    | false => rw [hfq] at h; cases h
    | true =>
      have hfe := Nat.eq_of_beq_eq_true hfq
      subst hfe
      rw [hfq] at h
      simp only [ct] at h
      split at h
      · rename_i c
        unfold asP at h
        split at h
        · rename_i cs
          replace h : unc cs (fun c _ => asI .i64 c fun n => need (decide (0 ≤ n) && decide (n ≤ 13)) (some (chosen n.toNat))) = some xs := h
          unfold unc at h
          split at h
          · cases h
          · rename_i c r
            replace h : asI .i64 c (fun n => need (decide (0 ≤ n) && decide (n ≤ 13)) (some (chosen n.toNat))) = some xs := h
            unfold asI at h
            split at h
            · rename_i kd n
              split at h
              · rename_i hk
                subst hk
                obtain ⟨hc, h⟩ := need_some h
                simp only [Bool.and_eq_true, decide_eq_true_eq] at hc
                cases h
                obtain ⟨n, rfl⟩ : ∃ k : Nat, n = k := ⟨n.toNat, by omega⟩
                have hp : (2 : Nat) ^ n ≤ 2 ^ 13 := Nat.pow_le_pow_right (by omega) (by omega)
                have hp : (2 : Nat) ^ n ≤ 8192 := hp
                have hlen : (chosen n).length = 2 ^ n := by simp [chosen]
                show ∃ out lg, cl fu (d + 1) fn_sampling_choices_1 [V.c (C.yl l go (chosen n)), V.c (C.cp (C.v (.int .i64 (n : Int)) :: r))] [] = some out ∧ _
                rw [eq_sampling_choices_1]
                simp only [unc_cons, asI_int, show decide ((n : Int) < 0) = false from decide_eq_false (by omega), Bool.not_false, need_true, Int.toNat_natCast]
                have hw : IntKind.u64.wrap (1 * 2 ^ (min n (IntKind.bits .u64))) = ((2 ^ n : Nat) : Int) := by
                  rw [show min n (IntKind.bits .u64) = n by simp [IntKind.bits]; omega, show (1 : Int) * 2 ^ n = ((2 ^ n : Nat) : Int) by simp]
                  exact IntWalk.u64_in _ ⟨by omega, by omega⟩
                simp only [hw]
                obtain ⟨e, z, h1, h2⟩ := iter_meas (body := fun (y : Int × Log × Unit) =>
                  bif decide (y.1 < ((2 ^ n : Nat) : Int)) then
                    need ((Nat.beq y.2.1.l l) && (!y.2.1.st)) <|
                    unI y.2.1.rest fun x rest =>
                    need (eqV [V.c (C.v (.int .u64 y.1))] x) <|
                    bif !(y.2.1.go y.2.1.i) then
                      some (2, (y.1, ⟨y.2.1.l, y.2.1.go, Nat.succ y.2.1.i, rest, !(y.2.1.go y.2.1.i)⟩, ()))
                    else
                      some (0, (IntKind.u64.wrap (y.1 + 1), ⟨y.2.1.l, y.2.1.go, Nat.succ y.2.1.i, rest, !(y.2.1.go y.2.1.i)⟩, ()))
                  else
                    some (1, (y.1, y.2.1, ()))) (fun s => ∃ i : Nat, i ≤ 2 ^ n ∧ s = ((i : Int), ⟨l, go, i, (chosen n).drop i, false⟩, ())) (fun s => 2 ^ n - s.1.toNat) (fun _ z => z.2.1.st = true ∨ z.2.1.rest = []) (by
                  rintro s ⟨i, hi, rfl⟩
                  by_cases hlt : i < 2 ^ n
                  · have hd : (chosen n).drop i = [V.c (C.v (.int .u64 (i : Nat)))] :: (chosen n).drop (i + 1) := by
                      rw [List.drop_eq_getElem_cons (by omega)]
                      simp [chosen]
                    simp only [lt_yes (show (i : Int) < ((2 ^ n : Nat) : Int) by omega), ct, hd, unI_cons, eqV_self, beqN_self, Bool.not_false, Bool.and_self, need_true]
                    cases hg : go i with
                    | true =>
                      refine .inl ⟨_, by simp only [Bool.not_true, cf]; rfl, ⟨i + 1, by omega, ?_⟩, ?_⟩
                      · rw [IntWalk.u64_in _ ⟨by omega, by omega⟩]; simp
                      · rw [IntWalk.u64_in _ ⟨by omega, by omega⟩]; simp only [Int.toNat_natCast]; omega
                    | false => exact .inr ⟨1, _, by simp only [Bool.not_false, ct]; rfl, .inl rfl⟩
                  · have he : i = 2 ^ n := by omega
                    rw [show decide ((i : Int) < ((2 ^ n : Nat) : Int)) = false from decide_eq_false (by omega)]
                    exact .inr ⟨0, _, rfl, .inr (by simp only; rw [List.drop_eq_nil_iff]; omega)⟩) fu ((0 : Int), ⟨l, go, 0, chosen n, false⟩, ()) ⟨0, by omega, rfl⟩ (by simp; omega)
                rw [h1]
                refine ⟨⟨V.tup [], [], some z.2.1⟩, z.2.1, ?_, rfl, h2⟩
                cases e <;> rfl
              · cases h
            · cases h
        · cases h
      · cases h

theorem sp_choices (fu d n : Nat) : cl fu (d + 1) fn_sampling_choices [I (n : Int)] [] = some ⟨V.c (C.fn fn_sampling_choices_1 [C.cp [C.v (.int .i64 n)]]), [], none⟩ := eq_sampling_choices fu d n
theorem iter_choices (d n : Nat) (h : n ≤ 13) : prim.iter (d + 1) fn_sampling_choices_1 [C.cp [C.v (.int .i64 n)]] = some (chosen n) := by
  show iterC fn_sampling_choices_1 [C.cp [C.v (.int .i64 n)]] = some (chosen n)
  unfold iterC
  simp only [beqN_self, ct, asP_cp, unc_cons, asI_int, Int.toNat_natCast, decide_eq_true (show (0 : Int) ≤ (n : Int) by omega), decide_eq_true (show (n : Int) ≤ 13 by omega), Bool.and_self, need_true]

/-- The first element that a function of the program chooses. -/
theorem sp_IndexFunc (fu d k : Nat) (hf : 18446744073709551616 ≤ fu) (a : List Int) (p : Int → Bool) (hn : a.length ≤ 1000000000000) (hp : ∀ x ∈ a, cl fu d k [I x] [] = some ⟨B (p x), [], none⟩) :
    cl fu (d + 1) fn_slices_IndexFunc_sint_int [V.c (C.sl a.length (ints a)), V.c (C.fn k [])] [] = some ⟨I (if a.any p then (a.findIdx p : Int) else -1), [], none⟩ := by
  rw [eq_slices_IndexFunc_sint_int]
  have hle : a.findIdx p ≤ a.length := List.findIdx_le_length
  have step : ∀ j (hj : j < a.length), (bif decide ((j : Int) < (a.length : Int)) then need (inR (j : Int) a.length) <| unc (List.drop (((j : Int).toNat) * 1) (ints a)) fun c _ => asI .i64 c fun i => (cl fu d k [I i] []).bind fun out => rC out.r fun c1 => asB c1 fun b => bif b then some (2, ((j : Int), (j : Int), ())) else some (0, ((0 : Int), IntKind.i64.wrap ((j : Int) + 1), ())) else some (1, ((0 : Int), (j : Int), ()))) = bif p a[j] then some (2, ((j : Int), (j : Int), ())) else some (0, ((0 : Int), ((j + 1 : Nat) : Int), ())) := by
    intro j hj
    simp only [lt_yes (show (j : Int) < (a.length : Int) by omega), ct, inR_nat hj, need_true, Int.toNat_natCast, Nat.mul_one, unc_ik hj, asI_int, hp a[j] (List.getElem_mem hj), obs, rC_c, asB_bool]
    rw [IntWalk.i64_in ((j : Int) + 1) ⟨by omega, by omega⟩]
    rfl
  by_cases ha : a.any p = true
  · have hlt : a.findIdx p < a.length := by
      rw [List.findIdx_lt_length]
      simpa using ha
    rw [show ((0 : Int), (0 : Int), ()) = (fun j : Nat => ((0 : Int), (j : Int), ())) 0 from rfl, iter_run (fun j : Nat => ((0 : Int), (j : Int), ())) 1 ((a.findIdx p : Int), (a.findIdx p : Int), ()) (a.findIdx p) 0 fu ?_ ?_ (by omega), if_pos ha]
    · rfl
    · intro j _ hj
      have hj : j < a.findIdx p := by omega
      have hq := List.not_of_lt_findIdx hj
      refine (step j (by omega)).trans ?_
      simp [hq]
    · simp only [Nat.zero_add]
      refine (step _ hlt).trans ?_
      rw [List.findIdx_getElem (w := hlt)]
      rfl
  · have hno : ∀ x ∈ a, p x = false := by simpa using ha
    rw [show ((0 : Int), (0 : Int), ()) = (fun j : Nat => ((0 : Int), (j : Int), ())) 0 from rfl, iter_run (fun j : Nat => ((0 : Int), (j : Int), ())) 0 (0, (a.length : Int), ()) a.length 0 fu ?_ ?_ (by omega), if_neg ha]
    · rfl
    · intro j _ hj
      have hj : j < a.length := by omega
      refine (step j hj).trans ?_
      rw [hno _ (List.getElem_mem hj)]
      rfl
    · simp

theorem sp_ContainsFunc (fu d k : Nat) (hf : 18446744073709551616 ≤ fu) (a : List Int) (p : Int → Bool) (hn : a.length ≤ 1000000000000) (hp : ∀ x ∈ a, cl fu d k [I x] [] = some ⟨B (p x), [], none⟩) :
    cl fu (d + 2) fn_slices_ContainsFunc_sint_int [V.c (C.sl a.length (ints a)), V.c (C.fn k [])] [] = some ⟨B (a.any p), [], none⟩ := by
  rw [eq_slices_ContainsFunc_sint_int, sp_IndexFunc fu d k hf a p hn hp]
  simp only [obs, rC_c, asI_int]
  cases a.any p <;> simp

def outB (x : Int) : Bool := !(decide (-1000000 ≤ x) && decide (x ≤ 1000000))
theorem sp_outside (fu d : Nat) (hf : 18446744073709551616 ≤ fu) (a : List Int) (hn : a.length ≤ 1000000000000) :
    cl fu (d + 5) fn_sampling_outside [V.c (C.sl a.length (ints a))] [] = some ⟨B (a.any outB), [], none⟩ := by
  rw [eq_sampling_outside, sp_ContainsFunc fu (d + 2) _ hf a outB hn]
  · simp
  · intro x _
    rw [eq_sampling_outside_1, eq_sampling_within]
    unfold outB
    cases decide (-1000000 ≤ x) <;> simp
theorem outside_small {a : List Int} (h : small a) : a.any outB = false := by
  simp only [List.any_eq_false, outB]
  intro x hx
  have := h x hx
  simp [this.1, this.2]

end Go.Proofs.Ytepjbmlhfhahcaa
