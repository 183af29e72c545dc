/- What reading codes comes to, and a sample drawn from them. -/
import Derived.Test.YtepjbmlhfhahcaaSc
set_option linter.unusedVariables false
set_option linter.unusedSimpArgs false
namespace Go.Proofs.Ytepjbmlhfhahcaa
open Go Go.PM

/-- Bytes, as integers. -/
def bytes (bs : List Int) : Prop := ∀ x ∈ bs, 0 ≤ x ∧ x ≤ 255
/-- The state of the codes: what they are, how many are read. -/
def codesC (bs : List Int) (i : Nat) : List C := [C.sl bs.length (ik .u8 bs), C.v (.int .i64 (i : Nat))]
abbrev codesO (bs : List Int) (i : Nat) : PM.Obj := .ob ty_synopticfield_Codes 0 (codesC bs i)

theorem sp_Left (fu d : Nat) (bs : List Int) (i : Nat) : cl fu (d + 1) fn_synopticfield_Codes_Left [V.ptr 1000000 0] [codesO bs i] = some ⟨B (decide (i < bs.length)), [codesO bs i], none⟩ := by
  unfold codesO codesC
  rw [eq_synopticfield_Codes_Left]
  simp

/-- The next code below n. -/
theorem sp_Next (fu d : Nat) (bs : List Int) (hb : bytes bs) (i : Nat) (hi : i ≤ 1000000000000) (hl : bs.length ≤ 1000000000000) (n : Int) (hn : 1 ≤ n ∧ n ≤ 1000000) :
    ∃ (v : Int) (j : Nat), cl fu (d + 2) fn_synopticfield_Codes_Next [V.ptr 1000000 0, I n] [codesO bs i] = some ⟨I v, [codesO bs j], none⟩ ∧ 0 ≤ v ∧ v < n ∧ j ≤ 1000000000000 := by
  have hL := sp_Left fu d bs i
  unfold codesO codesC at hL ⊢
  rw [eq_synopticfield_Codes_Next, hL]
  simp only [obs, uncO_cons, rO_ob, beqN_self, Bool.and_self, need_true, List.length_cons, List.length_nil, Nat.zero_add, Nat.reduceAdd, unc_cons, asI_int, rC_c, asB_bool]
  by_cases h : i < bs.length
  · rw [decide_eq_true h]
    have hx := hb bs[i] (List.getElem_mem h)
    simp only [Bool.not_true, cf, show decide (n < 1) = false from decide_eq_false (by omega), asSl_sl]
    rw [IntWalk.i64_in ((i : Int) + 1) ⟨by omega, by omega⟩, show (i : Int) + 1 - 1 = i by omega, IntWalk.i64_in (i : Int) ⟨by omega, by omega⟩]
    simp only [inR_nat h, need_true, Int.toNat_natCast, Nat.mul_one, unc_ik h, asI_int, show (n == 0) = false by rw [beq_eq_false_iff_ne]; omega, Bool.not_false]
    rw [IntWalk.i64_in bs[i] ⟨by omega, by omega⟩, IntWalk.rem_in _ _ hx.1]
    refine ⟨bs[i] % n, i + 1, by simp, Int.emod_nonneg _ (by omega), Int.emod_lt_of_pos _ (by omega), by omega⟩
  · rw [decide_eq_false h]
    exact ⟨0, i, by simp, by omega, by omega, hi⟩

theorem pick5 (v1 v2 v3 : Int) (h1 : 0 ≤ v1 ∧ v1 < 7) (h2 : 0 ≤ v2 ∧ v2 < 200) (h3 : 0 ≤ v3 ∧ v3 < 5) : ∃ w : Int, (∀ {R : Type} (f : C → Option R), unc (List.drop (v3.toNat * 1) ([C.v (.int .i64 (IntKind.i64.wrap (v1 - 3))), C.v (.int .i64 (IntKind.i64.wrap (v2 - 100))), C.v (.int .i64 1000000), C.v (.int .i64 (-1000000)), C.v (.int .i64 0)])) (fun c _ => f c) = f (C.v (.int .i64 w))) ∧ -1000000 ≤ w ∧ w ≤ 1000000 := by
  rw [IntWalk.i64_in (v1 - 3) ⟨by omega, by omega⟩, IntWalk.i64_in (v2 - 100) ⟨by omega, by omega⟩, Nat.mul_one]
  obtain ⟨n, rfl⟩ : ∃ n : Nat, v3 = n := ⟨v3.toNat, by omega⟩
  rw [Int.toNat_natCast]
  rcases n with _ | _ | _ | _ | _ | n
  · exact ⟨v1 - 3, fun f => rfl, by omega, by omega⟩
  · exact ⟨v2 - 100, fun f => rfl, by omega, by omega⟩
  · exact ⟨1000000, fun f => rfl, by omega, by omega⟩
  · exact ⟨-1000000, fun f => rfl, by omega, by omega⟩
  · exact ⟨0, fun f => rfl, by omega, by omega⟩
  · omega

/-- A sample of at most k values. -/
theorem sp_sample (fu d : Nat) (hf : 18446744073709551616 ≤ fu) (bs : List Int) (hb : bytes bs) (i : Nat) (hi : i ≤ 1000000000000) (hl : bs.length ≤ 1000000000000) (k : Int) (hk : 0 ≤ k ∧ k ≤ 1000) :
    ∃ (a : List Int) (j : Nat), cl fu (d + 3) fn_synopticlaw39_sample [V.ptr 1000000 0, I k] [codesO bs i] = some ⟨V.c (C.sl a.length (ints a)), [codesO bs j], none⟩ ∧ small a ∧ (a.length : Int) ≤ k ∧ j ≤ 1000000000000 := by
  show ∃ (a : List Int) (j : Nat), cl fu (d + 3) fn_synopticlaw39_sample [V.ptr 1000000 0, I k] [.ob ty_synopticfield_Codes 0 [C.sl bs.length (ik .u8 bs), C.v (.int .i64 (i : Nat))]] = _ ∧ _
  rw [eq_synopticlaw39_sample]
  obtain ⟨m, j, h1, h2, h3, h4⟩ := sp_Next fu d bs hb i hi hl (IntKind.i64.wrap (k + 1)) (by rw [IntWalk.i64_in _ ⟨by omega, by omega⟩]; omega)
  unfold codesO codesC at h1
  rw [IntWalk.i64_in (k + 1) ⟨by omega, by omega⟩] at h1 h3
  rw [IntWalk.i64_in (k + 1) ⟨by omega, by omega⟩, h1]
  simp only [obs, uncO_cons, rO_ob, beqN_self, Bool.and_self, need_true, List.length_cons, List.length_nil, Nat.zero_add, Nat.reduceAdd, unc_cons, asI_int, rC_c, asB_bool]
  generalize hbody : (fun (y : List C × Int × (C × Int × Unit) × Unit) => _) = body
  obtain ⟨e, z, r1, r2⟩ := iter_meas (body := body) (fun s => ∃ (l : List Int) (r : Nat) (q : Nat), s = (ints l, (r : Int), (C.sl bs.length (ik .u8 bs), (q : Int), ()), ()) ∧ small l ∧ (l.length : Int) + r = m ∧ q ≤ 1000000000000) (fun s => s.2.1.toNat) (fun e z => e = 0 ∧ ∃ (l : List Int) (q : Nat), z = (ints l, 0, (C.sl bs.length (ik .u8 bs), (q : Int), ()), ()) ∧ small l ∧ (l.length : Int) = m ∧ q ≤ 1000000000000) (by
    rintro s ⟨l, r, q, rfl, hs, hm, hq⟩
    subst hbody
    by_cases hr : r = 0
    · subst hr
      refine .inr ⟨0, (ints l, 0, (C.sl bs.length (ik .u8 bs), (q : Int), ()), ()), ?_, rfl, l, q, rfl, hs, by omega, hq⟩
      simp
    · obtain ⟨v1, q1, a1, a2, a3, a4⟩ := sp_Next fu d bs hb q hq hl 7 (by omega)
      obtain ⟨v2, q2, b1, b2, b3, b4⟩ := sp_Next fu d bs hb q1 a4 hl 200 (by omega)
      obtain ⟨v3, q3, c1, c2, c3, c4⟩ := sp_Next fu d bs hb q2 b4 hl 5 (by omega)
      unfold codesO codesC at a1 b1 c1
      obtain ⟨w, hw, hw1, hw2⟩ := pick5 v1 v2 v3 (by omega) (by omega) (by omega)
      refine .inl ⟨(ints (l ++ [w]), ((r - 1 : Nat) : Int), (C.sl bs.length (ik .u8 bs), (q3 : Int), ()), ()), ?_, ⟨l ++ [w], r - 1, q3, rfl, ?_, by simp; omega, c4⟩, ?_⟩
      · simp only [decide_eq_true (show (r : Int) > 0 by omega), ct, a1, b1, c1, obs, uncO_cons, rO_ob, beqN_self, Bool.and_self, need_true, List.length_cons, List.length_nil, Nat.zero_add, Nat.reduceAdd, unc_cons, asI_int, rC_c, inR_int c2 (show v3 < ((5 : Nat) : Int) by omega)]
        rw [hw]
        simp only [asI_int, Nat.div_one, Nat.mul_one, beqN_self, ik_length, ik_snoc, List.length_append, List.length_cons, List.length_nil, Nat.zero_add, Bool.and_self, Bool.and_true]
        rw [bleN_le (show (l.length + 1) * 8 ≤ 140737488355328 by omega), bleN_le (show l.length + 1 ≤ 140737488355328 by omega), IntWalk.i64_in ((r : Int) - 1) ⟨by omega, by omega⟩]
        simp only [Bool.and_self, need_true]
        rw [show ((r - 1 : Nat) : Int) = (r : Int) - 1 by omega]
      · intro x hx
        rcases List.mem_append.1 hx with h | h
        · exact hs x h
        · simp at h; subst h; exact ⟨hw1, hw2⟩
      · simp only [Int.toNat_natCast]; omega) fu ([], m, (C.sl bs.length (ik .u8 bs), (j : Int), ()), ()) ⟨[], m.toNat, j, by simp; omega, by simp [small], by simp; omega, h4⟩ (by simp only; omega)
  rw [r1]
  obtain ⟨rfl, l, q, rfl, hs, hm, hq⟩ := r2
  refine ⟨l, q, ?_, hs, by omega, hq⟩
  simp only [obs, Nat.div_one, Nat.mul_one, ik_length, Nat.zero_add, bleN_le (Nat.le_refl _), need_true, ik_take, List.take_length]
  rfl

end Go.Proofs.Ytepjbmlhfhahcaa
