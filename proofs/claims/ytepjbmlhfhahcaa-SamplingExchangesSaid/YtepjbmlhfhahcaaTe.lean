/- The statement that both tests return what the document specifies: its function answers true, at any samples and bytes. -/
import Derived.Test.YtepjbmlhfhahcaaTd
set_option linter.unusedVariables false
set_option linter.unusedSimpArgs false
namespace Go.Proofs.Ytepjbmlhfhahcaa
open Go Go.PM

theorem out3_r (r : Int × Int × Int) : (out3 r).r = V.tup [V.agg [C.v (.int .i64 r.1), C.v (.int .i64 r.2.1)], I r.2.2] := id rfl

theorem sp_SamplingTests (fu d : Nat) (hf : 18446744073709551616 ≤ fu) (a b bs : List Int) (hbs : bytes bs) :
    cl fu (d + 9) fn_synopticlaw39_SamplingTests [V.c (C.sl a.length (ints a)), V.c (C.sl b.length (ints b)), V.c (C.sl bs.length (ik .u8 bs))] [] = some ⟨B true, [], none⟩ := by
  rw [eq_synopticlaw39_SamplingTests, sp_awake fu d hf]
  simp only [obs, rC_c, asB_bool, Bool.not_true, cf]
  by_cases h1 : a.length ≤ 20
  · rw [show decide ((a.length : Int) > 20) = false from decide_eq_false (by omega)]
    simp only [cf]
    by_cases h2 : b.length ≤ 20
    · rw [show decide ((b.length : Int) > 20) = false from decide_eq_false (by omega)]
      simp only [cf]
      have hb' : bytes (bs.take 60) := fun x hx => hbs x (List.mem_of_mem_take hx)
      have hl' : (bs.take 60).length ≤ 1000000000000 := by simp; omega
      have hN := sp_New fu (d + 7) bs 60
      unfold codesO codesC at hN
      rw [show ((60 : Nat) : Int) = 60 from rfl] at hN
      rw [hN]
      obtain ⟨x, i, h3, xs, xl, hi⟩ := sp_sample fu (d + 5) hf (bs.take 60) hb' 0 (by omega) hl' 6 (by omega)
      obtain ⟨y, j, h4, ys, yl, hj⟩ := sp_sample fu (d + 5) hf (bs.take 60) hb' i hi hl' 5 (by omega)
      unfold codesO codesC at h3 h4
      simp only [obs, rP_ptr, show (Nat.beq 1000000 (OUT + 0)) = true from rfl, beqN_self, Bool.and_self, need_true, uncO_cons, rN_ob, List.length_cons, List.length_nil, Nat.zero_add, Nat.reduceAdd, unc_cons, asI_int, h3, h4, rO_ob, rC_c]
      obtain ⟨fu', rfl⟩ : ∃ n, fu = n + 5 := ⟨fu - 5, by omega⟩
      have e0 : signsR ([] : List Int) = signsR [] := rfl
      have s1 := sp_Signs_any (fu' + 5) (d + 1) hf a (by omega)
      have s2 := sp_Signs_any (fu' + 5) (d + 1) hf x (by omega)
      have s3 := sp_Signs_any (fu' + 5) (d + 1) hf [] (by simp)
      have r1 := sp_ref_Signs (fu' + 5) (d + 6) hf a (by omega)
      have r2 := sp_ref_Signs (fu' + 5) (d + 6) hf x (by omega)
      have r3 := sp_ref_Signs (fu' + 5) (d + 6) hf [] (by simp)
      have x1 := sp_Exchange (fu' + 5) (d + 1) hf a b (by omega) (by omega)
      have x2 := sp_Exchange (fu' + 5) (d + 1) hf x y (by omega) (by omega)
      have x3 := sp_Exchange (fu' + 5) (d + 1) hf x [] (by omega) (by simp)
      have x4 := sp_Exchange (fu' + 5) (d + 1) hf [] y (by simp) (by omega)
      have y1 := sp_ref_Exchange (fu' + 5) (d + 6) hf a b (by omega) (by omega)
      have y2 := sp_ref_Exchange (fu' + 5) (d + 6) hf x y (by omega) (by omega)
      have y3 := sp_ref_Exchange (fu' + 5) (d + 6) hf x [] (by omega) (by simp)
      have y4 := sp_ref_Exchange (fu' + 5) (d + 6) hf [] y (by simp) (by omega)
      simp only [ik_nil, List.length_nil] at s3 r3 x3 x4 y3 y4
      generalize signsR a = sa at *
      generalize signsR x = sx at *
      generalize signsR [] = sn at *
      generalize exchR a b = ea at *
      generalize exchR x y = ex at *
      generalize exchR x [] = en at *
      generalize exchR [] y = em at *
      rw [iter_next (z := (false, 1, ())) ?_, iter_next (z := (false, 2, ())) ?_, iter_next (z := (false, 3, ())) ?_, iter_next (z := (false, 4, ())) ?_, iter_one (e := 0) (z := (false, 4, ())) (by omega) (by simp)]
      · rfl
      · simp only [show decide ((3 : Int) < 4) = true from rfl, ct, show inR (3 : Int) 4 = true from rfl, need_true, show (3 : Int).toNat = 3 from rfl, Nat.reduceMul, Nat.reduceAdd, Nat.zero_add, List.drop_succ_cons, List.drop_zero, List.take_succ_cons, List.take_zero, List.length_cons, List.length_nil, show ∀ p q : C, putAt [C.nl, C.nl] 0 [p, q] = [p, q] from fun _ _ => id rfl, unc_cons, nrm_sl, nrm_nl, noYl_sl, show Nat.ble 2 2 = true from rfl, beqN_self, Bool.and_self, s3, r3, x4, y4, obs, out3_r, rT_tup, uncV_cons, rA_agg, rC_c, asI_int, nilV_nil, bne_self_eq_false, beq_self_eq_true, Bool.and_true, Bool.not_true, cf]
        rfl
      · simp only [show decide ((2 : Int) < 4) = true from rfl, ct, show inR (2 : Int) 4 = true from rfl, need_true, show (2 : Int).toNat = 2 from rfl, Nat.reduceMul, Nat.reduceAdd, Nat.zero_add, List.drop_succ_cons, List.drop_zero, List.take_succ_cons, List.take_zero, List.length_cons, List.length_nil, show ∀ p q : C, putAt [C.nl, C.nl] 0 [p, q] = [p, q] from fun _ _ => id rfl, unc_cons, nrm_sl, nrm_nl, noYl_sl, show Nat.ble 2 4 = true from rfl, show Nat.ble 2 2 = true from rfl, beqN_self, Bool.and_self, s2, r2, x3, y3, obs, out3_r, rT_tup, uncV_cons, rA_agg, rC_c, asI_int, nilV_nil, bne_self_eq_false, beq_self_eq_true, Bool.and_true, Bool.not_true, cf]
        rfl
      · simp only [show decide ((1 : Int) < 4) = true from rfl, ct, show inR (1 : Int) 4 = true from rfl, need_true, show (1 : Int).toNat = 1 from rfl, Nat.reduceMul, Nat.reduceAdd, Nat.zero_add, List.drop_succ_cons, List.drop_zero, List.take_succ_cons, List.take_zero, List.length_cons, List.length_nil, show ∀ p q : C, putAt [C.nl, C.nl] 0 [p, q] = [p, q] from fun _ _ => id rfl, unc_cons, nrm_sl, nrm_nl, noYl_sl, show Nat.ble 2 6 = true from rfl, show Nat.ble 2 2 = true from rfl, beqN_self, Bool.and_self, s2, r2, x2, y2, obs, out3_r, rT_tup, uncV_cons, rA_agg, rC_c, asI_int, nilV_nil, bne_self_eq_false, beq_self_eq_true, Bool.and_true, Bool.not_true, cf]
        rfl
      · simp only [show decide ((0 : Int) < 4) = true from rfl, ct, show inR (0 : Int) 4 = true from rfl, need_true, Int.toNat_zero, Nat.zero_mul, Nat.reduceAdd, Nat.zero_add, List.drop_succ_cons, List.drop_zero, List.take_succ_cons, List.take_zero, List.length_cons, List.length_nil, show ∀ p q : C, putAt [C.nl, C.nl] 0 [p, q] = [p, q] from fun _ _ => id rfl, unc_cons, nrm_sl, nrm_nl, noYl_sl, show Nat.ble 2 8 = true from rfl, show Nat.ble 2 2 = true from rfl, beqN_self, Bool.and_self, s1, r1, x1, y1, obs, out3_r, rT_tup, uncV_cons, rA_agg, rC_c, asI_int, nilV_nil, bne_self_eq_false, beq_self_eq_true, Bool.and_true, Bool.not_true, cf]
        rfl
    · rw [show decide ((b.length : Int) > 20) = true from decide_eq_true (by omega)]
      rfl
  · rw [show decide ((a.length : Int) > 20) = true from decide_eq_true (by omega)]
    rfl

end Go.Proofs.Ytepjbmlhfhahcaa
