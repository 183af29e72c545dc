/- What checking the readings of a report comes to: the whole. -/
import Derived.Test.YtjdafdibghfdhaaDoorLb
set_option linter.unusedVariables false
set_option linter.unusedSimpArgs false
namespace Go.Proofs.YtjdafdibghfdhaaDoor
open Go Go.PM

theorem half (fu d : Nat) (hf : 18446744073709551616 ≤ fu) (x : List (Int × Int)) (hn : x.length ≤ 1000) (L : List Int) (hL : L.length ≤ 1000000) (cs : List C) (hcs : cs = ints L) :
    ((cl fu (d + 4) fn_limits_find [V.c (C.sl x.length (prs x)), I 4] []).bind fun out3 =>
        rT out3.r fun xs2 =>
        uncV xs2 fun x4 ys4 =>
        rC x4 fun c7 =>
        asI .i64 c7 fun i4 =>
        uncV ys4 fun x5 ys5 =>
        rC x5 fun c8 =>
        asB c8 fun b3 =>
        nilV ys5 <|
        (cl fu (d + 4) fn_limits_find [V.c (C.sl x.length (prs x)), I 5] []).bind fun out4 =>
        rT out4.r fun xs3 =>
        uncV xs3 fun x6 ys6 =>
        rC x6 fun c9 =>
        asI .i64 c9 fun i5 =>
        uncV ys6 fun x7 ys7 =>
        rC x7 fun c10 =>
        asB c10 fun b4 =>
        nilV ys7 <|
        bif b3 then
          bif b4 then
            bif decide (IntKind.i64.wrap ((IntKind.i64.wrap (i4 * i4)) + (IntKind.i64.wrap (i5 * i5))) > 810000) then
              need ((((Nat.beq ((cs.length / 1) * 1) cs.length) && true) && (Nat.ble (((cs.length / 1) + 2) * 8) 140737488355328)) && (Nat.ble ((cs.length / 1) + 2) 140737488355328)) <|
              (cl fu (d + 4) fn_slices_Sort_sint_int [V.own 1000000 0 ((cs.length / 1) + 2)] [.sb ty_int 0 (cs ++ ([C.v (.int .i64 4), C.v (.int .i64 5)]))]).bind fun out5 =>
              uncO out5.objs fun o os =>
              rS o ty_int 0 fun cs' =>
              need (Nat.beq cs'.length ((cs ++ ([C.v (.int .i64 4), C.v (.int .i64 5)])).length)) <|
              (cl fu (d + 4) fn_slices_Compact_sint_int [V.own 1000000 0 ((cs.length / 1) + 2)] [.sb ty_int 0 cs']).bind fun out6 =>
              uncO out6.objs fun o1 os1 =>
              rF o1 ty_int fun fz cs1 =>
              need (Nat.beq cs1.length cs'.length) <|
              rC out6.r fun c11 =>
              some ⟨V.c c11, [], none⟩
            else
              (cl fu (d + 4) fn_slices_Sort_sint_int [V.own 1000000 0 (cs.length / 1)] [.sb ty_int 0 cs]).bind fun out7 =>
              uncO out7.objs fun o2 os2 =>
              rS o2 ty_int 0 fun cs2 =>
              need (Nat.beq cs2.length cs.length) <|
              (cl fu (d + 4) fn_slices_Compact_sint_int [V.own 1000000 0 (cs.length / 1)] [.sb ty_int 0 cs2]).bind fun out8 =>
              uncO out8.objs fun o3 os3 =>
              rF o3 ty_int fun fz1 cs3 =>
              need (Nat.beq cs3.length cs2.length) <|
              rC out8.r fun c12 =>
              some ⟨V.c c12, [], none⟩
          else
            (cl fu (d + 4) fn_slices_Sort_sint_int [V.own 1000000 0 (cs.length / 1)] [.sb ty_int 0 cs]).bind fun out9 =>
            uncO out9.objs fun o4 os4 =>
            rS o4 ty_int 0 fun cs4 =>
            need (Nat.beq cs4.length cs.length) <|
            (cl fu (d + 4) fn_slices_Compact_sint_int [V.own 1000000 0 (cs.length / 1)] [.sb ty_int 0 cs4]).bind fun out10 =>
            uncO out10.objs fun o5 os5 =>
            rF o5 ty_int fun fz2 cs5 =>
            need (Nat.beq cs5.length cs4.length) <|
            rC out10.r fun c13 =>
            some ⟨V.c c13, [], none⟩
        else
          (cl fu (d + 4) fn_slices_Sort_sint_int [V.own 1000000 0 (cs.length / 1)] [.sb ty_int 0 cs]).bind fun out11 =>
          uncO out11.objs fun o6 os6 =>
          rS o6 ty_int 0 fun cs6 =>
          need (Nat.beq cs6.length cs.length) <|
          (cl fu (d + 4) fn_slices_Compact_sint_int [V.own 1000000 0 (cs.length / 1)] [.sb ty_int 0 cs6]).bind fun out12 =>
          uncO out12.objs fun o7 os7 =>
          rF o7 ty_int fun fz3 cs7 =>
          need (Nat.beq cs7.length cs6.length) <|
          rC out12.r fun c14 =>
          (some ⟨V.c c14, [], none⟩ : Option Out)) = some ⟨V.c (C.sl (setI (L ++ if stormB x then [4, 5] else [])).length (ints (setI (L ++ if stormB x then [4, 5] else [])))), [], none⟩ := by
  have hl : cs.length / 1 = L.length := by rw [hcs, ik_length, Nat.div_one]
  have hl1 : cs.length = L.length := by rw [hcs, ik_length]
  have tl := sp_tail fu (d + 3) L (by omega) (cs.length / 1) cs hl hcs
  rw [sp_find fu d hf x 4 (by omega), sp_find fu d hf x 5 (by omega)]
  simp only [obs, rT_tup, uncV_cons, rC_c, asI_int, asB_bool, nilV_nil]
  unfold stormB
  cases h4 : fl x 4 with
  | false =>
    simp only [cf, Bool.false_and, Bool.false_eq_true, if_false, List.append_nil]
    exact tl
  | true =>
    cases h5 : fl x 5 with
    | false =>
      simp only [ct, cf, Bool.true_and, Bool.false_and, Bool.false_eq_true, if_false, List.append_nil]
      exact tl
    | true =>
      obtain ⟨⟨q1, q2⟩, q3, q4⟩ := sq_bound (fl_bound h4) (fl_bound h5)
      rw [IntWalk.i64_in (fv x 4 * fv x 4) ⟨by omega, by omega⟩, IntWalk.i64_in (fv x 5 * fv x 5) ⟨by omega, by omega⟩, IntWalk.i64_in (fv x 4 * fv x 4 + fv x 5 * fv x 5) ⟨by omega, by omega⟩]
      by_cases hs : fv x 4 * fv x 4 + fv x 5 * fv x 5 > 810000
      · rw [decide_eq_true hs]
        simp only [ct, Bool.and_self, if_true]
        rw [show (cs.length / 1 * 1).beq cs.length = true from beqN_eq (by rw [Nat.div_one, Nat.mul_one]), bleN_le (show (cs.length / 1 + 2) * 8 ≤ 140737488355328 by omega), bleN_le (show cs.length / 1 + 2 ≤ 140737488355328 by omega)]
        simp only [Bool.and_self, need_true]
        exact sp_tail fu (d + 3) (L ++ [4, 5]) (by simp; omega) (cs.length / 1 + 2) _ (by simp; omega) (by rw [hcs, snoc2])
      · rw [decide_eq_false hs]
        simp only [ct, cf, Bool.and_false, Bool.false_eq_true, if_false, List.append_nil]
        exact tl

theorem sp_Check (fu d : Nat) (hf : 18446744073709551616 ≤ fu) (x : List (Int × Int)) (hn : x.length ≤ 1000) :
    cl fu (d + 5) fn_limits_Check [V.c (C.sl x.length (prs x))] [] = some ⟨V.c (C.sl (chk x).length (ints (chk x))), [], none⟩ := by
  rw [eq_limits_Check]
  have hgl := grossL_length x
  rw [show (([] : List C), (0 : Int), ()) = (fun j : Nat => (ints (grossL (x.take j)), (j : Int), ())) 0 by simp [grossL], iter_run (fun j : Nat => (ints (grossL (x.take j)), (j : Int), ())) 0 (ints (grossL x), (x.length : Int), ()) x.length 0 fu ?_ ?_ (by omega)]
  · simp only [obs]
    rw [sp_find fu d hf x 2 (by omega), sp_find fu d hf x 3 (by omega)]
    simp only [obs, rT_tup, uncV_cons, rC_c, asI_int, asB_bool, nilV_nil]
    have hb : ((ints (grossL x)).length / 1 * 1).beq (ints (grossL x)).length = true := beqN_eq (by rw [Nat.div_one, Nat.mul_one])
    have hl : (ints (grossL x)).length = (grossL x).length := ik_length _ _
    unfold chk wetB
    cases h2 : fl x 2 with
    | false =>
      have H := half fu d hf x hn (grossL x) (by omega) _ rfl
      simp only [cf, Bool.false_and, Bool.false_eq_true, if_false, List.append_nil, hb, Bool.and_self, need_true, obs] at H ⊢
      exact H
    | true =>
      cases h3 : fl x 3 with
      | false =>
        have H := half fu d hf x hn (grossL x) (by omega) _ rfl
        simp only [ct, cf, Bool.true_and, Bool.false_and, Bool.false_eq_true, if_false, List.append_nil, hb, Bool.and_self, need_true, obs] at H ⊢
        exact H
      | true =>
        by_cases hw : fv x 3 > fv x 2
        · rw [decide_eq_true hw]
          have H := half fu d hf x hn (grossL x ++ [2, 3]) (by simp; omega) _ (snoc2 _ _ _)
          simp only [ct, Bool.true_and, if_true, hb, Bool.and_self, need_true, obs, bleN_le (show ((ints (grossL x)).length / 1 + 2) * 8 ≤ 140737488355328 by omega), bleN_le (show (ints (grossL x)).length / 1 + 2 ≤ 140737488355328 by omega), beqN_eq (show ((ints (grossL x)).length / 1 + 2) * 1 = (ints (grossL x) ++ [C.v (.int .i64 2), C.v (.int .i64 3)]).length by simp)] at H ⊢
          exact H
        · rw [decide_eq_false hw]
          have H := half fu d hf x hn (grossL x) (by omega) _ rfl
          simp only [ct, cf, Bool.and_false, Bool.false_eq_true, if_false, List.append_nil, hb, Bool.and_self, need_true, obs] at H ⊢
          exact H
  · intro j _ hj
    have hj : j < x.length := by omega
    have hg := grossL_length (x.take j)
    rw [List.length_take, Nat.min_eq_left (Nat.le_of_lt hj)] at hg
    simp only [lt_yes (show (j : Int) < (x.length : Int) by omega), ct, inR_nat hj, need_true, Int.toNat_natCast, unc_prs hj, unc_cons, asI_int, sp_Gross, obs, rC_c, asB_bool, ik_length, Nat.div_one, Nat.mul_one, beqN_self, Bool.and_self, bleN_le (show ((grossL (x.take j)).length + 1) * 8 ≤ 140737488355328 by omega), bleN_le (show (grossL (x.take j)).length + 1 ≤ 140737488355328 by omega), ik_snoc, List.length_append, List.length_cons, List.length_nil, Nat.zero_add]
    rw [IntWalk.i64_in ((j : Int) + 1) ⟨by omega, by omega⟩, grossL_take x j hj]
    cases grossB x[j].1 x[j].2 with
    | true => simp
    | false => simp
  · simp
end Go.Proofs.YtjdafdibghfdhaaDoor
