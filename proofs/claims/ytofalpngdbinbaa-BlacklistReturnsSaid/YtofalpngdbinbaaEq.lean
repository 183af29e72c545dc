/- What the program's functions come to. -/
import Derived.Test.YtofalpngdbinbaaLay
set_option linter.unusedVariables false
set_option linter.unusedSimpArgs false
namespace Go.Proofs.Ytofalpngdbinbaa
open Go Go.PM
set_option maxRecDepth 100000
/- synoptic/synopticlaw19.BlacklistReturns -/
theorem eq_synopticlaw19_BlacklistReturns (fu d : Nat) (a0 : Int) (a1 : Int) (a2 : Bool) (n3 : Nat) (a3 : List C) :
    cl fu (d + 1) fn_synopticlaw19_BlacklistReturns [I a0, I a1, B a2, V.c (C.sl n3 a3)] [] = (
    (cl fu d fn_synoptickeep_New [V.c (C.sl n3 a3)] []).bind fun out =>
    rP out.r 0 <|
    uncO out.objs fun o os =>
    rN o ty_synoptickeep_Src 2 fun cs =>
    unc cs fun c r =>
    unc r fun c1 _ =>
    asI .i64 c1 fun i =>
    (cl fu d fn_synoptickeep_Src_Range [V.ptr 1000000 0, I 30, I 100] [.ob ty_synoptickeep_Src 0 ([c, C.v (.int .i64 i)])]).bind fun out1 =>
    uncO out1.objs fun o1 os1 =>
    rO o1 ty_synoptickeep_Src 0 fun cs1 =>
    need ((Nat.beq cs1.length 2) && true) <|
    unc cs1 fun c2 r2 =>
    unc r2 fun c3 _ =>
    asI .i64 c3 fun i1 =>
    rC out1.r fun c4 =>
    asI .i64 c4 fun i2 =>
    (cl fu d fn_synoptickeep_Src_Range [V.ptr 1000000 0, I 1, I 30] [.ob ty_synoptickeep_Src 0 ([c2, C.v (.int .i64 i1)])]).bind fun out2 =>
    uncO out2.objs fun o2 os2 =>
    rO o2 ty_synoptickeep_Src 0 fun cs2 =>
    need ((Nat.beq cs2.length 2) && true) <|
    unc cs2 fun c5 r4 =>
    unc r4 fun c6 _ =>
    asI .i64 c6 fun i3 =>
    rC out2.r fun c7 =>
    asI .i64 c7 fun i4 =>
    (cl fu d fn_synoptickeep_Mod [I a0, I 300] []).bind fun out3 =>
    rC out3.r fun c8 =>
    asI .i64 c8 fun i5 =>
    (bif decide (i5 > 0) then
      (cl fu d fn_synoptickeep_Mod [I a1, I (IntKind.i64.wrap (i5 + 1))] []).bind fun out4 =>
      rC out4.r fun c9 =>
      asI .i64 c9 fun i6 =>
      some (0, (i6, [C.v (.int .i64 0), C.v (.int .i64 0), C.v (.int .i64 0), C.v (.int .i64 0), C.v (.int .i64 0), C.v (.int .i64 0), C.v (.int .i64 0), C.v (.int .i64 0), C.v (.int .i64 0), C.v (.int .i64 0), C.v (.int .i64 0), C.v (.int .i64 0), C.v (.int .i64 0), C.v (.int .i64 0), C.v (.int .i64 0), C.v (.int .i64 0), C.v (.int .i64 0), C.v (.int .i64 0), C.v (.int .i64 0), C.v (.int .i64 0), C.v (.int .i64 0), C.v (.int .i64 0), C.v (.int .i64 0), C.v (.int .i64 0), C.v (.int .i64 0), C.v (.int .i64 0), C.v (.int .i64 0), C.v (.int .i64 0), C.v (.int .i64 0), C.v (.int .i64 0), C.v (.int .i64 0), C.v (.int .i64 0), C.v (.int .i64 0), C.v (.int .i64 0), C.v (.int .i64 0), C.v (.int .i64 0), C.v (.int .i64 0), C.v (.int .i64 0), C.v (.int .i64 0), C.v (.int .i64 i2), C.v (.int .i64 i4)], ()))
    else
      some (0, (0, [C.v (.int .i64 0), C.v (.int .i64 0), C.v (.int .i64 0), C.v (.int .i64 0), C.v (.int .i64 0), C.v (.int .i64 0), C.v (.int .i64 0), C.v (.int .i64 0), C.v (.int .i64 0), C.v (.int .i64 0), C.v (.int .i64 0), C.v (.int .i64 0), C.v (.int .i64 0), C.v (.int .i64 0), C.v (.int .i64 0), C.v (.int .i64 0), C.v (.int .i64 0), C.v (.int .i64 0), C.v (.int .i64 0), C.v (.int .i64 0), C.v (.int .i64 0), C.v (.int .i64 0), C.v (.int .i64 0), C.v (.int .i64 0), C.v (.int .i64 0), C.v (.int .i64 0), C.v (.int .i64 0), C.v (.int .i64 0), C.v (.int .i64 0), C.v (.int .i64 0), C.v (.int .i64 0), C.v (.int .i64 0), C.v (.int .i64 0), C.v (.int .i64 0), C.v (.int .i64 0), C.v (.int .i64 0), C.v (.int .i64 0), C.v (.int .i64 0), C.v (.int .i64 0), C.v (.int .i64 i2), C.v (.int .i64 i4)], ())) : Option (Nat × Int × List C × Unit)).bind fun p =>
    (bif a2 then
      some (0, (p.2.2.1, (C.nl, C.sl 1 ([C.v (.string (⟨#[65, 76, 80, 72, 65]⟩))]), ()), ()))
    else
      some (0, (p.2.2.1, (C.nl, C.nl, ()), ())) : Option (Nat × List C × (C × C × Unit) × Unit)).bind fun p1 =>
    need (Nat.ble 41 p1.2.1.length) <|
    (cl fu d fn_blacklist_Push [V.agg ([p1.2.2.1.1, p1.2.2.1.2.1]), V.c (C.sl 1 ([C.v (.string (⟨#[65, 76, 80, 72, 65]⟩)), C.v (.int .i64 i5), C.v (.int .i64 p.2.1)])), V.agg (List.take 41 p1.2.1)] []).bind fun out5 =>
    rT out5.r fun xs =>
    uncV xs fun x ys =>
    rA x fun cs3 =>
    need (Nat.beq cs3.length 2) <|
    unc cs3 fun c10 r6 =>
    unc r6 fun c11 _ =>
    uncV ys fun x1 ys1 =>
    rC x1 fun c12 =>
    asI .i64 c12 fun i7 =>
    nilV ys1 <|
    bif decide (i5 ≥ 5) then
      unc (List.drop 39 p1.2.1) fun c13 _ =>
      asI .i64 c13 fun i8 =>
      (bif a2 then
        bif i5 == 0 then
          some (0, (true, (c10, c11, ()), ()))
        else
          unc (List.drop 40 p1.2.1) fun c14 _ =>
          asI .i64 c14 fun i9 =>
          some (0, (decide (IntKind.i64.wrap (100 * p.2.1) ≥ IntKind.i64.wrap (i9 * i5)), (c10, c11, ()), ()))
      else
        some (0, (decide (IntKind.i64.wrap (100 * p.2.1) ≥ IntKind.i64.wrap (i8 * i5)), (c10, c11, ()), ())) : Option (Nat × Bool × (C × C × Unit) × Unit)).bind fun p2 =>
      bif i7 == 0 then
        (cl fu d fn_blacklist_Listed [V.agg ([p2.2.2.1.1, p2.2.2.1.2.1]), V.c (C.v (.string (⟨#[65, 76, 80, 72, 65]⟩)))] []).bind fun out6 =>
        rC out6.r fun c15 =>
        asB c15 fun b =>
        bif b == p2.2.1 then
          (cl fu d fn_synopticlaw19_awake [] []).bind fun out7 =>
          rC out7.r fun c16 =>
          asB c16 fun b1 =>
          some ⟨B b1, [], none⟩
        else
          some ⟨B false, [], none⟩
      else
        some ⟨B false, [], none⟩
    else
      (bif a2 then
        bif i5 == 0 then
          some (0, (true, (c10, c11, ()), ()))
        else
          unc (List.drop 40 p1.2.1) fun c17 _ =>
          asI .i64 c17 fun i10 =>
          some (0, (decide (IntKind.i64.wrap (100 * p.2.1) ≥ IntKind.i64.wrap (i10 * i5)), (c10, c11, ()), ()))
      else
        some (0, (false, (c10, c11, ()), ())) : Option (Nat × Bool × (C × C × Unit) × Unit)).bind fun p3 =>
      bif i7 == 0 then
        (cl fu d fn_blacklist_Listed [V.agg ([p3.2.2.1.1, p3.2.2.1.2.1]), V.c (C.v (.string (⟨#[65, 76, 80, 72, 65]⟩)))] []).bind fun out8 =>
        rC out8.r fun c18 =>
        asB c18 fun b2 =>
        bif b2 == p3.2.1 then
          (cl fu d fn_synopticlaw19_awake [] []).bind fun out9 =>
          rC out9.r fun c19 =>
          asB c19 fun b3 =>
          some ⟨B b3, [], none⟩
        else
          some ⟨B false, [], none⟩
      else
        some ⟨B false, [], none⟩) := by kernel_rfl
/- synoptic/synoptickeep.New -/
theorem eq_synoptickeep_New (fu d : Nat) (n0 : Nat) (a0 : List C) :
    cl fu (d + 1) fn_synoptickeep_New [V.c (C.sl n0 a0)] [] = (
    need ((decide (0 ≤ (if 2000 < ((n0 : Nat) : Int) then 2000 else ((n0 : Nat) : Int)))) && (decide ((if 2000 < ((n0 : Nat) : Int) then 2000 else ((n0 : Nat) : Int)) ≤ ((n0 : Nat) : Int)))) <|
    some ⟨V.ptr 1000000 0, [.ob ty_synoptickeep_Src 0 ([C.sl ((if 2000 < ((n0 : Nat) : Int) then 2000 else ((n0 : Nat) : Int)).toNat) (List.take (((if 2000 < ((n0 : Nat) : Int) then 2000 else ((n0 : Nat) : Int)).toNat) * 1) a0), C.v (.int .i64 0)])], none⟩) := by kernel_rfl
/- synoptic/blacklist.Push -/
theorem eq_blacklist_Push (fu d : Nat) (a0_0 : C) (a0_1 : C) (n1 : Nat) (a1 : List C) (a2 : List C) :
    cl fu (d + 1) fn_blacklist_Push [V.agg ([a0_0, a0_1]), V.c (C.sl n1 a1), V.agg a2] [] = (
    (cl fu d fn_blacklist_Validate [V.agg ([a0_0, a0_1])] []).bind fun out =>
    rC out.r fun c =>
    asI .i64 c fun i =>
    bif i != 0 then
      some ⟨V.tup [V.agg ([C.nl, C.nl]), I i], [], none⟩
    else
      (cl fu d fn_blacklist_Validate [V.agg ([C.sl 1 ([C.sl n1 a1]), C.nl])] []).bind fun out1 =>
      rC out1.r fun c1 =>
      asI .i64 c1 fun i1 =>
      bif i1 != 0 then
        some ⟨V.tup [V.agg ([C.nl, C.nl]), I i1], [], none⟩
      else
        unc (List.drop 40 a2) fun c2 r =>
        asI .i64 c2 fun i2 =>
        (cl fu d fn_blacklist_percent [I i2] []).bind fun out2 =>
        rC out2.r fun c3 =>
        asB c3 fun b =>
        bif !b then
          some ⟨V.tup [V.agg ([C.nl, C.nl]), I 1], [], none⟩
        else
          unc (List.drop 39 a2) fun c4 _ =>
          asI .i64 c4 fun i3 =>
          (cl fu d fn_blacklist_percent [I i3] []).bind fun out3 =>
          rC out3.r fun c5 =>
          asB c5 fun b1 =>
          bif !b1 then
            some ⟨V.tup [V.agg ([C.nl, C.nl]), I 1], [], none⟩
          else
            unc (List.drop 40 a2) fun c6 _ =>
            asI .i64 c6 fun i4 =>
            unc (List.drop 39 a2) fun c7 _ =>
            asI .i64 c7 fun i5 =>
            bif decide (i4 > i5) then
              some ⟨V.tup [V.agg ([C.nl, C.nl]), I 1], [], none⟩
            else
              (cl fu d fn_blacklist_copied [V.agg ([a0_0, a0_1])] []).bind fun out4 =>
              rG out4.r fun zs =>
              uncV zs fun x r4 =>
              rW x 0 fun n =>
              uncO out4.objs fun o os =>
              rS o ty_sapi_Count 0 fun cs =>
              need ((Nat.beq (n * 1) cs.length) && true) <|
              uncV r4 fun x1 r5 =>
              rW x1 1 fun n3 =>
              uncO os fun o1 os1 =>
              rS o1 ty_string 0 fun cs1 =>
              need ((Nat.beq (n3 * 1) cs1.length) && true) <|
              nilV r5 <|
              (cl fu d fn_slices_Clone_sapi_Count_api_Count [V.c (C.sl n1 a1)] []).bind fun out5 =>
              rC out5.r fun c8 =>
              need ((((Nat.beq (n * 1) cs.length) && true) && (Nat.ble ((n + 1) * 24) 140737488355328)) && (Nat.ble (n + 1) 140737488355328)) <|
              bif decide (((n + 1 : Nat) : Int) > 12) then
                need (decide (1 ≤ ((n + 1 : Nat) : Int))) <|
                need (Nat.ble (1 + (((n + 1) - 1) * 1)) ((cs ++ ([c8])).length)) <|
                need (Nat.ble (0 + (n3 * 1)) cs1.length) <|
                (cl fu d fn_blacklist_sums [V.agg ([C.sl ((n + 1) - 1) (List.take (((n + 1) - 1) * 1) (List.drop 1 (cs ++ ([c8])))), C.sl n3 (List.take (n3 * 1) cs1)])] []).bind fun out6 =>
                rC out6.r fun c9 =>
                need (noYl [V.c c9]) <|
                (cl fu d fn_maps_Keys_map_string_api_Count_string_api_Count [V.c c9] []).bind fun out7 =>
                rC out7.r fun c10 =>
                need (noYl [V.c c10]) <|
                (cl fu d fn_slices_Sorted_string [V.c c10] []).bind fun out8 =>
                rC out8.r fun c11 =>
                asSl c11 fun n4 cs2 =>
                need (Nat.ble (1 + (((n + 1) - 1) * 1)) ((cs ++ ([c8])).length)) <|
                (iter (fun (y : Int × (C × C × Unit) × (C × List C × Unit) × Unit) =>
                  bif decide (y.1 < ((n4 : Nat) : Int)) then
                    asSl c11 fun n5 cs3 =>
                    need (inR y.1 n5) <|
                    unc (List.drop (y.1.toNat * 1) cs3) fun c12 _ =>
                    asS c12 fun s =>
                    asMp c9 ty_string ty_api_Count none (some 3) fun es =>
                    (mfd ty_string ([C.v (.string s)]) es).bind fun q =>
                    unc (orZ q ([C.v (.string (⟨#[]⟩)), C.v (.int .i64 0), C.v (.int .i64 0)])) fun c13 r7 =>
                    asS c13 fun s1 =>
                    unc r7 fun c14 r8 =>
                    asI .i64 c14 fun i6 =>
                    unc r8 fun c15 _ =>
                    asI .i64 c15 fun i7 =>
                    need (noYl [V.c (nrm a0_1)]) <|
                    (cl fu d fn_slices_Contains_sstring_string [V.c (nrm a0_1), V.c (C.v (.string s))] []).bind fun out9 =>
                    rC out9.r fun c16 =>
                    asB c16 fun b2 =>
                    bif b2 then
                      bif i6 == 0 then
                        need ((((Nat.beq ((y.2.2.1.2.1.length / 1) * 1) y.2.2.1.2.1.length) && true) && (Nat.ble (((y.2.2.1.2.1.length / 1) + 1) * 16) 140737488355328)) && (Nat.ble ((y.2.2.1.2.1.length / 1) + 1) 140737488355328)) <|
                        need (((Nat.beq (((y.2.2.1.2.1.length / 1) + 1) * 1) ((y.2.2.1.2.1 ++ ([C.v (.string s)])).length)) && true) && true) <|
                        some (0, (IntKind.i64.wrap (y.1 + 1), (y.2.1.1, y.2.1.2.1, ()), (y.2.2.1.1, y.2.2.1.2.1 ++ ([C.v (.string s)]), ()), ()))
                      else
                        unc (List.drop 40 a2) fun c17 _ =>
                        asI .i64 c17 fun i8 =>
                        bif decide (IntKind.i64.wrap (100 * i7) ≥ IntKind.i64.wrap (i8 * i6)) then
                          need ((((Nat.beq ((y.2.2.1.2.1.length / 1) * 1) y.2.2.1.2.1.length) && true) && (Nat.ble (((y.2.2.1.2.1.length / 1) + 1) * 16) 140737488355328)) && (Nat.ble ((y.2.2.1.2.1.length / 1) + 1) 140737488355328)) <|
                          need (((Nat.beq (((y.2.2.1.2.1.length / 1) + 1) * 1) ((y.2.2.1.2.1 ++ ([C.v (.string s)])).length)) && true) && true) <|
                          some (0, (IntKind.i64.wrap (y.1 + 1), (y.2.1.1, y.2.1.2.1, ()), (y.2.2.1.1, y.2.2.1.2.1 ++ ([C.v (.string s)]), ()), ()))
                        else
                          need (((Nat.beq ((y.2.2.1.2.1.length / 1) * 1) y.2.2.1.2.1.length) && true) && true) <|
                          some (0, (IntKind.i64.wrap (y.1 + 1), (y.2.1.1, y.2.1.2.1, ()), (y.2.2.1.1, y.2.2.1.2.1, ()), ()))
                    else
                      bif decide (i6 ≥ 5) then
                        unc (List.drop 39 a2) fun c18 _ =>
                        asI .i64 c18 fun i9 =>
                        bif decide (IntKind.i64.wrap (100 * i7) ≥ IntKind.i64.wrap (i9 * i6)) then
                          need ((((Nat.beq ((y.2.2.1.2.1.length / 1) * 1) y.2.2.1.2.1.length) && true) && (Nat.ble (((y.2.2.1.2.1.length / 1) + 1) * 16) 140737488355328)) && (Nat.ble ((y.2.2.1.2.1.length / 1) + 1) 140737488355328)) <|
                          need (((Nat.beq (((y.2.2.1.2.1.length / 1) + 1) * 1) ((y.2.2.1.2.1 ++ ([C.v (.string s)])).length)) && true) && true) <|
                          some (0, (IntKind.i64.wrap (y.1 + 1), (y.2.1.1, y.2.1.2.1, ()), (y.2.2.1.1, y.2.2.1.2.1 ++ ([C.v (.string s)]), ()), ()))
                        else
                          need (((Nat.beq ((y.2.2.1.2.1.length / 1) * 1) y.2.2.1.2.1.length) && true) && true) <|
                          some (0, (IntKind.i64.wrap (y.1 + 1), (y.2.1.1, y.2.1.2.1, ()), (y.2.2.1.1, y.2.2.1.2.1, ()), ()))
                      else
                        need (((Nat.beq ((y.2.2.1.2.1.length / 1) * 1) y.2.2.1.2.1.length) && true) && true) <|
                        some (0, (IntKind.i64.wrap (y.1 + 1), (y.2.1.1, y.2.1.2.1, ()), (y.2.2.1.1, y.2.2.1.2.1, ()), ()))
                  else
                    need (((Nat.beq ((y.2.2.1.2.1.length / 1) * 1) y.2.2.1.2.1.length) && true) && true) <|
                    some (1, (y.1, (y.2.1.1, y.2.1.2.1, ()), (y.2.2.1.1, y.2.2.1.2.1, ()), ()))) fu (0, (C.nl, C.nl, ()), (C.sl ((n + 1) - 1) (List.take (((n + 1) - 1) * 1) (List.drop 1 (cs ++ ([c8])))), [], ()), ())).bind fun p =>
                bif decide (((p.2.2.2.1.2.1.length / 1 : Nat) : Int) > 150) then
                  some ⟨V.tup [V.agg ([C.nl, C.nl]), I 2], [], none⟩
                else
                  need (Nat.ble (0 + ((p.2.2.2.1.2.1.length / 1) * 1)) p.2.2.2.1.2.1.length) <|
                  some ⟨V.tup [V.agg ([p.2.2.2.1.1, C.sl (p.2.2.2.1.2.1.length / 1) (List.take ((p.2.2.2.1.2.1.length / 1) * 1) p.2.2.2.1.2.1)]), I 0], [], none⟩
              else
                need (Nat.ble (0 + ((n + 1) * 1)) ((cs ++ ([c8])).length)) <|
                need (Nat.ble (0 + (n3 * 1)) cs1.length) <|
                (cl fu d fn_blacklist_sums [V.agg ([C.sl (n + 1) (List.take ((n + 1) * 1) (cs ++ ([c8]))), C.sl n3 (List.take (n3 * 1) cs1)])] []).bind fun out10 =>
                rC out10.r fun c19 =>
                need (noYl [V.c c19]) <|
                (cl fu d fn_maps_Keys_map_string_api_Count_string_api_Count [V.c c19] []).bind fun out11 =>
                rC out11.r fun c20 =>
                need (noYl [V.c c20]) <|
                (cl fu d fn_slices_Sorted_string [V.c c20] []).bind fun out12 =>
                rC out12.r fun c21 =>
                asSl c21 fun n6 cs4 =>
                need (Nat.ble (0 + ((n + 1) * 1)) ((cs ++ ([c8])).length)) <|
                (iter (fun (y1 : Int × (C × C × Unit) × (C × List C × Unit) × Unit) =>
                  bif decide (y1.1 < ((n6 : Nat) : Int)) then
                    asSl c21 fun n7 cs5 =>
                    need (inR y1.1 n7) <|
                    unc (List.drop (y1.1.toNat * 1) cs5) fun c22 _ =>
                    asS c22 fun s2 =>
                    asMp c19 ty_string ty_api_Count none (some 3) fun es1 =>
                    (mfd ty_string ([C.v (.string s2)]) es1).bind fun q1 =>
                    unc (orZ q1 ([C.v (.string (⟨#[]⟩)), C.v (.int .i64 0), C.v (.int .i64 0)])) fun c23 r13 =>
                    asS c23 fun s3 =>
                    unc r13 fun c24 r14 =>
                    asI .i64 c24 fun i10 =>
                    unc r14 fun c25 _ =>
                    asI .i64 c25 fun i11 =>
                    need (noYl [V.c (nrm a0_1)]) <|
                    (cl fu d fn_slices_Contains_sstring_string [V.c (nrm a0_1), V.c (C.v (.string s2))] []).bind fun out13 =>
                    rC out13.r fun c26 =>
                    asB c26 fun b3 =>
                    bif b3 then
                      bif i10 == 0 then
                        need ((((Nat.beq ((y1.2.2.1.2.1.length / 1) * 1) y1.2.2.1.2.1.length) && true) && (Nat.ble (((y1.2.2.1.2.1.length / 1) + 1) * 16) 140737488355328)) && (Nat.ble ((y1.2.2.1.2.1.length / 1) + 1) 140737488355328)) <|
                        need (((Nat.beq (((y1.2.2.1.2.1.length / 1) + 1) * 1) ((y1.2.2.1.2.1 ++ ([C.v (.string s2)])).length)) && true) && true) <|
                        some (0, (IntKind.i64.wrap (y1.1 + 1), (y1.2.1.1, y1.2.1.2.1, ()), (y1.2.2.1.1, y1.2.2.1.2.1 ++ ([C.v (.string s2)]), ()), ()))
                      else
                        unc (List.drop 40 a2) fun c27 _ =>
                        asI .i64 c27 fun i12 =>
                        bif decide (IntKind.i64.wrap (100 * i11) ≥ IntKind.i64.wrap (i12 * i10)) then
                          need ((((Nat.beq ((y1.2.2.1.2.1.length / 1) * 1) y1.2.2.1.2.1.length) && true) && (Nat.ble (((y1.2.2.1.2.1.length / 1) + 1) * 16) 140737488355328)) && (Nat.ble ((y1.2.2.1.2.1.length / 1) + 1) 140737488355328)) <|
                          need (((Nat.beq (((y1.2.2.1.2.1.length / 1) + 1) * 1) ((y1.2.2.1.2.1 ++ ([C.v (.string s2)])).length)) && true) && true) <|
                          some (0, (IntKind.i64.wrap (y1.1 + 1), (y1.2.1.1, y1.2.1.2.1, ()), (y1.2.2.1.1, y1.2.2.1.2.1 ++ ([C.v (.string s2)]), ()), ()))
                        else
                          need (((Nat.beq ((y1.2.2.1.2.1.length / 1) * 1) y1.2.2.1.2.1.length) && true) && true) <|
                          some (0, (IntKind.i64.wrap (y1.1 + 1), (y1.2.1.1, y1.2.1.2.1, ()), (y1.2.2.1.1, y1.2.2.1.2.1, ()), ()))
                    else
                      bif decide (i10 ≥ 5) then
                        unc (List.drop 39 a2) fun c28 _ =>
                        asI .i64 c28 fun i13 =>
                        bif decide (IntKind.i64.wrap (100 * i11) ≥ IntKind.i64.wrap (i13 * i10)) then
                          need ((((Nat.beq ((y1.2.2.1.2.1.length / 1) * 1) y1.2.2.1.2.1.length) && true) && (Nat.ble (((y1.2.2.1.2.1.length / 1) + 1) * 16) 140737488355328)) && (Nat.ble ((y1.2.2.1.2.1.length / 1) + 1) 140737488355328)) <|
                          need (((Nat.beq (((y1.2.2.1.2.1.length / 1) + 1) * 1) ((y1.2.2.1.2.1 ++ ([C.v (.string s2)])).length)) && true) && true) <|
                          some (0, (IntKind.i64.wrap (y1.1 + 1), (y1.2.1.1, y1.2.1.2.1, ()), (y1.2.2.1.1, y1.2.2.1.2.1 ++ ([C.v (.string s2)]), ()), ()))
                        else
                          need (((Nat.beq ((y1.2.2.1.2.1.length / 1) * 1) y1.2.2.1.2.1.length) && true) && true) <|
                          some (0, (IntKind.i64.wrap (y1.1 + 1), (y1.2.1.1, y1.2.1.2.1, ()), (y1.2.2.1.1, y1.2.2.1.2.1, ()), ()))
                      else
                        need (((Nat.beq ((y1.2.2.1.2.1.length / 1) * 1) y1.2.2.1.2.1.length) && true) && true) <|
                        some (0, (IntKind.i64.wrap (y1.1 + 1), (y1.2.1.1, y1.2.1.2.1, ()), (y1.2.2.1.1, y1.2.2.1.2.1, ()), ()))
                  else
                    need (((Nat.beq ((y1.2.2.1.2.1.length / 1) * 1) y1.2.2.1.2.1.length) && true) && true) <|
                    some (1, (y1.1, (y1.2.1.1, y1.2.1.2.1, ()), (y1.2.2.1.1, y1.2.2.1.2.1, ()), ()))) fu (0, (C.nl, C.nl, ()), (C.sl (n + 1) (List.take ((n + 1) * 1) (cs ++ ([c8]))), [], ()), ())).bind fun p1 =>
                bif decide (((p1.2.2.2.1.2.1.length / 1 : Nat) : Int) > 150) then
                  some ⟨V.tup [V.agg ([C.nl, C.nl]), I 2], [], none⟩
                else
                  need (Nat.ble (0 + ((p1.2.2.2.1.2.1.length / 1) * 1)) p1.2.2.2.1.2.1.length) <|
                  some ⟨V.tup [V.agg ([p1.2.2.2.1.1, C.sl (p1.2.2.2.1.2.1.length / 1) (List.take ((p1.2.2.2.1.2.1.length / 1) * 1) p1.2.2.2.1.2.1)]), I 0], [], none⟩) := by kernel_rfl
/- synoptic/synopticlaw19.awake -/
theorem eq_synopticlaw19_awake (fu d : Nat)  :
    cl fu (d + 1) fn_synopticlaw19_awake [] [] = (
    (cl fu d fn_blacklist_Push [V.agg ([C.nl, C.nl]), V.c (C.sl 1 ([C.v (.string (⟨#[65, 76, 80, 72, 65]⟩)), C.v (.int .i64 5), C.v (.int .i64 3)])), V.agg ([C.v (.int .i64 0), C.v (.int .i64 0), C.v (.int .i64 0), C.v (.int .i64 0), C.v (.int .i64 0), C.v (.int .i64 0), C.v (.int .i64 0), C.v (.int .i64 0), C.v (.int .i64 0), C.v (.int .i64 0), C.v (.int .i64 0), C.v (.int .i64 0), C.v (.int .i64 0), C.v (.int .i64 0), C.v (.int .i64 0), C.v (.int .i64 0), C.v (.int .i64 0), C.v (.int .i64 0), C.v (.int .i64 0), C.v (.int .i64 0), C.v (.int .i64 0), C.v (.int .i64 0), C.v (.int .i64 0), C.v (.int .i64 0), C.v (.int .i64 0), C.v (.int .i64 0), C.v (.int .i64 0), C.v (.int .i64 0), C.v (.int .i64 0), C.v (.int .i64 0), C.v (.int .i64 0), C.v (.int .i64 0), C.v (.int .i64 0), C.v (.int .i64 0), C.v (.int .i64 0), C.v (.int .i64 0), C.v (.int .i64 0), C.v (.int .i64 0), C.v (.int .i64 0), C.v (.int .i64 50), C.v (.int .i64 20)])] []).bind fun out =>
    rT out.r fun xs =>
    uncV xs fun x ys =>
    rA x fun cs =>
    need (Nat.beq cs.length 2) <|
    unc cs fun c r =>
    unc r fun c1 _ =>
    uncV ys fun x1 ys1 =>
    rC x1 fun c2 =>
    asI .i64 c2 fun i =>
    nilV ys1 <|
    (cl fu d fn_blacklist_Listed [V.agg ([c, c1]), V.c (C.v (.string (⟨#[65, 76, 80, 72, 65]⟩)))] []).bind fun out1 =>
    rC out1.r fun c3 =>
    asB c3 fun b =>
    (iter (fun (y : Int × Int × (C × C × Unit) × Unit) =>
      bif decide (y.2.1 < 2) then
        bif y.1 == 0 then
          (cl fu d fn_blacklist_Push [V.agg ([y.2.2.1.1, y.2.2.1.2.1]), V.c (C.sl 1 ([C.v (.string (⟨#[65, 76, 80, 72, 65]⟩)), C.v (.int .i64 5), C.v (.int .i64 0)])), V.agg ([C.v (.int .i64 0), C.v (.int .i64 0), C.v (.int .i64 0), C.v (.int .i64 0), C.v (.int .i64 0), C.v (.int .i64 0), C.v (.int .i64 0), C.v (.int .i64 0), C.v (.int .i64 0), C.v (.int .i64 0), C.v (.int .i64 0), C.v (.int .i64 0), C.v (.int .i64 0), C.v (.int .i64 0), C.v (.int .i64 0), C.v (.int .i64 0), C.v (.int .i64 0), C.v (.int .i64 0), C.v (.int .i64 0), C.v (.int .i64 0), C.v (.int .i64 0), C.v (.int .i64 0), C.v (.int .i64 0), C.v (.int .i64 0), C.v (.int .i64 0), C.v (.int .i64 0), C.v (.int .i64 0), C.v (.int .i64 0), C.v (.int .i64 0), C.v (.int .i64 0), C.v (.int .i64 0), C.v (.int .i64 0), C.v (.int .i64 0), C.v (.int .i64 0), C.v (.int .i64 0), C.v (.int .i64 0), C.v (.int .i64 0), C.v (.int .i64 0), C.v (.int .i64 0), C.v (.int .i64 50), C.v (.int .i64 20)])] []).bind fun out2 =>
          rT out2.r fun xs1 =>
          uncV xs1 fun x2 ys2 =>
          rA x2 fun cs1 =>
          need (Nat.beq cs1.length 2) <|
          unc cs1 fun c4 r2 =>
          unc r2 fun c5 _ =>
          uncV ys2 fun x3 ys3 =>
          rC x3 fun c6 =>
          asI .i64 c6 fun i1 =>
          nilV ys3 <|
          some (0, (i1, IntKind.i64.wrap (y.2.1 + 1), (c4, c5, ()), ()))
        else
          some (1, (y.1, y.2.1, (y.2.2.1.1, y.2.2.1.2.1, ()), ()))
      else
        some (1, (y.1, y.2.1, (y.2.2.1.1, y.2.2.1.2.1, ()), ()))) fu (i, 0, (c, c1, ()), ())).bind fun p =>
    (cl fu d fn_blacklist_Listed [V.agg ([p.2.2.2.1.1, p.2.2.2.1.2.1]), V.c (C.v (.string (⟨#[65, 76, 80, 72, 65]⟩)))] []).bind fun out3 =>
    rC out3.r fun c7 =>
    asB c7 fun b1 =>
    (cl fu d fn_blacklist_Push [V.agg ([p.2.2.2.1.1, p.2.2.2.1.2.1]), V.c (C.sl 1 ([C.v (.string (⟨#[65, 76, 80, 72, 65]⟩)), C.v (.int .i64 5), C.v (.int .i64 0)])), V.agg ([C.v (.int .i64 0), C.v (.int .i64 0), C.v (.int .i64 0), C.v (.int .i64 0), C.v (.int .i64 0), C.v (.int .i64 0), C.v (.int .i64 0), C.v (.int .i64 0), C.v (.int .i64 0), C.v (.int .i64 0), C.v (.int .i64 0), C.v (.int .i64 0), C.v (.int .i64 0), C.v (.int .i64 0), C.v (.int .i64 0), C.v (.int .i64 0), C.v (.int .i64 0), C.v (.int .i64 0), C.v (.int .i64 0), C.v (.int .i64 0), C.v (.int .i64 0), C.v (.int .i64 0), C.v (.int .i64 0), C.v (.int .i64 0), C.v (.int .i64 0), C.v (.int .i64 0), C.v (.int .i64 0), C.v (.int .i64 0), C.v (.int .i64 0), C.v (.int .i64 0), C.v (.int .i64 0), C.v (.int .i64 0), C.v (.int .i64 0), C.v (.int .i64 0), C.v (.int .i64 0), C.v (.int .i64 0), C.v (.int .i64 0), C.v (.int .i64 0), C.v (.int .i64 0), C.v (.int .i64 50), C.v (.int .i64 20)])] []).bind fun out4 =>
    rT out4.r fun xs2 =>
    uncV xs2 fun x4 ys4 =>
    rA x4 fun cs2 =>
    need (Nat.beq cs2.length 2) <|
    unc cs2 fun c8 r4 =>
    unc r4 fun c9 _ =>
    uncV ys4 fun x5 ys5 =>
    rC x5 fun c10 =>
    asI .i64 c10 fun i2 =>
    nilV ys5 <|
    bif p.2.1 == 0 then
      bif i2 == 0 then
        bif b then
          bif b1 then
            (cl fu d fn_blacklist_Listed [V.agg ([c8, c9]), V.c (C.v (.string (⟨#[65, 76, 80, 72, 65]⟩)))] []).bind fun out5 =>
            rC out5.r fun c11 =>
            asB c11 fun b2 =>
            some ⟨B (!b2), [], none⟩
          else
            some ⟨B false, [], none⟩
        else
          some ⟨B false, [], none⟩
      else
        some ⟨B false, [], none⟩
    else
      some ⟨B false, [], none⟩) := by kernel_rfl
/- (*synoptic/synoptickeep.Src).Range -/
theorem eq_synoptickeep_Src_Range (fu d : Nat) (a0_0 : C) (a0_1 : Int) (a1 : Int) (a2 : Int) :
    cl fu (d + 1) fn_synoptickeep_Src_Range [V.ptr 1000000 0, I a1, I a2] [.ob ty_synoptickeep_Src 0 ([a0_0, C.v (.int .i64 a0_1)])] = (
    (cl fu d fn_synoptickeep_Src_N [V.ptr 1000000 0, I (IntKind.i64.wrap ((IntKind.i64.wrap (a2 - a1)) + 1))] [.ob ty_synoptickeep_Src 0 ([a0_0, C.v (.int .i64 a0_1)])]).bind fun out =>
    uncO out.objs fun o os =>
    rO o ty_synoptickeep_Src 0 fun cs =>
    need ((Nat.beq cs.length 2) && true) <|
    unc cs fun c r =>
    unc r fun c1 _ =>
    asI .i64 c1 fun i =>
    rC out.r fun c2 =>
    asI .i64 c2 fun i1 =>
    some ⟨I (IntKind.i64.wrap (a1 + i1)), [.ob ty_synoptickeep_Src 0 ([c, C.v (.int .i64 i)])], none⟩) := by kernel_rfl
/- synoptic/synoptickeep.Mod -/
theorem eq_synoptickeep_Mod (fu d : Nat) (a0 : Int) (a1 : Int) :
    cl fu (d + 1) fn_synoptickeep_Mod [I a0, I a1] [] = (
    bif decide (a1 < 1) then
      some ⟨I 0, [], none⟩
    else
      need (!(a1 == 0)) <|
      bif decide (Int.tmod a0 a1 < 0) then
        some ⟨I (IntKind.i64.wrap ((Int.tmod a0 a1) + a1)), [], none⟩
      else
        some ⟨I (Int.tmod a0 a1), [], none⟩) := by kernel_rfl
/- synoptic/blacklist.Listed -/
theorem eq_blacklist_Listed (fu d : Nat) (a0_0 : C) (a0_1 : C) (a1 : ByteArray) :
    cl fu (d + 1) fn_blacklist_Listed [V.agg ([a0_0, a0_1]), V.c (C.v (.string a1))] [] = (
    (cl fu d fn_blacklist_Validate [V.agg ([a0_0, a0_1])] []).bind fun out =>
    rC out.r fun c =>
    asI .i64 c fun i =>
    bif i == 0 then
      need (noYl [V.c (nrm a0_1)]) <|
      (cl fu d fn_slices_Contains_sstring_string [V.c (nrm a0_1), V.c (C.v (.string a1))] []).bind fun out1 =>
      rC out1.r fun c1 =>
      asB c1 fun b =>
      some ⟨B b, [], none⟩
    else
      some ⟨B false, [], none⟩) := by kernel_rfl
/- (*synoptic/synoptickeep.Src).N -/
theorem eq_synoptickeep_Src_N (fu d : Nat) (a0_0 : C) (a0_1 : Int) (a1 : Int) :
    cl fu (d + 1) fn_synoptickeep_Src_N [V.ptr 1000000 0, I a1] [.ob ty_synoptickeep_Src 0 ([a0_0, C.v (.int .i64 a0_1)])] = (
    (cl fu d fn_synoptickeep_Src_Raw [V.ptr 1000000 0] [.ob ty_synoptickeep_Src 0 ([a0_0, C.v (.int .i64 a0_1)])]).bind fun out =>
    uncO out.objs fun o os =>
    rO o ty_synoptickeep_Src 0 fun cs =>
    need ((Nat.beq cs.length 2) && true) <|
    unc cs fun c r =>
    unc r fun c1 _ =>
    asI .i64 c1 fun i =>
    rC out.r fun c2 =>
    asI .i64 c2 fun i1 =>
    (cl fu d fn_synoptickeep_Mod [I i1, I a1] []).bind fun out1 =>
    rC out1.r fun c3 =>
    asI .i64 c3 fun i2 =>
    some ⟨I i2, [.ob ty_synoptickeep_Src 0 ([c, C.v (.int .i64 i)])], none⟩) := by kernel_rfl
/- synoptic/blacklist.Validate -/
theorem eq_blacklist_Validate (fu d : Nat) (a0_0 : C) (a0_1 : C) :
    cl fu (d + 1) fn_blacklist_Validate [V.agg ([a0_0, a0_1])] [] = (
    need (noYl [V.c (nrm a0_0)]) <|
    (cl fu d fn_slices_ContainsFunc_ssapi_Count_sapi_Count [V.c (nrm a0_0), V.c (C.fn fn_blacklist_Validate_1 ([]))] []).bind fun out =>
    rC out.r fun c =>
    asB c fun b =>
    asSl a0_0 fun n cs =>
    bif decide (((n : Nat) : Int) > 12) then
      some ⟨I 2, [], none⟩
    else
      bif b then
        some ⟨I 2, [], none⟩
      else
        asSl a0_1 fun n1 cs1 =>
        bif decide (((n1 : Nat) : Int) > 150) then
          some ⟨I 2, [], none⟩
        else
          (cl fu d fn_blacklist_some [V.agg ([a0_0, a0_1]), V.c (C.fn fn_blacklist_Validate_3 ([C.cp ([C.fn fn_blacklist_Validate_2 ([])])]))] []).bind fun out1 =>
          rC out1.r fun c1 =>
          asB c1 fun b1 =>
          bif b1 then
            some ⟨I 3, [], none⟩
          else
            need (noYl [V.c (nrm a0_1)]) <|
            (cl fu d fn_slices_ContainsFunc_sstring_string [V.c (nrm a0_1), V.c (C.fn fn_blacklist_Validate_2 ([]))] []).bind fun out2 =>
            rC out2.r fun c2 =>
            asB c2 fun b2 =>
            bif b2 then
              some ⟨I 3, [], none⟩
            else
              (cl fu d fn_blacklist_some [V.agg ([a0_0, a0_1]), V.c (C.fn fn_blacklist_Validate_4 ([]))] []).bind fun out3 =>
              rC out3.r fun c3 =>
              asB c3 fun b3 =>
              bif b3 then
                some ⟨I 1, [], none⟩
              else
                need (noYl [V.c (nrm a0_1)]) <|
                (cl fu d fn_blacklist_ascending [V.c (nrm a0_1)] []).bind fun out4 =>
                rC out4.r fun c4 =>
                asB c4 fun b4 =>
                bif !b4 then
                  some ⟨I 8, [], none⟩
                else
                  need (noYl [V.c (nrm a0_0)]) <|
                  (cl fu d fn_slices_ContainsFunc_ssapi_Count_sapi_Count [V.c (nrm a0_0), V.c (C.fn fn_blacklist_Validate_5 ([]))] []).bind fun out5 =>
                  rC out5.r fun c5 =>
                  asB c5 fun b5 =>
                  bif b5 then
                    some ⟨I 8, [], none⟩
                  else
                    some ⟨I 0, [], none⟩) := by kernel_rfl
/- (*synoptic/synoptickeep.Src).Pick -/
theorem eq_synoptickeep_Src_Pick (fu d : Nat) (a0_0 : C) (a0_1 : Int) (n1 : Nat) (a1 : List C) :
    cl fu (d + 1) fn_synoptickeep_Src_Pick [V.ptr 1000000 0, V.c (C.sl n1 a1)] [.ob ty_synoptickeep_Src 0 ([a0_0, C.v (.int .i64 a0_1)])] = (
    (cl fu d fn_synoptickeep_Src_N [V.ptr 1000000 0, I ((n1 : Nat) : Int)] [.ob ty_synoptickeep_Src 0 ([a0_0, C.v (.int .i64 a0_1)])]).bind fun out =>
    uncO out.objs fun o os =>
    rO o ty_synoptickeep_Src 0 fun cs =>
    need ((Nat.beq cs.length 2) && true) <|
    unc cs fun c r =>
    unc r fun c1 _ =>
    asI .i64 c1 fun i =>
    rC out.r fun c2 =>
    asI .i64 c2 fun i1 =>
    need (inR i1 n1) <|
    unc (List.drop (i1.toNat * 1) a1) fun c3 _ =>
    asI .i64 c3 fun i2 =>
    some ⟨I i2, [.ob ty_synoptickeep_Src 0 ([c, C.v (.int .i64 i)])], none⟩) := by kernel_rfl
/- synoptic/blacklist.percent -/
theorem eq_blacklist_percent (fu d : Nat) (a0 : Int) :
    cl fu (d + 1) fn_blacklist_percent [I a0] [] = (
    bif decide (a0 ≥ 1) then
      some ⟨B (decide (a0 ≤ 100)), [], none⟩
    else
      some ⟨B false, [], none⟩) := by kernel_rfl
/- synoptic/blacklist.copied -/
theorem eq_blacklist_copied (fu d : Nat) (a0_0 : C) (a0_1 : C) :
    cl fu (d + 1) fn_blacklist_copied [V.agg ([a0_0, a0_1])] [] = (
    need (noYl [V.c (nrm a0_1)]) <|
    (cl fu d fn_slices_Clone_sstring_string [V.c (nrm a0_1)] []).bind fun out =>
    rW out.r 0 fun n =>
    uncO out.objs fun o os =>
    rS o ty_string 0 fun cs =>
    need ((Nat.beq (n * 1) cs.length) && true) <|
    asSl a0_0 fun n1 cs1 =>
    need (((Nat.beq (n * 1) cs.length) && true) && true) <|
    (iter (fun (y : Int × (C × C × Unit) × (List C × List C × Unit) × Unit) =>
      bif decide (y.1 < ((n1 : Nat) : Int)) then
        asSl a0_0 fun n2 cs2 =>
        need (inR y.1 n2) <|
        unc (List.drop (y.1.toNat * 1) cs2) fun c r =>
        need (noYl [V.c (nrm c)]) <|
        (cl fu d fn_slices_Clone_sapi_Count_api_Count [V.c (nrm c)] []).bind fun out1 =>
        rC out1.r fun c1 =>
        need ((((Nat.beq ((y.2.2.1.1.length / 1) * 1) y.2.2.1.1.length) && true) && (Nat.ble (((y.2.2.1.1.length / 1) + 1) * 24) 140737488355328)) && (Nat.ble ((y.2.2.1.1.length / 1) + 1) 140737488355328)) <|
        need (((Nat.beq (((y.2.2.1.1.length / 1) + 1) * 1) ((y.2.2.1.1 ++ ([c1])).length)) && true) && true) <|
        need (((Nat.beq ((y.2.2.1.2.1.length / 1) * 1) y.2.2.1.2.1.length) && true) && true) <|
        some (0, (IntKind.i64.wrap (y.1 + 1), (y.2.1.1, y.2.1.2.1, ()), (y.2.2.1.1 ++ ([c1]), y.2.2.1.2.1, ()), ()))
      else
        need (((Nat.beq ((y.2.2.1.1.length / 1) * 1) y.2.2.1.1.length) && true) && true) <|
        need (((Nat.beq ((y.2.2.1.2.1.length / 1) * 1) y.2.2.1.2.1.length) && true) && true) <|
        some (1, (y.1, (y.2.1.1, y.2.1.2.1, ()), (y.2.2.1.1, y.2.2.1.2.1, ()), ()))) fu (0, (C.nl, C.nl, ()), ([], cs, ()), ())).bind fun p =>
    need (((Nat.ble ((p.2.2.2.1.1.length / 1) * 1) p.2.2.2.1.1.length) && true) && (((Nat.ble ((p.2.2.2.1.2.1.length / 1) * 1) p.2.2.2.1.2.1.length) && true) && true)) <|
    some ⟨V.mag [V.own 1000000 0 (p.2.2.2.1.1.length / 1), V.own 1000001 0 (p.2.2.2.1.2.1.length / 1)], [.sb ty_sapi_Count 0 (List.take ((p.2.2.2.1.1.length / 1) * 1) p.2.2.2.1.1), .sb ty_string 0 (List.take ((p.2.2.2.1.2.1.length / 1) * 1) p.2.2.2.1.2.1)], none⟩) := by kernel_rfl
/- slices.Clone[[]synoptic/api.Count,synoptic/api.Count] -/
theorem eq_slices_Clone_sapi_Count_api_Count (fu d : Nat) (n0 : Nat) (a0 : List C) :
    cl fu (d + 1) fn_slices_Clone_sapi_Count_api_Count [V.c (C.sl n0 a0)] [] = (
    bif Nat.beq n0 0 then
      same (
        some ⟨V.c (C.sl 0 ([])), [], none⟩) (
        need (Nat.beq (n0 * 3) a0.length) <|
        need ((Nat.ble ((0 + n0) * 32) 140737488355328) && (Nat.ble (0 + n0) 140737488355328)) <|
        need (Nat.ble (0 + ((0 + n0) * 3)) a0.length) <|
        some ⟨V.c (C.sl (0 + n0) (List.take ((0 + n0) * 3) a0)), [], none⟩)
    else
      need (Nat.beq (n0 * 3) a0.length) <|
      need ((Nat.ble ((0 + n0) * 32) 140737488355328) && (Nat.ble (0 + n0) 140737488355328)) <|
      need (Nat.ble (0 + ((0 + n0) * 3)) a0.length) <|
      some ⟨V.c (C.sl (0 + n0) (List.take ((0 + n0) * 3) a0)), [], none⟩) := by kernel_rfl
/- synoptic/blacklist.sums -/
theorem eq_blacklist_sums (fu d : Nat) (a0_0 : C) (a0_1 : C) :
    cl fu (d + 1) fn_blacklist_sums [V.agg ([a0_0, a0_1])] [] = (
    asSl a0_1 fun n cs =>
    (iter (fun (y : Int × (List (List C × List C)) × Unit) =>
      bif decide (y.1 < ((n : Nat) : Int)) then
        asSl a0_1 fun n1 cs1 =>
        need (inR y.1 n1) <|
        unc (List.drop (y.1.toNat * 1) cs1) fun c _ =>
        asS c fun s =>
        (mfd ty_string ([C.v (.string s)]) y.2.1).bind fun q =>
        some (0, (IntKind.i64.wrap (y.1 + 1), mput y.2.1 q ([C.v (.string s)]) ([C.v (.string (⟨#[]⟩)), C.v (.int .i64 0), C.v (.int .i64 0)]), ()))
      else
        some (1, (y.1, y.2.1, ()))) fu (0, [], ())).bind fun p =>
    asSl a0_0 fun n2 cs2 =>
    (iter (fun (y1 : Int × (List (List C × List C)) × Unit) =>
      bif decide (y1.1 < ((n2 : Nat) : Int)) then
        asSl a0_0 fun n3 cs3 =>
        need (inR y1.1 n3) <|
        unc (List.drop (y1.1.toNat * 1) cs3) fun c1 _ =>
        asSl c1 fun n4 cs4 =>
        (iter (fun (y2 : Int × (List (List C × List C)) × Unit) =>
          bif decide (y2.1 < ((n4 : Nat) : Int)) then
            asSl c1 fun n5 cs5 =>
            need (inR y2.1 n5) <|
            unc (List.drop (y2.1.toNat * 3) cs5) fun c2 r2 =>
            asS c2 fun s1 =>
            unc r2 fun c3 r3 =>
            asI .i64 c3 fun i =>
            unc r3 fun c4 _ =>
            asI .i64 c4 fun i1 =>
            (mfd ty_string ([C.v (.string s1)]) y2.2.1).bind fun q1 =>
            unc (orZ q1 ([C.v (.string (⟨#[]⟩)), C.v (.int .i64 0), C.v (.int .i64 0)])) fun c5 r5 =>
            asS c5 fun s2 =>
            unc r5 fun c6 r6 =>
            asI .i64 c6 fun i2 =>
            unc r6 fun c7 _ =>
            asI .i64 c7 fun i3 =>
            (mfd ty_string ([C.v (.string s1)]) y2.2.1).bind fun q2 =>
            some (0, (IntKind.i64.wrap (y2.1 + 1), mput y2.2.1 q2 ([C.v (.string s1)]) ([C.v (.string s2), C.v (.int .i64 (IntKind.i64.wrap (i2 + i))), C.v (.int .i64 (IntKind.i64.wrap (i3 + i1)))]), ()))
          else
            some (1, (y2.1, y2.2.1, ()))) fu (0, y1.2.1, ())).bind fun p1 =>
        some (0, (IntKind.i64.wrap (y1.1 + 1), p1.2.2.1, ()))
      else
        some (1, (y1.1, y1.2.1, ()))) fu (0, p.2.2.1, ())).bind fun p2 =>
    some ⟨V.c (C.mp ty_string ty_api_Count none (some 3) p2.2.2.1), [], none⟩) := by kernel_rfl
/- slices.Contains[[]string,string] -/
theorem eq_slices_Contains_sstring_string (fu d : Nat) (n0 : Nat) (a0 : List C) (a1 : ByteArray) :
    cl fu (d + 1) fn_slices_Contains_sstring_string [V.c (C.sl n0 a0), V.c (C.v (.string a1))] [] = (
    (cl fu d fn_slices_Index_sstring_string [V.c (C.sl n0 a0), V.c (C.v (.string a1))] []).bind fun out =>
    rC out.r fun c =>
    asI .i64 c fun i =>
    some ⟨B (decide (i ≥ 0)), [], none⟩) := by kernel_rfl
/- (*synoptic/synoptickeep.Src).Raw -/
theorem eq_synoptickeep_Src_Raw (fu d : Nat) (a0_0 : C) (a0_1 : Int) :
    cl fu (d + 1) fn_synoptickeep_Src_Raw [V.ptr 1000000 0] [.ob ty_synoptickeep_Src 0 ([a0_0, C.v (.int .i64 a0_1)])] = (
    asSl a0_0 fun n cs =>
    bif decide (a0_1 ≥ ((n : Nat) : Int)) then
      some ⟨I 0, [.ob ty_synoptickeep_Src 0 ([a0_0, C.v (.int .i64 a0_1)])], none⟩
    else
      asSl a0_0 fun n1 cs1 =>
      need (inR (IntKind.i64.wrap ((IntKind.i64.wrap (a0_1 + 1)) - 1)) n1) <|
      unc (List.drop (((IntKind.i64.wrap ((IntKind.i64.wrap (a0_1 + 1)) - 1)).toNat) * 1) cs1) fun c _ =>
      asI .i64 c fun i =>
      some ⟨I i, [.ob ty_synoptickeep_Src 0 ([a0_0, C.v (.int .i64 (IntKind.i64.wrap (a0_1 + 1)))])], none⟩) := by kernel_rfl
/- slices.ContainsFunc[[][]synoptic/api.Count,[]synoptic/api.Count] -/
theorem eq_slices_ContainsFunc_ssapi_Count_sapi_Count (fu d : Nat) (n0 : Nat) (a0 : List C) (k1 : Nat) :
    cl fu (d + 1) fn_slices_ContainsFunc_ssapi_Count_sapi_Count [V.c (C.sl n0 a0), V.c (C.fn k1 ([]))] [] = (
    (cl fu d fn_slices_IndexFunc_ssapi_Count_sapi_Count [V.c (C.sl n0 a0), V.c (C.fn k1 ([]))] []).bind fun out =>
    rC out.r fun c =>
    asI .i64 c fun i =>
    some ⟨B (decide (i ≥ 0)), [], none⟩) := by kernel_rfl
/- slices.ContainsFunc[[][]synoptic/api.Count,[]synoptic/api.Count] -/
theorem eq1_slices_ContainsFunc_ssapi_Count_sapi_Count (fu d : Nat) (n0 : Nat) (a0 : List C) (k1 : Nat) (a1_0 : C) :
    cl fu (d + 1) fn_slices_ContainsFunc_ssapi_Count_sapi_Count [V.c (C.sl n0 a0), V.c (C.fn k1 ([a1_0]))] [] = (
    (cl fu d fn_slices_IndexFunc_ssapi_Count_sapi_Count [V.c (C.sl n0 a0), V.c (C.fn k1 ([a1_0]))] []).bind fun out =>
    rC out.r fun c =>
    asI .i64 c fun i =>
    some ⟨B (decide (i ≥ 0)), [], none⟩) := by kernel_rfl
/- synoptic/blacklist.Validate$1 -/
theorem eq_blacklist_Validate_1 (fu d : Nat) (n0 : Nat) (a0 : List C) :
    cl fu (d + 1) fn_blacklist_Validate_1 [V.c (C.sl n0 a0)] [] = (
    some ⟨B (decide (((n0 : Nat) : Int) > 150)), [], none⟩) := by kernel_rfl
/- synoptic/blacklist.Validate$2 -/
theorem eq_blacklist_Validate_2 (fu d : Nat) (a0 : ByteArray) :
    cl fu (d + 1) fn_blacklist_Validate_2 [V.c (C.v (.string a0))] [] = (
    (cl fu d fn_group_Name [V.c (C.v (.string a0))] []).bind fun out =>
    rC out.r fun c =>
    asB c fun b =>
    some ⟨B (!b), [], none⟩) := by kernel_rfl
/- synoptic/group.Name -/
theorem eq_group_Name (fu d : Nat) (a0 : ByteArray) :
    cl fu (d + 1) fn_group_Name [V.c (C.v (.string a0))] [] = (
    bif ((a0.size : Nat) : Int) == 5 then
      (cl fu d fn_strings_ContainsFunc [V.c (C.v (.string a0)), V.c (C.fn fn_group_Name_1 ([]))] []).bind fun out =>
      rC out.r fun c =>
      asB c fun b =>
      some ⟨B (!b), [], none⟩
    else
      some ⟨B false, [], none⟩) := by kernel_rfl
/- synoptic/blacklist.some -/
theorem eq_blacklist_some (fu d : Nat) (a0_0 : C) (a0_1 : C) (k1 : Nat) :
    cl fu (d + 1) fn_blacklist_some [V.agg ([a0_0, a0_1]), V.c (C.fn k1 ([]))] [] = (
    need (noYl [V.c (nrm a0_0)]) <|
    (cl fu d fn_slices_ContainsFunc_ssapi_Count_sapi_Count [V.c (nrm a0_0), V.c (C.fn fn_blacklist_some_1 ([C.cp ([C.fn k1 ([])])]))] []).bind fun out =>
    rC out.r fun c =>
    asB c fun b =>
    some ⟨B b, [], none⟩) := by kernel_rfl
/- synoptic/blacklist.some -/
theorem eq1_blacklist_some (fu d : Nat) (a0_0 : C) (a0_1 : C) (k1 : Nat) (a1_0 : C) :
    cl fu (d + 1) fn_blacklist_some [V.agg ([a0_0, a0_1]), V.c (C.fn k1 ([a1_0]))] [] = (
    need (noYl [V.c (nrm a0_0)]) <|
    (cl fu d fn_slices_ContainsFunc_ssapi_Count_sapi_Count [V.c (nrm a0_0), V.c (C.fn fn_blacklist_some_1 ([C.cp ([C.fn k1 ([a1_0])])]))] []).bind fun out =>
    rC out.r fun c =>
    asB c fun b =>
    some ⟨B b, [], none⟩) := by kernel_rfl
/- synoptic/blacklist.Validate$3 -/
theorem eq_blacklist_Validate_3 (fu d : Nat) (a0_0 : ByteArray) (a0_1 : Int) (a0_2 : Int) (ke0 : Nat) :
    cl fu (d + 1) fn_blacklist_Validate_3 [V.agg ([C.v (.string a0_0), C.v (.int .i64 a0_1), C.v (.int .i64 a0_2)]), V.c (C.cp ([C.fn ke0 ([])]))] [] = (
    (cl fu d ke0 [V.c (C.v (.string a0_0))] []).bind fun out =>
    rC out.r fun c =>
    asB c fun b =>
    some ⟨B b, [], none⟩) := by kernel_rfl
/- slices.ContainsFunc[[]string,string] -/
theorem eq_slices_ContainsFunc_sstring_string (fu d : Nat) (n0 : Nat) (a0 : List C) (k1 : Nat) :
    cl fu (d + 1) fn_slices_ContainsFunc_sstring_string [V.c (C.sl n0 a0), V.c (C.fn k1 ([]))] [] = (
    (cl fu d fn_slices_IndexFunc_sstring_string [V.c (C.sl n0 a0), V.c (C.fn k1 ([]))] []).bind fun out =>
    rC out.r fun c =>
    asI .i64 c fun i =>
    some ⟨B (decide (i ≥ 0)), [], none⟩) := by kernel_rfl
/- synoptic/blacklist.Validate$4 -/
theorem eq_blacklist_Validate_4 (fu d : Nat) (a0_0 : ByteArray) (a0_1 : Int) (a0_2 : Int) :
    cl fu (d + 1) fn_blacklist_Validate_4 [V.agg ([C.v (.string a0_0), C.v (.int .i64 a0_1), C.v (.int .i64 a0_2)])] [] = (
    (cl fu d fn_blacklist_valid [V.agg ([C.v (.string a0_0), C.v (.int .i64 a0_1), C.v (.int .i64 a0_2)])] []).bind fun out =>
    rC out.r fun c =>
    asB c fun b =>
    some ⟨B (!b), [], none⟩) := by kernel_rfl
/- synoptic/blacklist.valid -/
theorem eq_blacklist_valid (fu d : Nat) (a0_0 : ByteArray) (a0_1 : Int) (a0_2 : Int) :
    cl fu (d + 1) fn_blacklist_valid [V.agg ([C.v (.string a0_0), C.v (.int .i64 a0_1), C.v (.int .i64 a0_2)])] [] = (
    bif decide (a0_1 ≥ 0) then
      bif decide (a0_1 ≤ 100000) then
        bif decide (a0_2 ≥ 0) then
          some ⟨B (decide (a0_2 ≤ a0_1)), [], none⟩
        else
          some ⟨B false, [], none⟩
      else
        some ⟨B false, [], none⟩
    else
      some ⟨B false, [], none⟩) := by kernel_rfl
/- synoptic/blacklist.ascending -/
theorem eq_blacklist_ascending (fu d : Nat) (n0 : Nat) (a0 : List C) :
    cl fu (d + 1) fn_blacklist_ascending [V.c (C.sl n0 a0)] [] = (
    (iter (fun (y : Bool × Int × Unit) =>
      bif decide (y.2.1 < ((n0 : Nat) : Int)) then
        need (inR (IntKind.i64.wrap (y.2.1 - 1)) n0) <|
        unc (List.drop (((IntKind.i64.wrap (y.2.1 - 1)).toNat) * 1) a0) fun c _ =>
        asS c fun s =>
        need (inR y.2.1 n0) <|
        unc (List.drop (y.2.1.toNat * 1) a0) fun c1 _ =>
        asS c1 fun s1 =>
        bif !(Op.bytesLess s.toList s1.toList) then
          some (2, (false, y.2.1, ()))
        else
          some (0, (y.1, IntKind.i64.wrap (y.2.1 + 1), ()))
      else
        some (1, (y.1, y.2.1, ()))) fu (false, 1, ())).bind fun p =>
    natD p.1 (
      some ⟨B true, [], none⟩) fun m =>
    some ⟨B p.2.1, [], none⟩) := by kernel_rfl
/- synoptic/blacklist.Validate$5 -/
theorem eq_blacklist_Validate_5 (fu d : Nat) (n0 : Nat) (a0 : List C) :
    cl fu (d + 1) fn_blacklist_Validate_5 [V.c (C.sl n0 a0)] [] = (
    (cl fu d fn_blacklist_names [V.c (C.sl n0 a0)] []).bind fun out =>
    rC out.r fun c =>
    need (noYl [V.c (nrm c)]) <|
    (cl fu d fn_blacklist_ascending [V.c (nrm c)] []).bind fun out1 =>
    rC out1.r fun c1 =>
    asB c1 fun b =>
    some ⟨B (!b), [], none⟩) := by kernel_rfl
/- synoptic/blacklist.names -/
theorem eq_blacklist_names (fu d : Nat) (n0 : Nat) (a0 : List C) :
    cl fu (d + 1) fn_blacklist_names [V.c (C.sl n0 a0)] [] = (
    (iter (fun (y : List C × Int × Unit) =>
      bif decide (y.2.1 < ((n0 : Nat) : Int)) then
        need (inR y.2.1 n0) <|
        unc (List.drop (y.2.1.toNat * 3) a0) fun c r =>
        asS c fun s =>
        unc r fun c1 r1 =>
        asI .i64 c1 fun i =>
        unc r1 fun c2 _ =>
        asI .i64 c2 fun i1 =>
        need ((((Nat.beq ((y.1.length / 1) * 1) y.1.length) && true) && (Nat.ble (((y.1.length / 1) + 1) * 16) 140737488355328)) && (Nat.ble ((y.1.length / 1) + 1) 140737488355328)) <|
        need (((Nat.beq (((y.1.length / 1) + 1) * 1) ((y.1 ++ ([C.v (.string s)])).length)) && true) && true) <|
        some (0, (y.1 ++ ([C.v (.string s)]), IntKind.i64.wrap (y.2.1 + 1), ()))
      else
        need (((Nat.beq ((y.1.length / 1) * 1) y.1.length) && true) && true) <|
        some (1, (y.1, y.2.1, ()))) fu ([], 0, ())).bind fun p =>
    need (Nat.ble (0 + ((p.2.1.length / 1) * 1)) p.2.1.length) <|
    some ⟨V.c (C.sl (p.2.1.length / 1) (List.take ((p.2.1.length / 1) * 1) p.2.1)), [], none⟩) := by kernel_rfl
/- slices.Clone[[]string,string] -/
theorem eq_slices_Clone_sstring_string (fu d : Nat) (n0 : Nat) (a0 : List C) :
    cl fu (d + 1) fn_slices_Clone_sstring_string [V.c (C.sl n0 a0)] [] = (
    bif Nat.beq n0 0 then
      same (
        some ⟨V.own 1000000 0 0, [.sb ty_string 0 ([])], none⟩) (
        need (Nat.beq (n0 * 1) a0.length) <|
        need ((Nat.ble ((0 + n0) * 16) 140737488355328) && (Nat.ble (0 + n0) 140737488355328)) <|
        need (((Nat.ble ((0 + n0) * 1) a0.length) && true) && true) <|
        some ⟨V.own 1000000 0 (0 + n0), [.sb ty_string 0 (List.take ((0 + n0) * 1) a0)], none⟩)
    else
      need (Nat.beq (n0 * 1) a0.length) <|
      need ((Nat.ble ((0 + n0) * 16) 140737488355328) && (Nat.ble (0 + n0) 140737488355328)) <|
      need (((Nat.ble ((0 + n0) * 1) a0.length) && true) && true) <|
      some ⟨V.own 1000000 0 (0 + n0), [.sb ty_string 0 (List.take ((0 + n0) * 1) a0)], none⟩) := by kernel_rfl
/- slices.Index[[]string,string] -/
theorem eq_slices_Index_sstring_string (fu d : Nat) (n0 : Nat) (a0 : List C) (a1 : ByteArray) :
    cl fu (d + 1) fn_slices_Index_sstring_string [V.c (C.sl n0 a0), V.c (C.v (.string a1))] [] = (
    (iter (fun (y : Int × Int × Unit) =>
      bif decide (y.2.1 < ((n0 : Nat) : Int)) then
        need (inR y.2.1 n0) <|
        unc (List.drop (y.2.1.toNat * 1) a0) fun c _ =>
        asS c fun s =>
        bif a1.toList == s.toList then
          some (2, (y.2.1, y.2.1, ()))
        else
          some (0, (y.1, IntKind.i64.wrap (y.2.1 + 1), ()))
      else
        some (1, (y.1, y.2.1, ()))) fu (0, 0, ())).bind fun p =>
    natD p.1 (
      some ⟨I (-1), [], none⟩) fun m =>
    some ⟨I p.2.1, [], none⟩) := by kernel_rfl
/- slices.IndexFunc[[][]synoptic/api.Count,[]synoptic/api.Count] -/
theorem eq_slices_IndexFunc_ssapi_Count_sapi_Count (fu d : Nat) (n0 : Nat) (a0 : List C) (k1 : Nat) :
    cl fu (d + 1) fn_slices_IndexFunc_ssapi_Count_sapi_Count [V.c (C.sl n0 a0), V.c (C.fn k1 ([]))] [] = (
    (iter (fun (y : Int × Int × Unit) =>
      bif decide (y.2.1 < ((n0 : Nat) : Int)) then
        need (inR y.2.1 n0) <|
        unc (List.drop (y.2.1.toNat * 1) a0) fun c r =>
        need (noYl [V.c c]) <|
        (cl fu d k1 [V.c c] []).bind fun out =>
        rC out.r fun c1 =>
        asB c1 fun b =>
        bif b then
          some (2, (y.2.1, y.2.1, ()))
        else
          some (0, (y.1, IntKind.i64.wrap (y.2.1 + 1), ()))
      else
        some (1, (y.1, y.2.1, ()))) fu (0, 0, ())).bind fun p =>
    natD p.1 (
      some ⟨I (-1), [], none⟩) fun m =>
    some ⟨I p.2.1, [], none⟩) := by kernel_rfl
/- slices.IndexFunc[[][]synoptic/api.Count,[]synoptic/api.Count] -/
theorem eq1_slices_IndexFunc_ssapi_Count_sapi_Count (fu d : Nat) (n0 : Nat) (a0 : List C) (k1 : Nat) (a1_0 : C) :
    cl fu (d + 1) fn_slices_IndexFunc_ssapi_Count_sapi_Count [V.c (C.sl n0 a0), V.c (C.fn k1 ([a1_0]))] [] = (
    (iter (fun (y : Int × Int × Unit) =>
      bif decide (y.2.1 < ((n0 : Nat) : Int)) then
        need (inR y.2.1 n0) <|
        unc (List.drop (y.2.1.toNat * 1) a0) fun c r =>
        need (noYl [V.c c]) <|
        (cl fu d k1 [V.c c, V.c a1_0] []).bind fun out =>
        rC out.r fun c1 =>
        asB c1 fun b =>
        bif b then
          some (2, (y.2.1, y.2.1, ()))
        else
          some (0, (y.1, IntKind.i64.wrap (y.2.1 + 1), ()))
      else
        some (1, (y.1, y.2.1, ()))) fu (0, 0, ())).bind fun p =>
    natD p.1 (
      some ⟨I (-1), [], none⟩) fun m =>
    some ⟨I p.2.1, [], none⟩) := by kernel_rfl
/- synoptic/blacklist.some$1 -/
theorem eq_blacklist_some_1 (fu d : Nat) (n0 : Nat) (a0 : List C) (e0 : List C) :
    cl fu (d + 1) fn_blacklist_some_1 [V.c (C.sl n0 a0), V.c (C.cp e0)] [] = (
    unc e0 fun c r =>
    (cl fu d fn_slices_ContainsFunc_sapi_Count_api_Count [V.c (C.sl n0 a0), V.c c] []).bind fun out =>
    rC out.r fun c1 =>
    asB c1 fun b =>
    some ⟨B b, [], none⟩) := by kernel_rfl
/- slices.ContainsFunc[[]synoptic/api.Count,synoptic/api.Count] -/
theorem eq_slices_ContainsFunc_sapi_Count_api_Count (fu d : Nat) (n0 : Nat) (a0 : List C) (k1 : Nat) :
    cl fu (d + 1) fn_slices_ContainsFunc_sapi_Count_api_Count [V.c (C.sl n0 a0), V.c (C.fn k1 ([]))] [] = (
    (cl fu d fn_slices_IndexFunc_sapi_Count_api_Count [V.c (C.sl n0 a0), V.c (C.fn k1 ([]))] []).bind fun out =>
    rC out.r fun c =>
    asI .i64 c fun i =>
    some ⟨B (decide (i ≥ 0)), [], none⟩) := by kernel_rfl
/- slices.ContainsFunc[[]synoptic/api.Count,synoptic/api.Count] -/
theorem eq1_slices_ContainsFunc_sapi_Count_api_Count (fu d : Nat) (n0 : Nat) (a0 : List C) (k1 : Nat) (a1_0 : C) :
    cl fu (d + 1) fn_slices_ContainsFunc_sapi_Count_api_Count [V.c (C.sl n0 a0), V.c (C.fn k1 ([a1_0]))] [] = (
    (cl fu d fn_slices_IndexFunc_sapi_Count_api_Count [V.c (C.sl n0 a0), V.c (C.fn k1 ([a1_0]))] []).bind fun out =>
    rC out.r fun c =>
    asI .i64 c fun i =>
    some ⟨B (decide (i ≥ 0)), [], none⟩) := by kernel_rfl
/- slices.IndexFunc[[]string,string] -/
theorem eq_slices_IndexFunc_sstring_string (fu d : Nat) (n0 : Nat) (a0 : List C) (k1 : Nat) :
    cl fu (d + 1) fn_slices_IndexFunc_sstring_string [V.c (C.sl n0 a0), V.c (C.fn k1 ([]))] [] = (
    (iter (fun (y : Int × Int × Unit) =>
      bif decide (y.2.1 < ((n0 : Nat) : Int)) then
        need (inR y.2.1 n0) <|
        unc (List.drop (y.2.1.toNat * 1) a0) fun c r =>
        asS c fun s =>
        (cl fu d k1 [V.c (C.v (.string s))] []).bind fun out =>
        rC out.r fun c1 =>
        asB c1 fun b =>
        bif b then
          some (2, (y.2.1, y.2.1, ()))
        else
          some (0, (y.1, IntKind.i64.wrap (y.2.1 + 1), ()))
      else
        some (1, (y.1, y.2.1, ()))) fu (0, 0, ())).bind fun p =>
    natD p.1 (
      some ⟨I (-1), [], none⟩) fun m =>
    some ⟨I p.2.1, [], none⟩) := by kernel_rfl
/- slices.IndexFunc[[]synoptic/api.Count,synoptic/api.Count] -/
theorem eq_slices_IndexFunc_sapi_Count_api_Count (fu d : Nat) (n0 : Nat) (a0 : List C) (k1 : Nat) :
    cl fu (d + 1) fn_slices_IndexFunc_sapi_Count_api_Count [V.c (C.sl n0 a0), V.c (C.fn k1 ([]))] [] = (
    (iter (fun (y : Int × Int × Unit) =>
      bif decide (y.2.1 < ((n0 : Nat) : Int)) then
        need (inR y.2.1 n0) <|
        unc (List.drop (y.2.1.toNat * 3) a0) fun c r =>
        asS c fun s =>
        unc r fun c1 r1 =>
        asI .i64 c1 fun i =>
        unc r1 fun c2 _ =>
        asI .i64 c2 fun i1 =>
        (cl fu d k1 [V.agg ([C.v (.string s), C.v (.int .i64 i), C.v (.int .i64 i1)])] []).bind fun out =>
        rC out.r fun c3 =>
        asB c3 fun b =>
        bif b then
          some (2, (y.2.1, y.2.1, ()))
        else
          some (0, (y.1, IntKind.i64.wrap (y.2.1 + 1), ()))
      else
        some (1, (y.1, y.2.1, ()))) fu (0, 0, ())).bind fun p =>
    natD p.1 (
      some ⟨I (-1), [], none⟩) fun m =>
    some ⟨I p.2.1, [], none⟩) := by kernel_rfl
/- slices.IndexFunc[[]synoptic/api.Count,synoptic/api.Count] -/
theorem eq1_slices_IndexFunc_sapi_Count_api_Count (fu d : Nat) (n0 : Nat) (a0 : List C) (k1 : Nat) (a1_0 : C) :
    cl fu (d + 1) fn_slices_IndexFunc_sapi_Count_api_Count [V.c (C.sl n0 a0), V.c (C.fn k1 ([a1_0]))] [] = (
    (iter (fun (y : Int × Int × Unit) =>
      bif decide (y.2.1 < ((n0 : Nat) : Int)) then
        need (inR y.2.1 n0) <|
        unc (List.drop (y.2.1.toNat * 3) a0) fun c r =>
        asS c fun s =>
        unc r fun c1 r1 =>
        asI .i64 c1 fun i =>
        unc r1 fun c2 _ =>
        asI .i64 c2 fun i1 =>
        (cl fu d k1 [V.agg ([C.v (.string s), C.v (.int .i64 i), C.v (.int .i64 i1)]), V.c a1_0] []).bind fun out =>
        rC out.r fun c3 =>
        asB c3 fun b =>
        bif b then
          some (2, (y.2.1, y.2.1, ()))
        else
          some (0, (y.1, IntKind.i64.wrap (y.2.1 + 1), ()))
      else
        some (1, (y.1, y.2.1, ()))) fu (0, 0, ())).bind fun p =>
    natD p.1 (
      some ⟨I (-1), [], none⟩) fun m =>
    some ⟨I p.2.1, [], none⟩) := by kernel_rfl
end Go.Proofs.Ytofalpngdbinbaa
