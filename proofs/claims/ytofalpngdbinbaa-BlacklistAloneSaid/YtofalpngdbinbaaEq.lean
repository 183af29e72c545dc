/- What the program's functions come to. -/
import Derived.Test.YtofalpngdbinbaaLay
set_option linter.unusedVariables false
set_option linter.unusedSimpArgs false
namespace Go.Proofs.Ytofalpngdbinbaa
open Go Go.PM
set_option maxRecDepth 100000
/- synoptic/synopticlaw19.BlacklistKeeps -/
theorem eq_synopticlaw19_BlacklistKeeps (fu d : Nat) (n0 : Nat) (a0 : List C) :
    cl fu (d + 1) fn_synopticlaw19_BlacklistKeeps [V.c (C.sl n0 a0)] [] = (
    (cl fu d fn_synoptickeep_New [V.c (C.sl n0 a0)] []).bind fun out =>
    rP out.r 0 <|
    uncO out.objs fun o os =>
    rN o ty_synoptickeep_Src 2 fun cs =>
    unc cs fun c r =>
    unc r fun c1 _ =>
    asI .i64 c1 fun i =>
    (cl fu d fn_synopticdata_History [V.ptr 1000000 0, I 14] [.ob ty_synoptickeep_Src 0 ([c, C.v (.int .i64 i)])]).bind fun out1 =>
    uncO out1.objs fun o1 os1 =>
    rO o1 ty_synoptickeep_Src 0 fun cs1 =>
    need ((Nat.beq cs1.length 2) && true) <|
    unc cs1 fun c2 r2 =>
    unc r2 fun c3 _ =>
    asI .i64 c3 fun i1 =>
    rA out1.r fun cs2 =>
    need (Nat.beq cs2.length 2) <|
    unc cs2 fun c4 r4 =>
    unc r4 fun c5 _ =>
    (cl fu d fn_synopticdata_Cycle [V.ptr 1000000 0] [.ob ty_synoptickeep_Src 0 ([c2, C.v (.int .i64 i1)])]).bind fun out2 =>
    uncO out2.objs fun o2 os2 =>
    rO o2 ty_synoptickeep_Src 0 fun cs3 =>
    need ((Nat.beq cs3.length 2) && true) <|
    unc cs3 fun c6 r6 =>
    unc r6 fun c7 _ =>
    asI .i64 c7 fun i2 =>
    rC out2.r fun c8 =>
    (cl fu d fn_synopticdata_Control [V.ptr 1000000 0] [.ob ty_synoptickeep_Src 0 ([c6, C.v (.int .i64 i2)])]).bind fun out3 =>
    uncO out3.objs fun o3 os3 =>
    rO o3 ty_synoptickeep_Src 0 fun cs4 =>
    need ((Nat.beq cs4.length 2) && true) <|
    unc cs4 fun c9 r8 =>
    unc r8 fun c10 _ =>
    asI .i64 c10 fun i3 =>
    rA out3.r fun cs5 =>
    need ((((Nat.beq cs5.length 41) && true) && (Nat.ble (0 + cs5.length) 41)) && true) <|
    bd (putAt ([C.v (.int .i64 0), C.v (.int .i64 0), C.v (.int .i64 0), C.v (.int .i64 0), C.v (.int .i64 0), C.v (.int .i64 0), C.v (.int .i64 0), C.v (.int .i64 0), C.v (.int .i64 0), C.v (.int .i64 0), C.v (.int .i64 0), C.v (.int .i64 0), C.v (.int .i64 0), C.v (.int .i64 0), C.v (.int .i64 0), C.v (.int .i64 0), C.v (.int .i64 0), C.v (.int .i64 0), C.v (.int .i64 0), C.v (.int .i64 0), C.v (.int .i64 0), C.v (.int .i64 0), C.v (.int .i64 0), C.v (.int .i64 0), C.v (.int .i64 0), C.v (.int .i64 0), C.v (.int .i64 0), C.v (.int .i64 0), C.v (.int .i64 0), C.v (.int .i64 0), C.v (.int .i64 0), C.v (.int .i64 0), C.v (.int .i64 0), C.v (.int .i64 0), C.v (.int .i64 0), C.v (.int .i64 0), C.v (.int .i64 0), C.v (.int .i64 0), C.v (.int .i64 0), C.v (.int .i64 0), C.v (.int .i64 0)]) 0 cs5) fun cs6 =>
    need (Nat.ble 41 cs6.length) <|
    (cl fu d fn_blacklist_Push [V.agg ([c4, c5]), V.c (nrm c8), V.agg (List.take 41 cs6)] []).bind fun out4 =>
    rT out4.r fun xs =>
    uncV xs fun x ys =>
    rA x fun cs7 =>
    need (Nat.beq cs7.length 2) <|
    unc cs7 fun c11 r10 =>
    unc r10 fun c12 _ =>
    uncV ys fun x1 ys1 =>
    rC x1 fun c13 =>
    asI .i64 c13 fun i4 =>
    nilV ys1 <|
    bif i4 != 0 then
      some ⟨B false, [], none⟩
    else
      (cl fu d fn_synopticref19_Validate [V.agg ([c11, c12])] []).bind fun out5 =>
      rC out5.r fun c14 =>
      asI .i64 c14 fun i5 =>
      bif i5 != 0 then
        some ⟨B false, [], none⟩
      else
        asSl c11 fun n cs8 =>
        asSl c4 fun n1 cs9 =>
        bd (((n : Nat) : Int) != (if 12 < IntKind.i64.wrap (((n1 : Nat) : Int) + 1) then 12 else IntKind.i64.wrap (((n1 : Nat) : Int) + 1))) fun z =>
        bif z then
          some ⟨B false, [], none⟩
        else
          asSl c11 fun n2 cs10 =>
          sliceC 1 (some (I (IntKind.i64.wrap (((n2 : Nat) : Int) - 1)))) none c11 fun c15 =>
          (cl fu d fn_synopticref19_Same [V.agg ([c15, C.nl]), V.agg ([C.sl 1 ([c8]), C.nl])] []).bind fun out6 =>
          rC out6.r fun c16 =>
          asB c16 fun b =>
          bif !b then
            some ⟨B false, [], none⟩
          else
            asSl c12 fun n3 cs11 =>
            (iter (fun (y : Bool × Int × Unit) =>
              bif decide (y.2.1 < ((n3 : Nat) : Int)) then
                asSl c12 fun n4 cs12 =>
                need (inR y.2.1 n4) <|
                unc (List.drop (y.2.1.toNat * 1) cs12) fun c17 _ =>
                asS c17 fun s =>
                asSl c11 fun n5 cs13 =>
                (iter (fun (y1 : Int × Int × Unit) =>
                  bif decide (y1.2.1 < ((n5 : Nat) : Int)) then
                    asSl c11 fun n6 cs14 =>
                    need (inR y1.2.1 n6) <|
                    unc (List.drop (y1.2.1.toNat * 1) cs14) fun c18 _ =>
                    asSl c18 fun n7 cs15 =>
                    (iter (fun (y2 : Int × Int × Unit) =>
                      bif decide (y2.2.1 < ((n7 : Nat) : Int)) then
                        asSl c18 fun n8 cs16 =>
                        need (inR y2.2.1 n8) <|
                        unc (List.drop (y2.2.1.toNat * 3) cs16) fun c19 r14 =>
                        asS c19 fun s1 =>
                        unc r14 fun c20 r15 =>
                        asI .i64 c20 fun i6 =>
                        unc r15 fun c21 _ =>
                        asI .i64 c21 fun i7 =>
                        bif s1.toList == s.toList then
                          some (0, (IntKind.i64.wrap (y2.1 + i7), IntKind.i64.wrap (y2.2.1 + 1), ()))
                        else
                          some (0, (y2.1, IntKind.i64.wrap (y2.2.1 + 1), ()))
                      else
                        some (1, (y2.1, y2.2.1, ()))) fu (y1.1, 0, ())).bind fun p =>
                    some (0, (p.2.1, IntKind.i64.wrap (y1.2.1 + 1), ()))
                  else
                    some (1, (y1.1, y1.2.1, ()))) fu (0, 0, ())).bind fun p1 =>
                bif p1.2.1 == 0 then
                  (cl fu d fn_synopticref19_Listed [V.agg ([c4, c5]), V.c (C.v (.string s))] []).bind fun out7 =>
                  rC out7.r fun c22 =>
                  asB c22 fun b1 =>
                  bif !b1 then
                    some (2, (false, y.2.1, ()))
                  else
                    some (0, (y.1, IntKind.i64.wrap (y.2.1 + 1), ()))
                else
                  some (0, (y.1, IntKind.i64.wrap (y.2.1 + 1), ()))
              else
                some (1, (y.1, y.2.1, ()))) fu (false, 0, ())).bind fun p2 =>
            natD p2.1 (
              (cl fu d fn_synopticlaw19_awake [] []).bind fun out8 =>
              rC out8.r fun c23 =>
              asB c23 fun b2 =>
              some ⟨B b2, [], none⟩) fun m =>
            some ⟨B p2.2.1, [], none⟩) := by kernel_rfl
/- synoptic/synopticlaw19.BlacklistForgets -/
theorem eq_synopticlaw19_BlacklistForgets (fu d : Nat) (n0 : Nat) (a0 : List C) :
    cl fu (d + 1) fn_synopticlaw19_BlacklistForgets [V.c (C.sl n0 a0)] [] = (
    (cl fu d fn_synoptickeep_New [V.c (C.sl n0 a0)] []).bind fun out =>
    rP out.r 0 <|
    uncO out.objs fun o os =>
    rN o ty_synoptickeep_Src 2 fun cs =>
    unc cs fun c r =>
    unc r fun c1 _ =>
    asI .i64 c1 fun i =>
    (cl fu d fn_synopticdata_History [V.ptr 1000000 0, I 12] [.ob ty_synoptickeep_Src 0 ([c, C.v (.int .i64 i)])]).bind fun out1 =>
    uncO out1.objs fun o1 os1 =>
    rO o1 ty_synoptickeep_Src 0 fun cs1 =>
    need ((Nat.beq cs1.length 2) && true) <|
    unc cs1 fun c2 r2 =>
    unc r2 fun c3 _ =>
    asI .i64 c3 fun i1 =>
    rA out1.r fun cs2 =>
    need (Nat.beq cs2.length 2) <|
    unc cs2 fun c4 r4 =>
    unc r4 fun c5 _ =>
    (cl fu d fn_synopticdata_History [V.ptr 1000000 0, I 12] [.ob ty_synoptickeep_Src 0 ([c2, C.v (.int .i64 i1)])]).bind fun out2 =>
    uncO out2.objs fun o2 os2 =>
    rO o2 ty_synoptickeep_Src 0 fun cs3 =>
    need ((Nat.beq cs3.length 2) && true) <|
    unc cs3 fun c6 r6 =>
    unc r6 fun c7 _ =>
    asI .i64 c7 fun i2 =>
    rA out2.r fun cs4 =>
    need (Nat.beq cs4.length 2) <|
    unc cs4 fun c8 r8 =>
    unc r8 fun c9 _ =>
    (cl fu d fn_synopticdata_Control [V.ptr 1000000 0] [.ob ty_synoptickeep_Src 0 ([c6, C.v (.int .i64 i2)])]).bind fun out3 =>
    uncO out3.objs fun o3 os3 =>
    rO o3 ty_synoptickeep_Src 0 fun cs5 =>
    need ((Nat.beq cs5.length 2) && true) <|
    unc cs5 fun c10 r10 =>
    unc r10 fun c11 _ =>
    asI .i64 c11 fun i3 =>
    rA out3.r fun cs6 =>
    need ((((Nat.beq cs6.length 41) && true) && (Nat.ble (0 + cs6.length) 41)) && true) <|
    bd (putAt ([C.v (.int .i64 0), C.v (.int .i64 0), C.v (.int .i64 0), C.v (.int .i64 0), C.v (.int .i64 0), C.v (.int .i64 0), C.v (.int .i64 0), C.v (.int .i64 0), C.v (.int .i64 0), C.v (.int .i64 0), C.v (.int .i64 0), C.v (.int .i64 0), C.v (.int .i64 0), C.v (.int .i64 0), C.v (.int .i64 0), C.v (.int .i64 0), C.v (.int .i64 0), C.v (.int .i64 0), C.v (.int .i64 0), C.v (.int .i64 0), C.v (.int .i64 0), C.v (.int .i64 0), C.v (.int .i64 0), C.v (.int .i64 0), C.v (.int .i64 0), C.v (.int .i64 0), C.v (.int .i64 0), C.v (.int .i64 0), C.v (.int .i64 0), C.v (.int .i64 0), C.v (.int .i64 0), C.v (.int .i64 0), C.v (.int .i64 0), C.v (.int .i64 0), C.v (.int .i64 0), C.v (.int .i64 0), C.v (.int .i64 0), C.v (.int .i64 0), C.v (.int .i64 0), C.v (.int .i64 0), C.v (.int .i64 0)]) 0 cs6) fun cs7 =>
    (iter (fun (y : Bool × Int × (C × C × Unit) × (C × C × Unit) × (C × Int × Unit) × Unit) =>
      bif decide (y.2.1 < 12) then
        (cl fu d fn_synopticdata_Cycle [V.ptr 1000000 0] [.ob ty_synoptickeep_Src 0 ([y.2.2.2.2.1.1, C.v (.int .i64 y.2.2.2.2.1.2.1)])]).bind fun out4 =>
        uncO out4.objs fun o4 os4 =>
        rO o4 ty_synoptickeep_Src 0 fun cs8 =>
        need ((Nat.beq cs8.length 2) && true) <|
        unc cs8 fun c12 r12 =>
        unc r12 fun c13 _ =>
        asI .i64 c13 fun i4 =>
        rC out4.r fun c14 =>
        need (Nat.ble 41 cs7.length) <|
        (cl fu d fn_blacklist_Push [V.agg ([y.2.2.1.1, y.2.2.1.2.1]), V.c (nrm c14), V.agg (List.take 41 cs7)] []).bind fun out5 =>
        rT out5.r fun xs =>
        uncV xs fun x ys =>
        rA x fun cs9 =>
        need (Nat.beq cs9.length 2) <|
        unc cs9 fun c15 r14 =>
        unc r14 fun c16 _ =>
        uncV ys fun x1 ys1 =>
        rC x1 fun c17 =>
        asI .i64 c17 fun i5 =>
        nilV ys1 <|
        need (Nat.ble 41 cs7.length) <|
        (cl fu d fn_blacklist_Push [V.agg ([y.2.2.2.1.1, y.2.2.2.1.2.1]), V.c (nrm c14), V.agg (List.take 41 cs7)] []).bind fun out6 =>
        rT out6.r fun xs1 =>
        uncV xs1 fun x2 ys2 =>
        rA x2 fun cs10 =>
        need (Nat.beq cs10.length 2) <|
        unc cs10 fun c18 r16 =>
        unc r16 fun c19 _ =>
        uncV ys2 fun x3 ys3 =>
        rC x3 fun c20 =>
        asI .i64 c20 fun i6 =>
        nilV ys3 <|
        bif i5 != 0 then
          some (2, (false, y.2.1, (y.2.2.1.1, y.2.2.1.2.1, ()), (y.2.2.2.1.1, y.2.2.2.1.2.1, ()), (c12, i4, ()), ()))
        else
          bif i6 != 0 then
            some (2, (false, y.2.1, (y.2.2.1.1, y.2.2.1.2.1, ()), (y.2.2.2.1.1, y.2.2.2.1.2.1, ()), (c12, i4, ()), ()))
          else
            some (0, (y.1, IntKind.i64.wrap (y.2.1 + 1), (c15, c16, ()), (c18, c19, ()), (c12, i4, ()), ()))
      else
        some (1, (y.1, y.2.1, (y.2.2.1.1, y.2.2.1.2.1, ()), (y.2.2.2.1.1, y.2.2.2.1.2.1, ()), (y.2.2.2.2.1.1, y.2.2.2.2.1.2.1, ()), ()))) fu (false, 0, (c4, c5, ()), (c8, c9, ()), (c10, i3, ()), ())).bind fun p =>
    natD p.1 (
      (cl fu d fn_synopticref19_Same [V.agg ([p.2.2.2.1.1, C.nl]), V.agg ([p.2.2.2.2.1.1, C.nl])] []).bind fun out7 =>
      rC out7.r fun c21 =>
      asB c21 fun b =>
      bif b then
        (cl fu d fn_synopticlaw19_awake [] []).bind fun out8 =>
        rC out8.r fun c22 =>
        asB c22 fun b1 =>
        some ⟨B b1, [], none⟩
      else
        some ⟨B false, [], none⟩) fun m =>
    some ⟨B p.2.1, [], none⟩) := by kernel_rfl
/- synoptic/synopticlaw19.BlacklistReturns -/
theorem eq_synopticlaw19_BlacklistReturns (fu d : Nat) (a0 : Int) (a1 : Int) (a2 : Bool) (n3 : Nat) (a3 : List C) :
    cl fu (d + 1) fn_synopticlaw19_BlacklistReturns [I a0, I a1, B a2, V.c (C.sl n3 a3)] [] = (
    (cl fu d fn_synoptickeep_New [V.c (C.sl n3 a3)] []).bind fun out =>
    rP out.r 0 <|
    uncO out.objs fun o os =>
    rN o ty_synoptickeep_Src 2 fun cs =>
    unc cs fun c r =>
    unc r fun c1 _ =>
    asI .i64 c1 fun i =>
    (cl fu d fn_synoptickeep_Src_Range [V.ptr 1000000 0, I 30, I 100] [.ob ty_synoptickeep_Src 0 ([c, C.v (.int .i64 i)])]).bind fun out1 =>
    uncO out1.objs fun o1 os1 =>
    rO o1 ty_synoptickeep_Src 0 fun cs1 =>
    need ((Nat.beq cs1.length 2) && true) <|
    unc cs1 fun c2 r2 =>
    unc r2 fun c3 _ =>
    asI .i64 c3 fun i1 =>
    rC out1.r fun c4 =>
    asI .i64 c4 fun i2 =>
    (cl fu d fn_synoptickeep_Src_Range [V.ptr 1000000 0, I 1, I 30] [.ob ty_synoptickeep_Src 0 ([c2, C.v (.int .i64 i1)])]).bind fun out2 =>
    uncO out2.objs fun o2 os2 =>
    rO o2 ty_synoptickeep_Src 0 fun cs2 =>
    need ((Nat.beq cs2.length 2) && true) <|
    unc cs2 fun c5 r4 =>
    unc r4 fun c6 _ =>
    asI .i64 c6 fun i3 =>
    rC out2.r fun c7 =>
    asI .i64 c7 fun i4 =>
    (cl fu d fn_synoptickeep_Mod [I a0, I 300] []).bind fun out3 =>
    rC out3.r fun c8 =>
    asI .i64 c8 fun i5 =>
    (bif decide (i5 > 0) then
      (cl fu d fn_synoptickeep_Mod [I a1, I (IntKind.i64.wrap (i5 + 1))] []).bind fun out4 =>
      rC out4.r fun c9 =>
      asI .i64 c9 fun i6 =>
      some (0, (i6, [C.v (.int .i64 0), C.v (.int .i64 0), C.v (.int .i64 0), C.v (.int .i64 0), C.v (.int .i64 0), C.v (.int .i64 0), C.v (.int .i64 0), C.v (.int .i64 0), C.v (.int .i64 0), C.v (.int .i64 0), C.v (.int .i64 0), C.v (.int .i64 0), C.v (.int .i64 0), C.v (.int .i64 0), C.v (.int .i64 0), C.v (.int .i64 0), C.v (.int .i64 0), C.v (.int .i64 0), C.v (.int .i64 0), C.v (.int .i64 0), C.v (.int .i64 0), C.v (.int .i64 0), C.v (.int .i64 0), C.v (.int .i64 0), C.v (.int .i64 0), C.v (.int .i64 0), C.v (.int .i64 0), C.v (.int .i64 0), C.v (.int .i64 0), C.v (.int .i64 0), C.v (.int .i64 0), C.v (.int .i64 0), C.v (.int .i64 0), C.v (.int .i64 0), C.v (.int .i64 0), C.v (.int .i64 0), C.v (.int .i64 0), C.v (.int .i64 0), C.v (.int .i64 0), C.v (.int .i64 i2), C.v (.int .i64 i4)], ()))
    else
      some (0, (0, [C.v (.int .i64 0), C.v (.int .i64 0), C.v (.int .i64 0), C.v (.int .i64 0), C.v (.int .i64 0), C.v (.int .i64 0), C.v (.int .i64 0), C.v (.int .i64 0), C.v (.int .i64 0), C.v (.int .i64 0), C.v (.int .i64 0), C.v (.int .i64 0), C.v (.int .i64 0), C.v (.int .i64 0), C.v (.int .i64 0), C.v (.int .i64 0), C.v (.int .i64 0), C.v (.int .i64 0), C.v (.int .i64 0), C.v (.int .i64 0), C.v (.int .i64 0), C.v (.int .i64 0), C.v (.int .i64 0), C.v (.int .i64 0), C.v (.int .i64 0), C.v (.int .i64 0), C.v (.int .i64 0), C.v (.int .i64 0), C.v (.int .i64 0), C.v (.int .i64 0), C.v (.int .i64 0), C.v (.int .i64 0), C.v (.int .i64 0), C.v (.int .i64 0), C.v (.int .i64 0), C.v (.int .i64 0), C.v (.int .i64 0), C.v (.int .i64 0), C.v (.int .i64 0), C.v (.int .i64 i2), C.v (.int .i64 i4)], ())) : Option (Nat × Int × List C × Unit)).bind fun p =>
    (bif a2 then
      some (0, (p.2.2.1, (C.nl, C.sl 1 ([C.v (.string (⟨#[65, 76, 80, 72, 65]⟩))]), ()), ()))
    else
      some (0, (p.2.2.1, (C.nl, C.nl, ()), ())) : Option (Nat × List C × (C × C × Unit) × Unit)).bind fun p1 =>
    need (Nat.ble 41 p1.2.1.length) <|
    (cl fu d fn_blacklist_Push [V.agg ([p1.2.2.1.1, p1.2.2.1.2.1]), V.c (C.sl 1 ([C.v (.string (⟨#[65, 76, 80, 72, 65]⟩)), C.v (.int .i64 i5), C.v (.int .i64 p.2.1)])), V.agg (List.take 41 p1.2.1)] []).bind fun out5 =>
    rT out5.r fun xs =>
    uncV xs fun x ys =>
    rA x fun cs3 =>
    need (Nat.beq cs3.length 2) <|
    unc cs3 fun c10 r6 =>
    unc r6 fun c11 _ =>
    uncV ys fun x1 ys1 =>
    rC x1 fun c12 =>
    asI .i64 c12 fun i7 =>
    nilV ys1 <|
    bif decide (i5 ≥ 5) then
      unc (List.drop 39 p1.2.1) fun c13 _ =>
      asI .i64 c13 fun i8 =>
      (bif a2 then
        bif i5 == 0 then
          some (0, (true, (c10, c11, ()), ()))
        else
          unc (List.drop 40 p1.2.1) fun c14 _ =>
          asI .i64 c14 fun i9 =>
          some (0, (decide (IntKind.i64.wrap (100 * p.2.1) ≥ IntKind.i64.wrap (i9 * i5)), (c10, c11, ()), ()))
      else
        some (0, (decide (IntKind.i64.wrap (100 * p.2.1) ≥ IntKind.i64.wrap (i8 * i5)), (c10, c11, ()), ())) : Option (Nat × Bool × (C × C × Unit) × Unit)).bind fun p2 =>
      bif i7 == 0 then
        (cl fu d fn_blacklist_Listed [V.agg ([p2.2.2.1.1, p2.2.2.1.2.1]), V.c (C.v (.string (⟨#[65, 76, 80, 72, 65]⟩)))] []).bind fun out6 =>
        rC out6.r fun c15 =>
        asB c15 fun b =>
        bif b == p2.2.1 then
          (cl fu d fn_synopticlaw19_awake [] []).bind fun out7 =>
          rC out7.r fun c16 =>
          asB c16 fun b1 =>
          some ⟨B b1, [], none⟩
        else
          some ⟨B false, [], none⟩
      else
        some ⟨B false, [], none⟩
    else
      (bif a2 then
        bif i5 == 0 then
          some (0, (true, (c10, c11, ()), ()))
        else
          unc (List.drop 40 p1.2.1) fun c17 _ =>
          asI .i64 c17 fun i10 =>
          some (0, (decide (IntKind.i64.wrap (100 * p.2.1) ≥ IntKind.i64.wrap (i10 * i5)), (c10, c11, ()), ()))
      else
        some (0, (false, (c10, c11, ()), ())) : Option (Nat × Bool × (C × C × Unit) × Unit)).bind fun p3 =>
      bif i7 == 0 then
        (cl fu d fn_blacklist_Listed [V.agg ([p3.2.2.1.1, p3.2.2.1.2.1]), V.c (C.v (.string (⟨#[65, 76, 80, 72, 65]⟩)))] []).bind fun out8 =>
        rC out8.r fun c18 =>
        asB c18 fun b2 =>
        bif b2 == p3.2.1 then
          (cl fu d fn_synopticlaw19_awake [] []).bind fun out9 =>
          rC out9.r fun c19 =>
          asB c19 fun b3 =>
          some ⟨B b3, [], none⟩
        else
          some ⟨B false, [], none⟩
      else
        some ⟨B false, [], none⟩) := by kernel_rfl
/- synoptic/synopticlaw19.BlacklistAlone -/
theorem eq_synopticlaw19_BlacklistAlone (fu d : Nat) (n0 : Nat) (a0 : List C) :
    cl fu (d + 1) fn_synopticlaw19_BlacklistAlone [V.c (C.sl n0 a0)] [] = (
    (cl fu d fn_synoptickeep_New [V.c (C.sl n0 a0)] []).bind fun out =>
    rP out.r 0 <|
    uncO out.objs fun o os =>
    rN o ty_synoptickeep_Src 2 fun cs =>
    unc cs fun c r =>
    unc r fun c1 _ =>
    asI .i64 c1 fun i =>
    (cl fu d fn_synopticdata_History [V.ptr 1000000 0, I 10] [.ob ty_synoptickeep_Src 0 ([c, C.v (.int .i64 i)])]).bind fun out1 =>
    uncO out1.objs fun o1 os1 =>
    rO o1 ty_synoptickeep_Src 0 fun cs1 =>
    need ((Nat.beq cs1.length 2) && true) <|
    unc cs1 fun c2 r2 =>
    unc r2 fun c3 _ =>
    asI .i64 c3 fun i1 =>
    rA out1.r fun cs2 =>
    need (Nat.beq cs2.length 2) <|
    unc cs2 fun c4 r4 =>
    unc r4 fun c5 _ =>
    (cl fu d fn_synopticdata_Cycle [V.ptr 1000000 0] [.ob ty_synoptickeep_Src 0 ([c2, C.v (.int .i64 i1)])]).bind fun out2 =>
    uncO out2.objs fun o2 os2 =>
    rO o2 ty_synoptickeep_Src 0 fun cs3 =>
    need ((Nat.beq cs3.length 2) && true) <|
    unc cs3 fun c6 r6 =>
    unc r6 fun c7 _ =>
    asI .i64 c7 fun i2 =>
    rC out2.r fun c8 =>
    (cl fu d fn_synopticdata_Control [V.ptr 1000000 0] [.ob ty_synoptickeep_Src 0 ([c6, C.v (.int .i64 i2)])]).bind fun out3 =>
    uncO out3.objs fun o3 os3 =>
    rO o3 ty_synoptickeep_Src 0 fun cs4 =>
    need ((Nat.beq cs4.length 2) && true) <|
    unc cs4 fun c9 r8 =>
    unc r8 fun c10 _ =>
    asI .i64 c10 fun i3 =>
    rA out3.r fun cs5 =>
    need ((((Nat.beq cs5.length 41) && true) && (Nat.ble (0 + cs5.length) 41)) && true) <|
    bd (putAt ([C.v (.int .i64 0), C.v (.int .i64 0), C.v (.int .i64 0), C.v (.int .i64 0), C.v (.int .i64 0), C.v (.int .i64 0), C.v (.int .i64 0), C.v (.int .i64 0), C.v (.int .i64 0), C.v (.int .i64 0), C.v (.int .i64 0), C.v (.int .i64 0), C.v (.int .i64 0), C.v (.int .i64 0), C.v (.int .i64 0), C.v (.int .i64 0), C.v (.int .i64 0), C.v (.int .i64 0), C.v (.int .i64 0), C.v (.int .i64 0), C.v (.int .i64 0), C.v (.int .i64 0), C.v (.int .i64 0), C.v (.int .i64 0), C.v (.int .i64 0), C.v (.int .i64 0), C.v (.int .i64 0), C.v (.int .i64 0), C.v (.int .i64 0), C.v (.int .i64 0), C.v (.int .i64 0), C.v (.int .i64 0), C.v (.int .i64 0), C.v (.int .i64 0), C.v (.int .i64 0), C.v (.int .i64 0), C.v (.int .i64 0), C.v (.int .i64 0), C.v (.int .i64 0), C.v (.int .i64 0), C.v (.int .i64 0)]) 0 cs5) fun cs6 =>
    need (Nat.ble 41 cs6.length) <|
    (cl fu d fn_blacklist_Push [V.agg ([c4, c5]), V.c (nrm c8), V.agg (List.take 41 cs6)] []).bind fun out4 =>
    rT out4.r fun xs =>
    uncV xs fun x ys =>
    rA x fun cs7 =>
    need (Nat.beq cs7.length 2) <|
    unc cs7 fun c11 r10 =>
    unc r10 fun c12 _ =>
    uncV ys fun x1 ys1 =>
    rC x1 fun c13 =>
    asI .i64 c13 fun i4 =>
    nilV ys1 <|
    bif i4 != 0 then
      some ⟨B false, [], none⟩
    else
      (iter (fun (y : Bool × Int × Unit) =>
        bif decide (y.2.1 < 6) then
          need (inR y.2.1 6) <|
          unc (List.drop (y.2.1.toNat * 1) ([C.v (.string (⟨#[48, 49, 50, 51, 52]⟩)), C.v (.string (⟨#[55, 55, 55, 55, 55]⟩)), C.v (.string (⟨#[65, 76, 80, 72, 65]⟩)), C.v (.string (⟨#[66, 82, 65, 86, 79]⟩)), C.v (.string (⟨#[68, 69, 76, 84, 65]⟩)), C.v (.string (⟨#[69, 67, 72, 79, 55]⟩))])) fun c14 _ =>
          asS c14 fun s =>
          asSl c4 fun n cs8 =>
          (iter (fun (y1 : Int × (List C × C × Unit) × Unit) =>
            bif decide (y1.1 < ((n : Nat) : Int)) then
              asSl c4 fun n1 cs9 =>
              need (inR y1.1 n1) <|
              unc (List.drop (y1.1.toNat * 1) cs9) fun c15 _ =>
              need (noYl [V.c (nrm c15)]) <|
              (cl fu d fn_synopticlaw19_only [V.c (nrm c15), V.c (C.v (.string s))] []).bind fun out5 =>
              rC out5.r fun c16 =>
              need ((((Nat.beq ((y1.2.1.1.length / 1) * 1) y1.2.1.1.length) && true) && (Nat.ble (((y1.2.1.1.length / 1) + 1) * 24) 140737488355328)) && (Nat.ble ((y1.2.1.1.length / 1) + 1) 140737488355328)) <|
              need (((Nat.beq (((y1.2.1.1.length / 1) + 1) * 1) ((y1.2.1.1 ++ ([c16])).length)) && true) && true) <|
              some (0, (IntKind.i64.wrap (y1.1 + 1), (y1.2.1.1 ++ ([c16]), y1.2.1.2.1, ()), ()))
            else
              need (((Nat.beq ((y1.2.1.1.length / 1) * 1) y1.2.1.1.length) && true) && true) <|
              some (1, (y1.1, (y1.2.1.1, y1.2.1.2.1, ()), ()))) fu (0, ([], C.nl, ()), ())).bind fun p =>
          (cl fu d fn_synopticref19_Listed [V.agg ([c4, c5]), V.c (C.v (.string s))] []).bind fun out6 =>
          rC out6.r fun c17 =>
          asB c17 fun b =>
          need (Nat.ble (0 + ((p.2.2.1.1.length / 1) * 1)) p.2.2.1.1.length) <|
          (bif b then
            some (0, ((C.sl (p.2.2.1.1.length / 1) (List.take ((p.2.2.1.1.length / 1) * 1) p.2.2.1.1), C.sl 1 ([C.v (.string s)]), ()), ()))
          else
            some (0, ((C.sl (p.2.2.1.1.length / 1) (List.take ((p.2.2.1.1.length / 1) * 1) p.2.2.1.1), p.2.2.1.2.1, ()), ())) : Option (Nat × (C × C × Unit) × Unit)).bind fun p1 =>
          need (noYl [V.c (nrm c8)]) <|
          (cl fu d fn_synopticlaw19_only [V.c (nrm c8), V.c (C.v (.string s))] []).bind fun out7 =>
          rC out7.r fun c18 =>
          need (Nat.ble 41 cs6.length) <|
          (cl fu d fn_blacklist_Push [V.agg ([p1.2.1.1, p1.2.1.2.1]), V.c (nrm c18), V.agg (List.take 41 cs6)] []).bind fun out8 =>
          rT out8.r fun xs1 =>
          uncV xs1 fun x2 ys2 =>
          rA x2 fun cs10 =>
          need (Nat.beq cs10.length 2) <|
          unc cs10 fun c19 r14 =>
          unc r14 fun c20 _ =>
          uncV ys2 fun x3 ys3 =>
          rC x3 fun c21 =>
          asI .i64 c21 fun i5 =>
          nilV ys3 <|
          bif i5 != 0 then
            some (2, (false, y.2.1, ()))
          else
            (cl fu d fn_blacklist_Listed [V.agg ([c11, c12]), V.c (C.v (.string s))] []).bind fun out9 =>
            rC out9.r fun c22 =>
            asB c22 fun b1 =>
            (cl fu d fn_blacklist_Listed [V.agg ([c19, c20]), V.c (C.v (.string s))] []).bind fun out10 =>
            rC out10.r fun c23 =>
            asB c23 fun b2 =>
            bif !(b1 == b2) then
              some (2, (false, y.2.1, ()))
            else
              some (0, (y.1, IntKind.i64.wrap (y.2.1 + 1), ()))
        else
          some (1, (y.1, y.2.1, ()))) fu (false, 0, ())).bind fun p2 =>
      natD p2.1 (
        (cl fu d fn_synopticlaw19_awake [] []).bind fun out11 =>
        rC out11.r fun c24 =>
        asB c24 fun b3 =>
        some ⟨B b3, [], none⟩) fun m =>
      some ⟨B p2.2.1, [], none⟩) := by kernel_rfl
/- synoptic/synoptickeep.New -/
theorem eq_synoptickeep_New (fu d : Nat) (n0 : Nat) (a0 : List C) :
    cl fu (d + 1) fn_synoptickeep_New [V.c (C.sl n0 a0)] [] = (
    need ((decide (0 ≤ (if 2000 < ((n0 : Nat) : Int) then 2000 else ((n0 : Nat) : Int)))) && (decide ((if 2000 < ((n0 : Nat) : Int) then 2000 else ((n0 : Nat) : Int)) ≤ ((n0 : Nat) : Int)))) <|
    some ⟨V.ptr 1000000 0, [.ob ty_synoptickeep_Src 0 ([C.sl ((if 2000 < ((n0 : Nat) : Int) then 2000 else ((n0 : Nat) : Int)).toNat) (List.take (((if 2000 < ((n0 : Nat) : Int) then 2000 else ((n0 : Nat) : Int)).toNat) * 1) a0), C.v (.int .i64 0)])], none⟩) := by kernel_rfl
/- synoptic/synopticdata.History -/
theorem eq_synopticdata_History (fu d : Nat) (a0_0 : C) (a0_1 : Int) (a1 : Int) :
    cl fu (d + 1) fn_synopticdata_History [V.ptr 1000000 0, I a1] [.ob ty_synoptickeep_Src 0 ([a0_0, C.v (.int .i64 a0_1)])] = (
    (cl fu d fn_synoptickeep_Src_N [V.ptr 1000000 0, I (IntKind.i64.wrap (a1 + 1))] [.ob ty_synoptickeep_Src 0 ([a0_0, C.v (.int .i64 a0_1)])]).bind fun out =>
    uncO out.objs fun o os =>
    rO o ty_synoptickeep_Src 0 fun cs =>
    need ((Nat.beq cs.length 2) && true) <|
    unc cs fun c r =>
    unc r fun c1 _ =>
    asI .i64 c1 fun i =>
    rC out.r fun c2 =>
    asI .i64 c2 fun i1 =>
    (iter (fun (y : Int × (C × C × Unit) × (C × C × Unit) × (C × Int × Unit) × Unit) =>
      bif decide (y.1 > 0) then
        (cl fu d fn_synopticdata_Cycle [V.ptr 1000000 0] [.ob ty_synoptickeep_Src 0 ([y.2.2.2.1.1, C.v (.int .i64 y.2.2.2.1.2.1)])]).bind fun out1 =>
        uncO out1.objs fun o1 os1 =>
        rO o1 ty_synoptickeep_Src 0 fun cs1 =>
        need ((Nat.beq cs1.length 2) && true) <|
        unc cs1 fun c3 r2 =>
        unc r2 fun c4 _ =>
        asI .i64 c4 fun i2 =>
        rC out1.r fun c5 =>
        (cl fu d fn_synopticdata_Control [V.ptr 1000000 0] [.ob ty_synoptickeep_Src 0 ([c3, C.v (.int .i64 i2)])]).bind fun out2 =>
        uncO out2.objs fun o2 os2 =>
        rO o2 ty_synoptickeep_Src 0 fun cs2 =>
        need ((Nat.beq cs2.length 2) && true) <|
        unc cs2 fun c6 r4 =>
        unc r4 fun c7 _ =>
        asI .i64 c7 fun i3 =>
        rA out2.r fun cs3 =>
        (cl fu d fn_synopticref19_Push [V.agg ([y.2.2.1.1, y.2.2.1.2.1]), V.c (nrm c5), V.agg cs3] []).bind fun out3 =>
        rT out3.r fun xs =>
        uncV xs fun x ys =>
        rA x fun cs4 =>
        need (Nat.beq cs4.length 2) <|
        unc cs4 fun c8 r6 =>
        unc r6 fun c9 _ =>
        uncV ys fun x1 ys1 =>
        rC x1 fun c10 =>
        asI .i64 c10 fun i4 =>
        nilV ys1 <|
        bif i4 == 0 then
          some (0, (IntKind.i64.wrap (y.1 - 1), (y.2.1.1, y.2.1.2.1, ()), (c8, c9, ()), (c6, i3, ()), ()))
        else
          some (0, (IntKind.i64.wrap (y.1 - 1), (y.2.1.1, y.2.1.2.1, ()), (y.2.2.1.1, y.2.2.1.2.1, ()), (c6, i3, ()), ()))
      else
        some (1, (y.1, (y.2.1.1, y.2.1.2.1, ()), (y.2.2.1.1, y.2.2.1.2.1, ()), (y.2.2.2.1.1, y.2.2.2.1.2.1, ()), ()))) fu (i1, (C.nl, C.nl, ()), (C.nl, C.nl, ()), (c, i, ()), ())).bind fun p =>
    some ⟨V.agg ([p.2.2.2.1.1, p.2.2.2.1.2.1]), [.ob ty_synoptickeep_Src 0 ([p.2.2.2.2.1.1, C.v (.int .i64 p.2.2.2.2.1.2.1)])], none⟩) := by kernel_rfl
/- synoptic/synopticdata.Cycle -/
theorem eq_synopticdata_Cycle (fu d : Nat) (a0_0 : C) (a0_1 : Int) :
    cl fu (d + 1) fn_synopticdata_Cycle [V.ptr 1000000 0] [.ob ty_synoptickeep_Src 0 ([a0_0, C.v (.int .i64 a0_1)])] = (
    (iter (fun (y : List C × Int × (C × Int × Unit) × Unit) =>
      bif decide (y.2.1 < 6) then
        need (inR y.2.1 6) <|
        unc (List.drop (y.2.1.toNat * 1) ([C.v (.string (⟨#[48, 49, 50, 51, 52]⟩)), C.v (.string (⟨#[55, 55, 55, 55, 55]⟩)), C.v (.string (⟨#[65, 76, 80, 72, 65]⟩)), C.v (.string (⟨#[66, 82, 65, 86, 79]⟩)), C.v (.string (⟨#[68, 69, 76, 84, 65]⟩)), C.v (.string (⟨#[69, 67, 72, 79, 55]⟩))])) fun c r =>
        asS c fun s =>
        (cl fu d fn_synoptickeep_Src_N [V.ptr 1000000 0, I 3] [.ob ty_synoptickeep_Src 0 ([y.2.2.1.1, C.v (.int .i64 y.2.2.1.2.1)])]).bind fun out =>
        uncO out.objs fun o os =>
        rO o ty_synoptickeep_Src 0 fun cs =>
        need ((Nat.beq cs.length 2) && true) <|
        unc cs fun c1 r1 =>
        unc r1 fun c2 _ =>
        asI .i64 c2 fun i =>
        rC out.r fun c3 =>
        asI .i64 c3 fun i1 =>
        bif decide (i1 > 0) then
          (cl fu d fn_synoptickeep_Src_N [V.ptr 1000000 0, I 9] [.ob ty_synoptickeep_Src 0 ([c1, C.v (.int .i64 i)])]).bind fun out1 =>
          uncO out1.objs fun o1 os1 =>
          rO o1 ty_synoptickeep_Src 0 fun cs1 =>
          need ((Nat.beq cs1.length 2) && true) <|
          unc cs1 fun c4 r3 =>
          unc r3 fun c5 _ =>
          asI .i64 c5 fun i2 =>
          rC out1.r fun c6 =>
          asI .i64 c6 fun i3 =>
          (cl fu d fn_synoptickeep_Src_N [V.ptr 1000000 0, I (IntKind.i64.wrap (i3 + 1))] [.ob ty_synoptickeep_Src 0 ([c4, C.v (.int .i64 i2)])]).bind fun out2 =>
          uncO out2.objs fun o2 os2 =>
          rO o2 ty_synoptickeep_Src 0 fun cs2 =>
          need ((Nat.beq cs2.length 2) && true) <|
          unc cs2 fun c7 r5 =>
          unc r5 fun c8 _ =>
          asI .i64 c8 fun i4 =>
          rC out2.r fun c9 =>
          asI .i64 c9 fun i5 =>
          need ((((Nat.beq ((y.1.length / 3) * 3) y.1.length) && true) && (Nat.ble (((y.1.length / 3) + 1) * 32) 140737488355328)) && (Nat.ble ((y.1.length / 3) + 1) 140737488355328)) <|
          need (((Nat.beq (((y.1.length / 3) + 1) * 3) ((y.1 ++ ([C.v (.string s), C.v (.int .i64 i3), C.v (.int .i64 i5)])).length)) && true) && true) <|
          some (0, (y.1 ++ ([C.v (.string s), C.v (.int .i64 i3), C.v (.int .i64 i5)]), IntKind.i64.wrap (y.2.1 + 1), (c7, i4, ()), ()))
        else
          need (((Nat.beq ((y.1.length / 3) * 3) y.1.length) && true) && true) <|
          some (0, (y.1, IntKind.i64.wrap (y.2.1 + 1), (c1, i, ()), ()))
      else
        need (((Nat.beq ((y.1.length / 3) * 3) y.1.length) && true) && true) <|
        some (1, (y.1, y.2.1, (y.2.2.1.1, y.2.2.1.2.1, ()), ()))) fu ([], 0, (a0_0, a0_1, ()), ())).bind fun p =>
    need (Nat.ble (0 + ((p.2.1.length / 3) * 3)) p.2.1.length) <|
    some ⟨V.c (C.sl (p.2.1.length / 3) (List.take ((p.2.1.length / 3) * 3) p.2.1)), [.ob ty_synoptickeep_Src 0 ([p.2.2.2.1.1, C.v (.int .i64 p.2.2.2.1.2.1)])], none⟩) := by kernel_rfl
/- synoptic/synopticdata.Control -/
theorem eq_synopticdata_Control (fu d : Nat) (a0_0 : C) (a0_1 : Int) :
    cl fu (d + 1) fn_synopticdata_Control [V.ptr 1000000 0] [.ob ty_synoptickeep_Src 0 ([a0_0, C.v (.int .i64 a0_1)])] = (
    (cl fu d fn_synoptickeep_Src_Pick [V.ptr 1000000 0, V.c (C.sl 3 ([C.v (.int .i64 4), C.v (.int .i64 24), C.v (.int .i64 100)]))] [.ob ty_synoptickeep_Src 0 ([a0_0, C.v (.int .i64 a0_1)])]).bind fun out =>
    uncO out.objs fun o os =>
    rO o ty_synoptickeep_Src 0 fun cs =>
    need ((Nat.beq cs.length 2) && true) <|
    unc cs fun c r =>
    unc r fun c1 _ =>
    asI .i64 c1 fun i =>
    rC out.r fun c2 =>
    asI .i64 c2 fun i1 =>
    (cl fu d fn_synoptickeep_Src_Pick [V.ptr 1000000 0, V.c (C.sl 3 ([C.v (.int .i64 20), C.v (.int .i64 40), C.v (.int .i64 5)]))] [.ob ty_synoptickeep_Src 0 ([c, C.v (.int .i64 i)])]).bind fun out1 =>
    uncO out1.objs fun o1 os1 =>
    rO o1 ty_synoptickeep_Src 0 fun cs1 =>
    need ((Nat.beq cs1.length 2) && true) <|
    unc cs1 fun c3 r2 =>
    unc r2 fun c4 _ =>
    asI .i64 c4 fun i2 =>
    rC out1.r fun c5 =>
    asI .i64 c5 fun i3 =>
    (cl fu d fn_synoptickeep_Src_Range [V.ptr 1000000 0, I 1, I 4] [.ob ty_synoptickeep_Src 0 ([c3, C.v (.int .i64 i2)])]).bind fun out2 =>
    uncO out2.objs fun o2 os2 =>
    rO o2 ty_synoptickeep_Src 0 fun cs2 =>
    need ((Nat.beq cs2.length 2) && true) <|
    unc cs2 fun c6 r4 =>
    unc r4 fun c7 _ =>
    asI .i64 c7 fun i4 =>
    rC out2.r fun c8 =>
    asI .i64 c8 fun i5 =>
    (cl fu d fn_synoptickeep_Src_Pick [V.ptr 1000000 0, V.c (C.sl 2 ([C.v (.int .i64 50), C.v (.int .i64 80)]))] [.ob ty_synoptickeep_Src 0 ([c6, C.v (.int .i64 i4)])]).bind fun out3 =>
    uncO out3.objs fun o3 os3 =>
    rO o3 ty_synoptickeep_Src 0 fun cs3 =>
    need ((Nat.beq cs3.length 2) && true) <|
    unc cs3 fun c9 r6 =>
    unc r6 fun c10 _ =>
    asI .i64 c10 fun i6 =>
    rC out3.r fun c11 =>
    asI .i64 c11 fun i7 =>
    (cl fu d fn_synoptickeep_Src_Pick [V.ptr 1000000 0, V.c (C.sl 2 ([C.v (.int .i64 20), C.v (.int .i64 50)]))] [.ob ty_synoptickeep_Src 0 ([c9, C.v (.int .i64 i6)])]).bind fun out4 =>
    uncO out4.objs fun o4 os4 =>
    rO o4 ty_synoptickeep_Src 0 fun cs4 =>
    need ((Nat.beq cs4.length 2) && true) <|
    unc cs4 fun c12 r8 =>
    unc r8 fun c13 _ =>
    asI .i64 c13 fun i8 =>
    rC out4.r fun c14 =>
    asI .i64 c14 fun i9 =>
    (iter (fun (y : Int × List C × List C × (C × Int × Unit) × Unit) =>
      bif decide (y.1 ≤ 11) then
        (cl fu d fn_synoptickeep_Src_Pick [V.ptr 1000000 0, V.c (C.sl 5 ([C.v (.int .i64 0), C.v (.int .i64 10), C.v (.int .i64 30), C.v (.int .i64 100), C.v (.int .i64 1000)]))] [.ob ty_synoptickeep_Src 0 ([y.2.2.2.1.1, C.v (.int .i64 y.2.2.2.1.2.1)])]).bind fun out5 =>
        uncO out5.objs fun o5 os5 =>
        rO o5 ty_synoptickeep_Src 0 fun cs5 =>
        need ((Nat.beq cs5.length 2) && true) <|
        unc cs5 fun c15 r10 =>
        unc r10 fun c16 _ =>
        asI .i64 c16 fun i10 =>
        rC out5.r fun c17 =>
        asI .i64 c17 fun i11 =>
        need (inR y.1 12) <|
        need (((Nat.ble 0 (1 + (y.1.toNat * 1))) && (Nat.ble ((1 + (y.1.toNat * 1)) + 1) y.2.2.1.length)) && true) <|
        (cl fu d fn_synoptickeep_Src_Pick [V.ptr 1000000 0, V.c (C.sl 4 ([C.v (.int .i64 0), C.v (.int .i64 20), C.v (.int .i64 60), C.v (.int .i64 300)]))] [.ob ty_synoptickeep_Src 0 ([c15, C.v (.int .i64 i10)])]).bind fun out6 =>
        uncO out6.objs fun o6 os6 =>
        rO o6 ty_synoptickeep_Src 0 fun cs6 =>
        need ((Nat.beq cs6.length 2) && true) <|
        unc cs6 fun c18 r12 =>
        unc r12 fun c19 _ =>
        asI .i64 c19 fun i12 =>
        rC out6.r fun c20 =>
        asI .i64 c20 fun i13 =>
        need (inR y.1 12) <|
        need (((Nat.ble 0 (13 + (y.1.toNat * 1))) && (Nat.ble ((13 + (y.1.toNat * 1)) + 1) ((putAt y.2.2.1 (1 + (y.1.toNat * 1)) ([C.v (.int .i64 i11)])).length))) && true) <|
        (cl fu d fn_synoptickeep_Src_Pick [V.ptr 1000000 0, V.c (C.sl 4 ([C.v (.int .i64 0), C.v (.int .i64 5), C.v (.int .i64 30), C.v (.int .i64 200)]))] [.ob ty_synoptickeep_Src 0 ([c18, C.v (.int .i64 i12)])]).bind fun out7 =>
        uncO out7.objs fun o7 os7 =>
        rO o7 ty_synoptickeep_Src 0 fun cs7 =>
        need ((Nat.beq cs7.length 2) && true) <|
        unc cs7 fun c21 r14 =>
        unc r14 fun c22 _ =>
        asI .i64 c22 fun i14 =>
        rC out7.r fun c23 =>
        asI .i64 c23 fun i15 =>
        need (inR y.1 12) <|
        need (((Nat.ble 0 (26 + (y.1.toNat * 1))) && (Nat.ble ((26 + (y.1.toNat * 1)) + 1) ((putAt (putAt y.2.2.1 (1 + (y.1.toNat * 1)) ([C.v (.int .i64 i11)])) (13 + (y.1.toNat * 1)) ([C.v (.int .i64 i13)])).length))) && true) <|
        bd (putAt (putAt (putAt y.2.2.1 (1 + (y.1.toNat * 1)) ([C.v (.int .i64 i11)])) (13 + (y.1.toNat * 1)) ([C.v (.int .i64 i13)])) (26 + (y.1.toNat * 1)) ([C.v (.int .i64 i15)])) fun cs8 =>
        some (0, (IntKind.i64.wrap (y.1 + 1), y.2.1, cs8, (c21, i14, ()), ()))
      else
        some (1, (y.1, y.2.1, y.2.2.1, (y.2.2.2.1.1, y.2.2.2.1.2.1, ()), ()))) fu (1, [C.v (.int .i64 0), C.v (.int .i64 0), C.v (.int .i64 0), C.v (.int .i64 0), C.v (.int .i64 0), C.v (.int .i64 0), C.v (.int .i64 0), C.v (.int .i64 0), C.v (.int .i64 0), C.v (.int .i64 0), C.v (.int .i64 0), C.v (.int .i64 0), C.v (.int .i64 0), C.v (.int .i64 0), C.v (.int .i64 0), C.v (.int .i64 0), C.v (.int .i64 0), C.v (.int .i64 0), C.v (.int .i64 0), C.v (.int .i64 0), C.v (.int .i64 0), C.v (.int .i64 0), C.v (.int .i64 0), C.v (.int .i64 0), C.v (.int .i64 0), C.v (.int .i64 0), C.v (.int .i64 0), C.v (.int .i64 0), C.v (.int .i64 0), C.v (.int .i64 0), C.v (.int .i64 0), C.v (.int .i64 0), C.v (.int .i64 0), C.v (.int .i64 0), C.v (.int .i64 0), C.v (.int .i64 0), C.v (.int .i64 0), C.v (.int .i64 0), C.v (.int .i64 0), C.v (.int .i64 0), C.v (.int .i64 0)], [C.v (.int .i64 i1), C.v (.int .i64 0), C.v (.int .i64 0), C.v (.int .i64 0), C.v (.int .i64 0), C.v (.int .i64 0), C.v (.int .i64 0), C.v (.int .i64 0), C.v (.int .i64 0), C.v (.int .i64 0), C.v (.int .i64 0), C.v (.int .i64 0), C.v (.int .i64 0), C.v (.int .i64 0), C.v (.int .i64 0), C.v (.int .i64 0), C.v (.int .i64 0), C.v (.int .i64 0), C.v (.int .i64 0), C.v (.int .i64 0), C.v (.int .i64 0), C.v (.int .i64 0), C.v (.int .i64 0), C.v (.int .i64 0), C.v (.int .i64 0), C.v (.int .i64 i3), C.v (.int .i64 0), C.v (.int .i64 0), C.v (.int .i64 0), C.v (.int .i64 0), C.v (.int .i64 0), C.v (.int .i64 0), C.v (.int .i64 0), C.v (.int .i64 0), C.v (.int .i64 0), C.v (.int .i64 0), C.v (.int .i64 0), C.v (.int .i64 0), C.v (.int .i64 i5), C.v (.int .i64 i7), C.v (.int .i64 i9)], (c12, i8, ()), ())).bind fun p =>
    need (Nat.ble 41 p.2.2.2.1.length) <|
    need ((((Nat.beq ((List.take 41 p.2.2.2.1).length) 41) && true) && (Nat.ble (0 + ((List.take 41 p.2.2.2.1).length)) p.2.2.1.length)) && true) <|
    need (Nat.ble 41 ((putAt p.2.2.1 0 (List.take 41 p.2.2.2.1)).length)) <|
    some ⟨V.agg (List.take 41 (putAt p.2.2.1 0 (List.take 41 p.2.2.2.1))), [.ob ty_synoptickeep_Src 0 ([p.2.2.2.2.1.1, C.v (.int .i64 p.2.2.2.2.1.2.1)])], none⟩) := by kernel_rfl
/- synoptic/blacklist.Push -/
theorem eq_blacklist_Push (fu d : Nat) (a0_0 : C) (a0_1 : C) (n1 : Nat) (a1 : List C) (a2 : List C) :
    cl fu (d + 1) fn_blacklist_Push [V.agg ([a0_0, a0_1]), V.c (C.sl n1 a1), V.agg a2] [] = (
    (cl fu d fn_blacklist_Validate [V.agg ([a0_0, a0_1])] []).bind fun out =>
    rC out.r fun c =>
    asI .i64 c fun i =>
    bif i != 0 then
      some ⟨V.tup [V.agg ([C.nl, C.nl]), I i], [], none⟩
    else
      (cl fu d fn_blacklist_Validate [V.agg ([C.sl 1 ([C.sl n1 a1]), C.nl])] []).bind fun out1 =>
      rC out1.r fun c1 =>
      asI .i64 c1 fun i1 =>
      bif i1 != 0 then
        some ⟨V.tup [V.agg ([C.nl, C.nl]), I i1], [], none⟩
      else
        unc (List.drop 40 a2) fun c2 r =>
        asI .i64 c2 fun i2 =>
        (cl fu d fn_blacklist_percent [I i2] []).bind fun out2 =>
        rC out2.r fun c3 =>
        asB c3 fun b =>
        bif !b then
          some ⟨V.tup [V.agg ([C.nl, C.nl]), I 1], [], none⟩
        else
          unc (List.drop 39 a2) fun c4 _ =>
          asI .i64 c4 fun i3 =>
          (cl fu d fn_blacklist_percent [I i3] []).bind fun out3 =>
          rC out3.r fun c5 =>
          asB c5 fun b1 =>
          bif !b1 then
            some ⟨V.tup [V.agg ([C.nl, C.nl]), I 1], [], none⟩
          else
            unc (List.drop 40 a2) fun c6 _ =>
            asI .i64 c6 fun i4 =>
            unc (List.drop 39 a2) fun c7 _ =>
            asI .i64 c7 fun i5 =>
            bif decide (i4 > i5) then
              some ⟨V.tup [V.agg ([C.nl, C.nl]), I 1], [], none⟩
            else
              (cl fu d fn_blacklist_copied [V.agg ([a0_0, a0_1])] []).bind fun out4 =>
              rG out4.r fun zs =>
              uncV zs fun x r4 =>
              rW x 0 fun n =>
              uncO out4.objs fun o os =>
              rS o ty_sapi_Count 0 fun cs =>
              need ((Nat.beq (n * 1) cs.length) && true) <|
              uncV r4 fun x1 r5 =>
              rW x1 1 fun n3 =>
              uncO os fun o1 os1 =>
              rS o1 ty_string 0 fun cs1 =>
              need ((Nat.beq (n3 * 1) cs1.length) && true) <|
              nilV r5 <|
              (cl fu d fn_slices_Clone_sapi_Count_api_Count [V.c (C.sl n1 a1)] []).bind fun out5 =>
              rC out5.r fun c8 =>
              need ((((Nat.beq (n * 1) cs.length) && true) && (Nat.ble ((n + 1) * 24) 140737488355328)) && (Nat.ble (n + 1) 140737488355328)) <|
              bif decide (((n + 1 : Nat) : Int) > 12) then
                need (decide (1 ≤ ((n + 1 : Nat) : Int))) <|
                need (Nat.ble (1 + (((n + 1) - 1) * 1)) ((cs ++ ([c8])).length)) <|
                need (Nat.ble (0 + (n3 * 1)) cs1.length) <|
                (cl fu d fn_blacklist_sums [V.agg ([C.sl ((n + 1) - 1) (List.take (((n + 1) - 1) * 1) (List.drop 1 (cs ++ ([c8])))), C.sl n3 (List.take (n3 * 1) cs1)])] []).bind fun out6 =>
                rC out6.r fun c9 =>
                need (noYl [V.c c9]) <|
                (cl fu d fn_maps_Keys_map_string_api_Count_string_api_Count [V.c c9] []).bind fun out7 =>
                rC out7.r fun c10 =>
                need (noYl [V.c c10]) <|
                (cl fu d fn_slices_Sorted_string [V.c c10] []).bind fun out8 =>
                rC out8.r fun c11 =>
                asSl c11 fun n4 cs2 =>
                need (Nat.ble (1 + (((n + 1) - 1) * 1)) ((cs ++ ([c8])).length)) <|
                (iter (fun (y : Int × (C × C × Unit) × (C × List C × Unit) × Unit) =>
                  bif decide (y.1 < ((n4 : Nat) : Int)) then
                    asSl c11 fun n5 cs3 =>
                    need (inR y.1 n5) <|
                    unc (List.drop (y.1.toNat * 1) cs3) fun c12 _ =>
                    asS c12 fun s =>
                    asMp c9 ty_string ty_api_Count none (some 3) fun es =>
                    (mfd ty_string ([C.v (.string s)]) es).bind fun q =>
                    unc (orZ q ([C.v (.string (⟨#[]⟩)), C.v (.int .i64 0), C.v (.int .i64 0)])) fun c13 r7 =>
                    asS c13 fun s1 =>
                    unc r7 fun c14 r8 =>
                    asI .i64 c14 fun i6 =>
                    unc r8 fun c15 _ =>
                    asI .i64 c15 fun i7 =>
                    need (noYl [V.c (nrm a0_1)]) <|
                    (cl fu d fn_slices_Contains_sstring_string [V.c (nrm a0_1), V.c (C.v (.string s))] []).bind fun out9 =>
                    rC out9.r fun c16 =>
                    asB c16 fun b2 =>
                    bif b2 then
                      bif i6 == 0 then
                        need ((((Nat.beq ((y.2.2.1.2.1.length / 1) * 1) y.2.2.1.2.1.length) && true) && (Nat.ble (((y.2.2.1.2.1.length / 1) + 1) * 16) 140737488355328)) && (Nat.ble ((y.2.2.1.2.1.length / 1) + 1) 140737488355328)) <|
                        need (((Nat.beq (((y.2.2.1.2.1.length / 1) + 1) * 1) ((y.2.2.1.2.1 ++ ([C.v (.string s)])).length)) && true) && true) <|
                        some (0, (IntKind.i64.wrap (y.1 + 1), (y.2.1.1, y.2.1.2.1, ()), (y.2.2.1.1, y.2.2.1.2.1 ++ ([C.v (.string s)]), ()), ()))
                      else
                        unc (List.drop 40 a2) fun c17 _ =>
                        asI .i64 c17 fun i8 =>
                        bif decide (IntKind.i64.wrap (100 * i7) ≥ IntKind.i64.wrap (i8 * i6)) then
                          need ((((Nat.beq ((y.2.2.1.2.1.length / 1) * 1) y.2.2.1.2.1.length) && true) && (Nat.ble (((y.2.2.1.2.1.length / 1) + 1) * 16) 140737488355328)) && (Nat.ble ((y.2.2.1.2.1.length / 1) + 1) 140737488355328)) <|
                          need (((Nat.beq (((y.2.2.1.2.1.length / 1) + 1) * 1) ((y.2.2.1.2.1 ++ ([C.v (.string s)])).length)) && true) && true) <|
                          some (0, (IntKind.i64.wrap (y.1 + 1), (y.2.1.1, y.2.1.2.1, ()), (y.2.2.1.1, y.2.2.1.2.1 ++ ([C.v (.string s)]), ()), ()))
                        else
                          need (((Nat.beq ((y.2.2.1.2.1.length / 1) * 1) y.2.2.1.2.1.length) && true) && true) <|
                          some (0, (IntKind.i64.wrap (y.1 + 1), (y.2.1.1, y.2.1.2.1, ()), (y.2.2.1.1, y.2.2.1.2.1, ()), ()))
                    else
                      bif decide (i6 ≥ 5) then
                        unc (List.drop 39 a2) fun c18 _ =>
                        asI .i64 c18 fun i9 =>
                        bif decide (IntKind.i64.wrap (100 * i7) ≥ IntKind.i64.wrap (i9 * i6)) then
                          need ((((Nat.beq ((y.2.2.1.2.1.length / 1) * 1) y.2.2.1.2.1.length) && true) && (Nat.ble (((y.2.2.1.2.1.length / 1) + 1) * 16) 140737488355328)) && (Nat.ble ((y.2.2.1.2.1.length / 1) + 1) 140737488355328)) <|
                          need (((Nat.beq (((y.2.2.1.2.1.length / 1) + 1) * 1) ((y.2.2.1.2.1 ++ ([C.v (.string s)])).length)) && true) && true) <|
                          some (0, (IntKind.i64.wrap (y.1 + 1), (y.2.1.1, y.2.1.2.1, ()), (y.2.2.1.1, y.2.2.1.2.1 ++ ([C.v (.string s)]), ()), ()))
                        else
                          need (((Nat.beq ((y.2.2.1.2.1.length / 1) * 1) y.2.2.1.2.1.length) && true) && true) <|
                          some (0, (IntKind.i64.wrap (y.1 + 1), (y.2.1.1, y.2.1.2.1, ()), (y.2.2.1.1, y.2.2.1.2.1, ()), ()))
                      else
                        need (((Nat.beq ((y.2.2.1.2.1.length / 1) * 1) y.2.2.1.2.1.length) && true) && true) <|
                        some (0, (IntKind.i64.wrap (y.1 + 1), (y.2.1.1, y.2.1.2.1, ()), (y.2.2.1.1, y.2.2.1.2.1, ()), ()))
                  else
                    need (((Nat.beq ((y.2.2.1.2.1.length / 1) * 1) y.2.2.1.2.1.length) && true) && true) <|
                    some (1, (y.1, (y.2.1.1, y.2.1.2.1, ()), (y.2.2.1.1, y.2.2.1.2.1, ()), ()))) fu (0, (C.nl, C.nl, ()), (C.sl ((n + 1) - 1) (List.take (((n + 1) - 1) * 1) (List.drop 1 (cs ++ ([c8])))), [], ()), ())).bind fun p =>
                bif decide (((p.2.2.2.1.2.1.length / 1 : Nat) : Int) > 150) then
                  some ⟨V.tup [V.agg ([C.nl, C.nl]), I 2], [], none⟩
                else
                  need (Nat.ble (0 + ((p.2.2.2.1.2.1.length / 1) * 1)) p.2.2.2.1.2.1.length) <|
                  some ⟨V.tup [V.agg ([p.2.2.2.1.1, C.sl (p.2.2.2.1.2.1.length / 1) (List.take ((p.2.2.2.1.2.1.length / 1) * 1) p.2.2.2.1.2.1)]), I 0], [], none⟩
              else
                need (Nat.ble (0 + ((n + 1) * 1)) ((cs ++ ([c8])).length)) <|
                need (Nat.ble (0 + (n3 * 1)) cs1.length) <|
                (cl fu d fn_blacklist_sums [V.agg ([C.sl (n + 1) (List.take ((n + 1) * 1) (cs ++ ([c8]))), C.sl n3 (List.take (n3 * 1) cs1)])] []).bind fun out10 =>
                rC out10.r fun c19 =>
                need (noYl [V.c c19]) <|
                (cl fu d fn_maps_Keys_map_string_api_Count_string_api_Count [V.c c19] []).bind fun out11 =>
                rC out11.r fun c20 =>
                need (noYl [V.c c20]) <|
                (cl fu d fn_slices_Sorted_string [V.c c20] []).bind fun out12 =>
                rC out12.r fun c21 =>
                asSl c21 fun n6 cs4 =>
                need (Nat.ble (0 + ((n + 1) * 1)) ((cs ++ ([c8])).length)) <|
                (iter (fun (y1 : Int × (C × C × Unit) × (C × List C × Unit) × Unit) =>
                  bif decide (y1.1 < ((n6 : Nat) : Int)) then
                    asSl c21 fun n7 cs5 =>
                    need (inR y1.1 n7) <|
                    unc (List.drop (y1.1.toNat * 1) cs5) fun c22 _ =>
                    asS c22 fun s2 =>
                    asMp c19 ty_string ty_api_Count none (some 3) fun es1 =>
                    (mfd ty_string ([C.v (.string s2)]) es1).bind fun q1 =>
                    unc (orZ q1 ([C.v (.string (⟨#[]⟩)), C.v (.int .i64 0), C.v (.int .i64 0)])) fun c23 r13 =>
                    asS c23 fun s3 =>
                    unc r13 fun c24 r14 =>
                    asI .i64 c24 fun i10 =>
                    unc r14 fun c25 _ =>
                    asI .i64 c25 fun i11 =>
                    need (noYl [V.c (nrm a0_1)]) <|
                    (cl fu d fn_slices_Contains_sstring_string [V.c (nrm a0_1), V.c (C.v (.string s2))] []).bind fun out13 =>
                    rC out13.r fun c26 =>
                    asB c26 fun b3 =>
                    bif b3 then
                      bif i10 == 0 then
                        need ((((Nat.beq ((y1.2.2.1.2.1.length / 1) * 1) y1.2.2.1.2.1.length) && true) && (Nat.ble (((y1.2.2.1.2.1.length / 1) + 1) * 16) 140737488355328)) && (Nat.ble ((y1.2.2.1.2.1.length / 1) + 1) 140737488355328)) <|
                        need (((Nat.beq (((y1.2.2.1.2.1.length / 1) + 1) * 1) ((y1.2.2.1.2.1 ++ ([C.v (.string s2)])).length)) && true) && true) <|
                        some (0, (IntKind.i64.wrap (y1.1 + 1), (y1.2.1.1, y1.2.1.2.1, ()), (y1.2.2.1.1, y1.2.2.1.2.1 ++ ([C.v (.string s2)]), ()), ()))
                      else
                        unc (List.drop 40 a2) fun c27 _ =>
                        asI .i64 c27 fun i12 =>
                        bif decide (IntKind.i64.wrap (100 * i11) ≥ IntKind.i64.wrap (i12 * i10)) then
                          need ((((Nat.beq ((y1.2.2.1.2.1.length / 1) * 1) y1.2.2.1.2.1.length) && true) && (Nat.ble (((y1.2.2.1.2.1.length / 1) + 1) * 16) 140737488355328)) && (Nat.ble ((y1.2.2.1.2.1.length / 1) + 1) 140737488355328)) <|
                          need (((Nat.beq (((y1.2.2.1.2.1.length / 1) + 1) * 1) ((y1.2.2.1.2.1 ++ ([C.v (.string s2)])).length)) && true) && true) <|
                          some (0, (IntKind.i64.wrap (y1.1 + 1), (y1.2.1.1, y1.2.1.2.1, ()), (y1.2.2.1.1, y1.2.2.1.2.1 ++ ([C.v (.string s2)]), ()), ()))
                        else
                          need (((Nat.beq ((y1.2.2.1.2.1.length / 1) * 1) y1.2.2.1.2.1.length) && true) && true) <|
                          some (0, (IntKind.i64.wrap (y1.1 + 1), (y1.2.1.1, y1.2.1.2.1, ()), (y1.2.2.1.1, y1.2.2.1.2.1, ()), ()))
                    else
                      bif decide (i10 ≥ 5) then
                        unc (List.drop 39 a2) fun c28 _ =>
                        asI .i64 c28 fun i13 =>
                        bif decide (IntKind.i64.wrap (100 * i11) ≥ IntKind.i64.wrap (i13 * i10)) then
                          need ((((Nat.beq ((y1.2.2.1.2.1.length / 1) * 1) y1.2.2.1.2.1.length) && true) && (Nat.ble (((y1.2.2.1.2.1.length / 1) + 1) * 16) 140737488355328)) && (Nat.ble ((y1.2.2.1.2.1.length / 1) + 1) 140737488355328)) <|
                          need (((Nat.beq (((y1.2.2.1.2.1.length / 1) + 1) * 1) ((y1.2.2.1.2.1 ++ ([C.v (.string s2)])).length)) && true) && true) <|
                          some (0, (IntKind.i64.wrap (y1.1 + 1), (y1.2.1.1, y1.2.1.2.1, ()), (y1.2.2.1.1, y1.2.2.1.2.1 ++ ([C.v (.string s2)]), ()), ()))
                        else
                          need (((Nat.beq ((y1.2.2.1.2.1.length / 1) * 1) y1.2.2.1.2.1.length) && true) && true) <|
                          some (0, (IntKind.i64.wrap (y1.1 + 1), (y1.2.1.1, y1.2.1.2.1, ()), (y1.2.2.1.1, y1.2.2.1.2.1, ()), ()))
                      else
                        need (((Nat.beq ((y1.2.2.1.2.1.length / 1) * 1) y1.2.2.1.2.1.length) && true) && true) <|
                        some (0, (IntKind.i64.wrap (y1.1 + 1), (y1.2.1.1, y1.2.1.2.1, ()), (y1.2.2.1.1, y1.2.2.1.2.1, ()), ()))
                  else
                    need (((Nat.beq ((y1.2.2.1.2.1.length / 1) * 1) y1.2.2.1.2.1.length) && true) && true) <|
                    some (1, (y1.1, (y1.2.1.1, y1.2.1.2.1, ()), (y1.2.2.1.1, y1.2.2.1.2.1, ()), ()))) fu (0, (C.nl, C.nl, ()), (C.sl (n + 1) (List.take ((n + 1) * 1) (cs ++ ([c8]))), [], ()), ())).bind fun p1 =>
                bif decide (((p1.2.2.2.1.2.1.length / 1 : Nat) : Int) > 150) then
                  some ⟨V.tup [V.agg ([C.nl, C.nl]), I 2], [], none⟩
                else
                  need (Nat.ble (0 + ((p1.2.2.2.1.2.1.length / 1) * 1)) p1.2.2.2.1.2.1.length) <|
                  some ⟨V.tup [V.agg ([p1.2.2.2.1.1, C.sl (p1.2.2.2.1.2.1.length / 1) (List.take ((p1.2.2.2.1.2.1.length / 1) * 1) p1.2.2.2.1.2.1)]), I 0], [], none⟩) := by kernel_rfl
/- synoptic/synopticref19.Validate -/
theorem eq_synopticref19_Validate (fu d : Nat) (a0_0 : C) (a0_1 : C) :
    cl fu (d + 1) fn_synopticref19_Validate [V.agg ([a0_0, a0_1])] [] = (
    asSl a0_0 fun n cs =>
    bif decide (((n : Nat) : Int) > 12) then
      asSl a0_0 fun n1 cs1 =>
      (iter (fun (y : Bool × Int × Unit) =>
        bif decide (y.2.1 < ((n1 : Nat) : Int)) then
          asSl a0_0 fun n2 cs2 =>
          need (inR y.2.1 n2) <|
          unc (List.drop (y.2.1.toNat * 1) cs2) fun c _ =>
          bif y.1 then
            some (0, (true, IntKind.i64.wrap (y.2.1 + 1), ()))
          else
            asSl c fun n3 cs3 =>
            some (0, (decide (((n3 : Nat) : Int) > 150), IntKind.i64.wrap (y.2.1 + 1), ()))
        else
          some (1, (y.1, y.2.1, ()))) fu (true, 0, ())).bind fun p =>
      bif p.2.1 then
        some ⟨I 2, [], none⟩
      else
        asSl a0_0 fun n4 cs4 =>
        (iter (fun (y1 : Bool × Bool × Bool × Int × Unit) =>
          bif decide (y1.2.2.2.1 < ((n4 : Nat) : Int)) then
            asSl a0_0 fun n5 cs5 =>
            need (inR y1.2.2.2.1 n5) <|
            unc (List.drop (y1.2.2.2.1.toNat * 1) cs5) fun c1 _ =>
            asSl c1 fun n6 cs6 =>
            (iter (fun (y2 : Bool × Bool × Bool × Int × Unit) =>
              bif decide (y2.2.2.2.1 < ((n6 : Nat) : Int)) then
                asSl c1 fun n7 cs7 =>
                need (inR y2.2.2.2.1 n7) <|
                unc (List.drop (y2.2.2.2.1.toNat * 3) cs7) fun c2 r2 =>
                asS c2 fun s =>
                unc r2 fun c3 r3 =>
                asI .i64 c3 fun i =>
                unc r3 fun c4 _ =>
                asI .i64 c4 fun i1 =>
                bif y2.1 then
                  (cl fu d fn_synopticref05_Name [V.c (C.v (.string s))] []).bind fun out =>
                  rC out.r fun c5 =>
                  asB c5 fun b =>
                  bif y2.2.1 then
                    bif decide (i ≥ 0) then
                      bif decide (i ≤ 100000) then
                        bif decide (i1 ≥ 0) then
                          bif y2.2.2.1 then
                            bif y2.2.2.2.1 == 0 then
                              some (0, (b, decide (i1 ≤ i), true, IntKind.i64.wrap (y2.2.2.2.1 + 1), ()))
                            else
                              asSl c1 fun n8 cs8 =>
                              need (inR (IntKind.i64.wrap (y2.2.2.2.1 - 1)) n8) <|
                              unc (List.drop (((IntKind.i64.wrap (y2.2.2.2.1 - 1)).toNat) * 3) cs8) fun c6 _ =>
                              asS c6 fun s1 =>
                              some (0, (b, decide (i1 ≤ i), Op.bytesLess s1.toList s.toList, IntKind.i64.wrap (y2.2.2.2.1 + 1), ()))
                          else
                            some (0, (b, decide (i1 ≤ i), false, IntKind.i64.wrap (y2.2.2.2.1 + 1), ()))
                        else
                          bif y2.2.2.1 then
                            bif y2.2.2.2.1 == 0 then
                              some (0, (b, false, true, IntKind.i64.wrap (y2.2.2.2.1 + 1), ()))
                            else
                              asSl c1 fun n9 cs9 =>
                              need (inR (IntKind.i64.wrap (y2.2.2.2.1 - 1)) n9) <|
                              unc (List.drop (((IntKind.i64.wrap (y2.2.2.2.1 - 1)).toNat) * 3) cs9) fun c7 _ =>
                              asS c7 fun s2 =>
                              some (0, (b, false, Op.bytesLess s2.toList s.toList, IntKind.i64.wrap (y2.2.2.2.1 + 1), ()))
                          else
                            some (0, (b, false, false, IntKind.i64.wrap (y2.2.2.2.1 + 1), ()))
                      else
                        bif y2.2.2.1 then
                          bif y2.2.2.2.1 == 0 then
                            some (0, (b, false, true, IntKind.i64.wrap (y2.2.2.2.1 + 1), ()))
                          else
                            asSl c1 fun n10 cs10 =>
                            need (inR (IntKind.i64.wrap (y2.2.2.2.1 - 1)) n10) <|
                            unc (List.drop (((IntKind.i64.wrap (y2.2.2.2.1 - 1)).toNat) * 3) cs10) fun c8 _ =>
                            asS c8 fun s3 =>
                            some (0, (b, false, Op.bytesLess s3.toList s.toList, IntKind.i64.wrap (y2.2.2.2.1 + 1), ()))
                        else
                          some (0, (b, false, false, IntKind.i64.wrap (y2.2.2.2.1 + 1), ()))
                    else
                      bif y2.2.2.1 then
                        bif y2.2.2.2.1 == 0 then
                          some (0, (b, false, true, IntKind.i64.wrap (y2.2.2.2.1 + 1), ()))
                        else
                          asSl c1 fun n11 cs11 =>
                          need (inR (IntKind.i64.wrap (y2.2.2.2.1 - 1)) n11) <|
                          unc (List.drop (((IntKind.i64.wrap (y2.2.2.2.1 - 1)).toNat) * 3) cs11) fun c9 _ =>
                          asS c9 fun s4 =>
                          some (0, (b, false, Op.bytesLess s4.toList s.toList, IntKind.i64.wrap (y2.2.2.2.1 + 1), ()))
                      else
                        some (0, (b, false, false, IntKind.i64.wrap (y2.2.2.2.1 + 1), ()))
                  else
                    bif y2.2.2.1 then
                      bif y2.2.2.2.1 == 0 then
                        some (0, (b, false, true, IntKind.i64.wrap (y2.2.2.2.1 + 1), ()))
                      else
                        asSl c1 fun n12 cs12 =>
                        need (inR (IntKind.i64.wrap (y2.2.2.2.1 - 1)) n12) <|
                        unc (List.drop (((IntKind.i64.wrap (y2.2.2.2.1 - 1)).toNat) * 3) cs12) fun c10 _ =>
                        asS c10 fun s5 =>
                        some (0, (b, false, Op.bytesLess s5.toList s.toList, IntKind.i64.wrap (y2.2.2.2.1 + 1), ()))
                    else
                      some (0, (b, false, false, IntKind.i64.wrap (y2.2.2.2.1 + 1), ()))
                else
                  bif y2.2.1 then
                    bif decide (i ≥ 0) then
                      bif decide (i ≤ 100000) then
                        bif decide (i1 ≥ 0) then
                          bif y2.2.2.1 then
                            bif y2.2.2.2.1 == 0 then
                              some (0, (false, decide (i1 ≤ i), true, IntKind.i64.wrap (y2.2.2.2.1 + 1), ()))
                            else
                              asSl c1 fun n13 cs13 =>
                              need (inR (IntKind.i64.wrap (y2.2.2.2.1 - 1)) n13) <|
                              unc (List.drop (((IntKind.i64.wrap (y2.2.2.2.1 - 1)).toNat) * 3) cs13) fun c11 _ =>
                              asS c11 fun s6 =>
                              some (0, (false, decide (i1 ≤ i), Op.bytesLess s6.toList s.toList, IntKind.i64.wrap (y2.2.2.2.1 + 1), ()))
                          else
                            some (0, (false, decide (i1 ≤ i), false, IntKind.i64.wrap (y2.2.2.2.1 + 1), ()))
                        else
                          bif y2.2.2.1 then
                            bif y2.2.2.2.1 == 0 then
                              some (0, (false, false, true, IntKind.i64.wrap (y2.2.2.2.1 + 1), ()))
                            else
                              asSl c1 fun n14 cs14 =>
                              need (inR (IntKind.i64.wrap (y2.2.2.2.1 - 1)) n14) <|
                              unc (List.drop (((IntKind.i64.wrap (y2.2.2.2.1 - 1)).toNat) * 3) cs14) fun c12 _ =>
                              asS c12 fun s7 =>
                              some (0, (false, false, Op.bytesLess s7.toList s.toList, IntKind.i64.wrap (y2.2.2.2.1 + 1), ()))
                          else
                            some (0, (false, false, false, IntKind.i64.wrap (y2.2.2.2.1 + 1), ()))
                      else
                        bif y2.2.2.1 then
                          bif y2.2.2.2.1 == 0 then
                            some (0, (false, false, true, IntKind.i64.wrap (y2.2.2.2.1 + 1), ()))
                          else
                            asSl c1 fun n15 cs15 =>
                            need (inR (IntKind.i64.wrap (y2.2.2.2.1 - 1)) n15) <|
                            unc (List.drop (((IntKind.i64.wrap (y2.2.2.2.1 - 1)).toNat) * 3) cs15) fun c13 _ =>
                            asS c13 fun s8 =>
                            some (0, (false, false, Op.bytesLess s8.toList s.toList, IntKind.i64.wrap (y2.2.2.2.1 + 1), ()))
                        else
                          some (0, (false, false, false, IntKind.i64.wrap (y2.2.2.2.1 + 1), ()))
                    else
                      bif y2.2.2.1 then
                        bif y2.2.2.2.1 == 0 then
                          some (0, (false, false, true, IntKind.i64.wrap (y2.2.2.2.1 + 1), ()))
                        else
                          asSl c1 fun n16 cs16 =>
                          need (inR (IntKind.i64.wrap (y2.2.2.2.1 - 1)) n16) <|
                          unc (List.drop (((IntKind.i64.wrap (y2.2.2.2.1 - 1)).toNat) * 3) cs16) fun c14 _ =>
                          asS c14 fun s9 =>
                          some (0, (false, false, Op.bytesLess s9.toList s.toList, IntKind.i64.wrap (y2.2.2.2.1 + 1), ()))
                      else
                        some (0, (false, false, false, IntKind.i64.wrap (y2.2.2.2.1 + 1), ()))
                  else
                    bif y2.2.2.1 then
                      bif y2.2.2.2.1 == 0 then
                        some (0, (false, false, true, IntKind.i64.wrap (y2.2.2.2.1 + 1), ()))
                      else
                        asSl c1 fun n17 cs17 =>
                        need (inR (IntKind.i64.wrap (y2.2.2.2.1 - 1)) n17) <|
                        unc (List.drop (((IntKind.i64.wrap (y2.2.2.2.1 - 1)).toNat) * 3) cs17) fun c15 _ =>
                        asS c15 fun s10 =>
                        some (0, (false, false, Op.bytesLess s10.toList s.toList, IntKind.i64.wrap (y2.2.2.2.1 + 1), ()))
                    else
                      some (0, (false, false, false, IntKind.i64.wrap (y2.2.2.2.1 + 1), ()))
              else
                some (1, (y2.1, y2.2.1, y2.2.2.1, y2.2.2.2.1, ()))) fu (y1.1, y1.2.1, y1.2.2.1, 0, ())).bind fun p1 =>
            some (0, (p1.2.1, p1.2.2.1, p1.2.2.2.1, IntKind.i64.wrap (y1.2.2.2.1 + 1), ()))
          else
            some (1, (y1.1, y1.2.1, y1.2.2.1, y1.2.2.2.1, ()))) fu (true, true, true, 0, ())).bind fun p2 =>
        asSl a0_1 fun n18 cs18 =>
        (iter (fun (y3 : Bool × Bool × Int × Unit) =>
          bif decide (y3.2.2.1 < ((n18 : Nat) : Int)) then
            asSl a0_1 fun n19 cs19 =>
            need (inR y3.2.2.1 n19) <|
            unc (List.drop (y3.2.2.1.toNat * 1) cs19) fun c16 _ =>
            asS c16 fun s11 =>
            bif y3.1 then
              (cl fu d fn_synopticref05_Name [V.c (C.v (.string s11))] []).bind fun out1 =>
              rC out1.r fun c17 =>
              asB c17 fun b1 =>
              bif y3.2.1 then
                bif y3.2.2.1 == 0 then
                  some (0, (b1, true, IntKind.i64.wrap (y3.2.2.1 + 1), ()))
                else
                  asSl a0_1 fun n20 cs20 =>
                  need (inR (IntKind.i64.wrap (y3.2.2.1 - 1)) n20) <|
                  unc (List.drop (((IntKind.i64.wrap (y3.2.2.1 - 1)).toNat) * 1) cs20) fun c18 _ =>
                  asS c18 fun s12 =>
                  some (0, (b1, Op.bytesLess s12.toList s11.toList, IntKind.i64.wrap (y3.2.2.1 + 1), ()))
              else
                some (0, (b1, false, IntKind.i64.wrap (y3.2.2.1 + 1), ()))
            else
              bif y3.2.1 then
                bif y3.2.2.1 == 0 then
                  some (0, (false, true, IntKind.i64.wrap (y3.2.2.1 + 1), ()))
                else
                  asSl a0_1 fun n21 cs21 =>
                  need (inR (IntKind.i64.wrap (y3.2.2.1 - 1)) n21) <|
                  unc (List.drop (((IntKind.i64.wrap (y3.2.2.1 - 1)).toNat) * 1) cs21) fun c19 _ =>
                  asS c19 fun s13 =>
                  some (0, (false, Op.bytesLess s13.toList s11.toList, IntKind.i64.wrap (y3.2.2.1 + 1), ()))
              else
                some (0, (false, false, IntKind.i64.wrap (y3.2.2.1 + 1), ()))
          else
            some (1, (y3.1, y3.2.1, y3.2.2.1, ()))) fu (p2.2.1, p2.2.2.2.1, 0, ())).bind fun p3 =>
        bif !p3.2.1 then
          some ⟨I 3, [], none⟩
        else
          bif !p2.2.2.1 then
            some ⟨I 1, [], none⟩
          else
            bif !p3.2.2.1 then
              some ⟨I 8, [], none⟩
            else
              some ⟨I 0, [], none⟩
    else
      asSl a0_1 fun n22 cs22 =>
      asSl a0_0 fun n23 cs23 =>
      (iter (fun (y4 : Bool × Int × Unit) =>
        bif decide (y4.2.1 < ((n23 : Nat) : Int)) then
          asSl a0_0 fun n24 cs24 =>
          need (inR y4.2.1 n24) <|
          unc (List.drop (y4.2.1.toNat * 1) cs24) fun c20 _ =>
          bif y4.1 then
            some (0, (true, IntKind.i64.wrap (y4.2.1 + 1), ()))
          else
            asSl c20 fun n25 cs25 =>
            some (0, (decide (((n25 : Nat) : Int) > 150), IntKind.i64.wrap (y4.2.1 + 1), ()))
        else
          some (1, (y4.1, y4.2.1, ()))) fu (decide (((n22 : Nat) : Int) > 150), 0, ())).bind fun p4 =>
      bif p4.2.1 then
        some ⟨I 2, [], none⟩
      else
        asSl a0_0 fun n26 cs26 =>
        (iter (fun (y5 : Bool × Bool × Bool × Int × Unit) =>
          bif decide (y5.2.2.2.1 < ((n26 : Nat) : Int)) then
            asSl a0_0 fun n27 cs27 =>
            need (inR y5.2.2.2.1 n27) <|
            unc (List.drop (y5.2.2.2.1.toNat * 1) cs27) fun c21 _ =>
            asSl c21 fun n28 cs28 =>
            (iter (fun (y6 : Bool × Bool × Bool × Int × Unit) =>
              bif decide (y6.2.2.2.1 < ((n28 : Nat) : Int)) then
                asSl c21 fun n29 cs29 =>
                need (inR y6.2.2.2.1 n29) <|
                unc (List.drop (y6.2.2.2.1.toNat * 3) cs29) fun c22 r20 =>
                asS c22 fun s14 =>
                unc r20 fun c23 r21 =>
                asI .i64 c23 fun i2 =>
                unc r21 fun c24 _ =>
                asI .i64 c24 fun i3 =>
                bif y6.1 then
                  (cl fu d fn_synopticref05_Name [V.c (C.v (.string s14))] []).bind fun out2 =>
                  rC out2.r fun c25 =>
                  asB c25 fun b2 =>
                  bif y6.2.1 then
                    bif decide (i2 ≥ 0) then
                      bif decide (i2 ≤ 100000) then
                        bif decide (i3 ≥ 0) then
                          bif y6.2.2.1 then
                            bif y6.2.2.2.1 == 0 then
                              some (0, (b2, decide (i3 ≤ i2), true, IntKind.i64.wrap (y6.2.2.2.1 + 1), ()))
                            else
                              asSl c21 fun n30 cs30 =>
                              need (inR (IntKind.i64.wrap (y6.2.2.2.1 - 1)) n30) <|
                              unc (List.drop (((IntKind.i64.wrap (y6.2.2.2.1 - 1)).toNat) * 3) cs30) fun c26 _ =>
                              asS c26 fun s15 =>
                              some (0, (b2, decide (i3 ≤ i2), Op.bytesLess s15.toList s14.toList, IntKind.i64.wrap (y6.2.2.2.1 + 1), ()))
                          else
                            some (0, (b2, decide (i3 ≤ i2), false, IntKind.i64.wrap (y6.2.2.2.1 + 1), ()))
                        else
                          bif y6.2.2.1 then
                            bif y6.2.2.2.1 == 0 then
                              some (0, (b2, false, true, IntKind.i64.wrap (y6.2.2.2.1 + 1), ()))
                            else
                              asSl c21 fun n31 cs31 =>
                              need (inR (IntKind.i64.wrap (y6.2.2.2.1 - 1)) n31) <|
                              unc (List.drop (((IntKind.i64.wrap (y6.2.2.2.1 - 1)).toNat) * 3) cs31) fun c27 _ =>
                              asS c27 fun s16 =>
                              some (0, (b2, false, Op.bytesLess s16.toList s14.toList, IntKind.i64.wrap (y6.2.2.2.1 + 1), ()))
                          else
                            some (0, (b2, false, false, IntKind.i64.wrap (y6.2.2.2.1 + 1), ()))
                      else
                        bif y6.2.2.1 then
                          bif y6.2.2.2.1 == 0 then
                            some (0, (b2, false, true, IntKind.i64.wrap (y6.2.2.2.1 + 1), ()))
                          else
                            asSl c21 fun n32 cs32 =>
                            need (inR (IntKind.i64.wrap (y6.2.2.2.1 - 1)) n32) <|
                            unc (List.drop (((IntKind.i64.wrap (y6.2.2.2.1 - 1)).toNat) * 3) cs32) fun c28 _ =>
                            asS c28 fun s17 =>
                            some (0, (b2, false, Op.bytesLess s17.toList s14.toList, IntKind.i64.wrap (y6.2.2.2.1 + 1), ()))
                        else
                          some (0, (b2, false, false, IntKind.i64.wrap (y6.2.2.2.1 + 1), ()))
                    else
                      bif y6.2.2.1 then
                        bif y6.2.2.2.1 == 0 then
                          some (0, (b2, false, true, IntKind.i64.wrap (y6.2.2.2.1 + 1), ()))
                        else
                          asSl c21 fun n33 cs33 =>
                          need (inR (IntKind.i64.wrap (y6.2.2.2.1 - 1)) n33) <|
                          unc (List.drop (((IntKind.i64.wrap (y6.2.2.2.1 - 1)).toNat) * 3) cs33) fun c29 _ =>
                          asS c29 fun s18 =>
                          some (0, (b2, false, Op.bytesLess s18.toList s14.toList, IntKind.i64.wrap (y6.2.2.2.1 + 1), ()))
                      else
                        some (0, (b2, false, false, IntKind.i64.wrap (y6.2.2.2.1 + 1), ()))
                  else
                    bif y6.2.2.1 then
                      bif y6.2.2.2.1 == 0 then
                        some (0, (b2, false, true, IntKind.i64.wrap (y6.2.2.2.1 + 1), ()))
                      else
                        asSl c21 fun n34 cs34 =>
                        need (inR (IntKind.i64.wrap (y6.2.2.2.1 - 1)) n34) <|
                        unc (List.drop (((IntKind.i64.wrap (y6.2.2.2.1 - 1)).toNat) * 3) cs34) fun c30 _ =>
                        asS c30 fun s19 =>
                        some (0, (b2, false, Op.bytesLess s19.toList s14.toList, IntKind.i64.wrap (y6.2.2.2.1 + 1), ()))
                    else
                      some (0, (b2, false, false, IntKind.i64.wrap (y6.2.2.2.1 + 1), ()))
                else
                  bif y6.2.1 then
                    bif decide (i2 ≥ 0) then
                      bif decide (i2 ≤ 100000) then
                        bif decide (i3 ≥ 0) then
                          bif y6.2.2.1 then
                            bif y6.2.2.2.1 == 0 then
                              some (0, (false, decide (i3 ≤ i2), true, IntKind.i64.wrap (y6.2.2.2.1 + 1), ()))
                            else
                              asSl c21 fun n35 cs35 =>
                              need (inR (IntKind.i64.wrap (y6.2.2.2.1 - 1)) n35) <|
                              unc (List.drop (((IntKind.i64.wrap (y6.2.2.2.1 - 1)).toNat) * 3) cs35) fun c31 _ =>
                              asS c31 fun s20 =>
                              some (0, (false, decide (i3 ≤ i2), Op.bytesLess s20.toList s14.toList, IntKind.i64.wrap (y6.2.2.2.1 + 1), ()))
                          else
                            some (0, (false, decide (i3 ≤ i2), false, IntKind.i64.wrap (y6.2.2.2.1 + 1), ()))
                        else
                          bif y6.2.2.1 then
                            bif y6.2.2.2.1 == 0 then
                              some (0, (false, false, true, IntKind.i64.wrap (y6.2.2.2.1 + 1), ()))
                            else
                              asSl c21 fun n36 cs36 =>
                              need (inR (IntKind.i64.wrap (y6.2.2.2.1 - 1)) n36) <|
                              unc (List.drop (((IntKind.i64.wrap (y6.2.2.2.1 - 1)).toNat) * 3) cs36) fun c32 _ =>
                              asS c32 fun s21 =>
                              some (0, (false, false, Op.bytesLess s21.toList s14.toList, IntKind.i64.wrap (y6.2.2.2.1 + 1), ()))
                          else
                            some (0, (false, false, false, IntKind.i64.wrap (y6.2.2.2.1 + 1), ()))
                      else
                        bif y6.2.2.1 then
                          bif y6.2.2.2.1 == 0 then
                            some (0, (false, false, true, IntKind.i64.wrap (y6.2.2.2.1 + 1), ()))
                          else
                            asSl c21 fun n37 cs37 =>
                            need (inR (IntKind.i64.wrap (y6.2.2.2.1 - 1)) n37) <|
                            unc (List.drop (((IntKind.i64.wrap (y6.2.2.2.1 - 1)).toNat) * 3) cs37) fun c33 _ =>
                            asS c33 fun s22 =>
                            some (0, (false, false, Op.bytesLess s22.toList s14.toList, IntKind.i64.wrap (y6.2.2.2.1 + 1), ()))
                        else
                          some (0, (false, false, false, IntKind.i64.wrap (y6.2.2.2.1 + 1), ()))
                    else
                      bif y6.2.2.1 then
                        bif y6.2.2.2.1 == 0 then
                          some (0, (false, false, true, IntKind.i64.wrap (y6.2.2.2.1 + 1), ()))
                        else
                          asSl c21 fun n38 cs38 =>
                          need (inR (IntKind.i64.wrap (y6.2.2.2.1 - 1)) n38) <|
                          unc (List.drop (((IntKind.i64.wrap (y6.2.2.2.1 - 1)).toNat) * 3) cs38) fun c34 _ =>
                          asS c34 fun s23 =>
                          some (0, (false, false, Op.bytesLess s23.toList s14.toList, IntKind.i64.wrap (y6.2.2.2.1 + 1), ()))
                      else
                        some (0, (false, false, false, IntKind.i64.wrap (y6.2.2.2.1 + 1), ()))
                  else
                    bif y6.2.2.1 then
                      bif y6.2.2.2.1 == 0 then
                        some (0, (false, false, true, IntKind.i64.wrap (y6.2.2.2.1 + 1), ()))
                      else
                        asSl c21 fun n39 cs39 =>
                        need (inR (IntKind.i64.wrap (y6.2.2.2.1 - 1)) n39) <|
                        unc (List.drop (((IntKind.i64.wrap (y6.2.2.2.1 - 1)).toNat) * 3) cs39) fun c35 _ =>
                        asS c35 fun s24 =>
                        some (0, (false, false, Op.bytesLess s24.toList s14.toList, IntKind.i64.wrap (y6.2.2.2.1 + 1), ()))
                    else
                      some (0, (false, false, false, IntKind.i64.wrap (y6.2.2.2.1 + 1), ()))
              else
                some (1, (y6.1, y6.2.1, y6.2.2.1, y6.2.2.2.1, ()))) fu (y5.1, y5.2.1, y5.2.2.1, 0, ())).bind fun p5 =>
            some (0, (p5.2.1, p5.2.2.1, p5.2.2.2.1, IntKind.i64.wrap (y5.2.2.2.1 + 1), ()))
          else
            some (1, (y5.1, y5.2.1, y5.2.2.1, y5.2.2.2.1, ()))) fu (true, true, true, 0, ())).bind fun p6 =>
        asSl a0_1 fun n40 cs40 =>
        (iter (fun (y7 : Bool × Bool × Int × Unit) =>
          bif decide (y7.2.2.1 < ((n40 : Nat) : Int)) then
            asSl a0_1 fun n41 cs41 =>
            need (inR y7.2.2.1 n41) <|
            unc (List.drop (y7.2.2.1.toNat * 1) cs41) fun c36 _ =>
            asS c36 fun s25 =>
            bif y7.1 then
              (cl fu d fn_synopticref05_Name [V.c (C.v (.string s25))] []).bind fun out3 =>
              rC out3.r fun c37 =>
              asB c37 fun b3 =>
              bif y7.2.1 then
                bif y7.2.2.1 == 0 then
                  some (0, (b3, true, IntKind.i64.wrap (y7.2.2.1 + 1), ()))
                else
                  asSl a0_1 fun n42 cs42 =>
                  need (inR (IntKind.i64.wrap (y7.2.2.1 - 1)) n42) <|
                  unc (List.drop (((IntKind.i64.wrap (y7.2.2.1 - 1)).toNat) * 1) cs42) fun c38 _ =>
                  asS c38 fun s26 =>
                  some (0, (b3, Op.bytesLess s26.toList s25.toList, IntKind.i64.wrap (y7.2.2.1 + 1), ()))
              else
                some (0, (b3, false, IntKind.i64.wrap (y7.2.2.1 + 1), ()))
            else
              bif y7.2.1 then
                bif y7.2.2.1 == 0 then
                  some (0, (false, true, IntKind.i64.wrap (y7.2.2.1 + 1), ()))
                else
                  asSl a0_1 fun n43 cs43 =>
                  need (inR (IntKind.i64.wrap (y7.2.2.1 - 1)) n43) <|
                  unc (List.drop (((IntKind.i64.wrap (y7.2.2.1 - 1)).toNat) * 1) cs43) fun c39 _ =>
                  asS c39 fun s27 =>
                  some (0, (false, Op.bytesLess s27.toList s25.toList, IntKind.i64.wrap (y7.2.2.1 + 1), ()))
              else
                some (0, (false, false, IntKind.i64.wrap (y7.2.2.1 + 1), ()))
          else
            some (1, (y7.1, y7.2.1, y7.2.2.1, ()))) fu (p6.2.1, p6.2.2.2.1, 0, ())).bind fun p7 =>
        bif !p7.2.1 then
          some ⟨I 3, [], none⟩
        else
          bif !p6.2.2.1 then
            some ⟨I 1, [], none⟩
          else
            bif !p7.2.2.1 then
              some ⟨I 8, [], none⟩
            else
              some ⟨I 0, [], none⟩) := by kernel_rfl
/- synoptic/synopticref19.Same -/
theorem eq_synopticref19_Same (fu d : Nat) (a0_0 : C) (a0_1 : C) (a1_0 : C) (a1_1 : C) :
    cl fu (d + 1) fn_synopticref19_Same [V.agg ([a0_0, a0_1]), V.agg ([a1_0, a1_1])] [] = (
    asSl a0_0 fun n cs =>
    asSl a1_0 fun n2 cs1 =>
    bif ((n : Nat) : Int) != ((n2 : Nat) : Int) then
      some ⟨B false, [], none⟩
    else
      asSl a0_1 fun n3 cs2 =>
      asSl a1_1 fun n4 cs3 =>
      bif ((n3 : Nat) : Int) != ((n4 : Nat) : Int) then
        some ⟨B false, [], none⟩
      else
        (iter (fun (y : Bool × Int × Unit) =>
          asSl a0_0 fun n5 cs4 =>
          bif decide (y.2.1 < ((n5 : Nat) : Int)) then
            asSl a0_0 fun n6 cs5 =>
            need (inR y.2.1 n6) <|
            unc (List.drop (y.2.1.toNat * 1) cs5) fun c r =>
            asSl a1_0 fun n7 cs6 =>
            need (inR y.2.1 n7) <|
            unc (List.drop (y.2.1.toNat * 1) cs6) fun c1 _ =>
            need (noYl [V.c (nrm c)]) <|
            (cl fu d fn_synopticref19_sameCounts [V.c (nrm c), V.c (nrm c1)] []).bind fun out =>
            rC out.r fun c2 =>
            asB c2 fun b =>
            bif !b then
              some (2, (false, y.2.1, ()))
            else
              some (0, (y.1, IntKind.i64.wrap (y.2.1 + 1), ()))
          else
            some (1, (y.1, y.2.1, ()))) fu (false, 0, ())).bind fun p =>
        natD p.1 (
          (iter (fun (y1 : Bool × Int × Unit) =>
            asSl a0_1 fun n8 cs7 =>
            bif decide (y1.2.1 < ((n8 : Nat) : Int)) then
              asSl a0_1 fun n9 cs8 =>
              need (inR y1.2.1 n9) <|
              unc (List.drop (y1.2.1.toNat * 1) cs8) fun c3 _ =>
              asS c3 fun s =>
              asSl a1_1 fun n10 cs9 =>
              need (inR y1.2.1 n10) <|
              unc (List.drop (y1.2.1.toNat * 1) cs9) fun c4 _ =>
              asS c4 fun s1 =>
              bif !(s.toList == s1.toList) then
                some (2, (false, y1.2.1, ()))
              else
                some (0, (y1.1, IntKind.i64.wrap (y1.2.1 + 1), ()))
            else
              some (1, (y1.1, y1.2.1, ()))) fu (p.2.1, 0, ())).bind fun p1 =>
          natD p1.1 (
            some ⟨B true, [], none⟩) fun m1 =>
          some ⟨B p1.2.1, [], none⟩) fun m =>
        some ⟨B p.2.1, [], none⟩) := by kernel_rfl
/- synoptic/synopticref19.Listed -/
theorem eq_synopticref19_Listed (fu d : Nat) (a0_0 : C) (a0_1 : C) (a1 : ByteArray) :
    cl fu (d + 1) fn_synopticref19_Listed [V.agg ([a0_0, a0_1]), V.c (C.v (.string a1))] [] = (
    (cl fu d fn_synopticref19_Validate [V.agg ([a0_0, a0_1])] []).bind fun out =>
    rC out.r fun c =>
    asI .i64 c fun i =>
    bif i == 0 then
      need (noYl [V.c (nrm a0_1)]) <|
      (cl fu d fn_synopticref19_in [V.c (nrm a0_1), V.c (C.v (.string a1))] []).bind fun out1 =>
      rC out1.r fun c1 =>
      asB c1 fun b =>
      some ⟨B b, [], none⟩
    else
      some ⟨B false, [], none⟩) := by kernel_rfl
/- synoptic/synopticlaw19.awake -/
theorem eq_synopticlaw19_awake (fu d : Nat)  :
    cl fu (d + 1) fn_synopticlaw19_awake [] [] = (
    (cl fu d fn_blacklist_Push [V.agg ([C.nl, C.nl]), V.c (C.sl 1 ([C.v (.string (⟨#[65, 76, 80, 72, 65]⟩)), C.v (.int .i64 5), C.v (.int .i64 3)])), V.agg ([C.v (.int .i64 0), C.v (.int .i64 0), C.v (.int .i64 0), C.v (.int .i64 0), C.v (.int .i64 0), C.v (.int .i64 0), C.v (.int .i64 0), C.v (.int .i64 0), C.v (.int .i64 0), C.v (.int .i64 0), C.v (.int .i64 0), C.v (.int .i64 0), C.v (.int .i64 0), C.v (.int .i64 0), C.v (.int .i64 0), C.v (.int .i64 0), C.v (.int .i64 0), C.v (.int .i64 0), C.v (.int .i64 0), C.v (.int .i64 0), C.v (.int .i64 0), C.v (.int .i64 0), C.v (.int .i64 0), C.v (.int .i64 0), C.v (.int .i64 0), C.v (.int .i64 0), C.v (.int .i64 0), C.v (.int .i64 0), C.v (.int .i64 0), C.v (.int .i64 0), C.v (.int .i64 0), C.v (.int .i64 0), C.v (.int .i64 0), C.v (.int .i64 0), C.v (.int .i64 0), C.v (.int .i64 0), C.v (.int .i64 0), C.v (.int .i64 0), C.v (.int .i64 0), C.v (.int .i64 50), C.v (.int .i64 20)])] []).bind fun out =>
    rT out.r fun xs =>
    uncV xs fun x ys =>
    rA x fun cs =>
    need (Nat.beq cs.length 2) <|
    unc cs fun c r =>
    unc r fun c1 _ =>
    uncV ys fun x1 ys1 =>
    rC x1 fun c2 =>
    asI .i64 c2 fun i =>
    nilV ys1 <|
    (cl fu d fn_blacklist_Listed [V.agg ([c, c1]), V.c (C.v (.string (⟨#[65, 76, 80, 72, 65]⟩)))] []).bind fun out1 =>
    rC out1.r fun c3 =>
    asB c3 fun b =>
    (iter (fun (y : Int × Int × (C × C × Unit) × Unit) =>
      bif decide (y.2.1 < 2) then
        bif y.1 == 0 then
          (cl fu d fn_blacklist_Push [V.agg ([y.2.2.1.1, y.2.2.1.2.1]), V.c (C.sl 1 ([C.v (.string (⟨#[65, 76, 80, 72, 65]⟩)), C.v (.int .i64 5), C.v (.int .i64 0)])), V.agg ([C.v (.int .i64 0), C.v (.int .i64 0), C.v (.int .i64 0), C.v (.int .i64 0), C.v (.int .i64 0), C.v (.int .i64 0), C.v (.int .i64 0), C.v (.int .i64 0), C.v (.int .i64 0), C.v (.int .i64 0), C.v (.int .i64 0), C.v (.int .i64 0), C.v (.int .i64 0), C.v (.int .i64 0), C.v (.int .i64 0), C.v (.int .i64 0), C.v (.int .i64 0), C.v (.int .i64 0), C.v (.int .i64 0), C.v (.int .i64 0), C.v (.int .i64 0), C.v (.int .i64 0), C.v (.int .i64 0), C.v (.int .i64 0), C.v (.int .i64 0), C.v (.int .i64 0), C.v (.int .i64 0), C.v (.int .i64 0), C.v (.int .i64 0), C.v (.int .i64 0), C.v (.int .i64 0), C.v (.int .i64 0), C.v (.int .i64 0), C.v (.int .i64 0), C.v (.int .i64 0), C.v (.int .i64 0), C.v (.int .i64 0), C.v (.int .i64 0), C.v (.int .i64 0), C.v (.int .i64 50), C.v (.int .i64 20)])] []).bind fun out2 =>
          rT out2.r fun xs1 =>
          uncV xs1 fun x2 ys2 =>
          rA x2 fun cs1 =>
          need (Nat.beq cs1.length 2) <|
          unc cs1 fun c4 r2 =>
          unc r2 fun c5 _ =>
          uncV ys2 fun x3 ys3 =>
          rC x3 fun c6 =>
          asI .i64 c6 fun i1 =>
          nilV ys3 <|
          some (0, (i1, IntKind.i64.wrap (y.2.1 + 1), (c4, c5, ()), ()))
        else
          some (1, (y.1, y.2.1, (y.2.2.1.1, y.2.2.1.2.1, ()), ()))
      else
        some (1, (y.1, y.2.1, (y.2.2.1.1, y.2.2.1.2.1, ()), ()))) fu (i, 0, (c, c1, ()), ())).bind fun p =>
    (cl fu d fn_blacklist_Listed [V.agg ([p.2.2.2.1.1, p.2.2.2.1.2.1]), V.c (C.v (.string (⟨#[65, 76, 80, 72, 65]⟩)))] []).bind fun out3 =>
    rC out3.r fun c7 =>
    asB c7 fun b1 =>
    (cl fu d fn_blacklist_Push [V.agg ([p.2.2.2.1.1, p.2.2.2.1.2.1]), V.c (C.sl 1 ([C.v (.string (⟨#[65, 76, 80, 72, 65]⟩)), C.v (.int .i64 5), C.v (.int .i64 0)])), V.agg ([C.v (.int .i64 0), C.v (.int .i64 0), C.v (.int .i64 0), C.v (.int .i64 0), C.v (.int .i64 0), C.v (.int .i64 0), C.v (.int .i64 0), C.v (.int .i64 0), C.v (.int .i64 0), C.v (.int .i64 0), C.v (.int .i64 0), C.v (.int .i64 0), C.v (.int .i64 0), C.v (.int .i64 0), C.v (.int .i64 0), C.v (.int .i64 0), C.v (.int .i64 0), C.v (.int .i64 0), C.v (.int .i64 0), C.v (.int .i64 0), C.v (.int .i64 0), C.v (.int .i64 0), C.v (.int .i64 0), C.v (.int .i64 0), C.v (.int .i64 0), C.v (.int .i64 0), C.v (.int .i64 0), C.v (.int .i64 0), C.v (.int .i64 0), C.v (.int .i64 0), C.v (.int .i64 0), C.v (.int .i64 0), C.v (.int .i64 0), C.v (.int .i64 0), C.v (.int .i64 0), C.v (.int .i64 0), C.v (.int .i64 0), C.v (.int .i64 0), C.v (.int .i64 0), C.v (.int .i64 50), C.v (.int .i64 20)])] []).bind fun out4 =>
    rT out4.r fun xs2 =>
    uncV xs2 fun x4 ys4 =>
    rA x4 fun cs2 =>
    need (Nat.beq cs2.length 2) <|
    unc cs2 fun c8 r4 =>
    unc r4 fun c9 _ =>
    uncV ys4 fun x5 ys5 =>
    rC x5 fun c10 =>
    asI .i64 c10 fun i2 =>
    nilV ys5 <|
    bif p.2.1 == 0 then
      bif i2 == 0 then
        bif b then
          bif b1 then
            (cl fu d fn_blacklist_Listed [V.agg ([c8, c9]), V.c (C.v (.string (⟨#[65, 76, 80, 72, 65]⟩)))] []).bind fun out5 =>
            rC out5.r fun c11 =>
            asB c11 fun b2 =>
            some ⟨B (!b2), [], none⟩
          else
            some ⟨B false, [], none⟩
        else
          some ⟨B false, [], none⟩
      else
        some ⟨B false, [], none⟩
    else
      some ⟨B false, [], none⟩) := by kernel_rfl
/- (*synoptic/synoptickeep.Src).Range -/
theorem eq_synoptickeep_Src_Range (fu d : Nat) (a0_0 : C) (a0_1 : Int) (a1 : Int) (a2 : Int) :
    cl fu (d + 1) fn_synoptickeep_Src_Range [V.ptr 1000000 0, I a1, I a2] [.ob ty_synoptickeep_Src 0 ([a0_0, C.v (.int .i64 a0_1)])] = (
    (cl fu d fn_synoptickeep_Src_N [V.ptr 1000000 0, I (IntKind.i64.wrap ((IntKind.i64.wrap (a2 - a1)) + 1))] [.ob ty_synoptickeep_Src 0 ([a0_0, C.v (.int .i64 a0_1)])]).bind fun out =>
    uncO out.objs fun o os =>
    rO o ty_synoptickeep_Src 0 fun cs =>
    need ((Nat.beq cs.length 2) && true) <|
    unc cs fun c r =>
    unc r fun c1 _ =>
    asI .i64 c1 fun i =>
    rC out.r fun c2 =>
    asI .i64 c2 fun i1 =>
    some ⟨I (IntKind.i64.wrap (a1 + i1)), [.ob ty_synoptickeep_Src 0 ([c, C.v (.int .i64 i)])], none⟩) := by kernel_rfl
/- synoptic/synoptickeep.Mod -/
theorem eq_synoptickeep_Mod (fu d : Nat) (a0 : Int) (a1 : Int) :
    cl fu (d + 1) fn_synoptickeep_Mod [I a0, I a1] [] = (
    bif decide (a1 < 1) then
      some ⟨I 0, [], none⟩
    else
      need (!(a1 == 0)) <|
      bif decide (Int.tmod a0 a1 < 0) then
        some ⟨I (IntKind.i64.wrap ((Int.tmod a0 a1) + a1)), [], none⟩
      else
        some ⟨I (Int.tmod a0 a1), [], none⟩) := by kernel_rfl
/- synoptic/blacklist.Listed -/
theorem eq_blacklist_Listed (fu d : Nat) (a0_0 : C) (a0_1 : C) (a1 : ByteArray) :
    cl fu (d + 1) fn_blacklist_Listed [V.agg ([a0_0, a0_1]), V.c (C.v (.string a1))] [] = (
    (cl fu d fn_blacklist_Validate [V.agg ([a0_0, a0_1])] []).bind fun out =>
    rC out.r fun c =>
    asI .i64 c fun i =>
    bif i == 0 then
      need (noYl [V.c (nrm a0_1)]) <|
      (cl fu d fn_slices_Contains_sstring_string [V.c (nrm a0_1), V.c (C.v (.string a1))] []).bind fun out1 =>
      rC out1.r fun c1 =>
      asB c1 fun b =>
      some ⟨B b, [], none⟩
    else
      some ⟨B false, [], none⟩) := by kernel_rfl
/- (*synoptic/synoptickeep.Src).N -/
theorem eq_synoptickeep_Src_N (fu d : Nat) (a0_0 : C) (a0_1 : Int) (a1 : Int) :
    cl fu (d + 1) fn_synoptickeep_Src_N [V.ptr 1000000 0, I a1] [.ob ty_synoptickeep_Src 0 ([a0_0, C.v (.int .i64 a0_1)])] = (
    (cl fu d fn_synoptickeep_Src_Raw [V.ptr 1000000 0] [.ob ty_synoptickeep_Src 0 ([a0_0, C.v (.int .i64 a0_1)])]).bind fun out =>
    uncO out.objs fun o os =>
    rO o ty_synoptickeep_Src 0 fun cs =>
    need ((Nat.beq cs.length 2) && true) <|
    unc cs fun c r =>
    unc r fun c1 _ =>
    asI .i64 c1 fun i =>
    rC out.r fun c2 =>
    asI .i64 c2 fun i1 =>
    (cl fu d fn_synoptickeep_Mod [I i1, I a1] []).bind fun out1 =>
    rC out1.r fun c3 =>
    asI .i64 c3 fun i2 =>
    some ⟨I i2, [.ob ty_synoptickeep_Src 0 ([c, C.v (.int .i64 i)])], none⟩) := by kernel_rfl
/- synoptic/synopticlaw19.only -/
theorem eq_synopticlaw19_only (fu d : Nat) (n0 : Nat) (a0 : List C) (a1 : ByteArray) :
    cl fu (d + 1) fn_synopticlaw19_only [V.c (C.sl n0 a0), V.c (C.v (.string a1))] [] = (
    (iter (fun (y : List C × Int × Unit) =>
      bif decide (y.2.1 < ((n0 : Nat) : Int)) then
        need (inR y.2.1 n0) <|
        unc (List.drop (y.2.1.toNat * 3) a0) fun c r =>
        asS c fun s =>
        unc r fun c1 r1 =>
        asI .i64 c1 fun i =>
        unc r1 fun c2 _ =>
        asI .i64 c2 fun i1 =>
        bif s.toList == a1.toList then
          need ((((Nat.beq ((y.1.length / 3) * 3) y.1.length) && true) && (Nat.ble (((y.1.length / 3) + 1) * 32) 140737488355328)) && (Nat.ble ((y.1.length / 3) + 1) 140737488355328)) <|
          need (((Nat.beq (((y.1.length / 3) + 1) * 3) ((y.1 ++ ([C.v (.string s), C.v (.int .i64 i), C.v (.int .i64 i1)])).length)) && true) && true) <|
          some (0, (y.1 ++ ([C.v (.string s), C.v (.int .i64 i), C.v (.int .i64 i1)]), IntKind.i64.wrap (y.2.1 + 1), ()))
        else
          need (((Nat.beq ((y.1.length / 3) * 3) y.1.length) && true) && true) <|
          some (0, (y.1, IntKind.i64.wrap (y.2.1 + 1), ()))
      else
        need (((Nat.beq ((y.1.length / 3) * 3) y.1.length) && true) && true) <|
        some (1, (y.1, y.2.1, ()))) fu ([], 0, ())).bind fun p =>
    need (Nat.ble (0 + ((p.2.1.length / 3) * 3)) p.2.1.length) <|
    some ⟨V.c (C.sl (p.2.1.length / 3) (List.take ((p.2.1.length / 3) * 3) p.2.1)), [], none⟩) := by kernel_rfl
/- synoptic/synopticref19.Push -/
theorem eq_synopticref19_Push (fu d : Nat) (a0_0 : C) (a0_1 : C) (n1 : Nat) (a1 : List C) (a2 : List C) :
    cl fu (d + 1) fn_synopticref19_Push [V.agg ([a0_0, a0_1]), V.c (C.sl n1 a1), V.agg a2] [] = (
    (cl fu d fn_synopticref19_Validate [V.agg ([a0_0, a0_1])] []).bind fun out =>
    rC out.r fun c =>
    asI .i64 c fun i =>
    bif i != 0 then
      some ⟨V.tup [V.agg ([C.nl, C.nl]), I i], [], none⟩
    else
      (cl fu d fn_synopticref19_Validate [V.agg ([C.sl 1 ([C.sl n1 a1]), C.nl])] []).bind fun out1 =>
      rC out1.r fun c1 =>
      asI .i64 c1 fun i1 =>
      bif i1 != 0 then
        some ⟨V.tup [V.agg ([C.nl, C.nl]), I i1], [], none⟩
      else
        unc (List.drop 40 a2) fun c2 r =>
        asI .i64 c2 fun i2 =>
        bif decide (i2 < 1) then
          some ⟨V.tup [V.agg ([C.nl, C.nl]), I 1], [], none⟩
        else
          unc (List.drop 39 a2) fun c3 _ =>
          asI .i64 c3 fun i3 =>
          bif decide (i3 > 100) then
            some ⟨V.tup [V.agg ([C.nl, C.nl]), I 1], [], none⟩
          else
            unc (List.drop 40 a2) fun c4 _ =>
            asI .i64 c4 fun i4 =>
            unc (List.drop 39 a2) fun c5 _ =>
            asI .i64 c5 fun i5 =>
            bif decide (i4 > i5) then
              some ⟨V.tup [V.agg ([C.nl, C.nl]), I 1], [], none⟩
            else
              asSl a0_0 fun n cs =>
              need (Nat.beq (n * 1) cs.length) <|
              need ((Nat.ble ((0 + n) * 24) 140737488355328) && (Nat.ble (0 + n) 140737488355328)) <|
              need (Nat.beq (n1 * 3) a1.length) <|
              need ((Nat.ble ((0 + n1) * 32) 140737488355328) && (Nat.ble (0 + n1) 140737488355328)) <|
              need (Nat.ble (0 + ((0 + n1) * 3)) a1.length) <|
              need ((((Nat.beq ((0 + n) * 1) cs.length) && true) && (Nat.ble (((0 + n) + 1) * 24) 140737488355328)) && (Nat.ble ((0 + n) + 1) 140737488355328)) <|
              need (Nat.ble (0 + (((0 + n) + 1) * 1)) ((cs ++ ([C.sl (0 + n1) (List.take ((0 + n1) * 3) a1)])).length)) <|
              bif decide ((((0 + n) + 1 : Nat) : Int) > 12) then
                need (decide (1 ≤ (((0 + n) + 1 : Nat) : Int))) <|
                asSl a0_1 fun n3 cs1 =>
                (iter (fun (y : C × Int × (C × C × Unit) × (C × List C × Unit) × Unit) =>
                  bif decide (y.2.1 < ((n3 : Nat) : Int)) then
                    asSl a0_1 fun n4 cs2 =>
                    need (inR y.2.1 n4) <|
                    unc (List.drop (y.2.1.toNat * 1) cs2) fun c6 _ =>
                    asS c6 fun s =>
                    need (noYl [V.c y.1]) <|
                    (cl fu d fn_synopticref19_put [V.c y.1, V.c (C.v (.string s))] []).bind fun out2 =>
                    rC out2.r fun c7 =>
                    need (((Nat.beq ((y.2.2.2.1.2.1.length / 1) * 1) y.2.2.2.1.2.1.length) && true) && true) <|
                    some (0, (c7, IntKind.i64.wrap (y.2.1 + 1), (y.2.2.1.1, y.2.2.1.2.1, ()), (y.2.2.2.1.1, y.2.2.2.1.2.1, ()), ()))
                  else
                    need (((Nat.beq ((y.2.2.2.1.2.1.length / 1) * 1) y.2.2.2.1.2.1.length) && true) && true) <|
                    some (1, (y.1, y.2.1, (y.2.2.1.1, y.2.2.1.2.1, ()), (y.2.2.2.1.1, y.2.2.2.1.2.1, ()), ()))) fu (C.nl, 0, (C.nl, C.nl, ()), (C.sl (((0 + n) + 1) - 1) (List.take ((((0 + n) + 1) - 1) * 1) (List.drop 1 (List.take (((0 + n) + 1) * 1) (cs ++ ([C.sl (0 + n1) (List.take ((0 + n1) * 3) a1)]))))), [], ()), ())).bind fun p =>
                asSl p.2.2.2.2.1.1 fun n5 cs3 =>
                need (((Nat.beq ((p.2.2.2.2.1.2.1.length / 1) * 1) p.2.2.2.2.1.2.1.length) && true) && true) <|
                (iter (fun (y1 : C × Int × (C × C × Unit) × (C × List C × Unit) × Unit) =>
                  bif decide (y1.2.1 < ((n5 : Nat) : Int)) then
                    asSl p.2.2.2.2.1.1 fun n6 cs4 =>
                    need (inR y1.2.1 n6) <|
                    unc (List.drop (y1.2.1.toNat * 1) cs4) fun c8 _ =>
                    asSl c8 fun n7 cs5 =>
                    need (((Nat.beq ((y1.2.2.2.1.2.1.length / 1) * 1) y1.2.2.2.1.2.1.length) && true) && true) <|
                    (iter (fun (y2 : C × Int × (C × C × Unit) × (C × List C × Unit) × Unit) =>
                      bif decide (y2.2.1 < ((n7 : Nat) : Int)) then
                        asSl c8 fun n8 cs6 =>
                        need (inR y2.2.1 n8) <|
                        unc (List.drop (y2.2.1.toNat * 3) cs6) fun c9 r6 =>
                        asS c9 fun s1 =>
                        unc r6 fun c10 r7 =>
                        asI .i64 c10 fun i6 =>
                        unc r7 fun c11 _ =>
                        asI .i64 c11 fun i7 =>
                        need (noYl [V.c y2.1]) <|
                        (cl fu d fn_synopticref19_put [V.c y2.1, V.c (C.v (.string s1))] []).bind fun out3 =>
                        rC out3.r fun c12 =>
                        need (((Nat.beq ((y2.2.2.2.1.2.1.length / 1) * 1) y2.2.2.2.1.2.1.length) && true) && true) <|
                        some (0, (c12, IntKind.i64.wrap (y2.2.1 + 1), (y2.2.2.1.1, y2.2.2.1.2.1, ()), (y2.2.2.2.1.1, y2.2.2.2.1.2.1, ()), ()))
                      else
                        need (((Nat.beq ((y2.2.2.2.1.2.1.length / 1) * 1) y2.2.2.2.1.2.1.length) && true) && true) <|
                        some (1, (y2.1, y2.2.1, (y2.2.2.1.1, y2.2.2.1.2.1, ()), (y2.2.2.2.1.1, y2.2.2.2.1.2.1, ()), ()))) fu (y1.1, 0, (y1.2.2.1.1, y1.2.2.1.2.1, ()), (y1.2.2.2.1.1, y1.2.2.2.1.2.1, ()), ())).bind fun p1 =>
                    need (((Nat.beq ((p1.2.2.2.2.1.2.1.length / 1) * 1) p1.2.2.2.2.1.2.1.length) && true) && true) <|
                    some (0, (p1.2.1, IntKind.i64.wrap (y1.2.1 + 1), (p1.2.2.2.1.1, p1.2.2.2.1.2.1, ()), (p1.2.2.2.2.1.1, p1.2.2.2.2.1.2.1, ()), ()))
                  else
                    need (((Nat.beq ((y1.2.2.2.1.2.1.length / 1) * 1) y1.2.2.2.1.2.1.length) && true) && true) <|
                    some (1, (y1.1, y1.2.1, (y1.2.2.1.1, y1.2.2.1.2.1, ()), (y1.2.2.2.1.1, y1.2.2.2.1.2.1, ()), ()))) fu (p.2.1, 0, (p.2.2.2.1.1, p.2.2.2.1.2.1, ()), (p.2.2.2.2.1.1, p.2.2.2.2.1.2.1, ()), ())).bind fun p2 =>
                asSl p2.2.1 fun n9 cs7 =>
                need (((Nat.beq ((p2.2.2.2.2.1.2.1.length / 1) * 1) p2.2.2.2.2.1.2.1.length) && true) && true) <|
                (iter (fun (y3 : Int × (C × C × Unit) × (C × List C × Unit) × Unit) =>
                  bif decide (y3.1 < ((n9 : Nat) : Int)) then
                    asSl p2.2.1 fun n10 cs8 =>
                    need (inR y3.1 n10) <|
                    unc (List.drop (y3.1.toNat * 1) cs8) fun c13 _ =>
                    asS c13 fun s2 =>
                    asSl y3.2.2.1.1 fun n11 cs9 =>
                    need (((Nat.beq ((y3.2.2.1.2.1.length / 1) * 1) y3.2.2.1.2.1.length) && true) && true) <|
                    (iter (fun (y4 : Int × Int × Int × (C × C × Unit) × (C × List C × Unit) × Unit) =>
                      bif decide (y4.2.2.1 < ((n11 : Nat) : Int)) then
                        asSl y3.2.2.1.1 fun n12 cs10 =>
                        need (inR y4.2.2.1 n12) <|
                        unc (List.drop (y4.2.2.1.toNat * 1) cs10) fun c14 _ =>
                        asSl c14 fun n13 cs11 =>
                        need (((Nat.beq ((y4.2.2.2.2.1.2.1.length / 1) * 1) y4.2.2.2.2.1.2.1.length) && true) && true) <|
                        (iter (fun (y5 : Int × Int × Int × (C × C × Unit) × (C × List C × Unit) × Unit) =>
                          bif decide (y5.2.2.1 < ((n13 : Nat) : Int)) then
                            asSl c14 fun n14 cs12 =>
                            need (inR y5.2.2.1 n14) <|
                            unc (List.drop (y5.2.2.1.toNat * 3) cs12) fun c15 r11 =>
                            asS c15 fun s3 =>
                            unc r11 fun c16 r12 =>
                            asI .i64 c16 fun i8 =>
                            unc r12 fun c17 _ =>
                            asI .i64 c17 fun i9 =>
                            bif s3.toList == s2.toList then
                              need (((Nat.beq ((y5.2.2.2.2.1.2.1.length / 1) * 1) y5.2.2.2.2.1.2.1.length) && true) && true) <|
                              some (0, (IntKind.i64.wrap (y5.1 + i8), IntKind.i64.wrap (y5.2.1 + i9), IntKind.i64.wrap (y5.2.2.1 + 1), (y5.2.2.2.1.1, y5.2.2.2.1.2.1, ()), (y5.2.2.2.2.1.1, y5.2.2.2.2.1.2.1, ()), ()))
                            else
                              need (((Nat.beq ((y5.2.2.2.2.1.2.1.length / 1) * 1) y5.2.2.2.2.1.2.1.length) && true) && true) <|
                              some (0, (y5.1, y5.2.1, IntKind.i64.wrap (y5.2.2.1 + 1), (y5.2.2.2.1.1, y5.2.2.2.1.2.1, ()), (y5.2.2.2.2.1.1, y5.2.2.2.2.1.2.1, ()), ()))
                          else
                            need (((Nat.beq ((y5.2.2.2.2.1.2.1.length / 1) * 1) y5.2.2.2.2.1.2.1.length) && true) && true) <|
                            some (1, (y5.1, y5.2.1, y5.2.2.1, (y5.2.2.2.1.1, y5.2.2.2.1.2.1, ()), (y5.2.2.2.2.1.1, y5.2.2.2.2.1.2.1, ()), ()))) fu (y4.1, y4.2.1, 0, (y4.2.2.2.1.1, y4.2.2.2.1.2.1, ()), (y4.2.2.2.2.1.1, y4.2.2.2.2.1.2.1, ()), ())).bind fun p3 =>
                        need (((Nat.beq ((p3.2.2.2.2.2.1.2.1.length / 1) * 1) p3.2.2.2.2.2.1.2.1.length) && true) && true) <|
                        some (0, (p3.2.1, p3.2.2.1, IntKind.i64.wrap (y4.2.2.1 + 1), (p3.2.2.2.2.1.1, p3.2.2.2.2.1.2.1, ()), (p3.2.2.2.2.2.1.1, p3.2.2.2.2.2.1.2.1, ()), ()))
                      else
                        need (((Nat.beq ((y4.2.2.2.2.1.2.1.length / 1) * 1) y4.2.2.2.2.1.2.1.length) && true) && true) <|
                        some (1, (y4.1, y4.2.1, y4.2.2.1, (y4.2.2.2.1.1, y4.2.2.2.1.2.1, ()), (y4.2.2.2.2.1.1, y4.2.2.2.2.1.2.1, ()), ()))) fu (0, 0, 0, (y3.2.1.1, y3.2.1.2.1, ()), (y3.2.2.1.1, y3.2.2.1.2.1, ()), ())).bind fun p4 =>
                    need (noYl [V.c (nrm a0_1)]) <|
                    (cl fu d fn_synopticref19_in [V.c (nrm a0_1), V.c (C.v (.string s2))] []).bind fun out4 =>
                    rC out4.r fun c18 =>
                    asB c18 fun b =>
                    bif b then
                      bif p4.2.1 == 0 then
                        need ((((Nat.beq ((p4.2.2.2.2.2.1.2.1.length / 1) * 1) p4.2.2.2.2.2.1.2.1.length) && true) && (Nat.ble (((p4.2.2.2.2.2.1.2.1.length / 1) + 1) * 16) 140737488355328)) && (Nat.ble ((p4.2.2.2.2.2.1.2.1.length / 1) + 1) 140737488355328)) <|
                        need (((Nat.beq (((p4.2.2.2.2.2.1.2.1.length / 1) + 1) * 1) ((p4.2.2.2.2.2.1.2.1 ++ ([C.v (.string s2)])).length)) && true) && true) <|
                        some (0, (IntKind.i64.wrap (y3.1 + 1), (p4.2.2.2.2.1.1, p4.2.2.2.2.1.2.1, ()), (p4.2.2.2.2.2.1.1, p4.2.2.2.2.2.1.2.1 ++ ([C.v (.string s2)]), ()), ()))
                      else
                        unc (List.drop 40 a2) fun c19 _ =>
                        asI .i64 c19 fun i10 =>
                        bif decide (IntKind.i64.wrap (100 * p4.2.2.1) ≥ IntKind.i64.wrap (i10 * p4.2.1)) then
                          need ((((Nat.beq ((p4.2.2.2.2.2.1.2.1.length / 1) * 1) p4.2.2.2.2.2.1.2.1.length) && true) && (Nat.ble (((p4.2.2.2.2.2.1.2.1.length / 1) + 1) * 16) 140737488355328)) && (Nat.ble ((p4.2.2.2.2.2.1.2.1.length / 1) + 1) 140737488355328)) <|
                          need (((Nat.beq (((p4.2.2.2.2.2.1.2.1.length / 1) + 1) * 1) ((p4.2.2.2.2.2.1.2.1 ++ ([C.v (.string s2)])).length)) && true) && true) <|
                          some (0, (IntKind.i64.wrap (y3.1 + 1), (p4.2.2.2.2.1.1, p4.2.2.2.2.1.2.1, ()), (p4.2.2.2.2.2.1.1, p4.2.2.2.2.2.1.2.1 ++ ([C.v (.string s2)]), ()), ()))
                        else
                          need (noYl [V.c (nrm a0_1)]) <|
                          (cl fu d fn_synopticref19_in [V.c (nrm a0_1), V.c (C.v (.string s2))] []).bind fun out5 =>
                          rC out5.r fun c20 =>
                          asB c20 fun b1 =>
                          bif !b1 then
                            bif decide (p4.2.1 ≥ 5) then
                              unc (List.drop 39 a2) fun c21 _ =>
                              asI .i64 c21 fun i11 =>
                              bif decide (IntKind.i64.wrap (100 * p4.2.2.1) ≥ IntKind.i64.wrap (i11 * p4.2.1)) then
                                need ((((Nat.beq ((p4.2.2.2.2.2.1.2.1.length / 1) * 1) p4.2.2.2.2.2.1.2.1.length) && true) && (Nat.ble (((p4.2.2.2.2.2.1.2.1.length / 1) + 1) * 16) 140737488355328)) && (Nat.ble ((p4.2.2.2.2.2.1.2.1.length / 1) + 1) 140737488355328)) <|
                                need (((Nat.beq (((p4.2.2.2.2.2.1.2.1.length / 1) + 1) * 1) ((p4.2.2.2.2.2.1.2.1 ++ ([C.v (.string s2)])).length)) && true) && true) <|
                                some (0, (IntKind.i64.wrap (y3.1 + 1), (p4.2.2.2.2.1.1, p4.2.2.2.2.1.2.1, ()), (p4.2.2.2.2.2.1.1, p4.2.2.2.2.2.1.2.1 ++ ([C.v (.string s2)]), ()), ()))
                              else
                                need (((Nat.beq ((p4.2.2.2.2.2.1.2.1.length / 1) * 1) p4.2.2.2.2.2.1.2.1.length) && true) && true) <|
                                some (0, (IntKind.i64.wrap (y3.1 + 1), (p4.2.2.2.2.1.1, p4.2.2.2.2.1.2.1, ()), (p4.2.2.2.2.2.1.1, p4.2.2.2.2.2.1.2.1, ()), ()))
                            else
                              need (((Nat.beq ((p4.2.2.2.2.2.1.2.1.length / 1) * 1) p4.2.2.2.2.2.1.2.1.length) && true) && true) <|
                              some (0, (IntKind.i64.wrap (y3.1 + 1), (p4.2.2.2.2.1.1, p4.2.2.2.2.1.2.1, ()), (p4.2.2.2.2.2.1.1, p4.2.2.2.2.2.1.2.1, ()), ()))
                          else
                            need (((Nat.beq ((p4.2.2.2.2.2.1.2.1.length / 1) * 1) p4.2.2.2.2.2.1.2.1.length) && true) && true) <|
                            some (0, (IntKind.i64.wrap (y3.1 + 1), (p4.2.2.2.2.1.1, p4.2.2.2.2.1.2.1, ()), (p4.2.2.2.2.2.1.1, p4.2.2.2.2.2.1.2.1, ()), ()))
                    else
                      need (noYl [V.c (nrm a0_1)]) <|
                      (cl fu d fn_synopticref19_in [V.c (nrm a0_1), V.c (C.v (.string s2))] []).bind fun out6 =>
                      rC out6.r fun c22 =>
                      asB c22 fun b2 =>
                      bif !b2 then
                        bif decide (p4.2.1 ≥ 5) then
                          unc (List.drop 39 a2) fun c23 _ =>
                          asI .i64 c23 fun i12 =>
                          bif decide (IntKind.i64.wrap (100 * p4.2.2.1) ≥ IntKind.i64.wrap (i12 * p4.2.1)) then
                            need ((((Nat.beq ((p4.2.2.2.2.2.1.2.1.length / 1) * 1) p4.2.2.2.2.2.1.2.1.length) && true) && (Nat.ble (((p4.2.2.2.2.2.1.2.1.length / 1) + 1) * 16) 140737488355328)) && (Nat.ble ((p4.2.2.2.2.2.1.2.1.length / 1) + 1) 140737488355328)) <|
                            need (((Nat.beq (((p4.2.2.2.2.2.1.2.1.length / 1) + 1) * 1) ((p4.2.2.2.2.2.1.2.1 ++ ([C.v (.string s2)])).length)) && true) && true) <|
                            some (0, (IntKind.i64.wrap (y3.1 + 1), (p4.2.2.2.2.1.1, p4.2.2.2.2.1.2.1, ()), (p4.2.2.2.2.2.1.1, p4.2.2.2.2.2.1.2.1 ++ ([C.v (.string s2)]), ()), ()))
                          else
                            need (((Nat.beq ((p4.2.2.2.2.2.1.2.1.length / 1) * 1) p4.2.2.2.2.2.1.2.1.length) && true) && true) <|
                            some (0, (IntKind.i64.wrap (y3.1 + 1), (p4.2.2.2.2.1.1, p4.2.2.2.2.1.2.1, ()), (p4.2.2.2.2.2.1.1, p4.2.2.2.2.2.1.2.1, ()), ()))
                        else
                          need (((Nat.beq ((p4.2.2.2.2.2.1.2.1.length / 1) * 1) p4.2.2.2.2.2.1.2.1.length) && true) && true) <|
                          some (0, (IntKind.i64.wrap (y3.1 + 1), (p4.2.2.2.2.1.1, p4.2.2.2.2.1.2.1, ()), (p4.2.2.2.2.2.1.1, p4.2.2.2.2.2.1.2.1, ()), ()))
                      else
                        need (((Nat.beq ((p4.2.2.2.2.2.1.2.1.length / 1) * 1) p4.2.2.2.2.2.1.2.1.length) && true) && true) <|
                        some (0, (IntKind.i64.wrap (y3.1 + 1), (p4.2.2.2.2.1.1, p4.2.2.2.2.1.2.1, ()), (p4.2.2.2.2.2.1.1, p4.2.2.2.2.2.1.2.1, ()), ()))
                  else
                    need (((Nat.beq ((y3.2.2.1.2.1.length / 1) * 1) y3.2.2.1.2.1.length) && true) && true) <|
                    some (1, (y3.1, (y3.2.1.1, y3.2.1.2.1, ()), (y3.2.2.1.1, y3.2.2.1.2.1, ()), ()))) fu (0, (p2.2.2.2.1.1, p2.2.2.2.1.2.1, ()), (p2.2.2.2.2.1.1, p2.2.2.2.2.1.2.1, ()), ())).bind fun p5 =>
                bif decide (((p5.2.2.2.1.2.1.length / 1 : Nat) : Int) > 150) then
                  some ⟨V.tup [V.agg ([C.nl, C.nl]), I 2], [], none⟩
                else
                  need (Nat.ble (0 + ((p5.2.2.2.1.2.1.length / 1) * 1)) p5.2.2.2.1.2.1.length) <|
                  some ⟨V.tup [V.agg ([p5.2.2.2.1.1, C.sl (p5.2.2.2.1.2.1.length / 1) (List.take ((p5.2.2.2.1.2.1.length / 1) * 1) p5.2.2.2.1.2.1)]), I 0], [], none⟩
              else
                asSl a0_1 fun n15 cs13 =>
                (iter (fun (y6 : C × Int × (C × C × Unit) × (C × List C × Unit) × Unit) =>
                  bif decide (y6.2.1 < ((n15 : Nat) : Int)) then
                    asSl a0_1 fun n16 cs14 =>
                    need (inR y6.2.1 n16) <|
                    unc (List.drop (y6.2.1.toNat * 1) cs14) fun c24 _ =>
                    asS c24 fun s4 =>
                    need (noYl [V.c y6.1]) <|
                    (cl fu d fn_synopticref19_put [V.c y6.1, V.c (C.v (.string s4))] []).bind fun out7 =>
                    rC out7.r fun c25 =>
                    need (((Nat.beq ((y6.2.2.2.1.2.1.length / 1) * 1) y6.2.2.2.1.2.1.length) && true) && true) <|
                    some (0, (c25, IntKind.i64.wrap (y6.2.1 + 1), (y6.2.2.1.1, y6.2.2.1.2.1, ()), (y6.2.2.2.1.1, y6.2.2.2.1.2.1, ()), ()))
                  else
                    need (((Nat.beq ((y6.2.2.2.1.2.1.length / 1) * 1) y6.2.2.2.1.2.1.length) && true) && true) <|
                    some (1, (y6.1, y6.2.1, (y6.2.2.1.1, y6.2.2.1.2.1, ()), (y6.2.2.2.1.1, y6.2.2.2.1.2.1, ()), ()))) fu (C.nl, 0, (C.nl, C.nl, ()), (C.sl ((0 + n) + 1) (List.take (((0 + n) + 1) * 1) (cs ++ ([C.sl (0 + n1) (List.take ((0 + n1) * 3) a1)]))), [], ()), ())).bind fun p6 =>
                asSl p6.2.2.2.2.1.1 fun n17 cs15 =>
                need (((Nat.beq ((p6.2.2.2.2.1.2.1.length / 1) * 1) p6.2.2.2.2.1.2.1.length) && true) && true) <|
                (iter (fun (y7 : C × Int × (C × C × Unit) × (C × List C × Unit) × Unit) =>
                  bif decide (y7.2.1 < ((n17 : Nat) : Int)) then
                    asSl p6.2.2.2.2.1.1 fun n18 cs16 =>
                    need (inR y7.2.1 n18) <|
                    unc (List.drop (y7.2.1.toNat * 1) cs16) fun c26 _ =>
                    asSl c26 fun n19 cs17 =>
                    need (((Nat.beq ((y7.2.2.2.1.2.1.length / 1) * 1) y7.2.2.2.1.2.1.length) && true) && true) <|
                    (iter (fun (y8 : C × Int × (C × C × Unit) × (C × List C × Unit) × Unit) =>
                      bif decide (y8.2.1 < ((n19 : Nat) : Int)) then
                        asSl c26 fun n20 cs18 =>
                        need (inR y8.2.1 n20) <|
                        unc (List.drop (y8.2.1.toNat * 3) cs18) fun c27 r19 =>
                        asS c27 fun s5 =>
                        unc r19 fun c28 r20 =>
                        asI .i64 c28 fun i13 =>
                        unc r20 fun c29 _ =>
                        asI .i64 c29 fun i14 =>
                        need (noYl [V.c y8.1]) <|
                        (cl fu d fn_synopticref19_put [V.c y8.1, V.c (C.v (.string s5))] []).bind fun out8 =>
                        rC out8.r fun c30 =>
                        need (((Nat.beq ((y8.2.2.2.1.2.1.length / 1) * 1) y8.2.2.2.1.2.1.length) && true) && true) <|
                        some (0, (c30, IntKind.i64.wrap (y8.2.1 + 1), (y8.2.2.1.1, y8.2.2.1.2.1, ()), (y8.2.2.2.1.1, y8.2.2.2.1.2.1, ()), ()))
                      else
                        need (((Nat.beq ((y8.2.2.2.1.2.1.length / 1) * 1) y8.2.2.2.1.2.1.length) && true) && true) <|
                        some (1, (y8.1, y8.2.1, (y8.2.2.1.1, y8.2.2.1.2.1, ()), (y8.2.2.2.1.1, y8.2.2.2.1.2.1, ()), ()))) fu (y7.1, 0, (y7.2.2.1.1, y7.2.2.1.2.1, ()), (y7.2.2.2.1.1, y7.2.2.2.1.2.1, ()), ())).bind fun p7 =>
                    need (((Nat.beq ((p7.2.2.2.2.1.2.1.length / 1) * 1) p7.2.2.2.2.1.2.1.length) && true) && true) <|
                    some (0, (p7.2.1, IntKind.i64.wrap (y7.2.1 + 1), (p7.2.2.2.1.1, p7.2.2.2.1.2.1, ()), (p7.2.2.2.2.1.1, p7.2.2.2.2.1.2.1, ()), ()))
                  else
                    need (((Nat.beq ((y7.2.2.2.1.2.1.length / 1) * 1) y7.2.2.2.1.2.1.length) && true) && true) <|
                    some (1, (y7.1, y7.2.1, (y7.2.2.1.1, y7.2.2.1.2.1, ()), (y7.2.2.2.1.1, y7.2.2.2.1.2.1, ()), ()))) fu (p6.2.1, 0, (p6.2.2.2.1.1, p6.2.2.2.1.2.1, ()), (p6.2.2.2.2.1.1, p6.2.2.2.2.1.2.1, ()), ())).bind fun p8 =>
                asSl p8.2.1 fun n21 cs19 =>
                need (((Nat.beq ((p8.2.2.2.2.1.2.1.length / 1) * 1) p8.2.2.2.2.1.2.1.length) && true) && true) <|
                (iter (fun (y9 : Int × (C × C × Unit) × (C × List C × Unit) × Unit) =>
                  bif decide (y9.1 < ((n21 : Nat) : Int)) then
                    asSl p8.2.1 fun n22 cs20 =>
                    need (inR y9.1 n22) <|
                    unc (List.drop (y9.1.toNat * 1) cs20) fun c31 _ =>
                    asS c31 fun s6 =>
                    asSl y9.2.2.1.1 fun n23 cs21 =>
                    need (((Nat.beq ((y9.2.2.1.2.1.length / 1) * 1) y9.2.2.1.2.1.length) && true) && true) <|
                    (iter (fun (y10 : Int × Int × Int × (C × C × Unit) × (C × List C × Unit) × Unit) =>
                      bif decide (y10.2.2.1 < ((n23 : Nat) : Int)) then
                        asSl y9.2.2.1.1 fun n24 cs22 =>
                        need (inR y10.2.2.1 n24) <|
                        unc (List.drop (y10.2.2.1.toNat * 1) cs22) fun c32 _ =>
                        asSl c32 fun n25 cs23 =>
                        need (((Nat.beq ((y10.2.2.2.2.1.2.1.length / 1) * 1) y10.2.2.2.2.1.2.1.length) && true) && true) <|
                        (iter (fun (y11 : Int × Int × Int × (C × C × Unit) × (C × List C × Unit) × Unit) =>
                          bif decide (y11.2.2.1 < ((n25 : Nat) : Int)) then
                            asSl c32 fun n26 cs24 =>
                            need (inR y11.2.2.1 n26) <|
                            unc (List.drop (y11.2.2.1.toNat * 3) cs24) fun c33 r24 =>
                            asS c33 fun s7 =>
                            unc r24 fun c34 r25 =>
                            asI .i64 c34 fun i15 =>
                            unc r25 fun c35 _ =>
                            asI .i64 c35 fun i16 =>
                            bif s7.toList == s6.toList then
                              need (((Nat.beq ((y11.2.2.2.2.1.2.1.length / 1) * 1) y11.2.2.2.2.1.2.1.length) && true) && true) <|
                              some (0, (IntKind.i64.wrap (y11.1 + i15), IntKind.i64.wrap (y11.2.1 + i16), IntKind.i64.wrap (y11.2.2.1 + 1), (y11.2.2.2.1.1, y11.2.2.2.1.2.1, ()), (y11.2.2.2.2.1.1, y11.2.2.2.2.1.2.1, ()), ()))
                            else
                              need (((Nat.beq ((y11.2.2.2.2.1.2.1.length / 1) * 1) y11.2.2.2.2.1.2.1.length) && true) && true) <|
                              some (0, (y11.1, y11.2.1, IntKind.i64.wrap (y11.2.2.1 + 1), (y11.2.2.2.1.1, y11.2.2.2.1.2.1, ()), (y11.2.2.2.2.1.1, y11.2.2.2.2.1.2.1, ()), ()))
                          else
                            need (((Nat.beq ((y11.2.2.2.2.1.2.1.length / 1) * 1) y11.2.2.2.2.1.2.1.length) && true) && true) <|
                            some (1, (y11.1, y11.2.1, y11.2.2.1, (y11.2.2.2.1.1, y11.2.2.2.1.2.1, ()), (y11.2.2.2.2.1.1, y11.2.2.2.2.1.2.1, ()), ()))) fu (y10.1, y10.2.1, 0, (y10.2.2.2.1.1, y10.2.2.2.1.2.1, ()), (y10.2.2.2.2.1.1, y10.2.2.2.2.1.2.1, ()), ())).bind fun p9 =>
                        need (((Nat.beq ((p9.2.2.2.2.2.1.2.1.length / 1) * 1) p9.2.2.2.2.2.1.2.1.length) && true) && true) <|
                        some (0, (p9.2.1, p9.2.2.1, IntKind.i64.wrap (y10.2.2.1 + 1), (p9.2.2.2.2.1.1, p9.2.2.2.2.1.2.1, ()), (p9.2.2.2.2.2.1.1, p9.2.2.2.2.2.1.2.1, ()), ()))
                      else
                        need (((Nat.beq ((y10.2.2.2.2.1.2.1.length / 1) * 1) y10.2.2.2.2.1.2.1.length) && true) && true) <|
                        some (1, (y10.1, y10.2.1, y10.2.2.1, (y10.2.2.2.1.1, y10.2.2.2.1.2.1, ()), (y10.2.2.2.2.1.1, y10.2.2.2.2.1.2.1, ()), ()))) fu (0, 0, 0, (y9.2.1.1, y9.2.1.2.1, ()), (y9.2.2.1.1, y9.2.2.1.2.1, ()), ())).bind fun p10 =>
                    need (noYl [V.c (nrm a0_1)]) <|
                    (cl fu d fn_synopticref19_in [V.c (nrm a0_1), V.c (C.v (.string s6))] []).bind fun out9 =>
                    rC out9.r fun c36 =>
                    asB c36 fun b3 =>
                    bif b3 then
                      bif p10.2.1 == 0 then
                        need ((((Nat.beq ((p10.2.2.2.2.2.1.2.1.length / 1) * 1) p10.2.2.2.2.2.1.2.1.length) && true) && (Nat.ble (((p10.2.2.2.2.2.1.2.1.length / 1) + 1) * 16) 140737488355328)) && (Nat.ble ((p10.2.2.2.2.2.1.2.1.length / 1) + 1) 140737488355328)) <|
                        need (((Nat.beq (((p10.2.2.2.2.2.1.2.1.length / 1) + 1) * 1) ((p10.2.2.2.2.2.1.2.1 ++ ([C.v (.string s6)])).length)) && true) && true) <|
                        some (0, (IntKind.i64.wrap (y9.1 + 1), (p10.2.2.2.2.1.1, p10.2.2.2.2.1.2.1, ()), (p10.2.2.2.2.2.1.1, p10.2.2.2.2.2.1.2.1 ++ ([C.v (.string s6)]), ()), ()))
                      else
                        unc (List.drop 40 a2) fun c37 _ =>
                        asI .i64 c37 fun i17 =>
                        bif decide (IntKind.i64.wrap (100 * p10.2.2.1) ≥ IntKind.i64.wrap (i17 * p10.2.1)) then
                          need ((((Nat.beq ((p10.2.2.2.2.2.1.2.1.length / 1) * 1) p10.2.2.2.2.2.1.2.1.length) && true) && (Nat.ble (((p10.2.2.2.2.2.1.2.1.length / 1) + 1) * 16) 140737488355328)) && (Nat.ble ((p10.2.2.2.2.2.1.2.1.length / 1) + 1) 140737488355328)) <|
                          need (((Nat.beq (((p10.2.2.2.2.2.1.2.1.length / 1) + 1) * 1) ((p10.2.2.2.2.2.1.2.1 ++ ([C.v (.string s6)])).length)) && true) && true) <|
                          some (0, (IntKind.i64.wrap (y9.1 + 1), (p10.2.2.2.2.1.1, p10.2.2.2.2.1.2.1, ()), (p10.2.2.2.2.2.1.1, p10.2.2.2.2.2.1.2.1 ++ ([C.v (.string s6)]), ()), ()))
                        else
                          need (noYl [V.c (nrm a0_1)]) <|
                          (cl fu d fn_synopticref19_in [V.c (nrm a0_1), V.c (C.v (.string s6))] []).bind fun out10 =>
                          rC out10.r fun c38 =>
                          asB c38 fun b4 =>
                          bif !b4 then
                            bif decide (p10.2.1 ≥ 5) then
                              unc (List.drop 39 a2) fun c39 _ =>
                              asI .i64 c39 fun i18 =>
                              bif decide (IntKind.i64.wrap (100 * p10.2.2.1) ≥ IntKind.i64.wrap (i18 * p10.2.1)) then
                                need ((((Nat.beq ((p10.2.2.2.2.2.1.2.1.length / 1) * 1) p10.2.2.2.2.2.1.2.1.length) && true) && (Nat.ble (((p10.2.2.2.2.2.1.2.1.length / 1) + 1) * 16) 140737488355328)) && (Nat.ble ((p10.2.2.2.2.2.1.2.1.length / 1) + 1) 140737488355328)) <|
                                need (((Nat.beq (((p10.2.2.2.2.2.1.2.1.length / 1) + 1) * 1) ((p10.2.2.2.2.2.1.2.1 ++ ([C.v (.string s6)])).length)) && true) && true) <|
                                some (0, (IntKind.i64.wrap (y9.1 + 1), (p10.2.2.2.2.1.1, p10.2.2.2.2.1.2.1, ()), (p10.2.2.2.2.2.1.1, p10.2.2.2.2.2.1.2.1 ++ ([C.v (.string s6)]), ()), ()))
                              else
                                need (((Nat.beq ((p10.2.2.2.2.2.1.2.1.length / 1) * 1) p10.2.2.2.2.2.1.2.1.length) && true) && true) <|
                                some (0, (IntKind.i64.wrap (y9.1 + 1), (p10.2.2.2.2.1.1, p10.2.2.2.2.1.2.1, ()), (p10.2.2.2.2.2.1.1, p10.2.2.2.2.2.1.2.1, ()), ()))
                            else
                              need (((Nat.beq ((p10.2.2.2.2.2.1.2.1.length / 1) * 1) p10.2.2.2.2.2.1.2.1.length) && true) && true) <|
                              some (0, (IntKind.i64.wrap (y9.1 + 1), (p10.2.2.2.2.1.1, p10.2.2.2.2.1.2.1, ()), (p10.2.2.2.2.2.1.1, p10.2.2.2.2.2.1.2.1, ()), ()))
                          else
                            need (((Nat.beq ((p10.2.2.2.2.2.1.2.1.length / 1) * 1) p10.2.2.2.2.2.1.2.1.length) && true) && true) <|
                            some (0, (IntKind.i64.wrap (y9.1 + 1), (p10.2.2.2.2.1.1, p10.2.2.2.2.1.2.1, ()), (p10.2.2.2.2.2.1.1, p10.2.2.2.2.2.1.2.1, ()), ()))
                    else
                      need (noYl [V.c (nrm a0_1)]) <|
                      (cl fu d fn_synopticref19_in [V.c (nrm a0_1), V.c (C.v (.string s6))] []).bind fun out11 =>
                      rC out11.r fun c40 =>
                      asB c40 fun b5 =>
                      bif !b5 then
                        bif decide (p10.2.1 ≥ 5) then
                          unc (List.drop 39 a2) fun c41 _ =>
                          asI .i64 c41 fun i19 =>
                          bif decide (IntKind.i64.wrap (100 * p10.2.2.1) ≥ IntKind.i64.wrap (i19 * p10.2.1)) then
                            need ((((Nat.beq ((p10.2.2.2.2.2.1.2.1.length / 1) * 1) p10.2.2.2.2.2.1.2.1.length) && true) && (Nat.ble (((p10.2.2.2.2.2.1.2.1.length / 1) + 1) * 16) 140737488355328)) && (Nat.ble ((p10.2.2.2.2.2.1.2.1.length / 1) + 1) 140737488355328)) <|
                            need (((Nat.beq (((p10.2.2.2.2.2.1.2.1.length / 1) + 1) * 1) ((p10.2.2.2.2.2.1.2.1 ++ ([C.v (.string s6)])).length)) && true) && true) <|
                            some (0, (IntKind.i64.wrap (y9.1 + 1), (p10.2.2.2.2.1.1, p10.2.2.2.2.1.2.1, ()), (p10.2.2.2.2.2.1.1, p10.2.2.2.2.2.1.2.1 ++ ([C.v (.string s6)]), ()), ()))
                          else
                            need (((Nat.beq ((p10.2.2.2.2.2.1.2.1.length / 1) * 1) p10.2.2.2.2.2.1.2.1.length) && true) && true) <|
                            some (0, (IntKind.i64.wrap (y9.1 + 1), (p10.2.2.2.2.1.1, p10.2.2.2.2.1.2.1, ()), (p10.2.2.2.2.2.1.1, p10.2.2.2.2.2.1.2.1, ()), ()))
                        else
                          need (((Nat.beq ((p10.2.2.2.2.2.1.2.1.length / 1) * 1) p10.2.2.2.2.2.1.2.1.length) && true) && true) <|
                          some (0, (IntKind.i64.wrap (y9.1 + 1), (p10.2.2.2.2.1.1, p10.2.2.2.2.1.2.1, ()), (p10.2.2.2.2.2.1.1, p10.2.2.2.2.2.1.2.1, ()), ()))
                      else
                        need (((Nat.beq ((p10.2.2.2.2.2.1.2.1.length / 1) * 1) p10.2.2.2.2.2.1.2.1.length) && true) && true) <|
                        some (0, (IntKind.i64.wrap (y9.1 + 1), (p10.2.2.2.2.1.1, p10.2.2.2.2.1.2.1, ()), (p10.2.2.2.2.2.1.1, p10.2.2.2.2.2.1.2.1, ()), ()))
                  else
                    need (((Nat.beq ((y9.2.2.1.2.1.length / 1) * 1) y9.2.2.1.2.1.length) && true) && true) <|
                    some (1, (y9.1, (y9.2.1.1, y9.2.1.2.1, ()), (y9.2.2.1.1, y9.2.2.1.2.1, ()), ()))) fu (0, (p8.2.2.2.1.1, p8.2.2.2.1.2.1, ()), (p8.2.2.2.2.1.1, p8.2.2.2.2.1.2.1, ()), ())).bind fun p11 =>
                bif decide (((p11.2.2.2.1.2.1.length / 1 : Nat) : Int) > 150) then
                  some ⟨V.tup [V.agg ([C.nl, C.nl]), I 2], [], none⟩
                else
                  need (Nat.ble (0 + ((p11.2.2.2.1.2.1.length / 1) * 1)) p11.2.2.2.1.2.1.length) <|
                  some ⟨V.tup [V.agg ([p11.2.2.2.1.1, C.sl (p11.2.2.2.1.2.1.length / 1) (List.take ((p11.2.2.2.1.2.1.length / 1) * 1) p11.2.2.2.1.2.1)]), I 0], [], none⟩) := by kernel_rfl
/- synoptic/blacklist.Validate -/
theorem eq_blacklist_Validate (fu d : Nat) (a0_0 : C) (a0_1 : C) :
    cl fu (d + 1) fn_blacklist_Validate [V.agg ([a0_0, a0_1])] [] = (
    need (noYl [V.c (nrm a0_0)]) <|
    (cl fu d fn_slices_ContainsFunc_ssapi_Count_sapi_Count [V.c (nrm a0_0), V.c (C.fn fn_blacklist_Validate_1 ([]))] []).bind fun out =>
    rC out.r fun c =>
    asB c fun b =>
    asSl a0_0 fun n cs =>
    bif decide (((n : Nat) : Int) > 12) then
      some ⟨I 2, [], none⟩
    else
      bif b then
        some ⟨I 2, [], none⟩
      else
        asSl a0_1 fun n1 cs1 =>
        bif decide (((n1 : Nat) : Int) > 150) then
          some ⟨I 2, [], none⟩
        else
          (cl fu d fn_blacklist_some [V.agg ([a0_0, a0_1]), V.c (C.fn fn_blacklist_Validate_3 ([C.cp ([C.fn fn_blacklist_Validate_2 ([])])]))] []).bind fun out1 =>
          rC out1.r fun c1 =>
          asB c1 fun b1 =>
          bif b1 then
            some ⟨I 3, [], none⟩
          else
            need (noYl [V.c (nrm a0_1)]) <|
            (cl fu d fn_slices_ContainsFunc_sstring_string [V.c (nrm a0_1), V.c (C.fn fn_blacklist_Validate_2 ([]))] []).bind fun out2 =>
            rC out2.r fun c2 =>
            asB c2 fun b2 =>
            bif b2 then
              some ⟨I 3, [], none⟩
            else
              (cl fu d fn_blacklist_some [V.agg ([a0_0, a0_1]), V.c (C.fn fn_blacklist_Validate_4 ([]))] []).bind fun out3 =>
              rC out3.r fun c3 =>
              asB c3 fun b3 =>
              bif b3 then
                some ⟨I 1, [], none⟩
              else
                need (noYl [V.c (nrm a0_1)]) <|
                (cl fu d fn_blacklist_ascending [V.c (nrm a0_1)] []).bind fun out4 =>
                rC out4.r fun c4 =>
                asB c4 fun b4 =>
                bif !b4 then
                  some ⟨I 8, [], none⟩
                else
                  need (noYl [V.c (nrm a0_0)]) <|
                  (cl fu d fn_slices_ContainsFunc_ssapi_Count_sapi_Count [V.c (nrm a0_0), V.c (C.fn fn_blacklist_Validate_5 ([]))] []).bind fun out5 =>
                  rC out5.r fun c5 =>
                  asB c5 fun b5 =>
                  bif b5 then
                    some ⟨I 8, [], none⟩
                  else
                    some ⟨I 0, [], none⟩) := by kernel_rfl
/- (*synoptic/synoptickeep.Src).Pick -/
theorem eq_synoptickeep_Src_Pick (fu d : Nat) (a0_0 : C) (a0_1 : Int) (n1 : Nat) (a1 : List C) :
    cl fu (d + 1) fn_synoptickeep_Src_Pick [V.ptr 1000000 0, V.c (C.sl n1 a1)] [.ob ty_synoptickeep_Src 0 ([a0_0, C.v (.int .i64 a0_1)])] = (
    (cl fu d fn_synoptickeep_Src_N [V.ptr 1000000 0, I ((n1 : Nat) : Int)] [.ob ty_synoptickeep_Src 0 ([a0_0, C.v (.int .i64 a0_1)])]).bind fun out =>
    uncO out.objs fun o os =>
    rO o ty_synoptickeep_Src 0 fun cs =>
    need ((Nat.beq cs.length 2) && true) <|
    unc cs fun c r =>
    unc r fun c1 _ =>
    asI .i64 c1 fun i =>
    rC out.r fun c2 =>
    asI .i64 c2 fun i1 =>
    need (inR i1 n1) <|
    unc (List.drop (i1.toNat * 1) a1) fun c3 _ =>
    asI .i64 c3 fun i2 =>
    some ⟨I i2, [.ob ty_synoptickeep_Src 0 ([c, C.v (.int .i64 i)])], none⟩) := by kernel_rfl
/- synoptic/blacklist.percent -/
theorem eq_blacklist_percent (fu d : Nat) (a0 : Int) :
    cl fu (d + 1) fn_blacklist_percent [I a0] [] = (
    bif decide (a0 ≥ 1) then
      some ⟨B (decide (a0 ≤ 100)), [], none⟩
    else
      some ⟨B false, [], none⟩) := by kernel_rfl
/- synoptic/blacklist.copied -/
theorem eq_blacklist_copied (fu d : Nat) (a0_0 : C) (a0_1 : C) :
    cl fu (d + 1) fn_blacklist_copied [V.agg ([a0_0, a0_1])] [] = (
    need (noYl [V.c (nrm a0_1)]) <|
    (cl fu d fn_slices_Clone_sstring_string [V.c (nrm a0_1)] []).bind fun out =>
    rW out.r 0 fun n =>
    uncO out.objs fun o os =>
    rS o ty_string 0 fun cs =>
    need ((Nat.beq (n * 1) cs.length) && true) <|
    asSl a0_0 fun n1 cs1 =>
    need (((Nat.beq (n * 1) cs.length) && true) && true) <|
    (iter (fun (y : Int × (C × C × Unit) × (List C × List C × Unit) × Unit) =>
      bif decide (y.1 < ((n1 : Nat) : Int)) then
        asSl a0_0 fun n2 cs2 =>
        need (inR y.1 n2) <|
        unc (List.drop (y.1.toNat * 1) cs2) fun c r =>
        need (noYl [V.c (nrm c)]) <|
        (cl fu d fn_slices_Clone_sapi_Count_api_Count [V.c (nrm c)] []).bind fun out1 =>
        rC out1.r fun c1 =>
        need ((((Nat.beq ((y.2.2.1.1.length / 1) * 1) y.2.2.1.1.length) && true) && (Nat.ble (((y.2.2.1.1.length / 1) + 1) * 24) 140737488355328)) && (Nat.ble ((y.2.2.1.1.length / 1) + 1) 140737488355328)) <|
        need (((Nat.beq (((y.2.2.1.1.length / 1) + 1) * 1) ((y.2.2.1.1 ++ ([c1])).length)) && true) && true) <|
        need (((Nat.beq ((y.2.2.1.2.1.length / 1) * 1) y.2.2.1.2.1.length) && true) && true) <|
        some (0, (IntKind.i64.wrap (y.1 + 1), (y.2.1.1, y.2.1.2.1, ()), (y.2.2.1.1 ++ ([c1]), y.2.2.1.2.1, ()), ()))
      else
        need (((Nat.beq ((y.2.2.1.1.length / 1) * 1) y.2.2.1.1.length) && true) && true) <|
        need (((Nat.beq ((y.2.2.1.2.1.length / 1) * 1) y.2.2.1.2.1.length) && true) && true) <|
        some (1, (y.1, (y.2.1.1, y.2.1.2.1, ()), (y.2.2.1.1, y.2.2.1.2.1, ()), ()))) fu (0, (C.nl, C.nl, ()), ([], cs, ()), ())).bind fun p =>
    need (((Nat.ble ((p.2.2.2.1.1.length / 1) * 1) p.2.2.2.1.1.length) && true) && (((Nat.ble ((p.2.2.2.1.2.1.length / 1) * 1) p.2.2.2.1.2.1.length) && true) && true)) <|
    some ⟨V.mag [V.own 1000000 0 (p.2.2.2.1.1.length / 1), V.own 1000001 0 (p.2.2.2.1.2.1.length / 1)], [.sb ty_sapi_Count 0 (List.take ((p.2.2.2.1.1.length / 1) * 1) p.2.2.2.1.1), .sb ty_string 0 (List.take ((p.2.2.2.1.2.1.length / 1) * 1) p.2.2.2.1.2.1)], none⟩) := by kernel_rfl
/- slices.Clone[[]synoptic/api.Count,synoptic/api.Count] -/
theorem eq_slices_Clone_sapi_Count_api_Count (fu d : Nat) (n0 : Nat) (a0 : List C) :
    cl fu (d + 1) fn_slices_Clone_sapi_Count_api_Count [V.c (C.sl n0 a0)] [] = (
    bif Nat.beq n0 0 then
      same (
        some ⟨V.c (C.sl 0 ([])), [], none⟩) (
        need (Nat.beq (n0 * 3) a0.length) <|
        need ((Nat.ble ((0 + n0) * 32) 140737488355328) && (Nat.ble (0 + n0) 140737488355328)) <|
        need (Nat.ble (0 + ((0 + n0) * 3)) a0.length) <|
        some ⟨V.c (C.sl (0 + n0) (List.take ((0 + n0) * 3) a0)), [], none⟩)
    else
      need (Nat.beq (n0 * 3) a0.length) <|
      need ((Nat.ble ((0 + n0) * 32) 140737488355328) && (Nat.ble (0 + n0) 140737488355328)) <|
      need (Nat.ble (0 + ((0 + n0) * 3)) a0.length) <|
      some ⟨V.c (C.sl (0 + n0) (List.take ((0 + n0) * 3) a0)), [], none⟩) := by kernel_rfl
/- synoptic/blacklist.sums -/
theorem eq_blacklist_sums (fu d : Nat) (a0_0 : C) (a0_1 : C) :
    cl fu (d + 1) fn_blacklist_sums [V.agg ([a0_0, a0_1])] [] = (
    asSl a0_1 fun n cs =>
    (iter (fun (y : Int × (List (List C × List C)) × Unit) =>
      bif decide (y.1 < ((n : Nat) : Int)) then
        asSl a0_1 fun n1 cs1 =>
        need (inR y.1 n1) <|
        unc (List.drop (y.1.toNat * 1) cs1) fun c _ =>
        asS c fun s =>
        (mfd ty_string ([C.v (.string s)]) y.2.1).bind fun q =>
        some (0, (IntKind.i64.wrap (y.1 + 1), mput y.2.1 q ([C.v (.string s)]) ([C.v (.string (⟨#[]⟩)), C.v (.int .i64 0), C.v (.int .i64 0)]), ()))
      else
        some (1, (y.1, y.2.1, ()))) fu (0, [], ())).bind fun p =>
    asSl a0_0 fun n2 cs2 =>
    (iter (fun (y1 : Int × (List (List C × List C)) × Unit) =>
      bif decide (y1.1 < ((n2 : Nat) : Int)) then
        asSl a0_0 fun n3 cs3 =>
        need (inR y1.1 n3) <|
        unc (List.drop (y1.1.toNat * 1) cs3) fun c1 _ =>
        asSl c1 fun n4 cs4 =>
        (iter (fun (y2 : Int × (List (List C × List C)) × Unit) =>
          bif decide (y2.1 < ((n4 : Nat) : Int)) then
            asSl c1 fun n5 cs5 =>
            need (inR y2.1 n5) <|
            unc (List.drop (y2.1.toNat * 3) cs5) fun c2 r2 =>
            asS c2 fun s1 =>
            unc r2 fun c3 r3 =>
            asI .i64 c3 fun i =>
            unc r3 fun c4 _ =>
            asI .i64 c4 fun i1 =>
            (mfd ty_string ([C.v (.string s1)]) y2.2.1).bind fun q1 =>
            unc (orZ q1 ([C.v (.string (⟨#[]⟩)), C.v (.int .i64 0), C.v (.int .i64 0)])) fun c5 r5 =>
            asS c5 fun s2 =>
            unc r5 fun c6 r6 =>
            asI .i64 c6 fun i2 =>
            unc r6 fun c7 _ =>
            asI .i64 c7 fun i3 =>
            (mfd ty_string ([C.v (.string s1)]) y2.2.1).bind fun q2 =>
            some (0, (IntKind.i64.wrap (y2.1 + 1), mput y2.2.1 q2 ([C.v (.string s1)]) ([C.v (.string s2), C.v (.int .i64 (IntKind.i64.wrap (i2 + i))), C.v (.int .i64 (IntKind.i64.wrap (i3 + i1)))]), ()))
          else
            some (1, (y2.1, y2.2.1, ()))) fu (0, y1.2.1, ())).bind fun p1 =>
        some (0, (IntKind.i64.wrap (y1.1 + 1), p1.2.2.1, ()))
      else
        some (1, (y1.1, y1.2.1, ()))) fu (0, p.2.2.1, ())).bind fun p2 =>
    some ⟨V.c (C.mp ty_string ty_api_Count none (some 3) p2.2.2.1), [], none⟩) := by kernel_rfl
/- slices.Contains[[]string,string] -/
theorem eq_slices_Contains_sstring_string (fu d : Nat) (n0 : Nat) (a0 : List C) (a1 : ByteArray) :
    cl fu (d + 1) fn_slices_Contains_sstring_string [V.c (C.sl n0 a0), V.c (C.v (.string a1))] [] = (
    (cl fu d fn_slices_Index_sstring_string [V.c (C.sl n0 a0), V.c (C.v (.string a1))] []).bind fun out =>
    rC out.r fun c =>
    asI .i64 c fun i =>
    some ⟨B (decide (i ≥ 0)), [], none⟩) := by kernel_rfl
/- synoptic/synopticref05.Name -/
theorem eq_synopticref05_Name (fu d : Nat) (a0 : ByteArray) :
    cl fu (d + 1) fn_synopticref05_Name [V.c (C.v (.string a0))] [] = (
    (iter (fun (y : Bool × Int × Unit) =>
      bif decide (y.2.1 < ((a0.size : Nat) : Int)) then
        need (inR y.2.1 a0.size) <|
        bif decide (((a0.data.getD y.2.1.toNat 0).toNat : Int) ≥ 65) then
          need (inR y.2.1 a0.size) <|
          bif decide (((a0.data.getD y.2.1.toNat 0).toNat : Int) ≤ 90) then
            some (0, (y.1, IntKind.i64.wrap (y.2.1 + 1), ()))
          else
            need (inR y.2.1 a0.size) <|
            bif decide (((a0.data.getD y.2.1.toNat 0).toNat : Int) ≥ 48) then
              need (inR y.2.1 a0.size) <|
              bif !(decide (((a0.data.getD y.2.1.toNat 0).toNat : Int) ≤ 57)) then
                some (2, (false, y.2.1, ()))
              else
                some (0, (y.1, IntKind.i64.wrap (y.2.1 + 1), ()))
            else
              some (2, (false, y.2.1, ()))
        else
          need (inR y.2.1 a0.size) <|
          bif decide (((a0.data.getD y.2.1.toNat 0).toNat : Int) ≥ 48) then
            need (inR y.2.1 a0.size) <|
            bif !(decide (((a0.data.getD y.2.1.toNat 0).toNat : Int) ≤ 57)) then
              some (2, (false, y.2.1, ()))
            else
              some (0, (y.1, IntKind.i64.wrap (y.2.1 + 1), ()))
          else
            some (2, (false, y.2.1, ()))
      else
        some (1, (y.1, y.2.1, ()))) fu (false, 0, ())).bind fun p =>
    natD p.1 (
      some ⟨B (((a0.size : Nat) : Int) == 5), [], none⟩) fun m =>
    some ⟨B p.2.1, [], none⟩) := by kernel_rfl
/- synoptic/synopticref19.sameCounts -/
theorem eq_synopticref19_sameCounts (fu d : Nat) (n0 : Nat) (a0 : List C) (n1 : Nat) (a1 : List C) :
    cl fu (d + 1) fn_synopticref19_sameCounts [V.c (C.sl n0 a0), V.c (C.sl n1 a1)] [] = (
    bif ((n0 : Nat) : Int) != ((n1 : Nat) : Int) then
      some ⟨B false, [], none⟩
    else
      (iter (fun (y : Bool × Int × Unit) =>
        bif decide (y.2.1 < ((n0 : Nat) : Int)) then
          need (inR y.2.1 n0) <|
          unc (List.drop (y.2.1.toNat * 3) a0) fun c r =>
          asS c fun s =>
          unc r fun c1 r1 =>
          asI .i64 c1 fun i =>
          unc r1 fun c2 _ =>
          asI .i64 c2 fun i1 =>
          need (inR y.2.1 n1) <|
          unc (List.drop (y.2.1.toNat * 3) a1) fun c3 r3 =>
          asS c3 fun s1 =>
          unc r3 fun c4 r4 =>
          asI .i64 c4 fun i2 =>
          unc r4 fun c5 _ =>
          asI .i64 c5 fun i3 =>
          bif !((s.toList == s1.toList) && ((i == i2) && ((i1 == i3) && true))) then
            some (2, (false, y.2.1, ()))
          else
            some (0, (y.1, IntKind.i64.wrap (y.2.1 + 1), ()))
        else
          some (1, (y.1, y.2.1, ()))) fu (false, 0, ())).bind fun p =>
      natD p.1 (
        some ⟨B true, [], none⟩) fun m =>
      some ⟨B p.2.1, [], none⟩) := by kernel_rfl
/- synoptic/synopticref19.in -/
theorem eq_synopticref19_in (fu d : Nat) (n0 : Nat) (a0 : List C) (a1 : ByteArray) :
    cl fu (d + 1) fn_synopticref19_in [V.c (C.sl n0 a0), V.c (C.v (.string a1))] [] = (
    (iter (fun (y : Bool × Int × Unit) =>
      bif decide (y.2.1 < ((n0 : Nat) : Int)) then
        need (inR y.2.1 n0) <|
        unc (List.drop (y.2.1.toNat * 1) a0) fun c _ =>
        asS c fun s =>
        bif s.toList == a1.toList then
          some (2, (true, y.2.1, ()))
        else
          some (0, (y.1, IntKind.i64.wrap (y.2.1 + 1), ()))
      else
        some (1, (y.1, y.2.1, ()))) fu (false, 0, ())).bind fun p =>
    natD p.1 (
      some ⟨B false, [], none⟩) fun m =>
    some ⟨B p.2.1, [], none⟩) := by kernel_rfl
/- (*synoptic/synoptickeep.Src).Raw -/
theorem eq_synoptickeep_Src_Raw (fu d : Nat) (a0_0 : C) (a0_1 : Int) :
    cl fu (d + 1) fn_synoptickeep_Src_Raw [V.ptr 1000000 0] [.ob ty_synoptickeep_Src 0 ([a0_0, C.v (.int .i64 a0_1)])] = (
    asSl a0_0 fun n cs =>
    bif decide (a0_1 ≥ ((n : Nat) : Int)) then
      some ⟨I 0, [.ob ty_synoptickeep_Src 0 ([a0_0, C.v (.int .i64 a0_1)])], none⟩
    else
      asSl a0_0 fun n1 cs1 =>
      need (inR (IntKind.i64.wrap ((IntKind.i64.wrap (a0_1 + 1)) - 1)) n1) <|
      unc (List.drop (((IntKind.i64.wrap ((IntKind.i64.wrap (a0_1 + 1)) - 1)).toNat) * 1) cs1) fun c _ =>
      asI .i64 c fun i =>
      some ⟨I i, [.ob ty_synoptickeep_Src 0 ([a0_0, C.v (.int .i64 (IntKind.i64.wrap (a0_1 + 1)))])], none⟩) := by kernel_rfl
/- synoptic/synopticref19.put -/
theorem eq_synopticref19_put (fu d : Nat) (n0 : Nat) (a0 : List C) (a1 : ByteArray) :
    cl fu (d + 1) fn_synopticref19_put [V.c (C.sl n0 a0), V.c (C.v (.string a1))] [] = (
    (iter (fun (y : Int × Unit) =>
      bif decide (y.1 < ((n0 : Nat) : Int)) then
        need (inR y.1 n0) <|
        unc (List.drop (y.1.toNat * 1) a0) fun c _ =>
        asS c fun s =>
        bif Op.bytesLess s.toList a1.toList then
          some (0, (IntKind.i64.wrap (y.1 + 1), ()))
        else
          some (1, (y.1, ()))
      else
        some (1, (y.1, ()))) fu (0, ())).bind fun p =>
    bif decide (p.2.1 < ((n0 : Nat) : Int)) then
      need (inR p.2.1 n0) <|
      unc (List.drop (p.2.1.toNat * 1) a0) fun c1 _ =>
      asS c1 fun s1 =>
      bif s1.toList == a1.toList then
        some ⟨V.c (C.sl n0 a0), [], none⟩
      else
        need ((decide (0 ≤ p.2.1)) && (decide (p.2.1 ≤ ((n0 : Nat) : Int)))) <|
        need (Nat.beq (p.2.1.toNat * 1) ((List.take (p.2.1.toNat * 1) a0).length)) <|
        need ((Nat.ble ((0 + p.2.1.toNat) * 16) 140737488355328) && (Nat.ble (0 + p.2.1.toNat) 140737488355328)) <|
        need ((((Nat.beq ((0 + p.2.1.toNat) * 1) ((List.take (p.2.1.toNat * 1) a0).length)) && true) && (Nat.ble (((0 + p.2.1.toNat) + 1) * 16) 140737488355328)) && (Nat.ble ((0 + p.2.1.toNat) + 1) 140737488355328)) <|
        need ((decide (0 ≤ p.2.1)) && (decide (p.2.1 ≤ ((n0 : Nat) : Int)))) <|
        need (Nat.beq ((n0 - p.2.1.toNat) * 1) ((List.take ((n0 - p.2.1.toNat) * 1) (List.drop (p.2.1.toNat * 1) a0)).length)) <|
        need ((((Nat.beq (((0 + p.2.1.toNat) + 1) * 1) (((List.take (p.2.1.toNat * 1) a0) ++ ([C.v (.string a1)])).length)) && true) && (Nat.ble ((((0 + p.2.1.toNat) + 1) + (n0 - p.2.1.toNat)) * 16) 140737488355328)) && (Nat.ble (((0 + p.2.1.toNat) + 1) + (n0 - p.2.1.toNat)) 140737488355328)) <|
        need (Nat.ble (0 + ((((0 + p.2.1.toNat) + 1) + (n0 - p.2.1.toNat)) * 1)) ((((List.take (p.2.1.toNat * 1) a0) ++ ([C.v (.string a1)])) ++ (List.take ((n0 - p.2.1.toNat) * 1) (List.drop (p.2.1.toNat * 1) a0))).length)) <|
        some ⟨V.c (C.sl (((0 + p.2.1.toNat) + 1) + (n0 - p.2.1.toNat)) (List.take ((((0 + p.2.1.toNat) + 1) + (n0 - p.2.1.toNat)) * 1) (((List.take (p.2.1.toNat * 1) a0) ++ ([C.v (.string a1)])) ++ (List.take ((n0 - p.2.1.toNat) * 1) (List.drop (p.2.1.toNat * 1) a0))))), [], none⟩
    else
      need ((decide (0 ≤ p.2.1)) && (decide (p.2.1 ≤ ((n0 : Nat) : Int)))) <|
      need (Nat.beq (p.2.1.toNat * 1) ((List.take (p.2.1.toNat * 1) a0).length)) <|
      need ((Nat.ble ((0 + p.2.1.toNat) * 16) 140737488355328) && (Nat.ble (0 + p.2.1.toNat) 140737488355328)) <|
      need ((((Nat.beq ((0 + p.2.1.toNat) * 1) ((List.take (p.2.1.toNat * 1) a0).length)) && true) && (Nat.ble (((0 + p.2.1.toNat) + 1) * 16) 140737488355328)) && (Nat.ble ((0 + p.2.1.toNat) + 1) 140737488355328)) <|
      need ((decide (0 ≤ p.2.1)) && (decide (p.2.1 ≤ ((n0 : Nat) : Int)))) <|
      need (Nat.beq ((n0 - p.2.1.toNat) * 1) ((List.take ((n0 - p.2.1.toNat) * 1) (List.drop (p.2.1.toNat * 1) a0)).length)) <|
      need ((((Nat.beq (((0 + p.2.1.toNat) + 1) * 1) (((List.take (p.2.1.toNat * 1) a0) ++ ([C.v (.string a1)])).length)) && true) && (Nat.ble ((((0 + p.2.1.toNat) + 1) + (n0 - p.2.1.toNat)) * 16) 140737488355328)) && (Nat.ble (((0 + p.2.1.toNat) + 1) + (n0 - p.2.1.toNat)) 140737488355328)) <|
      need (Nat.ble (0 + ((((0 + p.2.1.toNat) + 1) + (n0 - p.2.1.toNat)) * 1)) ((((List.take (p.2.1.toNat * 1) a0) ++ ([C.v (.string a1)])) ++ (List.take ((n0 - p.2.1.toNat) * 1) (List.drop (p.2.1.toNat * 1) a0))).length)) <|
      some ⟨V.c (C.sl (((0 + p.2.1.toNat) + 1) + (n0 - p.2.1.toNat)) (List.take ((((0 + p.2.1.toNat) + 1) + (n0 - p.2.1.toNat)) * 1) (((List.take (p.2.1.toNat * 1) a0) ++ ([C.v (.string a1)])) ++ (List.take ((n0 - p.2.1.toNat) * 1) (List.drop (p.2.1.toNat * 1) a0))))), [], none⟩) := by kernel_rfl
/- synoptic/synopticref19.put -/
theorem eqn0_synopticref19_put (fu d : Nat) (a1 : ByteArray) :
    cl fu (d + 1) fn_synopticref19_put [V.c C.nl, V.c (C.v (.string a1))] [] = (
    (iter (fun (y : Int × Unit) =>
      bif decide (y.1 < 0) then
        need (inR y.1 0) <|
        unc (List.drop (y.1.toNat * 1) ([] : List C)) fun c _ =>
        asS c fun s =>
        bif Op.bytesLess s.toList a1.toList then
          some (0, (IntKind.i64.wrap (y.1 + 1), ()))
        else
          some (1, (y.1, ()))
      else
        some (1, (y.1, ()))) fu (0, ())).bind fun p =>
    bif decide (p.2.1 < 0) then
      need (inR p.2.1 0) <|
      unc (List.drop (p.2.1.toNat * 1) ([] : List C)) fun c1 _ =>
      asS c1 fun s1 =>
      bif s1.toList == a1.toList then
        some ⟨V.c C.nl, [], none⟩
      else
        need ((decide (0 ≤ p.2.1)) && (decide (p.2.1 ≤ ((0 : Nat) : Int)))) <|
        need ((decide (0 ≤ p.2.1)) && (decide (p.2.1 ≤ ((0 : Nat) : Int)))) <|
        some ⟨V.c (C.sl 1 ([C.v (.string a1)])), [], none⟩
    else
      need ((decide (0 ≤ p.2.1)) && (decide (p.2.1 ≤ ((0 : Nat) : Int)))) <|
      need ((decide (0 ≤ p.2.1)) && (decide (p.2.1 ≤ ((0 : Nat) : Int)))) <|
      some ⟨V.c (C.sl 1 ([C.v (.string a1)])), [], none⟩) := by kernel_rfl
/- slices.ContainsFunc[[][]synoptic/api.Count,[]synoptic/api.Count] -/
theorem eq_slices_ContainsFunc_ssapi_Count_sapi_Count (fu d : Nat) (n0 : Nat) (a0 : List C) (k1 : Nat) :
    cl fu (d + 1) fn_slices_ContainsFunc_ssapi_Count_sapi_Count [V.c (C.sl n0 a0), V.c (C.fn k1 ([]))] [] = (
    (cl fu d fn_slices_IndexFunc_ssapi_Count_sapi_Count [V.c (C.sl n0 a0), V.c (C.fn k1 ([]))] []).bind fun out =>
    rC out.r fun c =>
    asI .i64 c fun i =>
    some ⟨B (decide (i ≥ 0)), [], none⟩) := by kernel_rfl
/- slices.ContainsFunc[[][]synoptic/api.Count,[]synoptic/api.Count] -/
theorem eq1_slices_ContainsFunc_ssapi_Count_sapi_Count (fu d : Nat) (n0 : Nat) (a0 : List C) (k1 : Nat) (a1_0 : C) :
    cl fu (d + 1) fn_slices_ContainsFunc_ssapi_Count_sapi_Count [V.c (C.sl n0 a0), V.c (C.fn k1 ([a1_0]))] [] = (
    (cl fu d fn_slices_IndexFunc_ssapi_Count_sapi_Count [V.c (C.sl n0 a0), V.c (C.fn k1 ([a1_0]))] []).bind fun out =>
    rC out.r fun c =>
    asI .i64 c fun i =>
    some ⟨B (decide (i ≥ 0)), [], none⟩) := by kernel_rfl
/- synoptic/blacklist.Validate$1 -/
theorem eq_blacklist_Validate_1 (fu d : Nat) (n0 : Nat) (a0 : List C) :
    cl fu (d + 1) fn_blacklist_Validate_1 [V.c (C.sl n0 a0)] [] = (
    some ⟨B (decide (((n0 : Nat) : Int) > 150)), [], none⟩) := by kernel_rfl
/- synoptic/blacklist.Validate$2 -/
theorem eq_blacklist_Validate_2 (fu d : Nat) (a0 : ByteArray) :
    cl fu (d + 1) fn_blacklist_Validate_2 [V.c (C.v (.string a0))] [] = (
    (cl fu d fn_group_Name [V.c (C.v (.string a0))] []).bind fun out =>
    rC out.r fun c =>
    asB c fun b =>
    some ⟨B (!b), [], none⟩) := by kernel_rfl
/- synoptic/group.Name -/
theorem eq_group_Name (fu d : Nat) (a0 : ByteArray) :
    cl fu (d + 1) fn_group_Name [V.c (C.v (.string a0))] [] = (
    bif ((a0.size : Nat) : Int) == 5 then
      (cl fu d fn_strings_ContainsFunc [V.c (C.v (.string a0)), V.c (C.fn fn_group_Name_1 ([]))] []).bind fun out =>
      rC out.r fun c =>
      asB c fun b =>
      some ⟨B (!b), [], none⟩
    else
      some ⟨B false, [], none⟩) := by kernel_rfl
/- synoptic/blacklist.some -/
theorem eq_blacklist_some (fu d : Nat) (a0_0 : C) (a0_1 : C) (k1 : Nat) :
    cl fu (d + 1) fn_blacklist_some [V.agg ([a0_0, a0_1]), V.c (C.fn k1 ([]))] [] = (
    need (noYl [V.c (nrm a0_0)]) <|
    (cl fu d fn_slices_ContainsFunc_ssapi_Count_sapi_Count [V.c (nrm a0_0), V.c (C.fn fn_blacklist_some_1 ([C.cp ([C.fn k1 ([])])]))] []).bind fun out =>
    rC out.r fun c =>
    asB c fun b =>
    some ⟨B b, [], none⟩) := by kernel_rfl
/- synoptic/blacklist.some -/
theorem eq1_blacklist_some (fu d : Nat) (a0_0 : C) (a0_1 : C) (k1 : Nat) (a1_0 : C) :
    cl fu (d + 1) fn_blacklist_some [V.agg ([a0_0, a0_1]), V.c (C.fn k1 ([a1_0]))] [] = (
    need (noYl [V.c (nrm a0_0)]) <|
    (cl fu d fn_slices_ContainsFunc_ssapi_Count_sapi_Count [V.c (nrm a0_0), V.c (C.fn fn_blacklist_some_1 ([C.cp ([C.fn k1 ([a1_0])])]))] []).bind fun out =>
    rC out.r fun c =>
    asB c fun b =>
    some ⟨B b, [], none⟩) := by kernel_rfl
/- synoptic/blacklist.Validate$3 -/
theorem eq_blacklist_Validate_3 (fu d : Nat) (a0_0 : ByteArray) (a0_1 : Int) (a0_2 : Int) (ke0 : Nat) :
    cl fu (d + 1) fn_blacklist_Validate_3 [V.agg ([C.v (.string a0_0), C.v (.int .i64 a0_1), C.v (.int .i64 a0_2)]), V.c (C.cp ([C.fn ke0 ([])]))] [] = (
    (cl fu d ke0 [V.c (C.v (.string a0_0))] []).bind fun out =>
    rC out.r fun c =>
    asB c fun b =>
    some ⟨B b, [], none⟩) := by kernel_rfl
/- slices.ContainsFunc[[]string,string] -/
theorem eq_slices_ContainsFunc_sstring_string (fu d : Nat) (n0 : Nat) (a0 : List C) (k1 : Nat) :
    cl fu (d + 1) fn_slices_ContainsFunc_sstring_string [V.c (C.sl n0 a0), V.c (C.fn k1 ([]))] [] = (
    (cl fu d fn_slices_IndexFunc_sstring_string [V.c (C.sl n0 a0), V.c (C.fn k1 ([]))] []).bind fun out =>
    rC out.r fun c =>
    asI .i64 c fun i =>
    some ⟨B (decide (i ≥ 0)), [], none⟩) := by kernel_rfl
/- synoptic/blacklist.Validate$4 -/
theorem eq_blacklist_Validate_4 (fu d : Nat) (a0_0 : ByteArray) (a0_1 : Int) (a0_2 : Int) :
    cl fu (d + 1) fn_blacklist_Validate_4 [V.agg ([C.v (.string a0_0), C.v (.int .i64 a0_1), C.v (.int .i64 a0_2)])] [] = (
    (cl fu d fn_blacklist_valid [V.agg ([C.v (.string a0_0), C.v (.int .i64 a0_1), C.v (.int .i64 a0_2)])] []).bind fun out =>
    rC out.r fun c =>
    asB c fun b =>
    some ⟨B (!b), [], none⟩) := by kernel_rfl
/- synoptic/blacklist.valid -/
theorem eq_blacklist_valid (fu d : Nat) (a0_0 : ByteArray) (a0_1 : Int) (a0_2 : Int) :
    cl fu (d + 1) fn_blacklist_valid [V.agg ([C.v (.string a0_0), C.v (.int .i64 a0_1), C.v (.int .i64 a0_2)])] [] = (
    bif decide (a0_1 ≥ 0) then
      bif decide (a0_1 ≤ 100000) then
        bif decide (a0_2 ≥ 0) then
          some ⟨B (decide (a0_2 ≤ a0_1)), [], none⟩
        else
          some ⟨B false, [], none⟩
      else
        some ⟨B false, [], none⟩
    else
      some ⟨B false, [], none⟩) := by kernel_rfl
/- synoptic/blacklist.ascending -/
theorem eq_blacklist_ascending (fu d : Nat) (n0 : Nat) (a0 : List C) :
    cl fu (d + 1) fn_blacklist_ascending [V.c (C.sl n0 a0)] [] = (
    (iter (fun (y : Bool × Int × Unit) =>
      bif decide (y.2.1 < ((n0 : Nat) : Int)) then
        need (inR (IntKind.i64.wrap (y.2.1 - 1)) n0) <|
        unc (List.drop (((IntKind.i64.wrap (y.2.1 - 1)).toNat) * 1) a0) fun c _ =>
        asS c fun s =>
        need (inR y.2.1 n0) <|
        unc (List.drop (y.2.1.toNat * 1) a0) fun c1 _ =>
        asS c1 fun s1 =>
        bif !(Op.bytesLess s.toList s1.toList) then
          some (2, (false, y.2.1, ()))
        else
          some (0, (y.1, IntKind.i64.wrap (y.2.1 + 1), ()))
      else
        some (1, (y.1, y.2.1, ()))) fu (false, 1, ())).bind fun p =>
    natD p.1 (
      some ⟨B true, [], none⟩) fun m =>
    some ⟨B p.2.1, [], none⟩) := by kernel_rfl
/- synoptic/blacklist.Validate$5 -/
theorem eq_blacklist_Validate_5 (fu d : Nat) (n0 : Nat) (a0 : List C) :
    cl fu (d + 1) fn_blacklist_Validate_5 [V.c (C.sl n0 a0)] [] = (
    (cl fu d fn_blacklist_names [V.c (C.sl n0 a0)] []).bind fun out =>
    rC out.r fun c =>
    need (noYl [V.c (nrm c)]) <|
    (cl fu d fn_blacklist_ascending [V.c (nrm c)] []).bind fun out1 =>
    rC out1.r fun c1 =>
    asB c1 fun b =>
    some ⟨B (!b), [], none⟩) := by kernel_rfl
/- synoptic/blacklist.names -/
theorem eq_blacklist_names (fu d : Nat) (n0 : Nat) (a0 : List C) :
    cl fu (d + 1) fn_blacklist_names [V.c (C.sl n0 a0)] [] = (
    (iter (fun (y : List C × Int × Unit) =>
      bif decide (y.2.1 < ((n0 : Nat) : Int)) then
        need (inR y.2.1 n0) <|
        unc (List.drop (y.2.1.toNat * 3) a0) fun c r =>
        asS c fun s =>
        unc r fun c1 r1 =>
        asI .i64 c1 fun i =>
        unc r1 fun c2 _ =>
        asI .i64 c2 fun i1 =>
        need ((((Nat.beq ((y.1.length / 1) * 1) y.1.length) && true) && (Nat.ble (((y.1.length / 1) + 1) * 16) 140737488355328)) && (Nat.ble ((y.1.length / 1) + 1) 140737488355328)) <|
        need (((Nat.beq (((y.1.length / 1) + 1) * 1) ((y.1 ++ ([C.v (.string s)])).length)) && true) && true) <|
        some (0, (y.1 ++ ([C.v (.string s)]), IntKind.i64.wrap (y.2.1 + 1), ()))
      else
        need (((Nat.beq ((y.1.length / 1) * 1) y.1.length) && true) && true) <|
        some (1, (y.1, y.2.1, ()))) fu ([], 0, ())).bind fun p =>
    need (Nat.ble (0 + ((p.2.1.length / 1) * 1)) p.2.1.length) <|
    some ⟨V.c (C.sl (p.2.1.length / 1) (List.take ((p.2.1.length / 1) * 1) p.2.1)), [], none⟩) := by kernel_rfl
/- slices.Clone[[]string,string] -/
theorem eq_slices_Clone_sstring_string (fu d : Nat) (n0 : Nat) (a0 : List C) :
    cl fu (d + 1) fn_slices_Clone_sstring_string [V.c (C.sl n0 a0)] [] = (
    bif Nat.beq n0 0 then
      same (
        some ⟨V.own 1000000 0 0, [.sb ty_string 0 ([])], none⟩) (
        need (Nat.beq (n0 * 1) a0.length) <|
        need ((Nat.ble ((0 + n0) * 16) 140737488355328) && (Nat.ble (0 + n0) 140737488355328)) <|
        need (((Nat.ble ((0 + n0) * 1) a0.length) && true) && true) <|
        some ⟨V.own 1000000 0 (0 + n0), [.sb ty_string 0 (List.take ((0 + n0) * 1) a0)], none⟩)
    else
      need (Nat.beq (n0 * 1) a0.length) <|
      need ((Nat.ble ((0 + n0) * 16) 140737488355328) && (Nat.ble (0 + n0) 140737488355328)) <|
      need (((Nat.ble ((0 + n0) * 1) a0.length) && true) && true) <|
      some ⟨V.own 1000000 0 (0 + n0), [.sb ty_string 0 (List.take ((0 + n0) * 1) a0)], none⟩) := by kernel_rfl
/- slices.Index[[]string,string] -/
theorem eq_slices_Index_sstring_string (fu d : Nat) (n0 : Nat) (a0 : List C) (a1 : ByteArray) :
    cl fu (d + 1) fn_slices_Index_sstring_string [V.c (C.sl n0 a0), V.c (C.v (.string a1))] [] = (
    (iter (fun (y : Int × Int × Unit) =>
      bif decide (y.2.1 < ((n0 : Nat) : Int)) then
        need (inR y.2.1 n0) <|
        unc (List.drop (y.2.1.toNat * 1) a0) fun c _ =>
        asS c fun s =>
        bif a1.toList == s.toList then
          some (2, (y.2.1, y.2.1, ()))
        else
          some (0, (y.1, IntKind.i64.wrap (y.2.1 + 1), ()))
      else
        some (1, (y.1, y.2.1, ()))) fu (0, 0, ())).bind fun p =>
    natD p.1 (
      some ⟨I (-1), [], none⟩) fun m =>
    some ⟨I p.2.1, [], none⟩) := by kernel_rfl
/- slices.IndexFunc[[][]synoptic/api.Count,[]synoptic/api.Count] -/
theorem eq_slices_IndexFunc_ssapi_Count_sapi_Count (fu d : Nat) (n0 : Nat) (a0 : List C) (k1 : Nat) :
    cl fu (d + 1) fn_slices_IndexFunc_ssapi_Count_sapi_Count [V.c (C.sl n0 a0), V.c (C.fn k1 ([]))] [] = (
    (iter (fun (y : Int × Int × Unit) =>
      bif decide (y.2.1 < ((n0 : Nat) : Int)) then
        need (inR y.2.1 n0) <|
        unc (List.drop (y.2.1.toNat * 1) a0) fun c r =>
        need (noYl [V.c c]) <|
        (cl fu d k1 [V.c c] []).bind fun out =>
        rC out.r fun c1 =>
        asB c1 fun b =>
        bif b then
          some (2, (y.2.1, y.2.1, ()))
        else
          some (0, (y.1, IntKind.i64.wrap (y.2.1 + 1), ()))
      else
        some (1, (y.1, y.2.1, ()))) fu (0, 0, ())).bind fun p =>
    natD p.1 (
      some ⟨I (-1), [], none⟩) fun m =>
    some ⟨I p.2.1, [], none⟩) := by kernel_rfl
/- slices.IndexFunc[[][]synoptic/api.Count,[]synoptic/api.Count] -/
theorem eq1_slices_IndexFunc_ssapi_Count_sapi_Count (fu d : Nat) (n0 : Nat) (a0 : List C) (k1 : Nat) (a1_0 : C) :
    cl fu (d + 1) fn_slices_IndexFunc_ssapi_Count_sapi_Count [V.c (C.sl n0 a0), V.c (C.fn k1 ([a1_0]))] [] = (
    (iter (fun (y : Int × Int × Unit) =>
      bif decide (y.2.1 < ((n0 : Nat) : Int)) then
        need (inR y.2.1 n0) <|
        unc (List.drop (y.2.1.toNat * 1) a0) fun c r =>
        need (noYl [V.c c]) <|
        (cl fu d k1 [V.c c, V.c a1_0] []).bind fun out =>
        rC out.r fun c1 =>
        asB c1 fun b =>
        bif b then
          some (2, (y.2.1, y.2.1, ()))
        else
          some (0, (y.1, IntKind.i64.wrap (y.2.1 + 1), ()))
      else
        some (1, (y.1, y.2.1, ()))) fu (0, 0, ())).bind fun p =>
    natD p.1 (
      some ⟨I (-1), [], none⟩) fun m =>
    some ⟨I p.2.1, [], none⟩) := by kernel_rfl
/- synoptic/blacklist.some$1 -/
theorem eq_blacklist_some_1 (fu d : Nat) (n0 : Nat) (a0 : List C) (e0 : List C) :
    cl fu (d + 1) fn_blacklist_some_1 [V.c (C.sl n0 a0), V.c (C.cp e0)] [] = (
    unc e0 fun c r =>
    (cl fu d fn_slices_ContainsFunc_sapi_Count_api_Count [V.c (C.sl n0 a0), V.c c] []).bind fun out =>
    rC out.r fun c1 =>
    asB c1 fun b =>
    some ⟨B b, [], none⟩) := by kernel_rfl
/- slices.ContainsFunc[[]synoptic/api.Count,synoptic/api.Count] -/
theorem eq_slices_ContainsFunc_sapi_Count_api_Count (fu d : Nat) (n0 : Nat) (a0 : List C) (k1 : Nat) :
    cl fu (d + 1) fn_slices_ContainsFunc_sapi_Count_api_Count [V.c (C.sl n0 a0), V.c (C.fn k1 ([]))] [] = (
    (cl fu d fn_slices_IndexFunc_sapi_Count_api_Count [V.c (C.sl n0 a0), V.c (C.fn k1 ([]))] []).bind fun out =>
    rC out.r fun c =>
    asI .i64 c fun i =>
    some ⟨B (decide (i ≥ 0)), [], none⟩) := by kernel_rfl
/- slices.ContainsFunc[[]synoptic/api.Count,synoptic/api.Count] -/
theorem eq1_slices_ContainsFunc_sapi_Count_api_Count (fu d : Nat) (n0 : Nat) (a0 : List C) (k1 : Nat) (a1_0 : C) :
    cl fu (d + 1) fn_slices_ContainsFunc_sapi_Count_api_Count [V.c (C.sl n0 a0), V.c (C.fn k1 ([a1_0]))] [] = (
    (cl fu d fn_slices_IndexFunc_sapi_Count_api_Count [V.c (C.sl n0 a0), V.c (C.fn k1 ([a1_0]))] []).bind fun out =>
    rC out.r fun c =>
    asI .i64 c fun i =>
    some ⟨B (decide (i ≥ 0)), [], none⟩) := by kernel_rfl
/- slices.IndexFunc[[]string,string] -/
theorem eq_slices_IndexFunc_sstring_string (fu d : Nat) (n0 : Nat) (a0 : List C) (k1 : Nat) :
    cl fu (d + 1) fn_slices_IndexFunc_sstring_string [V.c (C.sl n0 a0), V.c (C.fn k1 ([]))] [] = (
    (iter (fun (y : Int × Int × Unit) =>
      bif decide (y.2.1 < ((n0 : Nat) : Int)) then
        need (inR y.2.1 n0) <|
        unc (List.drop (y.2.1.toNat * 1) a0) fun c r =>
        asS c fun s =>
        (cl fu d k1 [V.c (C.v (.string s))] []).bind fun out =>
        rC out.r fun c1 =>
        asB c1 fun b =>
        bif b then
          some (2, (y.2.1, y.2.1, ()))
        else
          some (0, (y.1, IntKind.i64.wrap (y.2.1 + 1), ()))
      else
        some (1, (y.1, y.2.1, ()))) fu (0, 0, ())).bind fun p =>
    natD p.1 (
      some ⟨I (-1), [], none⟩) fun m =>
    some ⟨I p.2.1, [], none⟩) := by kernel_rfl
/- slices.IndexFunc[[]synoptic/api.Count,synoptic/api.Count] -/
theorem eq_slices_IndexFunc_sapi_Count_api_Count (fu d : Nat) (n0 : Nat) (a0 : List C) (k1 : Nat) :
    cl fu (d + 1) fn_slices_IndexFunc_sapi_Count_api_Count [V.c (C.sl n0 a0), V.c (C.fn k1 ([]))] [] = (
    (iter (fun (y : Int × Int × Unit) =>
      bif decide (y.2.1 < ((n0 : Nat) : Int)) then
        need (inR y.2.1 n0) <|
        unc (List.drop (y.2.1.toNat * 3) a0) fun c r =>
        asS c fun s =>
        unc r fun c1 r1 =>
        asI .i64 c1 fun i =>
        unc r1 fun c2 _ =>
        asI .i64 c2 fun i1 =>
        (cl fu d k1 [V.agg ([C.v (.string s), C.v (.int .i64 i), C.v (.int .i64 i1)])] []).bind fun out =>
        rC out.r fun c3 =>
        asB c3 fun b =>
        bif b then
          some (2, (y.2.1, y.2.1, ()))
        else
          some (0, (y.1, IntKind.i64.wrap (y.2.1 + 1), ()))
      else
        some (1, (y.1, y.2.1, ()))) fu (0, 0, ())).bind fun p =>
    natD p.1 (
      some ⟨I (-1), [], none⟩) fun m =>
    some ⟨I p.2.1, [], none⟩) := by kernel_rfl
/- slices.IndexFunc[[]synoptic/api.Count,synoptic/api.Count] -/
theorem eq1_slices_IndexFunc_sapi_Count_api_Count (fu d : Nat) (n0 : Nat) (a0 : List C) (k1 : Nat) (a1_0 : C) :
    cl fu (d + 1) fn_slices_IndexFunc_sapi_Count_api_Count [V.c (C.sl n0 a0), V.c (C.fn k1 ([a1_0]))] [] = (
    (iter (fun (y : Int × Int × Unit) =>
      bif decide (y.2.1 < ((n0 : Nat) : Int)) then
        need (inR y.2.1 n0) <|
        unc (List.drop (y.2.1.toNat * 3) a0) fun c r =>
        asS c fun s =>
        unc r fun c1 r1 =>
        asI .i64 c1 fun i =>
        unc r1 fun c2 _ =>
        asI .i64 c2 fun i1 =>
        (cl fu d k1 [V.agg ([C.v (.string s), C.v (.int .i64 i), C.v (.int .i64 i1)]), V.c a1_0] []).bind fun out =>
        rC out.r fun c3 =>
        asB c3 fun b =>
        bif b then
          some (2, (y.2.1, y.2.1, ()))
        else
          some (0, (y.1, IntKind.i64.wrap (y.2.1 + 1), ()))
      else
        some (1, (y.1, y.2.1, ()))) fu (0, 0, ())).bind fun p =>
    natD p.1 (
      some ⟨I (-1), [], none⟩) fun m =>
    some ⟨I p.2.1, [], none⟩) := by kernel_rfl
end Go.Proofs.Ytofalpngdbinbaa
