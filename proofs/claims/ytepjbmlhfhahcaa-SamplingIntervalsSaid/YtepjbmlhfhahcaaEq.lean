/- What the program's functions come to. -/
import Derived.Test.YtepjbmlhfhahcaaLay
set_option linter.unusedVariables false
set_option linter.unusedSimpArgs false
namespace Go.Proofs.Ytepjbmlhfhahcaa
open Go Go.PM
set_option maxRecDepth 100000
/- synoptic/synopticlaw39.SamplingExact -/
theorem eq_synopticlaw39_SamplingExact (fu d : Nat) (n0 : Nat) (a0 : List C) :
    cl fu (d + 1) fn_synopticlaw39_SamplingExact [V.c (C.sl n0 a0)] [] = (
    (cl fu d fn_synopticlaw39_awake [] []).bind fun out =>
    rC out.r fun c =>
    asB c fun b =>
    bif !b then
      some ⟨B false, [], none⟩
    else
      (cl fu d fn_synopticfield_New [V.c (C.sl n0 a0), I 40] []).bind fun out1 =>
      rP out1.r 0 <|
      uncO out1.objs fun o os =>
      rN o ty_synopticfield_Codes 2 fun cs =>
      unc cs fun c1 r =>
      unc r fun c2 _ =>
      asI .i64 c2 fun i =>
      (cl fu d fn_synopticlaw39_sample [V.ptr 1000000 0, I 6] [.ob ty_synopticfield_Codes 0 ([c1, C.v (.int .i64 i)])]).bind fun out2 =>
      uncO out2.objs fun o1 os1 =>
      rO o1 ty_synopticfield_Codes 0 fun cs1 =>
      need ((Nat.beq cs1.length 2) && true) <|
      unc cs1 fun c3 r2 =>
      unc r2 fun c4 _ =>
      asI .i64 c4 fun i1 =>
      rC out2.r fun c5 =>
      (iter (fun (y : Bool × List C × Int × Unit) =>
        asSl c5 fun n cs2 =>
        need (!(decide (IntKind.u64.wrap ((n : Nat) : Int) < 0))) <|
        bif decide (y.2.2.1 < IntKind.i64.wrap (1 * 2 ^ (min (IntKind.u64.wrap ((n : Nat) : Int)).toNat (IntKind.bits .i64)))) then
          asSl c5 fun n1 cs3 =>
          need (Nat.beq (n1 * 1) cs3.length) <|
          need ((Nat.ble (n1 * 8) 140737488355328) && (Nat.ble n1 140737488355328)) <|
          need (((Nat.beq ((y.2.1.length / 2) * 2) y.2.1.length) && true) && true) <|
          need (((Nat.beq (n1 * 1) cs3.length) && true) && true) <|
          (iter (fun (y1 : List C × List C × Int × Unit) =>
            bif decide (y1.2.2.1 < ((n1 : Nat) : Int)) then
              need (!(decide (IntKind.u64.wrap y1.2.2.1 < 0))) <|
              bd (IntKind.i64.wrap (BitVec.ofInt (IntKind.bits .i64) (Int.fdiv y.2.2.1 (2 ^ (min (IntKind.u64.wrap y1.2.2.1).toNat (IntKind.bits .i64)))) &&& BitVec.ofInt (IntKind.bits .i64) 1).toNat) fun z =>
              bif z == 1 then
                need (inR y1.2.2.1 (y1.2.1.length / 1)) <|
                unc (List.drop (0 + (y1.2.2.1.toNat * 1)) y1.2.1) fun c6 _ =>
                asI .i64 c6 fun i2 =>
                need (inR y1.2.2.1 (y1.2.1.length / 1)) <|
                need (((Nat.ble 0 (0 + (y1.2.2.1.toNat * 1))) && (Nat.ble ((0 + (y1.2.2.1.toNat * 1)) + 1) y1.2.1.length)) && true) <|
                need (((Nat.beq ((y1.1.length / 2) * 2) y1.1.length) && true) && true) <|
                need (((Nat.beq ((y1.2.1.length / 1) * 1) ((putAt y1.2.1 (0 + (y1.2.2.1.toNat * 1)) ([C.v (.int .i64 (IntKind.i64.wrap (0 - i2)))])).length)) && true) && true) <|
                some (0, (y1.1, putAt y1.2.1 (0 + (y1.2.2.1.toNat * 1)) ([C.v (.int .i64 (IntKind.i64.wrap (0 - i2)))]), IntKind.i64.wrap (y1.2.2.1 + 1), ()))
              else
                need (((Nat.beq ((y1.1.length / 2) * 2) y1.1.length) && true) && true) <|
                need (((Nat.beq ((y1.2.1.length / 1) * 1) y1.2.1.length) && true) && true) <|
                some (0, (y1.1, y1.2.1, IntKind.i64.wrap (y1.2.2.1 + 1), ()))
            else
              need (((Nat.beq ((y1.1.length / 2) * 2) y1.1.length) && true) && true) <|
              need (((Nat.beq ((y1.2.1.length / 1) * 1) y1.2.1.length) && true) && true) <|
              some (1, (y1.1, y1.2.1, y1.2.2.1, ()))) fu (y.2.1, cs3, 0, ())).bind fun p =>
          need (Nat.ble (0 + ((p.2.2.1.length / 1) * 1)) p.2.2.1.length) <|
          (cl fu d fn_sampling_Signs [V.c (C.sl (p.2.2.1.length / 1) (List.take ((p.2.2.1.length / 1) * 1) p.2.2.1))] []).bind fun out3 =>
          rT out3.r fun xs =>
          uncV xs fun x ys =>
          rA x fun cs4 =>
          need (Nat.beq cs4.length 2) <|
          unc cs4 fun c7 r5 =>
          asI .i64 c7 fun i3 =>
          unc r5 fun c8 _ =>
          asI .i64 c8 fun i4 =>
          uncV ys fun x1 ys1 =>
          rC x1 fun c9 =>
          asI .i64 c9 fun i5 =>
          nilV ys1 <|
          bif i5 != 0 then
            need (((Nat.beq ((p.2.1.length / 2) * 2) p.2.1.length) && true) && true) <|
            some (2, (false, p.2.1, y.2.2.1, ()))
          else
            need ((((Nat.beq ((p.2.1.length / 2) * 2) p.2.1.length) && true) && (Nat.ble (((p.2.1.length / 2) + 1) * 16) 140737488355328)) && (Nat.ble ((p.2.1.length / 2) + 1) 140737488355328)) <|
            need (((Nat.beq (((p.2.1.length / 2) + 1) * 2) ((p.2.1 ++ ([C.v (.int .i64 i3), C.v (.int .i64 i4)])).length)) && true) && true) <|
            some (0, (y.1, p.2.1 ++ ([C.v (.int .i64 i3), C.v (.int .i64 i4)]), IntKind.i64.wrap (y.2.2.1 + 1), ()))
        else
          need (((Nat.beq ((y.2.1.length / 2) * 2) y.2.1.length) && true) && true) <|
          some (1, (y.1, y.2.1, y.2.2.1, ()))) fu (false, [], 0, ())).bind fun p1 =>
      natD p1.1 (
        need (Nat.ble (0 + ((p1.2.2.1.length / 2) * 2)) p1.2.2.1.length) <|
        need (Nat.ble (0 + ((p1.2.2.1.length / 2) * 2)) p1.2.2.1.length) <|
        (iter (fun (y2 : Bool × Int × Unit) =>
          bif decide (y2.2.1 < ((p1.2.2.1.length / 2 : Nat) : Int)) then
            need (inR y2.2.1 (p1.2.2.1.length / 2)) <|
            unc (List.drop (y2.2.1.toNat * 2) (List.take ((p1.2.2.1.length / 2) * 2) p1.2.2.1)) fun c10 r7 =>
            asI .i64 c10 fun i6 =>
            unc r7 fun c11 _ =>
            asI .i64 c11 fun i7 =>
            (iter (fun (y3 : Int × Int × (Int × Int × Unit) × Unit) =>
              bif decide (y3.2.1 < ((p1.2.2.1.length / 2 : Nat) : Int)) then
                need (inR y3.2.1 (p1.2.2.1.length / 2)) <|
                unc (List.drop (y3.2.1.toNat * 2) (List.take ((p1.2.2.1.length / 2) * 2) p1.2.2.1)) fun c12 r9 =>
                asI .i64 c12 fun i8 =>
                unc r9 fun c13 _ =>
                asI .i64 c13 fun i9 =>
                (cl fu d fn_score_Compare [V.agg ([C.v (.int .i64 i8), C.v (.int .i64 i9)]), V.agg ([C.v (.int .i64 y3.2.2.1.1), C.v (.int .i64 y3.2.2.1.2.1)])] []).bind fun out4 =>
                rC out4.r fun c14 =>
                asI .i64 c14 fun i10 =>
                bif decide (i10 ≤ 0) then
                  some (0, (IntKind.i64.wrap (y3.1 + 1), IntKind.i64.wrap (y3.2.1 + 1), (y3.2.2.1.1, y3.2.2.1.2.1, ()), ()))
                else
                  some (0, (y3.1, IntKind.i64.wrap (y3.2.1 + 1), (y3.2.2.1.1, y3.2.2.1.2.1, ()), ()))
              else
                some (1, (y3.1, y3.2.1, (y3.2.2.1.1, y3.2.2.1.2.1, ()), ()))) fu (0, 0, (i6, i7, ()), ())).bind fun p2 =>
            (cl fu d fn_score_Compare [V.agg ([C.v (.int .i64 p2.2.1), C.v (.int .i64 ((p1.2.2.1.length / 2 : Nat) : Int))]), V.agg ([C.v (.int .i64 p2.2.2.2.1.1), C.v (.int .i64 p2.2.2.2.1.2.1)])] []).bind fun out5 =>
            rC out5.r fun c15 =>
            asI .i64 c15 fun i11 =>
            bif decide (i11 > 0) then
              some (2, (false, y2.2.1, ()))
            else
              some (0, (y2.1, IntKind.i64.wrap (y2.2.1 + 1), ()))
          else
            some (1, (y2.1, y2.2.1, ()))) fu (p1.2.1, 0, ())).bind fun p3 =>
        natD p3.1 (
          some ⟨B true, [], none⟩) fun m1 =>
        some ⟨B p3.2.1, [], none⟩) fun m =>
      some ⟨B p1.2.1, [], none⟩) := by kernel_rfl
/- synoptic/synopticlaw39.SamplingTests -/
theorem eq_synopticlaw39_SamplingTests (fu d : Nat) (n0 : Nat) (a0 : List C) (n1 : Nat) (a1 : List C) (n2 : Nat) (a2 : List C) :
    cl fu (d + 1) fn_synopticlaw39_SamplingTests [V.c (C.sl n0 a0), V.c (C.sl n1 a1), V.c (C.sl n2 a2)] [] = (
    (cl fu d fn_synopticlaw39_awake [] []).bind fun out =>
    rC out.r fun c =>
    asB c fun b =>
    bif !b then
      some ⟨B false, [], none⟩
    else
      bif decide (((n0 : Nat) : Int) > 20) then
        some ⟨B true, [], none⟩
      else
        bif decide (((n1 : Nat) : Int) > 20) then
          some ⟨B true, [], none⟩
        else
          (cl fu d fn_synopticfield_New [V.c (C.sl n2 a2), I 60] []).bind fun out1 =>
          rP out1.r 0 <|
          uncO out1.objs fun o os =>
          rN o ty_synopticfield_Codes 2 fun cs =>
          unc cs fun c1 r =>
          unc r fun c2 _ =>
          asI .i64 c2 fun i =>
          (cl fu d fn_synopticlaw39_sample [V.ptr 1000000 0, I 6] [.ob ty_synopticfield_Codes 0 ([c1, C.v (.int .i64 i)])]).bind fun out2 =>
          uncO out2.objs fun o1 os1 =>
          rO o1 ty_synopticfield_Codes 0 fun cs1 =>
          need ((Nat.beq cs1.length 2) && true) <|
          unc cs1 fun c3 r2 =>
          unc r2 fun c4 _ =>
          asI .i64 c4 fun i1 =>
          rC out2.r fun c5 =>
          (cl fu d fn_synopticlaw39_sample [V.ptr 1000000 0, I 5] [.ob ty_synopticfield_Codes 0 ([c3, C.v (.int .i64 i1)])]).bind fun out3 =>
          uncO out3.objs fun o2 os2 =>
          rO o2 ty_synopticfield_Codes 0 fun cs2 =>
          need ((Nat.beq cs2.length 2) && true) <|
          unc cs2 fun c6 r4 =>
          unc r4 fun c7 _ =>
          asI .i64 c7 fun i2 =>
          rC out3.r fun c8 =>
          (iter (fun (y : Bool × Int × Unit) =>
            bif decide (y.2.1 < 4) then
              need (inR y.2.1 4) <|
              need (Nat.ble 2 ((List.drop (y.2.1.toNat * 2) ([C.sl n0 a0, C.sl n1 a1, c5, c8, c5, C.nl, C.nl, c8])).length)) <|
              need ((((Nat.beq ((List.take 2 (List.drop (y.2.1.toNat * 2) ([C.sl n0 a0, C.sl n1 a1, c5, c8, c5, C.nl, C.nl, c8]))).length) 2) && true) && (Nat.ble (0 + ((List.take 2 (List.drop (y.2.1.toNat * 2) ([C.sl n0 a0, C.sl n1 a1, c5, c8, c5, C.nl, C.nl, c8]))).length)) 2)) && true) <|
              unc (putAt ([C.nl, C.nl]) 0 (List.take 2 (List.drop (y.2.1.toNat * 2) ([C.sl n0 a0, C.sl n1 a1, c5, c8, c5, C.nl, C.nl, c8])))) fun c9 _ =>
              need (noYl [V.c (nrm c9)]) <|
              (cl fu d fn_sampling_Signs [V.c (nrm c9)] []).bind fun out4 =>
              rT out4.r fun xs =>
              uncV xs fun x ys =>
              rA x fun cs3 =>
              need (Nat.beq cs3.length 2) <|
              unc cs3 fun c10 r7 =>
              asI .i64 c10 fun i3 =>
              unc r7 fun c11 _ =>
              asI .i64 c11 fun i4 =>
              uncV ys fun x1 ys1 =>
              rC x1 fun c12 =>
              asI .i64 c12 fun i5 =>
              nilV ys1 <|
              unc (putAt ([C.nl, C.nl]) 0 (List.take 2 (List.drop (y.2.1.toNat * 2) ([C.sl n0 a0, C.sl n1 a1, c5, c8, c5, C.nl, C.nl, c8])))) fun c13 _ =>
              need (noYl [V.c (nrm c13)]) <|
              (cl fu d fn_synopticref39_Signs [V.c (nrm c13)] []).bind fun out5 =>
              rT out5.r fun xs1 =>
              uncV xs1 fun x2 ys2 =>
              rA x2 fun cs4 =>
              need (Nat.beq cs4.length 2) <|
              unc cs4 fun c14 r10 =>
              asI .i64 c14 fun i6 =>
              unc r10 fun c15 _ =>
              asI .i64 c15 fun i7 =>
              uncV ys2 fun x3 ys3 =>
              rC x3 fun c16 =>
              asI .i64 c16 fun i8 =>
              nilV ys3 <|
              unc (putAt ([C.nl, C.nl]) 0 (List.take 2 (List.drop (y.2.1.toNat * 2) ([C.sl n0 a0, C.sl n1 a1, c5, c8, c5, C.nl, C.nl, c8])))) fun c17 _ =>
              unc (List.drop 1 (putAt ([C.nl, C.nl]) 0 (List.take 2 (List.drop (y.2.1.toNat * 2) ([C.sl n0 a0, C.sl n1 a1, c5, c8, c5, C.nl, C.nl, c8]))))) fun c18 _ =>
              need (noYl [V.c (nrm c17)]) <|
              (cl fu d fn_sampling_Exchange [V.c (nrm c17), V.c (nrm c18)] []).bind fun out6 =>
              rT out6.r fun xs2 =>
              uncV xs2 fun x4 ys4 =>
              rA x4 fun cs5 =>
              need (Nat.beq cs5.length 2) <|
              unc cs5 fun c19 r14 =>
              asI .i64 c19 fun i9 =>
              unc r14 fun c20 _ =>
              asI .i64 c20 fun i10 =>
              uncV ys4 fun x5 ys5 =>
              rC x5 fun c21 =>
              asI .i64 c21 fun i11 =>
              nilV ys5 <|
              unc (putAt ([C.nl, C.nl]) 0 (List.take 2 (List.drop (y.2.1.toNat * 2) ([C.sl n0 a0, C.sl n1 a1, c5, c8, c5, C.nl, C.nl, c8])))) fun c22 _ =>
              unc (List.drop 1 (putAt ([C.nl, C.nl]) 0 (List.take 2 (List.drop (y.2.1.toNat * 2) ([C.sl n0 a0, C.sl n1 a1, c5, c8, c5, C.nl, C.nl, c8]))))) fun c23 _ =>
              need (noYl [V.c (nrm c22)]) <|
              (cl fu d fn_synopticref39_Exchange [V.c (nrm c22), V.c (nrm c23)] []).bind fun out7 =>
              rT out7.r fun xs3 =>
              uncV xs3 fun x6 ys6 =>
              rA x6 fun cs6 =>
              need (Nat.beq cs6.length 2) <|
              unc cs6 fun c24 r18 =>
              asI .i64 c24 fun i12 =>
              unc r18 fun c25 _ =>
              asI .i64 c25 fun i13 =>
              uncV ys6 fun x7 ys7 =>
              rC x7 fun c26 =>
              asI .i64 c26 fun i14 =>
              nilV ys7 <|
              bif i5 != i8 then
                some (2, (false, y.2.1, ()))
              else
                bif !((i3 == i6) && ((i4 == i7) && true)) then
                  some (2, (false, y.2.1, ()))
                else
                  bif i11 != i14 then
                    some (2, (false, y.2.1, ()))
                  else
                    bif !((i9 == i12) && ((i10 == i13) && true)) then
                      some (2, (false, y.2.1, ()))
                    else
                      some (0, (y.1, IntKind.i64.wrap (y.2.1 + 1), ()))
            else
              some (1, (y.1, y.2.1, ()))) fu (false, 0, ())).bind fun p =>
          natD p.1 (
            some ⟨B true, [], none⟩) fun m =>
          some ⟨B p.2.1, [], none⟩) := by kernel_rfl
/- synoptic/synopticlaw39.SamplingExchanges -/
theorem eq_synopticlaw39_SamplingExchanges (fu d : Nat) (n0 : Nat) (a0 : List C) (a1 : Int) :
    cl fu (d + 1) fn_synopticlaw39_SamplingExchanges [V.c (C.sl n0 a0), V.c (C.v (.int .u8 a1))] [] = (
    (cl fu d fn_synopticlaw39_awake [] []).bind fun out =>
    rC out.r fun c =>
    asB c fun b =>
    bif !b then
      some ⟨B false, [], none⟩
    else
      (cl fu d fn_synopticfield_New [V.c (C.sl n0 a0), I 40] []).bind fun out1 =>
      rP out1.r 0 <|
      uncO out1.objs fun o os =>
      rN o ty_synopticfield_Codes 2 fun cs =>
      unc cs fun c1 r =>
      unc r fun c2 _ =>
      asI .i64 c2 fun i =>
      (cl fu d fn_synopticlaw39_sample [V.ptr 1000000 0, I 7] [.ob ty_synopticfield_Codes 0 ([c1, C.v (.int .i64 i)])]).bind fun out2 =>
      uncO out2.objs fun o1 os1 =>
      rO o1 ty_synopticfield_Codes 0 fun cs1 =>
      need ((Nat.beq cs1.length 2) && true) <|
      unc cs1 fun c3 r2 =>
      unc r2 fun c4 _ =>
      asI .i64 c4 fun i1 =>
      rC out2.r fun c5 =>
      asSl c5 fun n cs2 =>
      need (!((IntKind.i64.wrap (((n : Nat) : Int) + 1)) == 0)) <|
      (iter (fun (y : Bool × List C × Int × Unit) =>
        asSl c5 fun n1 cs3 =>
        need (!(decide (IntKind.u64.wrap ((n1 : Nat) : Int) < 0))) <|
        bif decide (y.2.2.1 < IntKind.i64.wrap (1 * 2 ^ (min (IntKind.u64.wrap ((n1 : Nat) : Int)).toNat (IntKind.bits .i64)))) then
          asSl c5 fun n2 cs4 =>
          need (((Nat.beq ((y.2.1.length / 2) * 2) y.2.1.length) && true) && true) <|
          (iter (fun (y1 : List C × List C × List C × Int × Unit) =>
            bif decide (y1.2.2.2.1 < ((n2 : Nat) : Int)) then
              need (!(decide (IntKind.u64.wrap y1.2.2.2.1 < 0))) <|
              bd (IntKind.i64.wrap (BitVec.ofInt (IntKind.bits .i64) (Int.fdiv y.2.2.1 (2 ^ (min (IntKind.u64.wrap y1.2.2.2.1).toNat (IntKind.bits .i64)))) &&& BitVec.ofInt (IntKind.bits .i64) 1).toNat) fun z =>
              bif z == 1 then
                asSl c5 fun n3 cs5 =>
                need (inR y1.2.2.2.1 n3) <|
                unc (List.drop (y1.2.2.2.1.toNat * 1) cs5) fun c6 _ =>
                asI .i64 c6 fun i2 =>
                need ((((Nat.beq ((y1.2.1.length / 1) * 1) y1.2.1.length) && true) && (Nat.ble (((y1.2.1.length / 1) + 1) * 8) 140737488355328)) && (Nat.ble ((y1.2.1.length / 1) + 1) 140737488355328)) <|
                need (((Nat.beq ((y1.1.length / 2) * 2) y1.1.length) && true) && true) <|
                need (((Nat.beq (((y1.2.1.length / 1) + 1) * 1) ((y1.2.1 ++ ([C.v (.int .i64 i2)])).length)) && true) && true) <|
                need (((Nat.beq ((y1.2.2.1.length / 1) * 1) y1.2.2.1.length) && true) && true) <|
                some (0, (y1.1, y1.2.1 ++ ([C.v (.int .i64 i2)]), y1.2.2.1, IntKind.i64.wrap (y1.2.2.2.1 + 1), ()))
              else
                asSl c5 fun n4 cs6 =>
                need (inR y1.2.2.2.1 n4) <|
                unc (List.drop (y1.2.2.2.1.toNat * 1) cs6) fun c7 _ =>
                asI .i64 c7 fun i3 =>
                need ((((Nat.beq ((y1.2.2.1.length / 1) * 1) y1.2.2.1.length) && true) && (Nat.ble (((y1.2.2.1.length / 1) + 1) * 8) 140737488355328)) && (Nat.ble ((y1.2.2.1.length / 1) + 1) 140737488355328)) <|
                need (((Nat.beq ((y1.1.length / 2) * 2) y1.1.length) && true) && true) <|
                need (((Nat.beq ((y1.2.1.length / 1) * 1) y1.2.1.length) && true) && true) <|
                need (((Nat.beq (((y1.2.2.1.length / 1) + 1) * 1) ((y1.2.2.1 ++ ([C.v (.int .i64 i3)])).length)) && true) && true) <|
                some (0, (y1.1, y1.2.1, y1.2.2.1 ++ ([C.v (.int .i64 i3)]), IntKind.i64.wrap (y1.2.2.2.1 + 1), ()))
            else
              need (((Nat.beq ((y1.1.length / 2) * 2) y1.1.length) && true) && true) <|
              need (((Nat.beq ((y1.2.1.length / 1) * 1) y1.2.1.length) && true) && true) <|
              need (((Nat.beq ((y1.2.2.1.length / 1) * 1) y1.2.2.1.length) && true) && true) <|
              some (1, (y1.1, y1.2.1, y1.2.2.1, y1.2.2.2.1, ()))) fu (y.2.1, [], [], 0, ())).bind fun p =>
          bif ((p.2.2.1.length / 1 : Nat) : Int) != (Int.tmod (IntKind.i64.wrap a1) (IntKind.i64.wrap (((n : Nat) : Int) + 1))) then
            need (((Nat.beq ((p.2.1.length / 2) * 2) p.2.1.length) && true) && true) <|
            some (0, (y.1, p.2.1, IntKind.i64.wrap (y.2.2.1 + 1), ()))
          else
            need (Nat.ble (0 + ((p.2.2.1.length / 1) * 1)) p.2.2.1.length) <|
            need (Nat.ble (0 + ((p.2.2.2.1.length / 1) * 1)) p.2.2.2.1.length) <|
            (cl fu d fn_sampling_Exchange [V.c (C.sl (p.2.2.1.length / 1) (List.take ((p.2.2.1.length / 1) * 1) p.2.2.1)), V.c (C.sl (p.2.2.2.1.length / 1) (List.take ((p.2.2.2.1.length / 1) * 1) p.2.2.2.1))] []).bind fun out3 =>
            rT out3.r fun xs =>
            uncV xs fun x ys =>
            rA x fun cs7 =>
            need (Nat.beq cs7.length 2) <|
            unc cs7 fun c8 r6 =>
            asI .i64 c8 fun i4 =>
            unc r6 fun c9 _ =>
            asI .i64 c9 fun i5 =>
            uncV ys fun x1 ys1 =>
            rC x1 fun c10 =>
            asI .i64 c10 fun i6 =>
            nilV ys1 <|
            need (Nat.ble (0 + ((p.2.2.2.1.length / 1) * 1)) p.2.2.2.1.length) <|
            need (Nat.ble (0 + ((p.2.2.1.length / 1) * 1)) p.2.2.1.length) <|
            (cl fu d fn_sampling_Exchange [V.c (C.sl (p.2.2.2.1.length / 1) (List.take ((p.2.2.2.1.length / 1) * 1) p.2.2.2.1)), V.c (C.sl (p.2.2.1.length / 1) (List.take ((p.2.2.1.length / 1) * 1) p.2.2.1))] []).bind fun out4 =>
            rT out4.r fun xs1 =>
            uncV xs1 fun x2 ys2 =>
            rA x2 fun cs8 =>
            need (Nat.beq cs8.length 2) <|
            unc cs8 fun c11 r8 =>
            asI .i64 c11 fun i7 =>
            unc r8 fun c12 _ =>
            asI .i64 c12 fun i8 =>
            uncV ys2 fun x3 ys3 =>
            rC x3 fun c13 =>
            asI .i64 c13 fun i9 =>
            nilV ys3 <|
            bif i6 != 0 then
              need (((Nat.beq ((p.2.1.length / 2) * 2) p.2.1.length) && true) && true) <|
              some (2, (false, p.2.1, y.2.2.1, ()))
            else
              bif i9 != 0 then
                need (((Nat.beq ((p.2.1.length / 2) * 2) p.2.1.length) && true) && true) <|
                some (2, (false, p.2.1, y.2.2.1, ()))
              else
                bif !((i4 == i7) && ((i5 == i8) && true)) then
                  need (((Nat.beq ((p.2.1.length / 2) * 2) p.2.1.length) && true) && true) <|
                  some (2, (false, p.2.1, y.2.2.1, ()))
                else
                  need ((((Nat.beq ((p.2.1.length / 2) * 2) p.2.1.length) && true) && (Nat.ble (((p.2.1.length / 2) + 1) * 16) 140737488355328)) && (Nat.ble ((p.2.1.length / 2) + 1) 140737488355328)) <|
                  need (((Nat.beq (((p.2.1.length / 2) + 1) * 2) ((p.2.1 ++ ([C.v (.int .i64 i4), C.v (.int .i64 i5)])).length)) && true) && true) <|
                  some (0, (y.1, p.2.1 ++ ([C.v (.int .i64 i4), C.v (.int .i64 i5)]), IntKind.i64.wrap (y.2.2.1 + 1), ()))
        else
          need (((Nat.beq ((y.2.1.length / 2) * 2) y.2.1.length) && true) && true) <|
          some (1, (y.1, y.2.1, y.2.2.1, ()))) fu (false, [], 0, ())).bind fun p1 =>
      natD p1.1 (
        need (Nat.ble (0 + ((p1.2.2.1.length / 2) * 2)) p1.2.2.1.length) <|
        need (Nat.ble (0 + ((p1.2.2.1.length / 2) * 2)) p1.2.2.1.length) <|
        (iter (fun (y2 : Bool × Int × Unit) =>
          bif decide (y2.2.1 < ((p1.2.2.1.length / 2 : Nat) : Int)) then
            need (inR y2.2.1 (p1.2.2.1.length / 2)) <|
            unc (List.drop (y2.2.1.toNat * 2) (List.take ((p1.2.2.1.length / 2) * 2) p1.2.2.1)) fun c14 r10 =>
            asI .i64 c14 fun i10 =>
            unc r10 fun c15 _ =>
            asI .i64 c15 fun i11 =>
            (iter (fun (y3 : Int × Int × (Int × Int × Unit) × Unit) =>
              bif decide (y3.2.1 < ((p1.2.2.1.length / 2 : Nat) : Int)) then
                need (inR y3.2.1 (p1.2.2.1.length / 2)) <|
                unc (List.drop (y3.2.1.toNat * 2) (List.take ((p1.2.2.1.length / 2) * 2) p1.2.2.1)) fun c16 r12 =>
                asI .i64 c16 fun i12 =>
                unc r12 fun c17 _ =>
                asI .i64 c17 fun i13 =>
                (cl fu d fn_score_Compare [V.agg ([C.v (.int .i64 i12), C.v (.int .i64 i13)]), V.agg ([C.v (.int .i64 y3.2.2.1.1), C.v (.int .i64 y3.2.2.1.2.1)])] []).bind fun out5 =>
                rC out5.r fun c18 =>
                asI .i64 c18 fun i14 =>
                bif decide (i14 ≤ 0) then
                  some (0, (IntKind.i64.wrap (y3.1 + 1), IntKind.i64.wrap (y3.2.1 + 1), (y3.2.2.1.1, y3.2.2.1.2.1, ()), ()))
                else
                  some (0, (y3.1, IntKind.i64.wrap (y3.2.1 + 1), (y3.2.2.1.1, y3.2.2.1.2.1, ()), ()))
              else
                some (1, (y3.1, y3.2.1, (y3.2.2.1.1, y3.2.2.1.2.1, ()), ()))) fu (0, 0, (i10, i11, ()), ())).bind fun p2 =>
            (cl fu d fn_score_Compare [V.agg ([C.v (.int .i64 p2.2.1), C.v (.int .i64 ((p1.2.2.1.length / 2 : Nat) : Int))]), V.agg ([C.v (.int .i64 p2.2.2.2.1.1), C.v (.int .i64 p2.2.2.2.1.2.1)])] []).bind fun out6 =>
            rC out6.r fun c19 =>
            asI .i64 c19 fun i15 =>
            bif decide (i15 > 0) then
              some (2, (false, y2.2.1, ()))
            else
              some (0, (y2.1, IntKind.i64.wrap (y2.2.1 + 1), ()))
          else
            some (1, (y2.1, y2.2.1, ()))) fu (p1.2.1, 0, ())).bind fun p3 =>
        natD p3.1 (
          some ⟨B true, [], none⟩) fun m1 =>
        some ⟨B p3.2.1, [], none⟩) fun m =>
      some ⟨B p1.2.1, [], none⟩) := by kernel_rfl
/- synoptic/synopticlaw39.SamplingIntervals -/
theorem eq_synopticlaw39_SamplingIntervals (fu d : Nat) (n0 : Nat) (a0 : List C) (a1 : Int) (a2 : Int) (a3 : Int) (a4 : Int) :
    cl fu (d + 1) fn_synopticlaw39_SamplingIntervals [V.c (C.sl n0 a0), V.c (C.v (.int .u8 a1)), V.c (C.v (.int .u8 a2)), V.c (C.v (.int .u8 a3)), V.c (C.v (.int .u8 a4))] [] = (
    (cl fu d fn_synopticlaw39_awake [] []).bind fun out =>
    rC out.r fun c =>
    asB c fun b =>
    bif !b then
      some ⟨B false, [], none⟩
    else
      (cl fu d fn_synopticfield_New [V.c (C.sl n0 a0), I 80] []).bind fun out1 =>
      rP out1.r 0 <|
      uncO out1.objs fun o os =>
      rN o ty_synopticfield_Codes 2 fun cs =>
      unc cs fun c1 r =>
      unc r fun c2 _ =>
      asI .i64 c2 fun i =>
      (cl fu d fn_synopticlaw39_sample [V.ptr 1000000 0, I 20] [.ob ty_synopticfield_Codes 0 ([c1, C.v (.int .i64 i)])]).bind fun out2 =>
      uncO out2.objs fun o1 os1 =>
      rO o1 ty_synopticfield_Codes 0 fun cs1 =>
      need ((Nat.beq cs1.length 2) && true) <|
      unc cs1 fun c3 r2 =>
      unc r2 fun c4 _ =>
      asI .i64 c4 fun i1 =>
      rC out2.r fun c5 =>
      (cl fu d fn_synopticlaw39_level [I (IntKind.i64.wrap (if a2 < a1 then a2 else a1))] []).bind fun out3 =>
      rA out3.r fun cs2 =>
      need (Nat.beq cs2.length 2) <|
      unc cs2 fun c6 r4 =>
      asI .i64 c6 fun i2 =>
      unc r4 fun c7 _ =>
      asI .i64 c7 fun i3 =>
      (cl fu d fn_synopticlaw39_level [I (IntKind.i64.wrap (if a2 > a1 then a2 else a1))] []).bind fun out4 =>
      rA out4.r fun cs3 =>
      need (Nat.beq cs3.length 2) <|
      unc cs3 fun c8 r6 =>
      asI .i64 c8 fun i4 =>
      unc r6 fun c9 _ =>
      asI .i64 c9 fun i5 =>
      (cl fu d fn_score_Compare [V.agg ([C.v (.int .i64 i2), C.v (.int .i64 i3)]), V.agg ([C.v (.int .i64 i4), C.v (.int .i64 i5)])] []).bind fun out5 =>
      rC out5.r fun c10 =>
      asI .i64 c10 fun i6 =>
      (bif decide (i6 > 0) then
        some (0, ((i4, i5, ()), (i2, i3, ()), ()))
      else
        some (0, ((i2, i3, ()), (i4, i5, ()), ())) : Option (Nat × (Int × Int × Unit) × (Int × Int × Unit) × Unit)).bind fun p =>
      need (noYl [V.c (nrm c5)]) <|
      (cl fu d fn_sampling_Median [V.c (nrm c5), V.agg ([C.v (.int .i64 p.2.1.1), C.v (.int .i64 p.2.1.2.1)])] []).bind fun out6 =>
      rT out6.r fun xs =>
      uncV xs fun x ys =>
      rC x fun c11 =>
      asI .i64 c11 fun i7 =>
      uncV ys fun x1 ys1 =>
      rC x1 fun c12 =>
      asI .i64 c12 fun i8 =>
      uncV ys1 fun x2 ys2 =>
      rC x2 fun c13 =>
      asI .i64 c13 fun i9 =>
      nilV ys2 <|
      need (noYl [V.c (nrm c5)]) <|
      (cl fu d fn_sampling_Median [V.c (nrm c5), V.agg ([C.v (.int .i64 p.2.2.1.1), C.v (.int .i64 p.2.2.1.2.1)])] []).bind fun out7 =>
      rT out7.r fun xs1 =>
      uncV xs1 fun x3 ys3 =>
      rC x3 fun c14 =>
      asI .i64 c14 fun i10 =>
      uncV ys3 fun x4 ys4 =>
      rC x4 fun c15 =>
      asI .i64 c15 fun i11 =>
      uncV ys4 fun x5 ys5 =>
      rC x5 fun c16 =>
      asI .i64 c16 fun i12 =>
      nilV ys5 <|
      bif i9 == 0 then
        bif decide (i7 > i8) then
          some ⟨B false, [], none⟩
        else
          need (noYl [V.c (nrm c5)]) <|
          (cl fu d fn_synopticlaw39_in [V.c (nrm c5), I i7] []).bind fun out8 =>
          rC out8.r fun c17 =>
          asB c17 fun b1 =>
          bif !b1 then
            some ⟨B false, [], none⟩
          else
            need (noYl [V.c (nrm c5)]) <|
            (cl fu d fn_synopticlaw39_in [V.c (nrm c5), I i8] []).bind fun out9 =>
            rC out9.r fun c18 =>
            asB c18 fun b2 =>
            bif !b2 then
              some ⟨B false, [], none⟩
            else
              bif i12 == 0 then
                bif i9 != 0 then
                  some ⟨B false, [], none⟩
                else
                  bif decide (i10 > i7) then
                    some ⟨B false, [], none⟩
                  else
                    bif decide (i11 < i8) then
                      some ⟨B false, [], none⟩
                    else
                      need (!((IntKind.i64.wrap ((Int.tmod (IntKind.i64.wrap a3) 51) + 2)) == 0)) <|
                      (cl fu d fn_sampling_Tail [I (Int.tmod (IntKind.i64.wrap a3) 51), I (IntKind.i64.wrap ((Int.tmod (IntKind.i64.wrap a4) (IntKind.i64.wrap ((Int.tmod (IntKind.i64.wrap a3) 51) + 2))) - 1))] []).bind fun out10 =>
                      rT out10.r fun xs2 =>
                      uncV xs2 fun x6 ys6 =>
                      rA x6 fun cs4 =>
                      need (Nat.beq cs4.length 2) <|
                      unc cs4 fun c19 r8 =>
                      asI .i64 c19 fun i13 =>
                      unc r8 fun c20 _ =>
                      asI .i64 c20 fun i14 =>
                      uncV ys6 fun x7 ys7 =>
                      rC x7 fun c21 =>
                      asI .i64 c21 fun i15 =>
                      nilV ys7 <|
                      bd (IntKind.i64.wrap ((Int.tmod (IntKind.i64.wrap a3) 51) - (Int.tmod (IntKind.i64.wrap a4) (IntKind.i64.wrap ((Int.tmod (IntKind.i64.wrap a3) 51) + 2))))) fun z =>
                      (cl fu d fn_sampling_Tail [I (Int.tmod (IntKind.i64.wrap a3) 51), I z] []).bind fun out11 =>
                      rT out11.r fun xs3 =>
                      uncV xs3 fun x8 ys8 =>
                      rA x8 fun cs5 =>
                      need (Nat.beq cs5.length 2) <|
                      unc cs5 fun c22 r10 =>
                      asI .i64 c22 fun i16 =>
                      unc r10 fun c23 _ =>
                      asI .i64 c23 fun i17 =>
                      uncV ys8 fun x9 ys9 =>
                      rC x9 fun c24 =>
                      asI .i64 c24 fun i18 =>
                      nilV ys9 <|
                      bif decide (i14 < 1) then
                        some ⟨B false, [], none⟩
                      else
                        bif decide (i17 < 1) then
                          some ⟨B false, [], none⟩
                        else
                          need (!(decide (IntKind.u64.wrap (Int.tmod (IntKind.i64.wrap a3) 51) < 0))) <|
                          need (!(i14 == 0)) <|
                          bd (IntKind.i64.wrap (Int.tdiv (IntKind.i64.wrap (1 * 2 ^ (min (IntKind.u64.wrap (Int.tmod (IntKind.i64.wrap a3) 51)).toNat (IntKind.bits .i64)))) i14)) fun z1 =>
                          need (!(decide (IntKind.u64.wrap (Int.tmod (IntKind.i64.wrap a3) 51) < 0))) <|
                          need (!(i17 == 0)) <|
                          bd (IntKind.i64.wrap (Int.tdiv (IntKind.i64.wrap (1 * 2 ^ (min (IntKind.u64.wrap (Int.tmod (IntKind.i64.wrap a3) 51)).toNat (IntKind.bits .i64)))) i17)) fun z2 =>
                          need (!(decide (IntKind.u64.wrap (Int.tmod (IntKind.i64.wrap a3) 51) < 0))) <|
                          (cl fu d fn_score_Reduce [I (IntKind.i64.wrap ((IntKind.i64.wrap (i13 * z1)) + (IntKind.i64.wrap (i16 * z2)))), I (IntKind.i64.wrap (1 * 2 ^ (min (IntKind.u64.wrap (Int.tmod (IntKind.i64.wrap a3) 51)).toNat (IntKind.bits .i64))))] []).bind fun out12 =>
                          rT out12.r fun xs4 =>
                          uncV xs4 fun x10 ys10 =>
                          rA x10 fun cs6 =>
                          need (Nat.beq cs6.length 2) <|
                          unc cs6 fun c25 r12 =>
                          asI .i64 c25 fun i19 =>
                          unc r12 fun c26 _ =>
                          asI .i64 c26 fun i20 =>
                          uncV ys10 fun x11 ys11 =>
                          rC x11 fun c27 =>
                          asI .i64 c27 fun i21 =>
                          nilV ys11 <|
                          bif i15 == 0 then
                            bif i18 == 0 then
                              bif i21 == 0 then
                                some ⟨B ((i19 == 1) && ((i20 == 1) && true)), [], none⟩
                              else
                                some ⟨B false, [], none⟩
                            else
                              some ⟨B false, [], none⟩
                          else
                            some ⟨B false, [], none⟩
              else
                need (!((IntKind.i64.wrap ((Int.tmod (IntKind.i64.wrap a3) 51) + 2)) == 0)) <|
                (cl fu d fn_sampling_Tail [I (Int.tmod (IntKind.i64.wrap a3) 51), I (IntKind.i64.wrap ((Int.tmod (IntKind.i64.wrap a4) (IntKind.i64.wrap ((Int.tmod (IntKind.i64.wrap a3) 51) + 2))) - 1))] []).bind fun out13 =>
                rT out13.r fun xs5 =>
                uncV xs5 fun x12 ys12 =>
                rA x12 fun cs7 =>
                need (Nat.beq cs7.length 2) <|
                unc cs7 fun c28 r14 =>
                asI .i64 c28 fun i22 =>
                unc r14 fun c29 _ =>
                asI .i64 c29 fun i23 =>
                uncV ys12 fun x13 ys13 =>
                rC x13 fun c30 =>
                asI .i64 c30 fun i24 =>
                nilV ys13 <|
                bd (IntKind.i64.wrap ((Int.tmod (IntKind.i64.wrap a3) 51) - (Int.tmod (IntKind.i64.wrap a4) (IntKind.i64.wrap ((Int.tmod (IntKind.i64.wrap a3) 51) + 2))))) fun z3 =>
                (cl fu d fn_sampling_Tail [I (Int.tmod (IntKind.i64.wrap a3) 51), I z3] []).bind fun out14 =>
                rT out14.r fun xs6 =>
                uncV xs6 fun x14 ys14 =>
                rA x14 fun cs8 =>
                need (Nat.beq cs8.length 2) <|
                unc cs8 fun c31 r16 =>
                asI .i64 c31 fun i25 =>
                unc r16 fun c32 _ =>
                asI .i64 c32 fun i26 =>
                uncV ys14 fun x15 ys15 =>
                rC x15 fun c33 =>
                asI .i64 c33 fun i27 =>
                nilV ys15 <|
                bif decide (i23 < 1) then
                  some ⟨B false, [], none⟩
                else
                  bif decide (i26 < 1) then
                    some ⟨B false, [], none⟩
                  else
                    need (!(decide (IntKind.u64.wrap (Int.tmod (IntKind.i64.wrap a3) 51) < 0))) <|
                    need (!(i23 == 0)) <|
                    bd (IntKind.i64.wrap (Int.tdiv (IntKind.i64.wrap (1 * 2 ^ (min (IntKind.u64.wrap (Int.tmod (IntKind.i64.wrap a3) 51)).toNat (IntKind.bits .i64)))) i23)) fun z4 =>
                    need (!(decide (IntKind.u64.wrap (Int.tmod (IntKind.i64.wrap a3) 51) < 0))) <|
                    need (!(i26 == 0)) <|
                    bd (IntKind.i64.wrap (Int.tdiv (IntKind.i64.wrap (1 * 2 ^ (min (IntKind.u64.wrap (Int.tmod (IntKind.i64.wrap a3) 51)).toNat (IntKind.bits .i64)))) i26)) fun z5 =>
                    need (!(decide (IntKind.u64.wrap (Int.tmod (IntKind.i64.wrap a3) 51) < 0))) <|
                    (cl fu d fn_score_Reduce [I (IntKind.i64.wrap ((IntKind.i64.wrap (i22 * z4)) + (IntKind.i64.wrap (i25 * z5)))), I (IntKind.i64.wrap (1 * 2 ^ (min (IntKind.u64.wrap (Int.tmod (IntKind.i64.wrap a3) 51)).toNat (IntKind.bits .i64))))] []).bind fun out15 =>
                    rT out15.r fun xs7 =>
                    uncV xs7 fun x16 ys16 =>
                    rA x16 fun cs9 =>
                    need (Nat.beq cs9.length 2) <|
                    unc cs9 fun c34 r18 =>
                    asI .i64 c34 fun i28 =>
                    unc r18 fun c35 _ =>
                    asI .i64 c35 fun i29 =>
                    uncV ys16 fun x17 ys17 =>
                    rC x17 fun c36 =>
                    asI .i64 c36 fun i30 =>
                    nilV ys17 <|
                    bif i24 == 0 then
                      bif i27 == 0 then
                        bif i30 == 0 then
                          some ⟨B ((i28 == 1) && ((i29 == 1) && true)), [], none⟩
                        else
                          some ⟨B false, [], none⟩
                      else
                        some ⟨B false, [], none⟩
                    else
                      some ⟨B false, [], none⟩
      else
        bif i12 == 0 then
          bif i9 != 0 then
            some ⟨B false, [], none⟩
          else
            bif decide (i10 > i7) then
              some ⟨B false, [], none⟩
            else
              bif decide (i11 < i8) then
                some ⟨B false, [], none⟩
              else
                need (!((IntKind.i64.wrap ((Int.tmod (IntKind.i64.wrap a3) 51) + 2)) == 0)) <|
                (cl fu d fn_sampling_Tail [I (Int.tmod (IntKind.i64.wrap a3) 51), I (IntKind.i64.wrap ((Int.tmod (IntKind.i64.wrap a4) (IntKind.i64.wrap ((Int.tmod (IntKind.i64.wrap a3) 51) + 2))) - 1))] []).bind fun out16 =>
                rT out16.r fun xs8 =>
                uncV xs8 fun x18 ys18 =>
                rA x18 fun cs10 =>
                need (Nat.beq cs10.length 2) <|
                unc cs10 fun c37 r20 =>
                asI .i64 c37 fun i31 =>
                unc r20 fun c38 _ =>
                asI .i64 c38 fun i32 =>
                uncV ys18 fun x19 ys19 =>
                rC x19 fun c39 =>
                asI .i64 c39 fun i33 =>
                nilV ys19 <|
                bd (IntKind.i64.wrap ((Int.tmod (IntKind.i64.wrap a3) 51) - (Int.tmod (IntKind.i64.wrap a4) (IntKind.i64.wrap ((Int.tmod (IntKind.i64.wrap a3) 51) + 2))))) fun z6 =>
                (cl fu d fn_sampling_Tail [I (Int.tmod (IntKind.i64.wrap a3) 51), I z6] []).bind fun out17 =>
                rT out17.r fun xs9 =>
                uncV xs9 fun x20 ys20 =>
                rA x20 fun cs11 =>
                need (Nat.beq cs11.length 2) <|
                unc cs11 fun c40 r22 =>
                asI .i64 c40 fun i34 =>
                unc r22 fun c41 _ =>
                asI .i64 c41 fun i35 =>
                uncV ys20 fun x21 ys21 =>
                rC x21 fun c42 =>
                asI .i64 c42 fun i36 =>
                nilV ys21 <|
                bif decide (i32 < 1) then
                  some ⟨B false, [], none⟩
                else
                  bif decide (i35 < 1) then
                    some ⟨B false, [], none⟩
                  else
                    need (!(decide (IntKind.u64.wrap (Int.tmod (IntKind.i64.wrap a3) 51) < 0))) <|
                    need (!(i32 == 0)) <|
                    bd (IntKind.i64.wrap (Int.tdiv (IntKind.i64.wrap (1 * 2 ^ (min (IntKind.u64.wrap (Int.tmod (IntKind.i64.wrap a3) 51)).toNat (IntKind.bits .i64)))) i32)) fun z7 =>
                    need (!(decide (IntKind.u64.wrap (Int.tmod (IntKind.i64.wrap a3) 51) < 0))) <|
                    need (!(i35 == 0)) <|
                    bd (IntKind.i64.wrap (Int.tdiv (IntKind.i64.wrap (1 * 2 ^ (min (IntKind.u64.wrap (Int.tmod (IntKind.i64.wrap a3) 51)).toNat (IntKind.bits .i64)))) i35)) fun z8 =>
                    need (!(decide (IntKind.u64.wrap (Int.tmod (IntKind.i64.wrap a3) 51) < 0))) <|
                    (cl fu d fn_score_Reduce [I (IntKind.i64.wrap ((IntKind.i64.wrap (i31 * z7)) + (IntKind.i64.wrap (i34 * z8)))), I (IntKind.i64.wrap (1 * 2 ^ (min (IntKind.u64.wrap (Int.tmod (IntKind.i64.wrap a3) 51)).toNat (IntKind.bits .i64))))] []).bind fun out18 =>
                    rT out18.r fun xs10 =>
                    uncV xs10 fun x22 ys22 =>
                    rA x22 fun cs12 =>
                    need (Nat.beq cs12.length 2) <|
                    unc cs12 fun c43 r24 =>
                    asI .i64 c43 fun i37 =>
                    unc r24 fun c44 _ =>
                    asI .i64 c44 fun i38 =>
                    uncV ys22 fun x23 ys23 =>
                    rC x23 fun c45 =>
                    asI .i64 c45 fun i39 =>
                    nilV ys23 <|
                    bif i33 == 0 then
                      bif i36 == 0 then
                        bif i39 == 0 then
                          some ⟨B ((i37 == 1) && ((i38 == 1) && true)), [], none⟩
                        else
                          some ⟨B false, [], none⟩
                      else
                        some ⟨B false, [], none⟩
                    else
                      some ⟨B false, [], none⟩
        else
          need (!((IntKind.i64.wrap ((Int.tmod (IntKind.i64.wrap a3) 51) + 2)) == 0)) <|
          (cl fu d fn_sampling_Tail [I (Int.tmod (IntKind.i64.wrap a3) 51), I (IntKind.i64.wrap ((Int.tmod (IntKind.i64.wrap a4) (IntKind.i64.wrap ((Int.tmod (IntKind.i64.wrap a3) 51) + 2))) - 1))] []).bind fun out19 =>
          rT out19.r fun xs11 =>
          uncV xs11 fun x24 ys24 =>
          rA x24 fun cs13 =>
          need (Nat.beq cs13.length 2) <|
          unc cs13 fun c46 r26 =>
          asI .i64 c46 fun i40 =>
          unc r26 fun c47 _ =>
          asI .i64 c47 fun i41 =>
          uncV ys24 fun x25 ys25 =>
          rC x25 fun c48 =>
          asI .i64 c48 fun i42 =>
          nilV ys25 <|
          bd (IntKind.i64.wrap ((Int.tmod (IntKind.i64.wrap a3) 51) - (Int.tmod (IntKind.i64.wrap a4) (IntKind.i64.wrap ((Int.tmod (IntKind.i64.wrap a3) 51) + 2))))) fun z9 =>
          (cl fu d fn_sampling_Tail [I (Int.tmod (IntKind.i64.wrap a3) 51), I z9] []).bind fun out20 =>
          rT out20.r fun xs12 =>
          uncV xs12 fun x26 ys26 =>
          rA x26 fun cs14 =>
          need (Nat.beq cs14.length 2) <|
          unc cs14 fun c49 r28 =>
          asI .i64 c49 fun i43 =>
          unc r28 fun c50 _ =>
          asI .i64 c50 fun i44 =>
          uncV ys26 fun x27 ys27 =>
          rC x27 fun c51 =>
          asI .i64 c51 fun i45 =>
          nilV ys27 <|
          bif decide (i41 < 1) then
            some ⟨B false, [], none⟩
          else
            bif decide (i44 < 1) then
              some ⟨B false, [], none⟩
            else
              need (!(decide (IntKind.u64.wrap (Int.tmod (IntKind.i64.wrap a3) 51) < 0))) <|
              need (!(i41 == 0)) <|
              bd (IntKind.i64.wrap (Int.tdiv (IntKind.i64.wrap (1 * 2 ^ (min (IntKind.u64.wrap (Int.tmod (IntKind.i64.wrap a3) 51)).toNat (IntKind.bits .i64)))) i41)) fun z10 =>
              need (!(decide (IntKind.u64.wrap (Int.tmod (IntKind.i64.wrap a3) 51) < 0))) <|
              need (!(i44 == 0)) <|
              bd (IntKind.i64.wrap (Int.tdiv (IntKind.i64.wrap (1 * 2 ^ (min (IntKind.u64.wrap (Int.tmod (IntKind.i64.wrap a3) 51)).toNat (IntKind.bits .i64)))) i44)) fun z11 =>
              need (!(decide (IntKind.u64.wrap (Int.tmod (IntKind.i64.wrap a3) 51) < 0))) <|
              (cl fu d fn_score_Reduce [I (IntKind.i64.wrap ((IntKind.i64.wrap (i40 * z10)) + (IntKind.i64.wrap (i43 * z11)))), I (IntKind.i64.wrap (1 * 2 ^ (min (IntKind.u64.wrap (Int.tmod (IntKind.i64.wrap a3) 51)).toNat (IntKind.bits .i64))))] []).bind fun out21 =>
              rT out21.r fun xs13 =>
              uncV xs13 fun x28 ys28 =>
              rA x28 fun cs15 =>
              need (Nat.beq cs15.length 2) <|
              unc cs15 fun c52 r30 =>
              asI .i64 c52 fun i46 =>
              unc r30 fun c53 _ =>
              asI .i64 c53 fun i47 =>
              uncV ys28 fun x29 ys29 =>
              rC x29 fun c54 =>
              asI .i64 c54 fun i48 =>
              nilV ys29 <|
              bif i42 == 0 then
                bif i45 == 0 then
                  bif i48 == 0 then
                    some ⟨B ((i46 == 1) && ((i47 == 1) && true)), [], none⟩
                  else
                    some ⟨B false, [], none⟩
                else
                  some ⟨B false, [], none⟩
              else
                some ⟨B false, [], none⟩) := by kernel_rfl
/- synoptic/synopticlaw39.SamplingCounts -/
theorem eq_synopticlaw39_SamplingCounts (fu d : Nat) (a0 : Int) (a1 : Int) (a2_0 : Int) (a2_1 : Int) (n3 : Nat) (a3 : List C) (n4 : Nat) (a4 : List C) :
    cl fu (d + 1) fn_synopticlaw39_SamplingCounts [I a0, I a1, V.agg ([C.v (.int .i64 a2_0), C.v (.int .i64 a2_1)]), V.c (C.sl n3 a3), V.c (C.sl n4 a4)] [] = (
    (cl fu d fn_synopticlaw39_awake [] []).bind fun out =>
    rC out.r fun c =>
    asB c fun b =>
    bif !b then
      some ⟨B false, [], none⟩
    else
      bif decide (((n3 : Nat) : Int) > 70) then
        some ⟨B true, [], none⟩
      else
        (cl fu d fn_synopticfield_New [V.c (C.sl n4 a4), I 120] []).bind fun out1 =>
        rP out1.r 0 <|
        uncO out1.objs fun o os =>
        rN o ty_synopticfield_Codes 2 fun cs =>
        unc cs fun c1 r =>
        unc r fun c2 _ =>
        asI .i64 c2 fun i =>
        (cl fu d fn_synopticfield_Mod [I a0, I 63] []).bind fun out2 =>
        rC out2.r fun c3 =>
        asI .i64 c3 fun i1 =>
        (cl fu d fn_synopticfield_Mod [I a1, I 40] []).bind fun out3 =>
        rC out3.r fun c4 =>
        asI .i64 c4 fun i2 =>
        (iter (fun (y : Bool × Int × (C × Int × Unit) × Unit) =>
          bif decide (y.2.1 < 2) then
            need (inR y.2.1 2) <|
            need (Nat.ble 2 ((List.drop (y.2.1.toNat * 2) ([C.v (.int .i64 a0), C.v (.int .i64 a1), C.v (.int .i64 i1), C.v (.int .i64 (IntKind.i64.wrap (i2 - 2)))])).length)) <|
            need ((((Nat.beq ((List.take 2 (List.drop (y.2.1.toNat * 2) ([C.v (.int .i64 a0), C.v (.int .i64 a1), C.v (.int .i64 i1), C.v (.int .i64 (IntKind.i64.wrap (i2 - 2)))]))).length) 2) && true) && (Nat.ble (0 + ((List.take 2 (List.drop (y.2.1.toNat * 2) ([C.v (.int .i64 a0), C.v (.int .i64 a1), C.v (.int .i64 i1), C.v (.int .i64 (IntKind.i64.wrap (i2 - 2)))]))).length)) 2)) && true) <|
            bd (putAt ([C.v (.int .i64 0), C.v (.int .i64 0)]) 0 (List.take 2 (List.drop (y.2.1.toNat * 2) ([C.v (.int .i64 a0), C.v (.int .i64 a1), C.v (.int .i64 i1), C.v (.int .i64 (IntKind.i64.wrap (i2 - 2)))])))) fun cs1 =>
            unc cs1 fun c5 _ =>
            asI .i64 c5 fun i3 =>
            unc (List.drop 1 cs1) fun c6 _ =>
            asI .i64 c6 fun i4 =>
            (cl fu d fn_sampling_Choose [I i3, I i4] []).bind fun out4 =>
            rT out4.r fun xs =>
            uncV xs fun x ys =>
            rC x fun c7 =>
            asI .i64 c7 fun i5 =>
            uncV ys fun x1 ys1 =>
            rC x1 fun c8 =>
            asI .i64 c8 fun i6 =>
            nilV ys1 <|
            unc cs1 fun c9 _ =>
            asI .i64 c9 fun i7 =>
            unc (List.drop 1 cs1) fun c10 _ =>
            asI .i64 c10 fun i8 =>
            (cl fu d fn_synopticref39_Choose [I i7, I i8] []).bind fun out5 =>
            rT out5.r fun xs1 =>
            uncV xs1 fun x2 ys2 =>
            rC x2 fun c11 =>
            asI .i64 c11 fun i9 =>
            uncV ys2 fun x3 ys3 =>
            rC x3 fun c12 =>
            asI .i64 c12 fun i10 =>
            nilV ys3 <|
            unc cs1 fun c13 _ =>
            asI .i64 c13 fun i11 =>
            unc (List.drop 1 cs1) fun c14 _ =>
            asI .i64 c14 fun i12 =>
            (cl fu d fn_sampling_Tail [I i11, I i12] []).bind fun out6 =>
            rT out6.r fun xs2 =>
            uncV xs2 fun x4 ys4 =>
            rA x4 fun cs2 =>
            need (Nat.beq cs2.length 2) <|
            unc cs2 fun c15 r8 =>
            asI .i64 c15 fun i13 =>
            unc r8 fun c16 _ =>
            asI .i64 c16 fun i14 =>
            uncV ys4 fun x5 ys5 =>
            rC x5 fun c17 =>
            asI .i64 c17 fun i15 =>
            nilV ys5 <|
            unc cs1 fun c18 _ =>
            asI .i64 c18 fun i16 =>
            unc (List.drop 1 cs1) fun c19 _ =>
            asI .i64 c19 fun i17 =>
            (cl fu d fn_synopticref39_Tail [I i16, I i17] []).bind fun out7 =>
            rT out7.r fun xs3 =>
            uncV xs3 fun x6 ys6 =>
            rA x6 fun cs3 =>
            need (Nat.beq cs3.length 2) <|
            unc cs3 fun c20 r12 =>
            asI .i64 c20 fun i18 =>
            unc r12 fun c21 _ =>
            asI .i64 c21 fun i19 =>
            uncV ys6 fun x7 ys7 =>
            rC x7 fun c22 =>
            asI .i64 c22 fun i20 =>
            nilV ys7 <|
            bif i5 != i9 then
              some (2, (false, y.2.1, (y.2.2.1.1, y.2.2.1.2.1, ()), ()))
            else
              bif i6 != i10 then
                some (2, (false, y.2.1, (y.2.2.1.1, y.2.2.1.2.1, ()), ()))
              else
                bif !((i13 == i18) && ((i14 == i19) && true)) then
                  some (2, (false, y.2.1, (y.2.2.1.1, y.2.2.1.2.1, ()), ()))
                else
                  bif i15 != i20 then
                    some (2, (false, y.2.1, (y.2.2.1.1, y.2.2.1.2.1, ()), ()))
                  else
                    (cl fu d fn_synopticlaw39_level [I a1] []).bind fun out8 =>
                    rA out8.r fun cs4 =>
                    need (Nat.beq cs4.length 2) <|
                    unc cs4 fun c23 r14 =>
                    asI .i64 c23 fun i21 =>
                    unc r14 fun c24 _ =>
                    asI .i64 c24 fun i22 =>
                    (iter (fun (y1 : Bool × Int × List C × (C × Int × Unit) × Unit) =>
                      bif decide (y1.2.1 < 5) then
                        need (inR y1.2.1 5) <|
                        unc (List.drop (y1.2.1.toNat * 2) ([C.v (.int .i64 a2_0), C.v (.int .i64 a2_1), C.v (.int .i64 i21), C.v (.int .i64 i22), C.v (.int .i64 2), C.v (.int .i64 4), C.v (.int .i64 1), C.v (.int .i64 1), C.v (.int .i64 0), C.v (.int .i64 1)])) fun c25 r16 =>
                        asI .i64 c25 fun i23 =>
                        unc r16 fun c26 _ =>
                        asI .i64 c26 fun i24 =>
                        unc y1.2.2.1 fun c27 _ =>
                        asI .i64 c27 fun i25 =>
                        (cl fu d fn_sampling_Ranks [I i25, V.agg ([C.v (.int .i64 i23), C.v (.int .i64 i24)])] []).bind fun out9 =>
                        rT out9.r fun xs4 =>
                        uncV xs4 fun x8 ys8 =>
                        rC x8 fun c28 =>
                        asI .i64 c28 fun i26 =>
                        uncV ys8 fun x9 ys9 =>
                        rC x9 fun c29 =>
                        asI .i64 c29 fun i27 =>
                        nilV ys9 <|
                        unc y1.2.2.1 fun c30 _ =>
                        asI .i64 c30 fun i28 =>
                        (cl fu d fn_synopticref39_Ranks [I i28, V.agg ([C.v (.int .i64 i23), C.v (.int .i64 i24)])] []).bind fun out10 =>
                        rT out10.r fun xs5 =>
                        uncV xs5 fun x10 ys10 =>
                        rC x10 fun c31 =>
                        asI .i64 c31 fun i29 =>
                        uncV ys10 fun x11 ys11 =>
                        rC x11 fun c32 =>
                        asI .i64 c32 fun i30 =>
                        nilV ys11 <|
                        bif i26 != i29 then
                          some (2, (false, y1.2.1, y1.2.2.1, (y1.2.2.2.1.1, y1.2.2.2.1.2.1, ()), ()))
                        else
                          bif i27 != i30 then
                            some (2, (false, y1.2.1, y1.2.2.1, (y1.2.2.2.1.1, y1.2.2.2.1.2.1, ()), ()))
                          else
                            (cl fu d fn_synopticlaw39_sample [V.ptr 1000000 0, I 20] [.ob ty_synopticfield_Codes 0 ([y1.2.2.2.1.1, C.v (.int .i64 y1.2.2.2.1.2.1)])]).bind fun out11 =>
                            uncO out11.objs fun o1 os1 =>
                            rO o1 ty_synopticfield_Codes 0 fun cs5 =>
                            need ((Nat.beq cs5.length 2) && true) <|
                            unc cs5 fun c33 r20 =>
                            unc r20 fun c34 _ =>
                            asI .i64 c34 fun i31 =>
                            rC out11.r fun c35 =>
                            (iter (fun (y2 : Bool × Int × List C × (Int × Int × Unit) × (C × Int × Unit) × Unit) =>
                              bif decide (y2.2.1 < 2) then
                                need (inR y2.2.1 2) <|
                                unc (List.drop (y2.2.1.toNat * 1) ([C.sl n3 a3, c35])) fun c36 _ =>
                                need (noYl [V.c (nrm c36)]) <|
                                (cl fu d fn_sampling_Median [V.c (nrm c36), V.agg ([C.v (.int .i64 y2.2.2.2.1.1), C.v (.int .i64 y2.2.2.2.1.2.1)])] []).bind fun out12 =>
                                rT out12.r fun xs6 =>
                                uncV xs6 fun x12 ys12 =>
                                rC x12 fun c37 =>
                                asI .i64 c37 fun i32 =>
                                uncV ys12 fun x13 ys13 =>
                                rC x13 fun c38 =>
                                asI .i64 c38 fun i33 =>
                                uncV ys13 fun x14 ys14 =>
                                rC x14 fun c39 =>
                                asI .i64 c39 fun i34 =>
                                nilV ys14 <|
                                need (noYl [V.c (nrm c36)]) <|
                                (cl fu d fn_synopticref39_Median [V.c (nrm c36), V.agg ([C.v (.int .i64 y2.2.2.2.1.1), C.v (.int .i64 y2.2.2.2.1.2.1)])] []).bind fun out13 =>
                                rT out13.r fun xs7 =>
                                uncV xs7 fun x15 ys15 =>
                                rC x15 fun c40 =>
                                asI .i64 c40 fun i35 =>
                                uncV ys15 fun x16 ys16 =>
                                rC x16 fun c41 =>
                                asI .i64 c41 fun i36 =>
                                uncV ys16 fun x17 ys17 =>
                                rC x17 fun c42 =>
                                asI .i64 c42 fun i37 =>
                                nilV ys17 <|
                                bif i32 != i35 then
                                  some (2, (false, y2.2.1, y2.2.2.1, (y2.2.2.2.1.1, y2.2.2.2.1.2.1, ()), (y2.2.2.2.2.1.1, y2.2.2.2.2.1.2.1, ()), ()))
                                else
                                  bif i33 != i36 then
                                    some (2, (false, y2.2.1, y2.2.2.1, (y2.2.2.2.1.1, y2.2.2.2.1.2.1, ()), (y2.2.2.2.2.1.1, y2.2.2.2.2.1.2.1, ()), ()))
                                  else
                                    bif i34 != i37 then
                                      some (2, (false, y2.2.1, y2.2.2.1, (y2.2.2.2.1.1, y2.2.2.2.1.2.1, ()), (y2.2.2.2.2.1.1, y2.2.2.2.2.1.2.1, ()), ()))
                                    else
                                      some (0, (y2.1, IntKind.i64.wrap (y2.2.1 + 1), y2.2.2.1, (y2.2.2.2.1.1, y2.2.2.2.1.2.1, ()), (y2.2.2.2.2.1.1, y2.2.2.2.2.1.2.1, ()), ()))
                              else
                                some (1, (y2.1, y2.2.1, y2.2.2.1, (y2.2.2.2.1.1, y2.2.2.2.1.2.1, ()), (y2.2.2.2.2.1.1, y2.2.2.2.2.1.2.1, ()), ()))) fu (y1.1, 0, y1.2.2.1, (i23, i24, ()), (c33, i31, ()), ())).bind fun p =>
                            natD p.1 (
                              some (0, (p.2.1, IntKind.i64.wrap (y1.2.1 + 1), p.2.2.2.1, (p.2.2.2.2.2.1.1, p.2.2.2.2.2.1.2.1, ()), ()))) fun m =>
                            some (2, (p.2.1, y1.2.1, p.2.2.2.1, (p.2.2.2.2.2.1.1, p.2.2.2.2.2.1.2.1, ()), ()))
                      else
                        some (1, (y1.1, y1.2.1, y1.2.2.1, (y1.2.2.2.1.1, y1.2.2.2.1.2.1, ()), ()))) fu (y.1, 0, cs1, (y.2.2.1.1, y.2.2.1.2.1, ()), ())).bind fun p1 =>
                    natD p1.1 (
                      some (0, (p1.2.1, IntKind.i64.wrap (y.2.1 + 1), (p1.2.2.2.2.1.1, p1.2.2.2.2.1.2.1, ()), ()))) fun m1 =>
                    some (2, (p1.2.1, y.2.1, (p1.2.2.2.2.1.1, p1.2.2.2.2.1.2.1, ()), ()))
          else
            some (1, (y.1, y.2.1, (y.2.2.1.1, y.2.2.1.2.1, ()), ()))) fu (false, 0, (c1, i, ()), ())).bind fun p2 =>
        natD p2.1 (
          some ⟨B true, [], none⟩) fun m2 =>
        some ⟨B p2.2.1, [], none⟩) := by kernel_rfl
/- synoptic/synopticlaw39.awake -/
theorem eq_synopticlaw39_awake (fu d : Nat)  :
    cl fu (d + 1) fn_synopticlaw39_awake [] [] = (
    (cl fu d fn_sampling_Signs [V.c (C.sl 3 ([C.v (.int .i64 1), C.v (.int .i64 1), C.v (.int .i64 1)]))] []).bind fun out =>
    rT out.r fun xs =>
    uncV xs fun x ys =>
    rA x fun cs =>
    need (Nat.beq cs.length 2) <|
    unc cs fun c r =>
    asI .i64 c fun i =>
    unc r fun c1 _ =>
    asI .i64 c1 fun i1 =>
    uncV ys fun x1 ys1 =>
    rC x1 fun c2 =>
    asI .i64 c2 fun i2 =>
    nilV ys1 <|
    bif i2 == 0 then
      some ⟨B ((i == 1) && ((i1 == 4) && true)), [], none⟩
    else
      some ⟨B false, [], none⟩) := by kernel_rfl
/- synoptic/synopticlaw39.sample -/
theorem eq_synopticlaw39_sample (fu d : Nat) (a0_0 : C) (a0_1 : Int) (a1 : Int) :
    cl fu (d + 1) fn_synopticlaw39_sample [V.ptr 1000000 0, I a1] [.ob ty_synopticfield_Codes 0 ([a0_0, C.v (.int .i64 a0_1)])] = (
    (cl fu d fn_synopticfield_Codes_Next [V.ptr 1000000 0, I (IntKind.i64.wrap (a1 + 1))] [.ob ty_synopticfield_Codes 0 ([a0_0, C.v (.int .i64 a0_1)])]).bind fun out =>
    uncO out.objs fun o os =>
    rO o ty_synopticfield_Codes 0 fun cs =>
    need ((Nat.beq cs.length 2) && true) <|
    unc cs fun c r =>
    unc r fun c1 _ =>
    asI .i64 c1 fun i =>
    rC out.r fun c2 =>
    asI .i64 c2 fun i1 =>
    (iter (fun (y : List C × Int × (C × Int × Unit) × Unit) =>
      bif decide (y.2.1 > 0) then
        (cl fu d fn_synopticfield_Codes_Next [V.ptr 1000000 0, I 7] [.ob ty_synopticfield_Codes 0 ([y.2.2.1.1, C.v (.int .i64 y.2.2.1.2.1)])]).bind fun out1 =>
        uncO out1.objs fun o1 os1 =>
        rO o1 ty_synopticfield_Codes 0 fun cs1 =>
        need ((Nat.beq cs1.length 2) && true) <|
        unc cs1 fun c3 r2 =>
        unc r2 fun c4 _ =>
        asI .i64 c4 fun i2 =>
        rC out1.r fun c5 =>
        asI .i64 c5 fun i3 =>
        (cl fu d fn_synopticfield_Codes_Next [V.ptr 1000000 0, I 200] [.ob ty_synopticfield_Codes 0 ([c3, C.v (.int .i64 i2)])]).bind fun out2 =>
        uncO out2.objs fun o2 os2 =>
        rO o2 ty_synopticfield_Codes 0 fun cs2 =>
        need ((Nat.beq cs2.length 2) && true) <|
        unc cs2 fun c6 r4 =>
        unc r4 fun c7 _ =>
        asI .i64 c7 fun i4 =>
        rC out2.r fun c8 =>
        asI .i64 c8 fun i5 =>
        (cl fu d fn_synopticfield_Codes_Next [V.ptr 1000000 0, I 5] [.ob ty_synopticfield_Codes 0 ([c6, C.v (.int .i64 i4)])]).bind fun out3 =>
        uncO out3.objs fun o3 os3 =>
        rO o3 ty_synopticfield_Codes 0 fun cs3 =>
        need ((Nat.beq cs3.length 2) && true) <|
        unc cs3 fun c9 r6 =>
        unc r6 fun c10 _ =>
        asI .i64 c10 fun i6 =>
        rC out3.r fun c11 =>
        asI .i64 c11 fun i7 =>
        need (inR i7 5) <|
        unc (List.drop (i7.toNat * 1) ([C.v (.int .i64 (IntKind.i64.wrap (i3 - 3))), C.v (.int .i64 (IntKind.i64.wrap (i5 - 100))), C.v (.int .i64 1000000), C.v (.int .i64 (-1000000)), C.v (.int .i64 0)])) fun c12 _ =>
        asI .i64 c12 fun i8 =>
        need ((((Nat.beq ((y.1.length / 1) * 1) y.1.length) && true) && (Nat.ble (((y.1.length / 1) + 1) * 8) 140737488355328)) && (Nat.ble ((y.1.length / 1) + 1) 140737488355328)) <|
        need (((Nat.beq (((y.1.length / 1) + 1) * 1) ((y.1 ++ ([C.v (.int .i64 i8)])).length)) && true) && true) <|
        some (0, (y.1 ++ ([C.v (.int .i64 i8)]), IntKind.i64.wrap (y.2.1 - 1), (c9, i6, ()), ()))
      else
        need (((Nat.beq ((y.1.length / 1) * 1) y.1.length) && true) && true) <|
        some (1, (y.1, y.2.1, (y.2.2.1.1, y.2.2.1.2.1, ()), ()))) fu ([], i1, (c, i, ()), ())).bind fun p =>
    need (Nat.ble (0 + ((p.2.1.length / 1) * 1)) p.2.1.length) <|
    some ⟨V.c (C.sl (p.2.1.length / 1) (List.take ((p.2.1.length / 1) * 1) p.2.1)), [.ob ty_synopticfield_Codes 0 ([p.2.2.2.1.1, C.v (.int .i64 p.2.2.2.1.2.1)])], none⟩) := by kernel_rfl
/- synoptic/synopticfield.New -/
theorem eq_synopticfield_New (fu d : Nat) (n0 : Nat) (a0 : List C) (a1 : Int) :
    cl fu (d + 1) fn_synopticfield_New [V.c (C.sl n0 a0), I a1] [] = (
    bif decide (((n0 : Nat) : Int) > a1) then
      need ((decide (0 ≤ a1)) && (decide (a1 ≤ ((n0 : Nat) : Int)))) <|
      some ⟨V.ptr 1000000 0, [.ob ty_synopticfield_Codes 0 ([C.sl a1.toNat (List.take (a1.toNat * 1) a0), C.v (.int .i64 0)])], none⟩
    else
      some ⟨V.ptr 1000000 0, [.ob ty_synopticfield_Codes 0 ([C.sl n0 a0, C.v (.int .i64 0)])], none⟩) := by kernel_rfl
/- synoptic/sampling.Signs -/
theorem eq_sampling_Signs (fu d : Nat) (n0 : Nat) (a0 : List C) :
    cl fu (d + 1) fn_sampling_Signs [V.c (C.sl n0 a0)] [] = (
    bif decide (((n0 : Nat) : Int) > 12) then
      some ⟨V.tup [V.agg ([C.v (.int .i64 0), C.v (.int .i64 0)]), I 1], [], none⟩
    else
      (cl fu d fn_sampling_outside [V.c (C.sl n0 a0)] []).bind fun out =>
      rC out.r fun c =>
      asB c fun b =>
      bif b then
        some ⟨V.tup [V.agg ([C.v (.int .i64 0), C.v (.int .i64 0)]), I 1], [], none⟩
      else
        need (!(decide (((n0 : Nat) : Int) < 0))) <|
        (cl fu d fn_sampling_chosen [V.c (C.sl n0 a0), V.c (C.v (.int .u64 (IntKind.u64.wrap ((IntKind.u64.wrap (1 * 2 ^ (min ((n0 : Nat) : Int).toNat (IntKind.bits .u64)))) - 1))))] []).bind fun out1 =>
        rC out1.r fun c1 =>
        asI .i64 c1 fun i =>
        (cl fu d fn_sampling_choices [I ((n0 : Nat) : Int)] []).bind fun out2 =>
        rC out2.r fun c2 =>
        asFn c2 fun f cs =>
        (prim.iter d f cs).bind fun xs =>
        (overK (fun it (y : (Int × Int × Unit) × (Int × Unit) × Unit) =>
          uncV it fun x r =>
          rC x fun c3 =>
          asI .u64 c3 fun i1 =>
          nilV r <|
          (cl fu d fn_sampling_chosen [V.c (C.sl n0 a0), V.c (C.v (.int .u64 i1))] []).bind fun out3 =>
          rC out3.r fun c4 =>
          asI .i64 c4 fun i2 =>
          (cl fu d fn_sampling_absolute [I (IntKind.i64.wrap (i - (IntKind.i64.wrap (2 * i2))))] []).bind fun out4 =>
          rC out4.r fun c5 =>
          asI .i64 c5 fun i3 =>
          (cl fu d fn_sampling_absolute [I i] []).bind fun out5 =>
          rC out5.r fun c6 =>
          asI .i64 c6 fun i4 =>
          bif decide (i3 ≥ i4) then
            some (0, ((y.1.1, y.1.2.1, ()), (IntKind.i64.wrap (y.2.1.1 + 1), ()), ()))
          else
            some (0, ((y.1.1, y.1.2.1, ()), (y.2.1.1, ()), ()))) xs ((0, 0, ()), (0, ()), ())).bind fun p =>
        need (!(decide (((n0 : Nat) : Int) < 0))) <|
        (cl fu d fn_score_Reduce [I p.2.2.1.1, I (IntKind.i64.wrap (1 * 2 ^ (min ((n0 : Nat) : Int).toNat (IntKind.bits .i64))))] []).bind fun out6 =>
        rT out6.r fun xs1 =>
        uncV xs1 fun x1 ys =>
        rA x1 fun cs1 =>
        need (Nat.beq cs1.length 2) <|
        unc cs1 fun c7 r1 =>
        asI .i64 c7 fun i5 =>
        unc r1 fun c8 _ =>
        asI .i64 c8 fun i6 =>
        uncV ys fun x2 ys1 =>
        rC x2 fun c9 =>
        asI .i64 c9 fun i7 =>
        nilV ys1 <|
        some ⟨V.tup [V.agg ([C.v (.int .i64 i5), C.v (.int .i64 i6)]), I i7], [], none⟩) := by kernel_rfl
/- synoptic/score.Compare -/
theorem eq_score_Compare (fu d : Nat) (a0_0 : Int) (a0_1 : Int) (a1_0 : Int) (a1_1 : Int) :
    cl fu (d + 1) fn_score_Compare [V.agg ([C.v (.int .i64 a0_0), C.v (.int .i64 a0_1)]), V.agg ([C.v (.int .i64 a1_0), C.v (.int .i64 a1_1)])] [] = (
    (cl fu d fn_score_sign [I a0_0] []).bind fun out =>
    rC out.r fun c =>
    asI .i64 c fun i =>
    (cl fu d fn_score_sign [I a1_0] []).bind fun out1 =>
    rC out1.r fun c1 =>
    asI .i64 c1 fun i1 =>
    bif i != i1 then
      (cl fu d fn_cmp_Compare_int [I i, I i1] []).bind fun out2 =>
      rC out2.r fun c2 =>
      asI .i64 c2 fun i2 =>
      some ⟨I i2, [], none⟩
    else
      bif i == 0 then
        (cl fu d fn_cmp_Compare_int [I i, I i1] []).bind fun out3 =>
        rC out3.r fun c3 =>
        asI .i64 c3 fun i3 =>
        some ⟨I i3, [], none⟩
      else
        (cl fu d fn_bits_Mul64 [V.c (C.v (.int .u64 (IntKind.u64.wrap (if IntKind.i64.wrap (0 - a0_0) > a0_0 then IntKind.i64.wrap (0 - a0_0) else a0_0)))), V.c (C.v (.int .u64 (IntKind.u64.wrap a1_1)))] []).bind fun out4 =>
        rT out4.r fun xs =>
        uncV xs fun x ys =>
        rC x fun c4 =>
        asI .u64 c4 fun i4 =>
        uncV ys fun x1 ys1 =>
        rC x1 fun c5 =>
        asI .u64 c5 fun i5 =>
        nilV ys1 <|
        (cl fu d fn_bits_Mul64 [V.c (C.v (.int .u64 (IntKind.u64.wrap (if IntKind.i64.wrap (0 - a1_0) > a1_0 then IntKind.i64.wrap (0 - a1_0) else a1_0)))), V.c (C.v (.int .u64 (IntKind.u64.wrap a0_1)))] []).bind fun out5 =>
        rT out5.r fun xs1 =>
        uncV xs1 fun x2 ys2 =>
        rC x2 fun c6 =>
        asI .u64 c6 fun i6 =>
        uncV ys2 fun x3 ys3 =>
        rC x3 fun c7 =>
        asI .u64 c7 fun i7 =>
        nilV ys3 <|
        (cl fu d fn_cmp_Compare_uint64 [V.c (C.v (.int .u64 i4)), V.c (C.v (.int .u64 i6))] []).bind fun out6 =>
        rC out6.r fun c8 =>
        asI .i64 c8 fun i8 =>
        (cl fu d fn_cmp_Compare_uint64 [V.c (C.v (.int .u64 i5)), V.c (C.v (.int .u64 i7))] []).bind fun out7 =>
        rC out7.r fun c9 =>
        asI .i64 c9 fun i9 =>
        (cl fu d fn_cmp_Or_int [V.c (C.sl 2 ([C.v (.int .i64 i8), C.v (.int .i64 i9)]))] []).bind fun out8 =>
        rC out8.r fun c10 =>
        asI .i64 c10 fun i10 =>
        some ⟨I (IntKind.i64.wrap (i * i10)), [], none⟩) := by kernel_rfl
/- synoptic/synopticref39.Signs -/
theorem eq_synopticref39_Signs (fu d : Nat) (n0 : Nat) (a0 : List C) :
    cl fu (d + 1) fn_synopticref39_Signs [V.c (C.sl n0 a0)] [] = (
    bif decide (((n0 : Nat) : Int) > 12) then
      some ⟨V.tup [V.agg ([C.v (.int .i64 0), C.v (.int .i64 0)]), I 1], [], none⟩
    else
      (cl fu d fn_synopticref22_Small [V.c (C.sl n0 a0), I 1000000] []).bind fun out =>
      rC out.r fun c =>
      asB c fun b =>
      bif !b then
        some ⟨V.tup [V.agg ([C.v (.int .i64 0), C.v (.int .i64 0)]), I 1], [], none⟩
      else
        (iter (fun (y : Int × Int × (Int × Int × Unit) × Unit) =>
          bif decide (y.2.1 < ((n0 : Nat) : Int)) then
            need (inR y.2.1 n0) <|
            unc (List.drop (y.2.1.toNat * 1) a0) fun c1 _ =>
            asI .i64 c1 fun i =>
            some (0, (IntKind.i64.wrap (y.1 + i), IntKind.i64.wrap (y.2.1 + 1), (y.2.2.1.1, y.2.2.1.2.1, ()), ()))
          else
            some (1, (y.1, y.2.1, (y.2.2.1.1, y.2.2.1.2.1, ()), ()))) fu (0, 0, (0, 0, ()), ())).bind fun p =>
        (iter (fun (y1 : Int × Int × (Int × Int × Unit) × Unit) =>
          need (!(decide (IntKind.u64.wrap ((n0 : Nat) : Int) < 0))) <|
          bif decide (y1.2.1 < IntKind.i64.wrap (1 * 2 ^ (min (IntKind.u64.wrap ((n0 : Nat) : Int)).toNat (IntKind.bits .i64)))) then
            (iter (fun (y2 : Int × Int × (Int × Int × Unit) × Unit) =>
              bif decide (y2.2.1 < ((n0 : Nat) : Int)) then
                need (!(decide (IntKind.u64.wrap y2.2.1 < 0))) <|
                bd (IntKind.i64.wrap (BitVec.ofInt (IntKind.bits .i64) (Int.fdiv y1.2.1 (2 ^ (min (IntKind.u64.wrap y2.2.1).toNat (IntKind.bits .i64)))) &&& BitVec.ofInt (IntKind.bits .i64) 1).toNat) fun z =>
                bif z == 1 then
                  need (inR y2.2.1 n0) <|
                  unc (List.drop (y2.2.1.toNat * 1) a0) fun c2 _ =>
                  asI .i64 c2 fun i1 =>
                  some (0, (IntKind.i64.wrap (y2.1 - i1), IntKind.i64.wrap (y2.2.1 + 1), (y2.2.2.1.1, y2.2.2.1.2.1, ()), ()))
                else
                  need (inR y2.2.1 n0) <|
                  unc (List.drop (y2.2.1.toNat * 1) a0) fun c3 _ =>
                  asI .i64 c3 fun i2 =>
                  some (0, (IntKind.i64.wrap (y2.1 + i2), IntKind.i64.wrap (y2.2.1 + 1), (y2.2.2.1.1, y2.2.2.1.2.1, ()), ()))
              else
                some (1, (y2.1, y2.2.1, (y2.2.2.1.1, y2.2.2.1.2.1, ()), ()))) fu (0, 0, (y1.2.2.1.1, y1.2.2.1.2.1, ()), ())).bind fun p1 =>
            (cl fu d fn_synopticref39_size [I p1.2.1] []).bind fun out1 =>
            rC out1.r fun c4 =>
            asI .i64 c4 fun i3 =>
            (cl fu d fn_synopticref39_size [I p.2.1] []).bind fun out2 =>
            rC out2.r fun c5 =>
            asI .i64 c5 fun i4 =>
            bif decide (i3 ≥ i4) then
              some (0, (IntKind.i64.wrap (y1.1 + 1), IntKind.i64.wrap (y1.2.1 + 1), (p1.2.2.2.1.1, p1.2.2.2.1.2.1, ()), ()))
            else
              some (0, (y1.1, IntKind.i64.wrap (y1.2.1 + 1), (p1.2.2.2.1.1, p1.2.2.2.1.2.1, ()), ()))
          else
            some (1, (y1.1, y1.2.1, (y1.2.2.1.1, y1.2.2.1.2.1, ()), ()))) fu (0, 0, (p.2.2.2.1.1, p.2.2.2.1.2.1, ()), ())).bind fun p2 =>
        need (!(decide (IntKind.u64.wrap ((n0 : Nat) : Int) < 0))) <|
        (cl fu d fn_synopticref38_Reduce [I p2.2.1, I (IntKind.i64.wrap (1 * 2 ^ (min (IntKind.u64.wrap ((n0 : Nat) : Int)).toNat (IntKind.bits .i64))))] []).bind fun out3 =>
        rT out3.r fun xs =>
        uncV xs fun x ys =>
        rA x fun cs =>
        need (Nat.beq cs.length 2) <|
        unc cs fun c6 r3 =>
        asI .i64 c6 fun i5 =>
        unc r3 fun c7 _ =>
        asI .i64 c7 fun i6 =>
        uncV ys fun x1 ys1 =>
        rC x1 fun c8 =>
        asI .i64 c8 fun i7 =>
        nilV ys1 <|
        some ⟨V.tup [V.agg ([C.v (.int .i64 i5), C.v (.int .i64 i6)]), I i7], [], none⟩) := by kernel_rfl
/- synoptic/sampling.Exchange -/
theorem eq_sampling_Exchange (fu d : Nat) (n0 : Nat) (a0 : List C) (n1 : Nat) (a1 : List C) :
    cl fu (d + 1) fn_sampling_Exchange [V.c (C.sl n0 a0), V.c (C.sl n1 a1)] [] = (
    (cl fu d fn_slices_Concat_sint_int [V.c (C.sl 2 ([C.sl n0 a0, C.sl n1 a1]))] []).bind fun out =>
    rC out.r fun c =>
    asSl c fun n cs =>
    bif decide (((n : Nat) : Int) > 12) then
      some ⟨V.tup [V.agg ([C.v (.int .i64 0), C.v (.int .i64 0)]), I 1], [], none⟩
    else
      need (noYl [V.c (nrm c)]) <|
      (cl fu d fn_sampling_outside [V.c (nrm c)] []).bind fun out1 =>
      rC out1.r fun c1 =>
      asB c1 fun b =>
      bif b then
        some ⟨V.tup [V.agg ([C.v (.int .i64 0), C.v (.int .i64 0)]), I 1], [], none⟩
      else
        asSl c fun n1 cs1 =>
        need (!(decide (((n1 : Nat) : Int) < 0))) <|
        need (noYl [V.c (nrm c)]) <|
        (cl fu d fn_sampling_chosen [V.c (nrm c), V.c (C.v (.int .u64 (IntKind.u64.wrap ((IntKind.u64.wrap (1 * 2 ^ (min ((n1 : Nat) : Int).toNat (IntKind.bits .u64)))) - 1))))] []).bind fun out2 =>
        rC out2.r fun c2 =>
        asI .i64 c2 fun i =>
        need (!(decide (((n0 : Nat) : Int) < 0))) <|
        (cl fu d fn_sampling_Exchange_1 [V.c (C.v (.int .u64 (IntKind.u64.wrap ((IntKind.u64.wrap (1 * 2 ^ (min ((n0 : Nat) : Int).toNat (IntKind.bits .u64)))) - 1)))), V.c (C.cp ([c])), V.c (C.cp ([C.v (.int .i64 i)])), V.c (C.cp ([C.sl n0 a0]))] []).bind fun out3 =>
        rC out3.r fun c3 =>
        asI .i64 c3 fun i1 =>
        asSl c fun n2 cs2 =>
        (cl fu d fn_sampling_choices [I ((n2 : Nat) : Int)] []).bind fun out4 =>
        rC out4.r fun c4 =>
        asFn c4 fun f cs3 =>
        (prim.iter d f cs3).bind fun xs =>
        (overK (fun it (y : (Int × Int × Unit) × (Int × Unit) × (Int × Unit) × Unit) =>
          uncV it fun x r =>
          rC x fun c5 =>
          asI .u64 c5 fun i2 =>
          nilV r <|
          (cl fu d fn_bits_OnesCount [V.c (C.v (.int .u64 i2))] []).bind fun out5 =>
          rC out5.r fun c6 =>
          asI .i64 c6 fun i3 =>
          bif i3 != ((n0 : Nat) : Int) then
            some (0, ((y.1.1, y.1.2.1, ()), (y.2.1.1, ()), (y.2.2.1.1, ()), ()))
          else
            (cl fu d fn_sampling_Exchange_1 [V.c (C.v (.int .u64 i2)), V.c (C.cp ([c])), V.c (C.cp ([C.v (.int .i64 i)])), V.c (C.cp ([C.sl n0 a0]))] []).bind fun out6 =>
            rC out6.r fun c7 =>
            asI .i64 c7 fun i4 =>
            bif decide (i4 ≥ i1) then
              some (0, ((y.1.1, y.1.2.1, ()), (IntKind.i64.wrap (y.2.1.1 + 1), ()), (IntKind.i64.wrap (y.2.2.1.1 + 1), ()), ()))
            else
              some (0, ((y.1.1, y.1.2.1, ()), (y.2.1.1, ()), (IntKind.i64.wrap (y.2.2.1.1 + 1), ()), ()))) xs ((0, 0, ()), (0, ()), (0, ()), ())).bind fun p =>
        (cl fu d fn_score_Reduce [I p.2.2.1.1, I p.2.2.2.1.1] []).bind fun out7 =>
        rT out7.r fun xs1 =>
        uncV xs1 fun x1 ys =>
        rA x1 fun cs4 =>
        need (Nat.beq cs4.length 2) <|
        unc cs4 fun c8 r1 =>
        asI .i64 c8 fun i5 =>
        unc r1 fun c9 _ =>
        asI .i64 c9 fun i6 =>
        uncV ys fun x2 ys1 =>
        rC x2 fun c10 =>
        asI .i64 c10 fun i7 =>
        nilV ys1 <|
        some ⟨V.tup [V.agg ([C.v (.int .i64 i5), C.v (.int .i64 i6)]), I i7], [], none⟩) := by kernel_rfl
/- synoptic/synopticref39.Exchange -/
theorem eq_synopticref39_Exchange (fu d : Nat) (n0 : Nat) (a0 : List C) (n1 : Nat) (a1 : List C) :
    cl fu (d + 1) fn_synopticref39_Exchange [V.c (C.sl n0 a0), V.c (C.sl n1 a1)] [] = (
    need (Nat.beq (n0 * 1) a0.length) <|
    need ((Nat.ble (n0 * 8) 140737488355328) && (Nat.ble n0 140737488355328)) <|
    need (Nat.beq (n1 * 1) a1.length) <|
    need ((((Nat.beq (n0 * 1) a0.length) && true) && (Nat.ble ((n0 + n1) * 8) 140737488355328)) && (Nat.ble (n0 + n1) 140737488355328)) <|
    bif decide (((n0 + n1 : Nat) : Int) > 12) then
      some ⟨V.tup [V.agg ([C.v (.int .i64 0), C.v (.int .i64 0)]), I 1], [], none⟩
    else
      need (Nat.ble (0 + ((n0 + n1) * 1)) ((a0 ++ a1).length)) <|
      (cl fu d fn_synopticref22_Small [V.c (C.sl (n0 + n1) (List.take ((n0 + n1) * 1) (a0 ++ a1))), I 1000000] []).bind fun out =>
      rC out.r fun c =>
      asB c fun b =>
      bif !b then
        some ⟨V.tup [V.agg ([C.v (.int .i64 0), C.v (.int .i64 0)]), I 1], [], none⟩
      else
        need (Nat.ble (0 + ((n0 + n1) * 1)) ((a0 ++ a1).length)) <|
        (iter (fun (y : Int × Int × Int × (Int × Int × Unit) × Unit) =>
          bif decide (y.2.2.1 < ((n0 + n1 : Nat) : Int)) then
            need (inR y.2.2.1 (n0 + n1)) <|
            unc (List.drop (y.2.2.1.toNat * 1) (List.take ((n0 + n1) * 1) (a0 ++ a1))) fun c1 _ =>
            asI .i64 c1 fun i =>
            bif decide (y.2.2.1 < ((n0 : Nat) : Int)) then
              need (inR y.2.2.1 (n0 + n1)) <|
              unc (List.drop (y.2.2.1.toNat * 1) (List.take ((n0 + n1) * 1) (a0 ++ a1))) fun c2 _ =>
              asI .i64 c2 fun i1 =>
              some (0, (IntKind.i64.wrap (y.1 + i), IntKind.i64.wrap (y.2.1 + i1), IntKind.i64.wrap (y.2.2.1 + 1), (y.2.2.2.1.1, y.2.2.2.1.2.1, ()), ()))
            else
              some (0, (IntKind.i64.wrap (y.1 + i), y.2.1, IntKind.i64.wrap (y.2.2.1 + 1), (y.2.2.2.1.1, y.2.2.2.1.2.1, ()), ()))
          else
            some (1, (y.1, y.2.1, y.2.2.1, (y.2.2.2.1.1, y.2.2.2.1.2.1, ()), ()))) fu (0, 0, 0, (0, 0, ()), ())).bind fun p =>
        bd (IntKind.i64.wrap ((IntKind.i64.wrap (p.2.2.1 * ((n0 + n1 : Nat) : Int))) - (IntKind.i64.wrap (p.2.1 * ((n0 : Nat) : Int))))) fun z =>
        (cl fu d fn_synopticref39_size [I z] []).bind fun out1 =>
        rC out1.r fun c3 =>
        asI .i64 c3 fun i2 =>
        (iter (fun (y1 : Int × Int × Int × (Int × Int × Unit) × Unit) =>
          need (!(decide (IntKind.u64.wrap ((n0 + n1 : Nat) : Int) < 0))) <|
          bd (decide (y1.2.2.1 < IntKind.i64.wrap (1 * 2 ^ (min (IntKind.u64.wrap ((n0 + n1 : Nat) : Int)).toNat (IntKind.bits .i64))))) fun z1 =>
          bif z1 then
            (iter (fun (y2 : Int × Int × Int × (Int × Int × Unit) × Unit) =>
              bif decide (y2.2.2.1 < ((n0 + n1 : Nat) : Int)) then
                need (!(decide (IntKind.u64.wrap y2.2.2.1 < 0))) <|
                bd (IntKind.i64.wrap (BitVec.ofInt (IntKind.bits .i64) (Int.fdiv y1.2.2.1 (2 ^ (min (IntKind.u64.wrap y2.2.2.1).toNat (IntKind.bits .i64)))) &&& BitVec.ofInt (IntKind.bits .i64) 1).toNat) fun z2 =>
                bif z2 == 1 then
                  need (inR y2.2.2.1 (n0 + n1)) <|
                  unc (List.drop (y2.2.2.1.toNat * 1) (List.take ((n0 + n1) * 1) (a0 ++ a1))) fun c4 _ =>
                  asI .i64 c4 fun i3 =>
                  some (0, (IntKind.i64.wrap (y2.1 + 1), IntKind.i64.wrap (y2.2.1 + i3), IntKind.i64.wrap (y2.2.2.1 + 1), (y2.2.2.2.1.1, y2.2.2.2.1.2.1, ()), ()))
                else
                  some (0, (y2.1, y2.2.1, IntKind.i64.wrap (y2.2.2.1 + 1), (y2.2.2.2.1.1, y2.2.2.2.1.2.1, ()), ()))
              else
                some (1, (y2.1, y2.2.1, y2.2.2.1, (y2.2.2.2.1.1, y2.2.2.2.1.2.1, ()), ()))) fu (0, 0, 0, (y1.2.2.2.1.1, y1.2.2.2.1.2.1, ()), ())).bind fun p1 =>
            bif p1.2.1 != ((n0 : Nat) : Int) then
              some (0, (y1.1, y1.2.1, IntKind.i64.wrap (y1.2.2.1 + 1), (p1.2.2.2.2.1.1, p1.2.2.2.2.1.2.1, ()), ()))
            else
              bd (IntKind.i64.wrap ((IntKind.i64.wrap (p1.2.2.1 * ((n0 + n1 : Nat) : Int))) - (IntKind.i64.wrap (p.2.1 * ((n0 : Nat) : Int))))) fun z3 =>
              (cl fu d fn_synopticref39_size [I z3] []).bind fun out2 =>
              rC out2.r fun c5 =>
              asI .i64 c5 fun i4 =>
              bif decide (i4 ≥ i2) then
                some (0, (IntKind.i64.wrap (y1.1 + 1), IntKind.i64.wrap (y1.2.1 + 1), IntKind.i64.wrap (y1.2.2.1 + 1), (p1.2.2.2.2.1.1, p1.2.2.2.2.1.2.1, ()), ()))
              else
                some (0, (y1.1, IntKind.i64.wrap (y1.2.1 + 1), IntKind.i64.wrap (y1.2.2.1 + 1), (p1.2.2.2.2.1.1, p1.2.2.2.2.1.2.1, ()), ()))
          else
            some (1, (y1.1, y1.2.1, y1.2.2.1, (y1.2.2.2.1.1, y1.2.2.2.1.2.1, ()), ()))) fu (0, 0, 0, (p.2.2.2.2.1.1, p.2.2.2.2.1.2.1, ()), ())).bind fun p2 =>
        (cl fu d fn_synopticref38_Reduce [I p2.2.1, I p2.2.2.1] []).bind fun out3 =>
        rT out3.r fun xs =>
        uncV xs fun x ys =>
        rA x fun cs =>
        need (Nat.beq cs.length 2) <|
        unc cs fun c6 r3 =>
        asI .i64 c6 fun i5 =>
        unc r3 fun c7 _ =>
        asI .i64 c7 fun i6 =>
        uncV ys fun x1 ys1 =>
        rC x1 fun c8 =>
        asI .i64 c8 fun i7 =>
        nilV ys1 <|
        some ⟨V.tup [V.agg ([C.v (.int .i64 i5), C.v (.int .i64 i6)]), I i7], [], none⟩) := by kernel_rfl
/- (*synoptic/synopticfield.Codes).Next -/
theorem eq_synopticfield_Codes_Next (fu d : Nat) (a0_0 : C) (a0_1 : Int) (a1 : Int) :
    cl fu (d + 1) fn_synopticfield_Codes_Next [V.ptr 1000000 0, I a1] [.ob ty_synopticfield_Codes 0 ([a0_0, C.v (.int .i64 a0_1)])] = (
    (cl fu d fn_synopticfield_Codes_Left [V.ptr 1000000 0] [.ob ty_synopticfield_Codes 0 ([a0_0, C.v (.int .i64 a0_1)])]).bind fun out =>
    uncO out.objs fun o os =>
    rO o ty_synopticfield_Codes 0 fun cs =>
    need ((Nat.beq cs.length 2) && true) <|
    unc cs fun c r =>
    unc r fun c1 _ =>
    asI .i64 c1 fun i =>
    rC out.r fun c2 =>
    asB c2 fun b =>
    bif !b then
      some ⟨I 0, [.ob ty_synopticfield_Codes 0 ([c, C.v (.int .i64 i)])], none⟩
    else
      bif decide (a1 < 1) then
        some ⟨I 0, [.ob ty_synopticfield_Codes 0 ([c, C.v (.int .i64 i)])], none⟩
      else
        asSl c fun n cs1 =>
        need (inR (IntKind.i64.wrap ((IntKind.i64.wrap (i + 1)) - 1)) n) <|
        unc (List.drop (((IntKind.i64.wrap ((IntKind.i64.wrap (i + 1)) - 1)).toNat) * 1) cs1) fun c3 _ =>
        asI .u8 c3 fun i1 =>
        need (!(a1 == 0)) <|
        some ⟨I (Int.tmod (IntKind.i64.wrap i1) a1), [.ob ty_synopticfield_Codes 0 ([c, C.v (.int .i64 (IntKind.i64.wrap (i + 1)))])], none⟩) := by kernel_rfl
/- synoptic/synopticlaw39.level -/
theorem eq_synopticlaw39_level (fu d : Nat) (a0 : Int) :
    cl fu (d + 1) fn_synopticlaw39_level [I a0] [] = (
    (cl fu d fn_synopticfield_Mod [I a0, I 101] []).bind fun out =>
    rC out.r fun c =>
    asI .i64 c fun i =>
    (cl fu d fn_synopticref38_Reduce [I i, I 100] []).bind fun out1 =>
    rT out1.r fun xs =>
    uncV xs fun x ys =>
    rA x fun cs =>
    need (Nat.beq cs.length 2) <|
    unc cs fun c1 r =>
    asI .i64 c1 fun i1 =>
    unc r fun c2 _ =>
    asI .i64 c2 fun i2 =>
    uncV ys fun x1 ys1 =>
    rC x1 fun c3 =>
    asI .i64 c3 fun i3 =>
    nilV ys1 <|
    some ⟨V.agg ([C.v (.int .i64 i1), C.v (.int .i64 i2)]), [], none⟩) := by kernel_rfl
/- synoptic/sampling.Median -/
theorem eq_sampling_Median (fu d : Nat) (n0 : Nat) (a0 : List C) (a1_0 : Int) (a1_1 : Int) :
    cl fu (d + 1) fn_sampling_Median [V.c (C.sl n0 a0), V.agg ([C.v (.int .i64 a1_0), C.v (.int .i64 a1_1)])] [] = (
    bif decide (((n0 : Nat) : Int) > 50) then
      some ⟨V.tup [I 0, I 0, I 1], [], none⟩
    else
      (cl fu d fn_sampling_outside [V.c (C.sl n0 a0)] []).bind fun out =>
      rC out.r fun c =>
      asB c fun b =>
      bif b then
        some ⟨V.tup [I 0, I 0, I 1], [], none⟩
      else
        (cl fu d fn_sampling_Ranks [I ((n0 : Nat) : Int), V.agg ([C.v (.int .i64 a1_0), C.v (.int .i64 a1_1)])] []).bind fun out1 =>
        rT out1.r fun xs =>
        uncV xs fun x ys =>
        rC x fun c1 =>
        asI .i64 c1 fun i =>
        uncV ys fun x1 ys1 =>
        rC x1 fun c2 =>
        asI .i64 c2 fun i1 =>
        nilV ys1 <|
        bif i1 != 0 then
          some ⟨V.tup [I 0, I 0, I i1], [], none⟩
        else
          bif i == 0 then
            some ⟨V.tup [I 0, I 0, I 9], [], none⟩
          else
            (cl fu d fn_slices_Values_sint_int [V.c (C.sl n0 a0)] []).bind fun out2 =>
            rC out2.r fun c3 =>
            need (noYl [V.c c3]) <|
            (cl fu d fn_slices_Sorted_int [V.c c3] []).bind fun out3 =>
            rC out3.r fun c4 =>
            asSl c4 fun n cs =>
            need (inR (IntKind.i64.wrap (i - 1)) n) <|
            unc (List.drop (((IntKind.i64.wrap (i - 1)).toNat) * 1) cs) fun c5 _ =>
            asI .i64 c5 fun i2 =>
            asSl c4 fun n1 cs1 =>
            need (inR (IntKind.i64.wrap (((n0 : Nat) : Int) - i)) n1) <|
            unc (List.drop (((IntKind.i64.wrap (((n0 : Nat) : Int) - i)).toNat) * 1) cs1) fun c6 _ =>
            asI .i64 c6 fun i3 =>
            some ⟨V.tup [I i2, I i3, I 0], [], none⟩) := by kernel_rfl
/- synoptic/synopticlaw39.in -/
theorem eq_synopticlaw39_in (fu d : Nat) (n0 : Nat) (a0 : List C) (a1 : Int) :
    cl fu (d + 1) fn_synopticlaw39_in [V.c (C.sl n0 a0), I a1] [] = (
    (iter (fun (y : Bool × Int × Unit) =>
      bif decide (y.2.1 < ((n0 : Nat) : Int)) then
        need (inR y.2.1 n0) <|
        unc (List.drop (y.2.1.toNat * 1) a0) fun c _ =>
        asI .i64 c fun i =>
        bif a1 == i then
          some (2, (true, y.2.1, ()))
        else
          some (0, (y.1, IntKind.i64.wrap (y.2.1 + 1), ()))
      else
        some (1, (y.1, y.2.1, ()))) fu (false, 0, ())).bind fun p =>
    natD p.1 (
      some ⟨B false, [], none⟩) fun m =>
    some ⟨B p.2.1, [], none⟩) := by kernel_rfl
/- synoptic/sampling.Tail -/
theorem eq_sampling_Tail (fu d : Nat) (a0 : Int) (a1 : Int) :
    cl fu (d + 1) fn_sampling_Tail [I a0, I a1] [] = (
    (cl fu d fn_sampling_within [I a0, I 0, I 50] []).bind fun out =>
    rC out.r fun c =>
    asB c fun b =>
    bif !b then
      some ⟨V.tup [V.agg ([C.v (.int .i64 0), C.v (.int .i64 0)]), I 1], [], none⟩
    else
      (iter (fun (y : Int × Int × (Int × Int × Unit) × Unit) =>
        bif decide (y.2.1 ≤ (if a0 < a1 then a0 else a1)) then
          (cl fu d fn_sampling_Choose [I a0, I y.2.1] []).bind fun out1 =>
          rT out1.r fun xs =>
          uncV xs fun x ys =>
          rC x fun c1 =>
          asI .i64 c1 fun i =>
          uncV ys fun x1 ys1 =>
          rC x1 fun c2 =>
          asI .i64 c2 fun i1 =>
          nilV ys1 <|
          some (0, (IntKind.i64.wrap (y.1 + i), IntKind.i64.wrap (y.2.1 + 1), (y.2.2.1.1, y.2.2.1.2.1, ()), ()))
        else
          some (1, (y.1, y.2.1, (y.2.2.1.1, y.2.2.1.2.1, ()), ()))) fu (0, 0, (0, 0, ()), ())).bind fun p =>
      need (!(decide (a0 < 0))) <|
      (cl fu d fn_score_Reduce [I p.2.1, I (IntKind.i64.wrap (1 * 2 ^ (min a0.toNat (IntKind.bits .i64))))] []).bind fun out2 =>
      rT out2.r fun xs1 =>
      uncV xs1 fun x2 ys2 =>
      rA x2 fun cs =>
      need (Nat.beq cs.length 2) <|
      unc cs fun c3 r =>
      asI .i64 c3 fun i2 =>
      unc r fun c4 _ =>
      asI .i64 c4 fun i3 =>
      uncV ys2 fun x3 ys3 =>
      rC x3 fun c5 =>
      asI .i64 c5 fun i4 =>
      nilV ys3 <|
      some ⟨V.tup [V.agg ([C.v (.int .i64 i2), C.v (.int .i64 i3)]), I i4], [], none⟩) := by kernel_rfl
/- synoptic/score.Reduce -/
theorem eq_score_Reduce (fu d : Nat) (a0 : Int) (a1 : Int) :
    cl fu (d + 1) fn_score_Reduce [I a0, I a1] [] = (
    bif a1 == 0 then
      some ⟨V.tup [V.agg ([C.v (.int .i64 0), C.v (.int .i64 0)]), I 1], [], none⟩
    else
      (cl fu d fn_score_within [I a0, I (-1152921504606846976), I 1152921504606846976] []).bind fun out =>
      rC out.r fun c =>
      asB c fun b =>
      bif !b then
        some ⟨V.tup [V.agg ([C.v (.int .i64 0), C.v (.int .i64 0)]), I 1], [], none⟩
      else
        (cl fu d fn_score_within [I a1, I (-1152921504606846976), I 1152921504606846976] []).bind fun out1 =>
        rC out1.r fun c1 =>
        asB c1 fun b1 =>
        bif !b1 then
          some ⟨V.tup [V.agg ([C.v (.int .i64 0), C.v (.int .i64 0)]), I 1], [], none⟩
        else
          (bif decide (a1 < 0) then
            some (0, (IntKind.i64.wrap (0 - a0), IntKind.i64.wrap (0 - a1), (0, 0, ()), ()))
          else
            some (0, (a0, a1, (0, 0, ()), ())) : Option (Nat × Int × Int × (Int × Int × Unit) × Unit)).bind fun p =>
          (iter (fun (y : Int × Int × (Int × Int × Unit) × Unit) =>
            bif y.2.1 != 0 then
              need (!(y.2.1 == 0)) <|
              some (0, (y.2.1, Int.tmod y.1 y.2.1, (y.2.2.1.1, y.2.2.1.2.1, ()), ()))
            else
              some (1, (y.1, y.2.1, (y.2.2.1.1, y.2.2.1.2.1, ()), ()))) fu ((if IntKind.i64.wrap (0 - p.2.1) > p.2.1 then IntKind.i64.wrap (0 - p.2.1) else p.2.1), p.2.2.1, (p.2.2.2.1.1, p.2.2.2.1.2.1, ()), ())).bind fun p1 =>
          need (!(p1.2.1 == 0)) <|
          need (!(p1.2.1 == 0)) <|
          some ⟨V.tup [V.agg ([C.v (.int .i64 (IntKind.i64.wrap (Int.tdiv p.2.1 p1.2.1))), C.v (.int .i64 (IntKind.i64.wrap (Int.tdiv p.2.2.1 p1.2.1)))]), I 0], [], none⟩) := by kernel_rfl
/- synoptic/synopticfield.Mod -/
theorem eq_synopticfield_Mod (fu d : Nat) (a0 : Int) (a1 : Int) :
    cl fu (d + 1) fn_synopticfield_Mod [I a0, I a1] [] = (
    bif decide (a1 < 1) then
      some ⟨I 0, [], none⟩
    else
      need (!(a1 == 0)) <|
      bif decide (Int.tmod a0 a1 < 0) then
        some ⟨I (IntKind.i64.wrap ((Int.tmod a0 a1) + a1)), [], none⟩
      else
        some ⟨I (Int.tmod a0 a1), [], none⟩) := by kernel_rfl
/- synoptic/sampling.Choose -/
theorem eq_sampling_Choose (fu d : Nat) (a0 : Int) (a1 : Int) :
    cl fu (d + 1) fn_sampling_Choose [I a0, I a1] [] = (
    (cl fu d fn_sampling_within [I a0, I 0, I 60] []).bind fun out =>
    rC out.r fun c =>
    asB c fun b =>
    bif !b then
      some ⟨V.tup [I 0, I 1], [], none⟩
    else
      (cl fu d fn_sampling_within [I a1, I 0, I a0] []).bind fun out1 =>
      rC out1.r fun c1 =>
      asB c1 fun b1 =>
      bif !b1 then
        some ⟨V.tup [I 0, I 1], [], none⟩
      else
        (iter (fun (y : List C × Int × Unit) =>
          bif decide (y.2.1 < a0) then
            need (((((decide (0 ≤ IntKind.i64.wrap (((y.1.length / 1 : Nat) : Int) + 1))) && (decide (IntKind.i64.wrap (((y.1.length / 1 : Nat) : Int) + 1) ≤ IntKind.i64.wrap (((y.1.length / 1 : Nat) : Int) + 1)))) && (decide ((8 : Int) * (IntKind.i64.wrap (((y.1.length / 1 : Nat) : Int) + 1)) ≤ 140737488355328))) && (decide (IntKind.i64.wrap (((y.1.length / 1 : Nat) : Int) + 1) ≤ 140737488355328))) && true) <|
            need (((Nat.beq (((IntKind.i64.wrap (((y.1.length / 1 : Nat) : Int) + 1)).toNat) * 1) ((reps ((IntKind.i64.wrap (((y.1.length / 1 : Nat) : Int) + 1)).toNat) ([C.v (.int .i64 0)])).length)) && true) && true) <|
            need (((Nat.beq ((y.1.length / 1) * 1) y.1.length) && true) && true) <|
            (iter (fun (y1 : List C × List C × Int × Unit) =>
              bif decide (y1.2.2.1 < ((y.1.length / 1 : Nat) : Int)) then
                need (inR y1.2.2.1 (y1.2.1.length / 1)) <|
                unc (List.drop (0 + (y1.2.2.1.toNat * 1)) y1.2.1) fun c2 _ =>
                asI .i64 c2 fun i =>
                need (inR y1.2.2.1 (y1.1.length / 1)) <|
                unc (List.drop (0 + (y1.2.2.1.toNat * 1)) y1.1) fun c3 _ =>
                asI .i64 c3 fun i1 =>
                need (inR y1.2.2.1 (y1.1.length / 1)) <|
                need (((Nat.ble 0 (0 + (y1.2.2.1.toNat * 1))) && (Nat.ble ((0 + (y1.2.2.1.toNat * 1)) + 1) y1.1.length)) && true) <|
                need (inR (IntKind.i64.wrap (y1.2.2.1 + 1)) (y1.1.length / 1)) <|
                unc (List.drop (0 + (((IntKind.i64.wrap (y1.2.2.1 + 1)).toNat) * 1)) (putAt y1.1 (0 + (y1.2.2.1.toNat * 1)) ([C.v (.int .i64 (IntKind.i64.wrap (i1 + i)))]))) fun c4 _ =>
                asI .i64 c4 fun i2 =>
                need (inR (IntKind.i64.wrap (y1.2.2.1 + 1)) (y1.1.length / 1)) <|
                need (((Nat.ble 0 (0 + (((IntKind.i64.wrap (y1.2.2.1 + 1)).toNat) * 1))) && (Nat.ble ((0 + (((IntKind.i64.wrap (y1.2.2.1 + 1)).toNat) * 1)) + 1) ((putAt y1.1 (0 + (y1.2.2.1.toNat * 1)) ([C.v (.int .i64 (IntKind.i64.wrap (i1 + i)))])).length))) && true) <|
                bd (putAt (putAt y1.1 (0 + (y1.2.2.1.toNat * 1)) ([C.v (.int .i64 (IntKind.i64.wrap (i1 + i)))])) (0 + (((IntKind.i64.wrap (y1.2.2.1 + 1)).toNat) * 1)) ([C.v (.int .i64 (IntKind.i64.wrap (i2 + i)))])) fun cs =>
                need (((Nat.beq ((y1.1.length / 1) * 1) cs.length) && true) && true) <|
                need (((Nat.beq ((y1.2.1.length / 1) * 1) y1.2.1.length) && true) && true) <|
                some (0, (cs, y1.2.1, IntKind.i64.wrap (y1.2.2.1 + 1), ()))
              else
                need (((Nat.beq ((y1.1.length / 1) * 1) y1.1.length) && true) && true) <|
                need (((Nat.beq ((y1.2.1.length / 1) * 1) y1.2.1.length) && true) && true) <|
                some (1, (y1.1, y1.2.1, y1.2.2.1, ()))) fu (reps ((IntKind.i64.wrap (((y.1.length / 1 : Nat) : Int) + 1)).toNat) ([C.v (.int .i64 0)]), y.1, 0, ())).bind fun p =>
            need (((Nat.beq ((p.2.1.length / 1) * 1) p.2.1.length) && true) && true) <|
            some (0, (p.2.1, IntKind.i64.wrap (y.2.1 + 1), ()))
          else
            need (((Nat.beq ((y.1.length / 1) * 1) y.1.length) && true) && true) <|
            some (1, (y.1, y.2.1, ()))) fu ([C.v (.int .i64 1)], 0, ())).bind fun p1 =>
        need (inR a1 (p1.2.1.length / 1)) <|
        unc (List.drop (0 + (a1.toNat * 1)) p1.2.1) fun c5 _ =>
        asI .i64 c5 fun i3 =>
        some ⟨V.tup [I i3, I 0], [], none⟩) := by kernel_rfl
/- synoptic/synopticref39.Choose -/
theorem eq_synopticref39_Choose (fu d : Nat) (a0 : Int) (a1 : Int) :
    cl fu (d + 1) fn_synopticref39_Choose [I a0, I a1] [] = (
    bif decide (a0 < 0) then
      some ⟨V.tup [I 0, I 1], [], none⟩
    else
      bif decide (a0 > 60) then
        some ⟨V.tup [I 0, I 1], [], none⟩
      else
        bif decide (a1 < 0) then
          some ⟨V.tup [I 0, I 1], [], none⟩
        else
          bif decide (a1 > a0) then
            some ⟨V.tup [I 0, I 1], [], none⟩
          else
            (iter (fun (y : List C × Int × Unit) =>
              bif decide (y.2.1 < a0) then
                need (((((decide (0 ≤ IntKind.i64.wrap (((y.1.length / 1 : Nat) : Int) + 1))) && (decide (IntKind.i64.wrap (((y.1.length / 1 : Nat) : Int) + 1) ≤ IntKind.i64.wrap (((y.1.length / 1 : Nat) : Int) + 1)))) && (decide ((8 : Int) * (IntKind.i64.wrap (((y.1.length / 1 : Nat) : Int) + 1)) ≤ 140737488355328))) && (decide (IntKind.i64.wrap (((y.1.length / 1 : Nat) : Int) + 1) ≤ 140737488355328))) && true) <|
                need (((Nat.beq ((y.1.length / 1) * 1) y.1.length) && true) && true) <|
                need (((Nat.beq (((IntKind.i64.wrap (((y.1.length / 1 : Nat) : Int) + 1)).toNat) * 1) ((reps ((IntKind.i64.wrap (((y.1.length / 1 : Nat) : Int) + 1)).toNat) ([C.v (.int .i64 0)])).length)) && true) && true) <|
                (iter (fun (y1 : List C × List C × Int × Unit) =>
                  bif decide (y1.2.2.1 < ((y1.1.length / 1 : Nat) : Int)) then
                    need (inR y1.2.2.1 (y1.2.1.length / 1)) <|
                    unc (List.drop (0 + (y1.2.2.1.toNat * 1)) y1.2.1) fun c _ =>
                    asI .i64 c fun i =>
                    need (inR y1.2.2.1 (y1.1.length / 1)) <|
                    unc (List.drop (0 + (y1.2.2.1.toNat * 1)) y1.1) fun c1 _ =>
                    asI .i64 c1 fun i1 =>
                    need (inR y1.2.2.1 (y1.2.1.length / 1)) <|
                    need (((Nat.ble 0 (0 + (y1.2.2.1.toNat * 1))) && (Nat.ble ((0 + (y1.2.2.1.toNat * 1)) + 1) y1.2.1.length)) && true) <|
                    need (inR (IntKind.i64.wrap (y1.2.2.1 + 1)) (y1.2.1.length / 1)) <|
                    unc (List.drop (0 + (((IntKind.i64.wrap (y1.2.2.1 + 1)).toNat) * 1)) (putAt y1.2.1 (0 + (y1.2.2.1.toNat * 1)) ([C.v (.int .i64 (IntKind.i64.wrap (i + i1)))]))) fun c2 _ =>
                    asI .i64 c2 fun i2 =>
                    need (inR y1.2.2.1 (y1.1.length / 1)) <|
                    unc (List.drop (0 + (y1.2.2.1.toNat * 1)) y1.1) fun c3 _ =>
                    asI .i64 c3 fun i3 =>
                    need (inR (IntKind.i64.wrap (y1.2.2.1 + 1)) (y1.2.1.length / 1)) <|
                    need (((Nat.ble 0 (0 + (((IntKind.i64.wrap (y1.2.2.1 + 1)).toNat) * 1))) && (Nat.ble ((0 + (((IntKind.i64.wrap (y1.2.2.1 + 1)).toNat) * 1)) + 1) ((putAt y1.2.1 (0 + (y1.2.2.1.toNat * 1)) ([C.v (.int .i64 (IntKind.i64.wrap (i + i1)))])).length))) && true) <|
                    bd (putAt (putAt y1.2.1 (0 + (y1.2.2.1.toNat * 1)) ([C.v (.int .i64 (IntKind.i64.wrap (i + i1)))])) (0 + (((IntKind.i64.wrap (y1.2.2.1 + 1)).toNat) * 1)) ([C.v (.int .i64 (IntKind.i64.wrap (i2 + i3)))])) fun cs =>
                    need (((Nat.beq ((y1.1.length / 1) * 1) y1.1.length) && true) && true) <|
                    need (((Nat.beq ((y1.2.1.length / 1) * 1) cs.length) && true) && true) <|
                    some (0, (y1.1, cs, IntKind.i64.wrap (y1.2.2.1 + 1), ()))
                  else
                    need (((Nat.beq ((y1.1.length / 1) * 1) y1.1.length) && true) && true) <|
                    need (((Nat.beq ((y1.2.1.length / 1) * 1) y1.2.1.length) && true) && true) <|
                    some (1, (y1.1, y1.2.1, y1.2.2.1, ()))) fu (y.1, reps ((IntKind.i64.wrap (((y.1.length / 1 : Nat) : Int) + 1)).toNat) ([C.v (.int .i64 0)]), 0, ())).bind fun p =>
                need (((Nat.beq ((p.2.2.1.length / 1) * 1) p.2.2.1.length) && true) && true) <|
                some (0, (p.2.2.1, IntKind.i64.wrap (y.2.1 + 1), ()))
              else
                need (((Nat.beq ((y.1.length / 1) * 1) y.1.length) && true) && true) <|
                some (1, (y.1, y.2.1, ()))) fu ([C.v (.int .i64 1)], 0, ())).bind fun p1 =>
            need (inR a1 (p1.2.1.length / 1)) <|
            unc (List.drop (0 + (a1.toNat * 1)) p1.2.1) fun c4 _ =>
            asI .i64 c4 fun i4 =>
            some ⟨V.tup [I i4, I 0], [], none⟩) := by kernel_rfl
/- synoptic/synopticref39.Tail -/
theorem eq_synopticref39_Tail (fu d : Nat) (a0 : Int) (a1 : Int) :
    cl fu (d + 1) fn_synopticref39_Tail [I a0, I a1] [] = (
    bif decide (a0 < 0) then
      some ⟨V.tup [V.agg ([C.v (.int .i64 0), C.v (.int .i64 0)]), I 1], [], none⟩
    else
      bif decide (a0 > 50) then
        some ⟨V.tup [V.agg ([C.v (.int .i64 0), C.v (.int .i64 0)]), I 1], [], none⟩
      else
        (iter (fun (y : Int × Int × (Int × Int × Unit) × Unit) =>
          bif decide (y.2.1 ≤ (if a0 < a1 then a0 else a1)) then
            (cl fu d fn_synopticref39_Choose [I a0, I y.2.1] []).bind fun out =>
            rT out.r fun xs =>
            uncV xs fun x ys =>
            rC x fun c =>
            asI .i64 c fun i =>
            uncV ys fun x1 ys1 =>
            rC x1 fun c1 =>
            asI .i64 c1 fun i1 =>
            nilV ys1 <|
            some (0, (IntKind.i64.wrap (y.1 + i), IntKind.i64.wrap (y.2.1 + 1), (y.2.2.1.1, y.2.2.1.2.1, ()), ()))
          else
            some (1, (y.1, y.2.1, (y.2.2.1.1, y.2.2.1.2.1, ()), ()))) fu (0, 0, (0, 0, ()), ())).bind fun p =>
        need (!(decide (IntKind.u64.wrap a0 < 0))) <|
        (cl fu d fn_synopticref38_Reduce [I p.2.1, I (IntKind.i64.wrap (1 * 2 ^ (min (IntKind.u64.wrap a0).toNat (IntKind.bits .i64))))] []).bind fun out1 =>
        rT out1.r fun xs1 =>
        uncV xs1 fun x2 ys2 =>
        rA x2 fun cs =>
        need (Nat.beq cs.length 2) <|
        unc cs fun c2 r =>
        asI .i64 c2 fun i2 =>
        unc r fun c3 _ =>
        asI .i64 c3 fun i3 =>
        uncV ys2 fun x3 ys3 =>
        rC x3 fun c4 =>
        asI .i64 c4 fun i4 =>
        nilV ys3 <|
        some ⟨V.tup [V.agg ([C.v (.int .i64 i2), C.v (.int .i64 i3)]), I i4], [], none⟩) := by kernel_rfl
/- synoptic/sampling.Ranks -/
theorem eq_sampling_Ranks (fu d : Nat) (a0 : Int) (a1_0 : Int) (a1_1 : Int) :
    cl fu (d + 1) fn_sampling_Ranks [I a0, V.agg ([C.v (.int .i64 a1_0), C.v (.int .i64 a1_1)])] [] = (
    (cl fu d fn_sampling_within [I a0, I 0, I 50] []).bind fun out =>
    rC out.r fun c =>
    asB c fun b =>
    bif !b then
      some ⟨V.tup [I 0, I 1], [], none⟩
    else
      (cl fu d fn_sampling_reduced [V.agg ([C.v (.int .i64 a1_0), C.v (.int .i64 a1_1)])] []).bind fun out1 =>
      rC out1.r fun c1 =>
      asB c1 fun b1 =>
      bif !b1 then
        some ⟨V.tup [I 0, I 1], [], none⟩
      else
        (iter (fun (y : Int × Int × Unit) =>
          bif decide (y.2.1 ≤ IntKind.i64.wrap (a0 + 1)) then
            (cl fu d fn_sampling_Tail [I a0, I (IntKind.i64.wrap (y.2.1 - 1))] []).bind fun out2 =>
            rT out2.r fun xs =>
            uncV xs fun x ys =>
            rA x fun cs =>
            need (Nat.beq cs.length 2) <|
            unc cs fun c2 r =>
            asI .i64 c2 fun i =>
            unc r fun c3 _ =>
            asI .i64 c3 fun i1 =>
            uncV ys fun x1 ys1 =>
            rC x1 fun c4 =>
            asI .i64 c4 fun i2 =>
            nilV ys1 <|
            bif i2 == 0 then
              (cl fu d fn_score_Compare [V.agg ([C.v (.int .i64 i), C.v (.int .i64 i1)]), V.agg ([C.v (.int .i64 (IntKind.i64.wrap (a1_1 - a1_0))), C.v (.int .i64 (IntKind.i64.wrap (2 * a1_1)))])] []).bind fun out3 =>
              rC out3.r fun c5 =>
              asI .i64 c5 fun i3 =>
              bif decide (i3 ≤ 0) then
                some (0, (y.2.1, IntKind.i64.wrap (y.2.1 + 1), ()))
              else
                some (0, (y.1, IntKind.i64.wrap (y.2.1 + 1), ()))
            else
              some (0, (y.1, IntKind.i64.wrap (y.2.1 + 1), ()))
          else
            some (1, (y.1, y.2.1, ()))) fu (0, 1, ())).bind fun p =>
        some ⟨V.tup [I p.2.1, I 0], [], none⟩) := by kernel_rfl
/- synoptic/synopticref39.Ranks -/
theorem eq_synopticref39_Ranks (fu d : Nat) (a0 : Int) (a1_0 : Int) (a1_1 : Int) :
    cl fu (d + 1) fn_synopticref39_Ranks [I a0, V.agg ([C.v (.int .i64 a1_0), C.v (.int .i64 a1_1)])] [] = (
    bif decide (a0 < 0) then
      some ⟨V.tup [I 0, I 1], [], none⟩
    else
      bif decide (a0 > 50) then
        some ⟨V.tup [I 0, I 1], [], none⟩
      else
        (cl fu d fn_synopticref39_level [V.agg ([C.v (.int .i64 a1_0), C.v (.int .i64 a1_1)])] []).bind fun out =>
        rC out.r fun c =>
        asB c fun b =>
        bif !b then
          some ⟨V.tup [I 0, I 1], [], none⟩
        else
          (iter (fun (y : Int × Unit) =>
            bif decide (y.1 ≤ a0) then
              (cl fu d fn_synopticref39_Tail [I a0, I y.1] []).bind fun out1 =>
              rT out1.r fun xs =>
              uncV xs fun x ys =>
              rA x fun cs =>
              need (Nat.beq cs.length 2) <|
              unc cs fun c1 r =>
              asI .i64 c1 fun i =>
              unc r fun c2 _ =>
              asI .i64 c2 fun i1 =>
              uncV ys fun x1 ys1 =>
              rC x1 fun c3 =>
              asI .i64 c3 fun i2 =>
              nilV ys1 <|
              (cl fu d fn_synopticref38_Compare [V.agg ([C.v (.int .i64 (IntKind.i64.wrap (2 * i))), C.v (.int .i64 i1)]), V.agg ([C.v (.int .i64 (IntKind.i64.wrap (a1_1 - a1_0))), C.v (.int .i64 a1_1)])] []).bind fun out2 =>
              rC out2.r fun c4 =>
              asI .i64 c4 fun i3 =>
              bif decide (i3 > 0) then
                some (1, (y.1, ()))
              else
                some (0, (IntKind.i64.wrap (y.1 + 1), ()))
            else
              some (1, (y.1, ()))) fu (0, ())).bind fun p =>
          some ⟨V.tup [I p.2.1, I 0], [], none⟩) := by kernel_rfl
/- synoptic/synopticref39.Median -/
theorem eq_synopticref39_Median (fu d : Nat) (n0 : Nat) (a0 : List C) (a1_0 : Int) (a1_1 : Int) :
    cl fu (d + 1) fn_synopticref39_Median [V.c (C.sl n0 a0), V.agg ([C.v (.int .i64 a1_0), C.v (.int .i64 a1_1)])] [] = (
    bif decide (((n0 : Nat) : Int) > 50) then
      some ⟨V.tup [I 0, I 0, I 1], [], none⟩
    else
      (cl fu d fn_synopticref22_Small [V.c (C.sl n0 a0), I 1000000] []).bind fun out =>
      rC out.r fun c =>
      asB c fun b =>
      bif !b then
        some ⟨V.tup [I 0, I 0, I 1], [], none⟩
      else
        (cl fu d fn_synopticref39_Ranks [I ((n0 : Nat) : Int), V.agg ([C.v (.int .i64 a1_0), C.v (.int .i64 a1_1)])] []).bind fun out1 =>
        rT out1.r fun xs =>
        uncV xs fun x ys =>
        rC x fun c1 =>
        asI .i64 c1 fun i =>
        uncV ys fun x1 ys1 =>
        rC x1 fun c2 =>
        asI .i64 c2 fun i1 =>
        nilV ys1 <|
        bif i1 != 0 then
          some ⟨V.tup [I 0, I 0, I i1], [], none⟩
        else
          bif i == 0 then
            some ⟨V.tup [I 0, I 0, I 9], [], none⟩
          else
            (cl fu d fn_synopticref39_sorted [V.c (C.sl n0 a0)] []).bind fun out2 =>
            rC out2.r fun c3 =>
            asSl c3 fun n cs =>
            need (inR (IntKind.i64.wrap (i - 1)) n) <|
            unc (List.drop (((IntKind.i64.wrap (i - 1)).toNat) * 1) cs) fun c4 _ =>
            asI .i64 c4 fun i2 =>
            asSl c3 fun n1 cs1 =>
            asSl c3 fun n2 cs2 =>
            need (inR (IntKind.i64.wrap (((n1 : Nat) : Int) - i)) n2) <|
            unc (List.drop (((IntKind.i64.wrap (((n1 : Nat) : Int) - i)).toNat) * 1) cs2) fun c5 _ =>
            asI .i64 c5 fun i3 =>
            some ⟨V.tup [I i2, I i3, I 0], [], none⟩) := by kernel_rfl
/- synoptic/sampling.outside -/
theorem eq_sampling_outside (fu d : Nat) (n0 : Nat) (a0 : List C) :
    cl fu (d + 1) fn_sampling_outside [V.c (C.sl n0 a0)] [] = (
    (cl fu d fn_slices_ContainsFunc_sint_int [V.c (C.sl n0 a0), V.c (C.fn fn_sampling_outside_1 ([]))] []).bind fun out =>
    rC out.r fun c =>
    asB c fun b =>
    some ⟨B b, [], none⟩) := by kernel_rfl
/- synoptic/sampling.chosen -/
theorem eq_sampling_chosen (fu d : Nat) (n0 : Nat) (a0 : List C) (a1 : Int) :
    cl fu (d + 1) fn_sampling_chosen [V.c (C.sl n0 a0), V.c (C.v (.int .u64 a1))] [] = (
    (iter (fun (y : Int × Int × Unit) =>
      bif decide (y.2.1 < ((n0 : Nat) : Int)) then
        need (inR y.2.1 n0) <|
        unc (List.drop (y.2.1.toNat * 1) a0) fun c _ =>
        asI .i64 c fun i =>
        need (!(decide (y.2.1 < 0))) <|
        bd (IntKind.u64.wrap (BitVec.ofInt (IntKind.bits .u64) (Int.fdiv a1 (2 ^ (min y.2.1.toNat (IntKind.bits .u64)))) &&& BitVec.ofInt (IntKind.bits .u64) 1).toNat) fun z =>
        bif z == 1 then
          some (0, (IntKind.i64.wrap (y.1 + i), IntKind.i64.wrap (y.2.1 + 1), ()))
        else
          some (0, (y.1, IntKind.i64.wrap (y.2.1 + 1), ()))
      else
        some (1, (y.1, y.2.1, ()))) fu (0, 0, ())).bind fun p =>
    some ⟨I p.2.1, [], none⟩) := by kernel_rfl
/- synoptic/sampling.choices -/
theorem eq_sampling_choices (fu d : Nat) (a0 : Int) :
    cl fu (d + 1) fn_sampling_choices [I a0] [] = (
    some ⟨V.c (C.fn fn_sampling_choices_1 ([C.cp ([C.v (.int .i64 a0)])])), [], none⟩) := by kernel_rfl
/- synoptic/sampling.absolute -/
theorem eq_sampling_absolute (fu d : Nat) (a0 : Int) :
    cl fu (d + 1) fn_sampling_absolute [I a0] [] = (
    some ⟨I (if IntKind.i64.wrap (0 - a0) > a0 then IntKind.i64.wrap (0 - a0) else a0), [], none⟩) := by kernel_rfl
/- synoptic/score.sign -/
theorem eq_score_sign (fu d : Nat) (a0 : Int) :
    cl fu (d + 1) fn_score_sign [I a0] [] = (
    (cl fu d fn_cmp_Compare_int [I a0, I 0] []).bind fun out =>
    rC out.r fun c =>
    asI .i64 c fun i =>
    some ⟨I i, [], none⟩) := by kernel_rfl
/- cmp.Compare[int] -/
theorem eq_cmp_Compare_int (fu d : Nat) (a0 : Int) (a1 : Int) :
    cl fu (d + 1) fn_cmp_Compare_int [I a0, I a1] [] = (
    (cl fu d fn_cmp_isNaN_int [I a0] []).bind fun out =>
    rC out.r fun c =>
    asB c fun b =>
    (cl fu d fn_cmp_isNaN_int [I a1] []).bind fun out1 =>
    rC out1.r fun c1 =>
    asB c1 fun b1 =>
    bif b then
      bif b1 then
        some ⟨I 0, [], none⟩
      else
        some ⟨I (-1), [], none⟩
    else
      bif b1 then
        some ⟨I 1, [], none⟩
      else
        bif decide (a0 < a1) then
          some ⟨I (-1), [], none⟩
        else
          bif decide (a0 > a1) then
            some ⟨I 1, [], none⟩
          else
            some ⟨I 0, [], none⟩) := by kernel_rfl
/- math/bits.Mul64 -/
theorem eq_bits_Mul64 (fu d : Nat) (a0 : Int) (a1 : Int) :
    cl fu (d + 1) fn_bits_Mul64 [V.c (C.v (.int .u64 a0)), V.c (C.v (.int .u64 a1))] [] = (
    bd (IntKind.u64.wrap ((IntKind.u64.wrap (BitVec.ofInt (IntKind.bits .u64) a0 &&& BitVec.ofInt (IntKind.bits .u64) 4294967295).toNat) * (IntKind.u64.wrap (BitVec.ofInt (IntKind.bits .u64) a1 &&& BitVec.ofInt (IntKind.bits .u64) 4294967295).toNat))) fun z =>
    bd (IntKind.u64.wrap ((Int.fdiv a0 (2 ^ 32)) * (IntKind.u64.wrap (BitVec.ofInt (IntKind.bits .u64) a1 &&& BitVec.ofInt (IntKind.bits .u64) 4294967295).toNat))) fun z1 =>
    bd (IntKind.u64.wrap (BitVec.ofInt (IntKind.bits .u64) (IntKind.u64.wrap (z1 + (Int.fdiv z (2 ^ 32)))) &&& BitVec.ofInt (IntKind.bits .u64) 4294967295).toNat) fun z2 =>
    bd (IntKind.u64.wrap ((IntKind.u64.wrap (BitVec.ofInt (IntKind.bits .u64) a0 &&& BitVec.ofInt (IntKind.bits .u64) 4294967295).toNat) * (Int.fdiv a1 (2 ^ 32)))) fun z3 =>
    bd (IntKind.u64.wrap ((IntKind.u64.wrap ((Int.fdiv a0 (2 ^ 32)) * (Int.fdiv a1 (2 ^ 32)))) + (Int.fdiv (IntKind.u64.wrap (z1 + (Int.fdiv z (2 ^ 32)))) (2 ^ 32)))) fun z4 =>
    some ⟨V.tup [V.c (C.v (.int .u64 (IntKind.u64.wrap (z4 + (Int.fdiv (IntKind.u64.wrap (z2 + z3)) (2 ^ 32)))))), V.c (C.v (.int .u64 (IntKind.u64.wrap (a0 * a1))))], [], none⟩) := by kernel_rfl
/- cmp.Or[int] -/
theorem eq_cmp_Or_int (fu d : Nat) (n0 : Nat) (a0 : List C) :
    cl fu (d + 1) fn_cmp_Or_int [V.c (C.sl n0 a0)] [] = (
    (iter (fun (y : Int × Int × Unit) =>
      bif decide (y.2.1 < ((n0 : Nat) : Int)) then
        need (inR y.2.1 n0) <|
        unc (List.drop (y.2.1.toNat * 1) a0) fun c _ =>
        asI .i64 c fun i =>
        bif i != 0 then
          some (2, (i, y.2.1, ()))
        else
          some (0, (y.1, IntKind.i64.wrap (y.2.1 + 1), ()))
      else
        some (1, (y.1, y.2.1, ()))) fu (0, 0, ())).bind fun p =>
    natD p.1 (
      some ⟨I 0, [], none⟩) fun m =>
    some ⟨I p.2.1, [], none⟩) := by kernel_rfl
/- cmp.Compare[uint64] -/
theorem eq_cmp_Compare_uint64 (fu d : Nat) (a0 : Int) (a1 : Int) :
    cl fu (d + 1) fn_cmp_Compare_uint64 [V.c (C.v (.int .u64 a0)), V.c (C.v (.int .u64 a1))] [] = (
    (cl fu d fn_cmp_isNaN_uint64 [V.c (C.v (.int .u64 a0))] []).bind fun out =>
    rC out.r fun c =>
    asB c fun b =>
    (cl fu d fn_cmp_isNaN_uint64 [V.c (C.v (.int .u64 a1))] []).bind fun out1 =>
    rC out1.r fun c1 =>
    asB c1 fun b1 =>
    bif b then
      bif b1 then
        some ⟨I 0, [], none⟩
      else
        some ⟨I (-1), [], none⟩
    else
      bif b1 then
        some ⟨I 1, [], none⟩
      else
        bif decide (a0 < a1) then
          some ⟨I (-1), [], none⟩
        else
          bif decide (a0 > a1) then
            some ⟨I 1, [], none⟩
          else
            some ⟨I 0, [], none⟩) := by kernel_rfl
/- synoptic/synopticref22.Small -/
theorem eq_synopticref22_Small (fu d : Nat) (n0 : Nat) (a0 : List C) (a1 : Int) :
    cl fu (d + 1) fn_synopticref22_Small [V.c (C.sl n0 a0), I a1] [] = (
    (iter (fun (y : Bool × Int × Unit) =>
      bif decide (y.2.1 < ((n0 : Nat) : Int)) then
        need (inR y.2.1 n0) <|
        unc (List.drop (y.2.1.toNat * 1) a0) fun c _ =>
        asI .i64 c fun i =>
        bif decide (i > a1) then
          some (2, (false, y.2.1, ()))
        else
          need (inR y.2.1 n0) <|
          unc (List.drop (y.2.1.toNat * 1) a0) fun c1 _ =>
          asI .i64 c1 fun i1 =>
          bif decide (i1 < IntKind.i64.wrap (0 - a1)) then
            some (2, (false, y.2.1, ()))
          else
            some (0, (y.1, IntKind.i64.wrap (y.2.1 + 1), ()))
      else
        some (1, (y.1, y.2.1, ()))) fu (false, 0, ())).bind fun p =>
    natD p.1 (
      some ⟨B true, [], none⟩) fun m =>
    some ⟨B p.2.1, [], none⟩) := by kernel_rfl
/- synoptic/synopticref39.size -/
theorem eq_synopticref39_size (fu d : Nat) (a0 : Int) :
    cl fu (d + 1) fn_synopticref39_size [I a0] [] = (
    some ⟨I (if IntKind.i64.wrap (0 - a0) > a0 then IntKind.i64.wrap (0 - a0) else a0), [], none⟩) := by kernel_rfl
/- synoptic/synopticref38.Reduce -/
theorem eq_synopticref38_Reduce (fu d : Nat) (a0 : Int) (a1 : Int) :
    cl fu (d + 1) fn_synopticref38_Reduce [I a0, I a1] [] = (
    bif a1 == 0 then
      some ⟨V.tup [V.agg ([C.v (.int .i64 0), C.v (.int .i64 0)]), I 1], [], none⟩
    else
      bif decide (a0 > 1152921504606846976) then
        some ⟨V.tup [V.agg ([C.v (.int .i64 0), C.v (.int .i64 0)]), I 1], [], none⟩
      else
        bif decide (a0 < (-1152921504606846976)) then
          some ⟨V.tup [V.agg ([C.v (.int .i64 0), C.v (.int .i64 0)]), I 1], [], none⟩
        else
          bif decide (a1 > 1152921504606846976) then
            some ⟨V.tup [V.agg ([C.v (.int .i64 0), C.v (.int .i64 0)]), I 1], [], none⟩
          else
            bif decide (a1 < (-1152921504606846976)) then
              some ⟨V.tup [V.agg ([C.v (.int .i64 0), C.v (.int .i64 0)]), I 1], [], none⟩
            else
              (bif decide (a1 < 0) then
                some (0, (IntKind.i64.wrap (0 - a0), IntKind.i64.wrap (0 - a1), (0, 0, ()), ()))
              else
                some (0, (a0, a1, (0, 0, ()), ())) : Option (Nat × Int × Int × (Int × Int × Unit) × Unit)).bind fun p =>
              (iter (fun (y : Int × Int × (Int × Int × Unit) × Unit) =>
                bif y.2.1 != 0 then
                  need (!(y.2.1 == 0)) <|
                  some (0, (y.2.1, Int.tmod y.1 y.2.1, (y.2.2.1.1, y.2.2.1.2.1, ()), ()))
                else
                  some (1, (y.1, y.2.1, (y.2.2.1.1, y.2.2.1.2.1, ()), ()))) fu ((if IntKind.i64.wrap (0 - p.2.1) > p.2.1 then IntKind.i64.wrap (0 - p.2.1) else p.2.1), p.2.2.1, (p.2.2.2.1.1, p.2.2.2.1.2.1, ()), ())).bind fun p1 =>
              need (!(p1.2.1 == 0)) <|
              need (!(p1.2.1 == 0)) <|
              some ⟨V.tup [V.agg ([C.v (.int .i64 (IntKind.i64.wrap (Int.tdiv p.2.1 p1.2.1))), C.v (.int .i64 (IntKind.i64.wrap (Int.tdiv p.2.2.1 p1.2.1)))]), I 0], [], none⟩) := by kernel_rfl
/- slices.Concat[[]int,int] -/
theorem eq_slices_Concat_sint_int (fu d : Nat) (n0 : Nat) (a0 : List C) :
    cl fu (d + 1) fn_slices_Concat_sint_int [V.c (C.sl n0 a0)] [] = (
    (iter (fun (y : Int × Int × Unit) =>
      bif decide (y.2.1 < ((n0 : Nat) : Int)) then
        need (inR y.2.1 n0) <|
        unc (List.drop (y.2.1.toNat * 1) a0) fun c _ =>
        asSl c fun n cs =>
        bif decide (IntKind.i64.wrap (y.1 + ((n : Nat) : Int)) < 0) then
          none
        else
          some (0, (IntKind.i64.wrap (y.1 + ((n : Nat) : Int)), IntKind.i64.wrap (y.2.1 + 1), ()))
      else
        some (1, (y.1, y.2.1, ()))) fu (0, 0, ())).bind fun p =>
    (cl fu d fn_slices_Grow_sint_int [V.c C.nl, I p.2.1] []).bind fun out =>
    rW out.r 0 fun n1 =>
    uncO out.objs fun o os =>
    rS o ty_int 0 fun cs1 =>
    need ((Nat.beq (n1 * 1) cs1.length) && true) <|
    need (((Nat.beq (n1 * 1) cs1.length) && true) && true) <|
    (iter (fun (y1 : List C × Int × Unit) =>
      bif decide (y1.2.1 < ((n0 : Nat) : Int)) then
        need (inR y1.2.1 n0) <|
        unc (List.drop (y1.2.1.toNat * 1) a0) fun c1 _ =>
        asSl c1 fun n2 cs2 =>
        need (Nat.beq (n2 * 1) cs2.length) <|
        need ((((Nat.beq ((y1.1.length / 1) * 1) y1.1.length) && true) && (Nat.ble (((y1.1.length / 1) + n2) * 8) 140737488355328)) && (Nat.ble ((y1.1.length / 1) + n2) 140737488355328)) <|
        need (((Nat.beq (((y1.1.length / 1) + n2) * 1) ((y1.1 ++ cs2).length)) && true) && true) <|
        some (0, (y1.1 ++ cs2, IntKind.i64.wrap (y1.2.1 + 1), ()))
      else
        need (((Nat.beq ((y1.1.length / 1) * 1) y1.1.length) && true) && true) <|
        some (1, (y1.1, y1.2.1, ()))) fu (cs1, 0, ())).bind fun p1 =>
    need (Nat.ble (0 + ((p1.2.1.length / 1) * 1)) p1.2.1.length) <|
    some ⟨V.c (C.sl (p1.2.1.length / 1) (List.take ((p1.2.1.length / 1) * 1) p1.2.1)), [], none⟩) := by kernel_rfl
/- synoptic/sampling.Exchange$1 -/
theorem eq_sampling_Exchange_1 (fu d : Nat) (a0 : Int) (e0 : List C) (e1 : List C) (e2 : List C) :
    cl fu (d + 1) fn_sampling_Exchange_1 [V.c (C.v (.int .u64 a0)), V.c (C.cp e0), V.c (C.cp e1), V.c (C.cp e2)] [] = (
    unc e0 fun c r =>
    need (noYl [V.c (nrm c)]) <|
    (cl fu d fn_sampling_chosen [V.c (nrm c), V.c (C.v (.int .u64 a0))] []).bind fun out =>
    rC out.r fun c1 =>
    asI .i64 c1 fun i =>
    unc e0 fun c2 _ =>
    asSl c2 fun n cs =>
    unc e1 fun c3 _ =>
    asI .i64 c3 fun i1 =>
    unc e2 fun c4 _ =>
    asSl c4 fun n1 cs1 =>
    (cl fu d fn_sampling_absolute [I (IntKind.i64.wrap ((IntKind.i64.wrap (i * ((n : Nat) : Int))) - (IntKind.i64.wrap (i1 * ((n1 : Nat) : Int)))))] []).bind fun out1 =>
    rC out1.r fun c5 =>
    asI .i64 c5 fun i2 =>
    some ⟨I i2, [], none⟩) := by kernel_rfl
/- math/bits.OnesCount -/
theorem eq_bits_OnesCount (fu d : Nat) (a0 : Int) :
    cl fu (d + 1) fn_bits_OnesCount [V.c (C.v (.int .u64 a0))] [] = (
    (cl fu d fn_bits_OnesCount64 [V.c (C.v (.int .u64 a0))] []).bind fun out =>
    rC out.r fun c =>
    asI .i64 c fun i =>
    some ⟨I i, [], none⟩) := by kernel_rfl
/- (*synoptic/synopticfield.Codes).Left -/
theorem eq_synopticfield_Codes_Left (fu d : Nat) (a0_0 : C) (a0_1 : Int) :
    cl fu (d + 1) fn_synopticfield_Codes_Left [V.ptr 1000000 0] [.ob ty_synopticfield_Codes 0 ([a0_0, C.v (.int .i64 a0_1)])] = (
    asSl a0_0 fun n cs =>
    some ⟨B (decide (a0_1 < ((n : Nat) : Int))), [.ob ty_synopticfield_Codes 0 ([a0_0, C.v (.int .i64 a0_1)])], none⟩) := by kernel_rfl
/- slices.Sorted[int] -/
theorem eq_slices_Sorted_int (fu d : Nat) (k0 : Nat) :
    cl fu (d + 1) fn_slices_Sorted_int [V.c (C.fn k0 ([]))] [] = (
    (cl fu d fn_slices_Collect_int [V.c (C.fn k0 ([]))] []).bind fun out =>
    rW out.r 0 fun n =>
    uncO out.objs fun o os =>
    rS o ty_int 0 fun cs =>
    need ((Nat.beq (n * 1) cs.length) && true) <|
    (cl fu d fn_slices_Sort_sint_int [V.own 1000000 0 n] [.sb ty_int 0 cs]).bind fun out1 =>
    uncO out1.objs fun o1 os1 =>
    rS o1 ty_int 0 fun cs1 =>
    need (Nat.beq cs1.length cs.length) <|
    need (Nat.ble (0 + (n * 1)) cs1.length) <|
    some ⟨V.c (C.sl n (List.take (n * 1) cs1)), [], none⟩) := by kernel_rfl
/- slices.Sorted[int] -/
theorem eq1_slices_Sorted_int (fu d : Nat) (k0 : Nat) (a0_0 : C) :
    cl fu (d + 1) fn_slices_Sorted_int [V.c (C.fn k0 ([a0_0]))] [] = (
    (cl fu d fn_slices_Collect_int [V.c (C.fn k0 ([a0_0]))] []).bind fun out =>
    rW out.r 0 fun n =>
    uncO out.objs fun o os =>
    rS o ty_int 0 fun cs =>
    need ((Nat.beq (n * 1) cs.length) && true) <|
    (cl fu d fn_slices_Sort_sint_int [V.own 1000000 0 n] [.sb ty_int 0 cs]).bind fun out1 =>
    uncO out1.objs fun o1 os1 =>
    rS o1 ty_int 0 fun cs1 =>
    need (Nat.beq cs1.length cs.length) <|
    need (Nat.ble (0 + (n * 1)) cs1.length) <|
    some ⟨V.c (C.sl n (List.take (n * 1) cs1)), [], none⟩) := by kernel_rfl
/- slices.Sorted[int] -/
theorem eq2_slices_Sorted_int (fu d : Nat) (k0 : Nat) (a0_0 : C) (a0_1 : C) :
    cl fu (d + 1) fn_slices_Sorted_int [V.c (C.fn k0 ([a0_0, a0_1]))] [] = (
    (cl fu d fn_slices_Collect_int [V.c (C.fn k0 ([a0_0, a0_1]))] []).bind fun out =>
    rW out.r 0 fun n =>
    uncO out.objs fun o os =>
    rS o ty_int 0 fun cs =>
    need ((Nat.beq (n * 1) cs.length) && true) <|
    (cl fu d fn_slices_Sort_sint_int [V.own 1000000 0 n] [.sb ty_int 0 cs]).bind fun out1 =>
    uncO out1.objs fun o1 os1 =>
    rS o1 ty_int 0 fun cs1 =>
    need (Nat.beq cs1.length cs.length) <|
    need (Nat.ble (0 + (n * 1)) cs1.length) <|
    some ⟨V.c (C.sl n (List.take (n * 1) cs1)), [], none⟩) := by kernel_rfl
/- slices.Sorted[int] -/
theorem eq3_slices_Sorted_int (fu d : Nat) (k0 : Nat) (a0_0 : C) (a0_1 : C) (a0_2 : C) :
    cl fu (d + 1) fn_slices_Sorted_int [V.c (C.fn k0 ([a0_0, a0_1, a0_2]))] [] = (
    (cl fu d fn_slices_Collect_int [V.c (C.fn k0 ([a0_0, a0_1, a0_2]))] []).bind fun out =>
    rW out.r 0 fun n =>
    uncO out.objs fun o os =>
    rS o ty_int 0 fun cs =>
    need ((Nat.beq (n * 1) cs.length) && true) <|
    (cl fu d fn_slices_Sort_sint_int [V.own 1000000 0 n] [.sb ty_int 0 cs]).bind fun out1 =>
    uncO out1.objs fun o1 os1 =>
    rS o1 ty_int 0 fun cs1 =>
    need (Nat.beq cs1.length cs.length) <|
    need (Nat.ble (0 + (n * 1)) cs1.length) <|
    some ⟨V.c (C.sl n (List.take (n * 1) cs1)), [], none⟩) := by kernel_rfl
/- slices.Values[[]int,int] -/
theorem eq_slices_Values_sint_int (fu d : Nat) (n0 : Nat) (a0 : List C) :
    cl fu (d + 1) fn_slices_Values_sint_int [V.c (C.sl n0 a0)] [] = (
    some ⟨V.c (C.fn fn_slices_Values_sint_int_1 ([C.cp ([C.sl n0 a0])])), [], none⟩) := by kernel_rfl
/- synoptic/sampling.within -/
theorem eq_sampling_within (fu d : Nat) (a0 : Int) (a1 : Int) (a2 : Int) :
    cl fu (d + 1) fn_sampling_within [I a0, I a1, I a2] [] = (
    bif decide (a1 ≤ a0) then
      some ⟨B (decide (a0 ≤ a2)), [], none⟩
    else
      some ⟨B false, [], none⟩) := by kernel_rfl
/- synoptic/score.within -/
theorem eq_score_within (fu d : Nat) (a0 : Int) (a1 : Int) (a2 : Int) :
    cl fu (d + 1) fn_score_within [I a0, I a1, I a2] [] = (
    bif decide (a1 ≤ a0) then
      some ⟨B (decide (a0 ≤ a2)), [], none⟩
    else
      some ⟨B false, [], none⟩) := by kernel_rfl
/- synoptic/sampling.reduced -/
theorem eq_sampling_reduced (fu d : Nat) (a0_0 : Int) (a0_1 : Int) :
    cl fu (d + 1) fn_sampling_reduced [V.agg ([C.v (.int .i64 a0_0), C.v (.int .i64 a0_1)])] [] = (
    (cl fu d fn_sampling_within [I a0_1, I 1, I 1000000] []).bind fun out =>
    rC out.r fun c =>
    asB c fun b =>
    bif !b then
      some ⟨B false, [], none⟩
    else
      (cl fu d fn_sampling_within [I a0_0, I 0, I a0_1] []).bind fun out1 =>
      rC out1.r fun c1 =>
      asB c1 fun b1 =>
      bif !b1 then
        some ⟨B false, [], none⟩
      else
        (cl fu d fn_score_Reduce [I a0_0, I a0_1] []).bind fun out2 =>
        rT out2.r fun xs =>
        uncV xs fun x ys =>
        rA x fun cs =>
        need (Nat.beq cs.length 2) <|
        unc cs fun c2 r =>
        asI .i64 c2 fun i =>
        unc r fun c3 _ =>
        asI .i64 c3 fun i1 =>
        uncV ys fun x1 ys1 =>
        rC x1 fun c4 =>
        asI .i64 c4 fun i2 =>
        nilV ys1 <|
        bif i2 == 0 then
          some ⟨B ((i == a0_0) && ((i1 == a0_1) && true)), [], none⟩
        else
          some ⟨B false, [], none⟩) := by kernel_rfl
/- synoptic/synopticref39.level -/
theorem eq_synopticref39_level (fu d : Nat) (a0_0 : Int) (a0_1 : Int) :
    cl fu (d + 1) fn_synopticref39_level [V.agg ([C.v (.int .i64 a0_0), C.v (.int .i64 a0_1)])] [] = (
    bif decide (a0_0 < 0) then
      some ⟨B false, [], none⟩
    else
      bif decide (a0_1 < 1) then
        some ⟨B false, [], none⟩
      else
        bif decide (a0_1 > 1000000) then
          some ⟨B false, [], none⟩
        else
          bif decide (a0_0 > a0_1) then
            some ⟨B false, [], none⟩
          else
            (cl fu d fn_synopticref38_Reduce [I a0_0, I a0_1] []).bind fun out =>
            rT out.r fun xs =>
            uncV xs fun x ys =>
            rA x fun cs =>
            need (Nat.beq cs.length 2) <|
            unc cs fun c r =>
            asI .i64 c fun i =>
            unc r fun c1 _ =>
            asI .i64 c1 fun i1 =>
            uncV ys fun x1 ys1 =>
            rC x1 fun c2 =>
            asI .i64 c2 fun i2 =>
            nilV ys1 <|
            some ⟨B ((i == a0_0) && ((i1 == a0_1) && true)), [], none⟩) := by kernel_rfl
/- synoptic/synopticref38.Compare -/
theorem eq_synopticref38_Compare (fu d : Nat) (a0_0 : Int) (a0_1 : Int) (a1_0 : Int) (a1_1 : Int) :
    cl fu (d + 1) fn_synopticref38_Compare [V.agg ([C.v (.int .i64 a0_0), C.v (.int .i64 a0_1)]), V.agg ([C.v (.int .i64 a1_0), C.v (.int .i64 a1_1)])] [] = (
    (cl fu d fn_synopticref22_Product [I a0_0, I a1_1] []).bind fun out =>
    rA out.r fun cs =>
    need (Nat.beq cs.length 2) <|
    unc cs fun c r =>
    asI .i64 c fun i =>
    unc r fun c1 _ =>
    asI .u64 c1 fun i1 =>
    (cl fu d fn_synopticref22_Product [I a1_0, I a0_1] []).bind fun out1 =>
    rA out1.r fun cs1 =>
    need (Nat.beq cs1.length 2) <|
    unc cs1 fun c2 r2 =>
    asI .i64 c2 fun i2 =>
    unc r2 fun c3 _ =>
    asI .u64 c3 fun i3 =>
    (cl fu d fn_synopticref22_Compare [V.agg ([C.v (.int .i64 i), C.v (.int .u64 i1)]), V.agg ([C.v (.int .i64 i2), C.v (.int .u64 i3)])] []).bind fun out2 =>
    rC out2.r fun c4 =>
    asI .i64 c4 fun i4 =>
    some ⟨I i4, [], none⟩) := by kernel_rfl
/- synoptic/synopticref39.sorted -/
theorem eq_synopticref39_sorted (fu d : Nat) (n0 : Nat) (a0 : List C) :
    cl fu (d + 1) fn_synopticref39_sorted [V.c (C.sl n0 a0)] [] = (
    (iter (fun (y : List C × Int × Unit) =>
      bif decide (y.2.1 < ((n0 : Nat) : Int)) then
        need (inR y.2.1 n0) <|
        unc (List.drop (y.2.1.toNat * 1) a0) fun c _ =>
        asI .i64 c fun i =>
        need ((((Nat.beq ((y.1.length / 1) * 1) y.1.length) && true) && (Nat.ble (((y.1.length / 1) + 1) * 8) 140737488355328)) && (Nat.ble ((y.1.length / 1) + 1) 140737488355328)) <|
        need (((Nat.beq (((y.1.length / 1) + 1) * 1) ((y.1 ++ ([C.v (.int .i64 i)])).length)) && true) && true) <|
        (iter (fun (y1 : List C × Int × Unit) =>
          bif decide (y1.2.1 > 0) then
            need (inR (IntKind.i64.wrap (y1.2.1 - 1)) (y1.1.length / 1)) <|
            unc (List.drop (0 + (((IntKind.i64.wrap (y1.2.1 - 1)).toNat) * 1)) y1.1) fun c1 _ =>
            asI .i64 c1 fun i1 =>
            need (inR y.2.1 n0) <|
            unc (List.drop (y.2.1.toNat * 1) a0) fun c2 _ =>
            asI .i64 c2 fun i2 =>
            bif decide (i1 > i2) then
              need (inR (IntKind.i64.wrap (y1.2.1 - 1)) (y1.1.length / 1)) <|
              unc (List.drop (0 + (((IntKind.i64.wrap (y1.2.1 - 1)).toNat) * 1)) y1.1) fun c3 _ =>
              asI .i64 c3 fun i3 =>
              need (inR y1.2.1 (y1.1.length / 1)) <|
              need (((Nat.ble 0 (0 + (y1.2.1.toNat * 1))) && (Nat.ble ((0 + (y1.2.1.toNat * 1)) + 1) y1.1.length)) && true) <|
              need (((Nat.beq ((y1.1.length / 1) * 1) ((putAt y1.1 (0 + (y1.2.1.toNat * 1)) ([C.v (.int .i64 i3)])).length)) && true) && true) <|
              some (0, (putAt y1.1 (0 + (y1.2.1.toNat * 1)) ([C.v (.int .i64 i3)]), IntKind.i64.wrap (y1.2.1 - 1), ()))
            else
              need (((Nat.beq ((y1.1.length / 1) * 1) y1.1.length) && true) && true) <|
              some (1, (y1.1, y1.2.1, ()))
          else
            need (((Nat.beq ((y1.1.length / 1) * 1) y1.1.length) && true) && true) <|
            some (1, (y1.1, y1.2.1, ()))) fu (y.1 ++ ([C.v (.int .i64 i)]), ((y.1.length / 1 : Nat) : Int), ())).bind fun p =>
        need (inR y.2.1 n0) <|
        unc (List.drop (y.2.1.toNat * 1) a0) fun c4 _ =>
        asI .i64 c4 fun i4 =>
        need (inR p.2.2.1 (p.2.1.length / 1)) <|
        need (((Nat.ble 0 (0 + (p.2.2.1.toNat * 1))) && (Nat.ble ((0 + (p.2.2.1.toNat * 1)) + 1) p.2.1.length)) && true) <|
        need (((Nat.beq ((p.2.1.length / 1) * 1) ((putAt p.2.1 (0 + (p.2.2.1.toNat * 1)) ([C.v (.int .i64 i4)])).length)) && true) && true) <|
        some (0, (putAt p.2.1 (0 + (p.2.2.1.toNat * 1)) ([C.v (.int .i64 i4)]), IntKind.i64.wrap (y.2.1 + 1), ()))
      else
        need (((Nat.beq ((y.1.length / 1) * 1) y.1.length) && true) && true) <|
        some (1, (y.1, y.2.1, ()))) fu ([], 0, ())).bind fun p1 =>
    need (Nat.ble (0 + ((p1.2.1.length / 1) * 1)) p1.2.1.length) <|
    some ⟨V.c (C.sl (p1.2.1.length / 1) (List.take ((p1.2.1.length / 1) * 1) p1.2.1)), [], none⟩) := by kernel_rfl
/- slices.ContainsFunc[[]int,int] -/
theorem eq_slices_ContainsFunc_sint_int (fu d : Nat) (n0 : Nat) (a0 : List C) (k1 : Nat) :
    cl fu (d + 1) fn_slices_ContainsFunc_sint_int [V.c (C.sl n0 a0), V.c (C.fn k1 ([]))] [] = (
    (cl fu d fn_slices_IndexFunc_sint_int [V.c (C.sl n0 a0), V.c (C.fn k1 ([]))] []).bind fun out =>
    rC out.r fun c =>
    asI .i64 c fun i =>
    some ⟨B (decide (i ≥ 0)), [], none⟩) := by kernel_rfl
/- slices.ContainsFunc[[]int,int] -/
theorem eq1_slices_ContainsFunc_sint_int (fu d : Nat) (n0 : Nat) (a0 : List C) (k1 : Nat) (a1_0 : C) :
    cl fu (d + 1) fn_slices_ContainsFunc_sint_int [V.c (C.sl n0 a0), V.c (C.fn k1 ([a1_0]))] [] = (
    (cl fu d fn_slices_IndexFunc_sint_int [V.c (C.sl n0 a0), V.c (C.fn k1 ([a1_0]))] []).bind fun out =>
    rC out.r fun c =>
    asI .i64 c fun i =>
    some ⟨B (decide (i ≥ 0)), [], none⟩) := by kernel_rfl
/- slices.ContainsFunc[[]int,int] -/
theorem eq2_slices_ContainsFunc_sint_int (fu d : Nat) (n0 : Nat) (a0 : List C) (k1 : Nat) (a1_0 : C) (a1_1 : C) :
    cl fu (d + 1) fn_slices_ContainsFunc_sint_int [V.c (C.sl n0 a0), V.c (C.fn k1 ([a1_0, a1_1]))] [] = (
    (cl fu d fn_slices_IndexFunc_sint_int [V.c (C.sl n0 a0), V.c (C.fn k1 ([a1_0, a1_1]))] []).bind fun out =>
    rC out.r fun c =>
    asI .i64 c fun i =>
    some ⟨B (decide (i ≥ 0)), [], none⟩) := by kernel_rfl
/- slices.ContainsFunc[[]int,int] -/
theorem eq3_slices_ContainsFunc_sint_int (fu d : Nat) (n0 : Nat) (a0 : List C) (k1 : Nat) (a1_0 : C) (a1_1 : C) (a1_2 : C) :
    cl fu (d + 1) fn_slices_ContainsFunc_sint_int [V.c (C.sl n0 a0), V.c (C.fn k1 ([a1_0, a1_1, a1_2]))] [] = (
    (cl fu d fn_slices_IndexFunc_sint_int [V.c (C.sl n0 a0), V.c (C.fn k1 ([a1_0, a1_1, a1_2]))] []).bind fun out =>
    rC out.r fun c =>
    asI .i64 c fun i =>
    some ⟨B (decide (i ≥ 0)), [], none⟩) := by kernel_rfl
/- synoptic/sampling.outside$1 -/
theorem eq_sampling_outside_1 (fu d : Nat) (a0 : Int) :
    cl fu (d + 1) fn_sampling_outside_1 [I a0] [] = (
    (cl fu d fn_sampling_within [I a0, I (-1000000), I 1000000] []).bind fun out =>
    rC out.r fun c =>
    asB c fun b =>
    some ⟨B (!b), [], none⟩) := by kernel_rfl
/- synoptic/sampling.choices$1 -/
theorem eq_sampling_choices_1 (fu d : Nat) (l : Nat) (go : Nat → Bool) (xs : List (List V)) (e0 : List C) :
    cl fu (d + 1) fn_sampling_choices_1 [V.c (C.yl l go xs), V.c (C.cp e0)] [] = (
    unc e0 fun c _ =>
    asI .i64 c fun i =>
    need (!(decide (i < 0))) <|
    (iter (fun (y : Int × Log × Unit) =>
      bif decide (y.1 < IntKind.u64.wrap (1 * 2 ^ (min i.toNat (IntKind.bits .u64)))) then
        need ((Nat.beq y.2.1.l l) && (!y.2.1.st)) <|
        unI y.2.1.rest fun x rest =>
        need (eqV [V.c (C.v (.int .u64 y.1))] x) <|
        bif !(y.2.1.go y.2.1.i) then
          some (2, (y.1, ⟨y.2.1.l, y.2.1.go, Nat.succ y.2.1.i, rest, !(y.2.1.go y.2.1.i)⟩, ()))
        else
          some (0, (IntKind.u64.wrap (y.1 + 1), ⟨y.2.1.l, y.2.1.go, Nat.succ y.2.1.i, rest, !(y.2.1.go y.2.1.i)⟩, ()))
      else
        some (1, (y.1, y.2.1, ()))) fu (0, ⟨l, go, 0, xs, false⟩, ())).bind fun p =>
    natD p.1 (
      some ⟨V.tup [], [], some p.2.2.1⟩) fun m =>
    some ⟨V.tup [], [], some p.2.2.1⟩) := by kernel_rfl
/- cmp.isNaN[int] -/
theorem eq_cmp_isNaN_int (fu d : Nat) (a0 : Int) :
    cl fu (d + 1) fn_cmp_isNaN_int [I a0] [] = (
    some ⟨B (a0 != a0), [], none⟩) := by kernel_rfl
/- cmp.isNaN[uint64] -/
theorem eq_cmp_isNaN_uint64 (fu d : Nat) (a0 : Int) :
    cl fu (d + 1) fn_cmp_isNaN_uint64 [V.c (C.v (.int .u64 a0))] [] = (
    some ⟨B (a0 != a0), [], none⟩) := by kernel_rfl
/- slices.Grow[[]int,int] -/
theorem eqn0_slices_Grow_sint_int (fu d : Nat) (a1 : Int) :
    cl fu (d + 1) fn_slices_Grow_sint_int [V.c C.nl, I a1] [] = (
    (bif decide (a1 < 0) then
      none
    else
      some (0, (())) : Option (Nat × Unit)).bind fun p =>
    bif decide (IntKind.i64.wrap (a1 - 0) > 0) then
      need ((((decide (0 < IntKind.i64.wrap (a1 - 0))) && (decide ((8 : Int) * (IntKind.i64.wrap (a1 - 0)) ≤ 140737488355328))) && (decide (IntKind.i64.wrap (a1 - 0) ≤ 140737488355328))) && true) <|
      need (decide (0 ≤ (((IntKind.i64.wrap (a1 - 0)).toNat : Nat) : Int))) <|
      need (((Nat.ble 0 ((reps ((IntKind.i64.wrap (a1 - 0)).toNat) ([C.v (.int .i64 0)])).length)) && true) && true) <|
      some ⟨V.own 1000000 0 0, [.sb ty_int 0 (List.take 0 (reps ((IntKind.i64.wrap (a1 - 0)).toNat) ([C.v (.int .i64 0)])))], none⟩
    else
      some ⟨V.own 1000000 0 0, [.sb ty_int 0 ([])], none⟩) := by kernel_rfl
/- math/bits.OnesCount32 -/
theorem eq_bits_OnesCount32 (fu d : Nat) (a0 : Int) :
    cl fu (d + 1) fn_bits_OnesCount32 [V.c (C.v (.int .u32 a0))] [] = (
    need (inR (Int.fdiv a0 (2 ^ 24)) (kb0 : ByteArray).size) <|
    bd (IntKind.u32.wrap (BitVec.ofInt (IntKind.bits .u32) (Int.fdiv a0 (2 ^ 16)) &&& BitVec.ofInt (IntKind.bits .u32) 255).toNat) fun z =>
    need (inR z (kb0 : ByteArray).size) <|
    bd (IntKind.u8.wrap ((((kb0 : ByteArray).data.getD ((Int.fdiv a0 (2 ^ 24)).toNat) 0).toNat : Int) + (((kb0 : ByteArray).data.getD z.toNat 0).toNat : Int))) fun z1 =>
    need (inR (IntKind.u32.wrap (BitVec.ofInt (IntKind.bits .u32) (Int.fdiv a0 (2 ^ 8)) &&& BitVec.ofInt (IntKind.bits .u32) 255).toNat) (kb0 : ByteArray).size) <|
    bd (((kb0 : ByteArray).data.getD ((IntKind.u32.wrap (BitVec.ofInt (IntKind.bits .u32) (Int.fdiv a0 (2 ^ 8)) &&& BitVec.ofInt (IntKind.bits .u32) 255).toNat).toNat) 0).toNat : Int) fun z2 =>
    need (inR (IntKind.u32.wrap (BitVec.ofInt (IntKind.bits .u32) a0 &&& BitVec.ofInt (IntKind.bits .u32) 255).toNat) (kb0 : ByteArray).size) <|
    bd (((kb0 : ByteArray).data.getD ((IntKind.u32.wrap (BitVec.ofInt (IntKind.bits .u32) a0 &&& BitVec.ofInt (IntKind.bits .u32) 255).toNat).toNat) 0).toNat : Int) fun z3 =>
    some ⟨I (IntKind.i64.wrap (IntKind.u8.wrap ((IntKind.u8.wrap (z1 + z2)) + z3))), [], none⟩) := by kernel_rfl
/- math/bits.OnesCount64 -/
theorem eq_bits_OnesCount64 (fu d : Nat) (a0 : Int) :
    cl fu (d + 1) fn_bits_OnesCount64 [V.c (C.v (.int .u64 a0))] [] = (
    bd (IntKind.u64.wrap (BitVec.ofInt (IntKind.bits .u64) (Int.fdiv a0 (2 ^ 1)) &&& BitVec.ofInt (IntKind.bits .u64) 6148914691236517205).toNat) fun z =>
    bd (IntKind.u64.wrap (z + (IntKind.u64.wrap (BitVec.ofInt (IntKind.bits .u64) a0 &&& BitVec.ofInt (IntKind.bits .u64) 6148914691236517205).toNat))) fun z1 =>
    bd (IntKind.u64.wrap (BitVec.ofInt (IntKind.bits .u64) (Int.fdiv z1 (2 ^ 2)) &&& BitVec.ofInt (IntKind.bits .u64) 3689348814741910323).toNat) fun z2 =>
    bd (IntKind.u64.wrap (z2 + (IntKind.u64.wrap (BitVec.ofInt (IntKind.bits .u64) z1 &&& BitVec.ofInt (IntKind.bits .u64) 3689348814741910323).toNat))) fun z3 =>
    bd (IntKind.u64.wrap (BitVec.ofInt (IntKind.bits .u64) (IntKind.u64.wrap ((Int.fdiv z3 (2 ^ 4)) + z3)) &&& BitVec.ofInt (IntKind.bits .u64) 1085102592571150095).toNat) fun z4 =>
    bd (IntKind.u64.wrap ((IntKind.u64.wrap (z4 + (Int.fdiv z4 (2 ^ 8)))) + (Int.fdiv (IntKind.u64.wrap (z4 + (Int.fdiv z4 (2 ^ 8)))) (2 ^ 16)))) fun z5 =>
    bd (IntKind.i64.wrap (BitVec.ofInt (IntKind.bits .i64) (IntKind.i64.wrap (IntKind.u64.wrap (z5 + (Int.fdiv z5 (2 ^ 32))))) &&& BitVec.ofInt (IntKind.bits .i64) 127).toNat) fun z6 =>
    some ⟨I z6, [], none⟩) := by kernel_rfl
/- slices.Collect[int] -/
theorem eq_slices_Collect_int (fu d : Nat) (k0 : Nat) :
    cl fu (d + 1) fn_slices_Collect_int [V.c (C.fn k0 ([]))] [] = (
    (cl fu d fn_slices_AppendSeq_sint_int [V.c C.nl, V.c (C.fn k0 ([]))] []).bind fun out =>
    rW out.r 0 fun n =>
    uncO out.objs fun o os =>
    rS o ty_int 0 fun cs =>
    need ((Nat.beq (n * 1) cs.length) && true) <|
    need (((Nat.ble (n * 1) cs.length) && true) && true) <|
    some ⟨V.own 1000000 0 n, [.sb ty_int 0 (List.take (n * 1) cs)], none⟩) := by kernel_rfl
/- slices.Collect[int] -/
theorem eq1_slices_Collect_int (fu d : Nat) (k0 : Nat) (a0_0 : C) :
    cl fu (d + 1) fn_slices_Collect_int [V.c (C.fn k0 ([a0_0]))] [] = (
    (cl fu d fn_slices_AppendSeq_sint_int [V.c C.nl, V.c (C.fn k0 ([a0_0]))] []).bind fun out =>
    rW out.r 0 fun n =>
    uncO out.objs fun o os =>
    rS o ty_int 0 fun cs =>
    need ((Nat.beq (n * 1) cs.length) && true) <|
    need (((Nat.ble (n * 1) cs.length) && true) && true) <|
    some ⟨V.own 1000000 0 n, [.sb ty_int 0 (List.take (n * 1) cs)], none⟩) := by kernel_rfl
/- slices.Collect[int] -/
theorem eq2_slices_Collect_int (fu d : Nat) (k0 : Nat) (a0_0 : C) (a0_1 : C) :
    cl fu (d + 1) fn_slices_Collect_int [V.c (C.fn k0 ([a0_0, a0_1]))] [] = (
    (cl fu d fn_slices_AppendSeq_sint_int [V.c C.nl, V.c (C.fn k0 ([a0_0, a0_1]))] []).bind fun out =>
    rW out.r 0 fun n =>
    uncO out.objs fun o os =>
    rS o ty_int 0 fun cs =>
    need ((Nat.beq (n * 1) cs.length) && true) <|
    need (((Nat.ble (n * 1) cs.length) && true) && true) <|
    some ⟨V.own 1000000 0 n, [.sb ty_int 0 (List.take (n * 1) cs)], none⟩) := by kernel_rfl
/- slices.Collect[int] -/
theorem eq3_slices_Collect_int (fu d : Nat) (k0 : Nat) (a0_0 : C) (a0_1 : C) (a0_2 : C) :
    cl fu (d + 1) fn_slices_Collect_int [V.c (C.fn k0 ([a0_0, a0_1, a0_2]))] [] = (
    (cl fu d fn_slices_AppendSeq_sint_int [V.c C.nl, V.c (C.fn k0 ([a0_0, a0_1, a0_2]))] []).bind fun out =>
    rW out.r 0 fun n =>
    uncO out.objs fun o os =>
    rS o ty_int 0 fun cs =>
    need ((Nat.beq (n * 1) cs.length) && true) <|
    need (((Nat.ble (n * 1) cs.length) && true) && true) <|
    some ⟨V.own 1000000 0 n, [.sb ty_int 0 (List.take (n * 1) cs)], none⟩) := by kernel_rfl
/- slices.Values[[]int,int]$1 -/
theorem eq_slices_Values_sint_int_1 (fu d : Nat) (l : Nat) (go : Nat → Bool) (xs : List (List V)) (e0 : List C) :
    cl fu (d + 1) fn_slices_Values_sint_int_1 [V.c (C.yl l go xs), V.c (C.cp e0)] [] = (
    unc e0 fun c _ =>
    asSl c fun n cs =>
    (iter (fun (y : Int × Log × Unit) =>
      bif decide (y.1 < ((n : Nat) : Int)) then
        asSl c fun n1 cs1 =>
        need (inR y.1 n1) <|
        unc (List.drop (y.1.toNat * 1) cs1) fun c1 _ =>
        asI .i64 c1 fun i =>
        need ((Nat.beq y.2.1.l l) && (!y.2.1.st)) <|
        unI y.2.1.rest fun x rest =>
        need (eqV [I i] x) <|
        bif !(y.2.1.go y.2.1.i) then
          some (2, (y.1, ⟨y.2.1.l, y.2.1.go, Nat.succ y.2.1.i, rest, !(y.2.1.go y.2.1.i)⟩, ()))
        else
          some (0, (IntKind.i64.wrap (y.1 + 1), ⟨y.2.1.l, y.2.1.go, Nat.succ y.2.1.i, rest, !(y.2.1.go y.2.1.i)⟩, ()))
      else
        some (1, (y.1, y.2.1, ()))) fu (0, ⟨l, go, 0, xs, false⟩, ())).bind fun p =>
    natD p.1 (
      some ⟨V.tup [], [], some p.2.2.1⟩) fun m =>
    some ⟨V.tup [], [], some p.2.2.1⟩) := by kernel_rfl
/- synoptic/synopticref22.Compare -/
theorem eq_synopticref22_Compare (fu d : Nat) (a0_0 : Int) (a0_1 : Int) (a1_0 : Int) (a1_1 : Int) :
    cl fu (d + 1) fn_synopticref22_Compare [V.agg ([C.v (.int .i64 a0_0), C.v (.int .u64 a0_1)]), V.agg ([C.v (.int .i64 a1_0), C.v (.int .u64 a1_1)])] [] = (
    bif decide (a0_0 < a1_0) then
      some ⟨I (-1), [], none⟩
    else
      bif a0_0 == a1_0 then
        bif decide (a0_1 < a1_1) then
          some ⟨I (-1), [], none⟩
        else
          bif (a0_0 == a1_0) && ((a0_1 == a1_1) && true) then
            some ⟨I 0, [], none⟩
          else
            some ⟨I 1, [], none⟩
      else
        bif (a0_0 == a1_0) && ((a0_1 == a1_1) && true) then
          some ⟨I 0, [], none⟩
        else
          some ⟨I 1, [], none⟩) := by kernel_rfl
/- synoptic/synopticref22.Product -/
theorem eq_synopticref22_Product (fu d : Nat) (a0 : Int) (a1 : Int) :
    cl fu (d + 1) fn_synopticref22_Product [I a0, I a1] [] = (
    (cl fu d fn_synopticref22_size [I a0] []).bind fun out =>
    rC out.r fun c =>
    asI .u64 c fun i =>
    (cl fu d fn_synopticref22_size [I a1] []).bind fun out1 =>
    rC out1.r fun c1 =>
    asI .u64 c1 fun i1 =>
    (cl fu d fn_bits_Mul64 [V.c (C.v (.int .u64 i)), V.c (C.v (.int .u64 i1))] []).bind fun out2 =>
    rT out2.r fun xs =>
    uncV xs fun x ys =>
    rC x fun c2 =>
    asI .u64 c2 fun i2 =>
    uncV ys fun x1 ys1 =>
    rC x1 fun c3 =>
    asI .u64 c3 fun i3 =>
    nilV ys1 <|
    bif !((decide (a0 < 0)) == (decide (a1 < 0))) then
      (cl fu d fn_synopticref22_Negate [V.agg ([C.v (.int .i64 (IntKind.i64.wrap i2)), C.v (.int .u64 i3)])] []).bind fun out3 =>
      rA out3.r fun cs =>
      need (Nat.beq cs.length 2) <|
      unc cs fun c4 r =>
      asI .i64 c4 fun i4 =>
      unc r fun c5 _ =>
      asI .u64 c5 fun i5 =>
      some ⟨V.agg ([C.v (.int .i64 i4), C.v (.int .u64 i5)]), [], none⟩
    else
      some ⟨V.agg ([C.v (.int .i64 (IntKind.i64.wrap i2)), C.v (.int .u64 i3)]), [], none⟩) := by kernel_rfl
/- slices.IndexFunc[[]int,int] -/
theorem eq_slices_IndexFunc_sint_int (fu d : Nat) (n0 : Nat) (a0 : List C) (k1 : Nat) :
    cl fu (d + 1) fn_slices_IndexFunc_sint_int [V.c (C.sl n0 a0), V.c (C.fn k1 ([]))] [] = (
    (iter (fun (y : Int × Int × Unit) =>
      bif decide (y.2.1 < ((n0 : Nat) : Int)) then
        need (inR y.2.1 n0) <|
        unc (List.drop (y.2.1.toNat * 1) a0) fun c r =>
        asI .i64 c fun i =>
        (cl fu d k1 [I i] []).bind fun out =>
        rC out.r fun c1 =>
        asB c1 fun b =>
        bif b then
          some (2, (y.2.1, y.2.1, ()))
        else
          some (0, (y.1, IntKind.i64.wrap (y.2.1 + 1), ()))
      else
        some (1, (y.1, y.2.1, ()))) fu (0, 0, ())).bind fun p =>
    natD p.1 (
      some ⟨I (-1), [], none⟩) fun m =>
    some ⟨I p.2.1, [], none⟩) := by kernel_rfl
/- slices.IndexFunc[[]int,int] -/
theorem eq1_slices_IndexFunc_sint_int (fu d : Nat) (n0 : Nat) (a0 : List C) (k1 : Nat) (a1_0 : C) :
    cl fu (d + 1) fn_slices_IndexFunc_sint_int [V.c (C.sl n0 a0), V.c (C.fn k1 ([a1_0]))] [] = (
    (iter (fun (y : Int × Int × Unit) =>
      bif decide (y.2.1 < ((n0 : Nat) : Int)) then
        need (inR y.2.1 n0) <|
        unc (List.drop (y.2.1.toNat * 1) a0) fun c r =>
        asI .i64 c fun i =>
        (cl fu d k1 [I i, V.c a1_0] []).bind fun out =>
        rC out.r fun c1 =>
        asB c1 fun b =>
        bif b then
          some (2, (y.2.1, y.2.1, ()))
        else
          some (0, (y.1, IntKind.i64.wrap (y.2.1 + 1), ()))
      else
        some (1, (y.1, y.2.1, ()))) fu (0, 0, ())).bind fun p =>
    natD p.1 (
      some ⟨I (-1), [], none⟩) fun m =>
    some ⟨I p.2.1, [], none⟩) := by kernel_rfl
/- slices.IndexFunc[[]int,int] -/
theorem eq2_slices_IndexFunc_sint_int (fu d : Nat) (n0 : Nat) (a0 : List C) (k1 : Nat) (a1_0 : C) (a1_1 : C) :
    cl fu (d + 1) fn_slices_IndexFunc_sint_int [V.c (C.sl n0 a0), V.c (C.fn k1 ([a1_0, a1_1]))] [] = (
    (iter (fun (y : Int × Int × Unit) =>
      bif decide (y.2.1 < ((n0 : Nat) : Int)) then
        need (inR y.2.1 n0) <|
        unc (List.drop (y.2.1.toNat * 1) a0) fun c r =>
        asI .i64 c fun i =>
        (cl fu d k1 [I i, V.c a1_0, V.c a1_1] []).bind fun out =>
        rC out.r fun c1 =>
        asB c1 fun b =>
        bif b then
          some (2, (y.2.1, y.2.1, ()))
        else
          some (0, (y.1, IntKind.i64.wrap (y.2.1 + 1), ()))
      else
        some (1, (y.1, y.2.1, ()))) fu (0, 0, ())).bind fun p =>
    natD p.1 (
      some ⟨I (-1), [], none⟩) fun m =>
    some ⟨I p.2.1, [], none⟩) := by kernel_rfl
/- slices.IndexFunc[[]int,int] -/
theorem eq3_slices_IndexFunc_sint_int (fu d : Nat) (n0 : Nat) (a0 : List C) (k1 : Nat) (a1_0 : C) (a1_1 : C) (a1_2 : C) :
    cl fu (d + 1) fn_slices_IndexFunc_sint_int [V.c (C.sl n0 a0), V.c (C.fn k1 ([a1_0, a1_1, a1_2]))] [] = (
    (iter (fun (y : Int × Int × Unit) =>
      bif decide (y.2.1 < ((n0 : Nat) : Int)) then
        need (inR y.2.1 n0) <|
        unc (List.drop (y.2.1.toNat * 1) a0) fun c r =>
        asI .i64 c fun i =>
        (cl fu d k1 [I i, V.c a1_0, V.c a1_1, V.c a1_2] []).bind fun out =>
        rC out.r fun c1 =>
        asB c1 fun b =>
        bif b then
          some (2, (y.2.1, y.2.1, ()))
        else
          some (0, (y.1, IntKind.i64.wrap (y.2.1 + 1), ()))
      else
        some (1, (y.1, y.2.1, ()))) fu (0, 0, ())).bind fun p =>
    natD p.1 (
      some ⟨I (-1), [], none⟩) fun m =>
    some ⟨I p.2.1, [], none⟩) := by kernel_rfl
/- slices.AppendSeq[[]int,int] -/
theorem eqn0_slices_AppendSeq_sint_int (fu d : Nat) (k1 : Nat) :
    cl fu (d + 1) fn_slices_AppendSeq_sint_int [V.c C.nl, V.c (C.fn k1 ([]))] [] = (
    (prim.iter d k1 ([])).bind fun xs =>
    (overK (fun it (y : (List C × Unit) × Unit) =>
      uncV it fun x r =>
      rC x fun c =>
      asI .i64 c fun i =>
      nilV r <|
      need ((((Nat.beq ((y.1.1.length / 1) * 1) y.1.1.length) && true) && (Nat.ble (((y.1.1.length / 1) + 1) * 8) 140737488355328)) && (Nat.ble ((y.1.1.length / 1) + 1) 140737488355328)) <|
      need (((Nat.beq (((y.1.1.length / 1) + 1) * 1) ((y.1.1 ++ ([C.v (.int .i64 i)])).length)) && true) && true) <|
      some (0, ((y.1.1 ++ ([C.v (.int .i64 i)]), ()), ()))) xs (([], ()), ())).bind fun p =>
    need (((Nat.ble ((p.2.1.1.length / 1) * 1) p.2.1.1.length) && true) && true) <|
    some ⟨V.own 1000000 0 (p.2.1.1.length / 1), [.sb ty_int 0 (List.take ((p.2.1.1.length / 1) * 1) p.2.1.1)], none⟩) := by kernel_rfl
/- slices.AppendSeq[[]int,int] -/
theorem eq1_slices_AppendSeq_sint_int (fu d : Nat) (k1 : Nat) (a1_0 : C) :
    cl fu (d + 1) fn_slices_AppendSeq_sint_int [V.c C.nl, V.c (C.fn k1 ([a1_0]))] [] = (
    (prim.iter d k1 ([a1_0])).bind fun xs =>
    (overK (fun it (y : (List C × Unit) × Unit) =>
      uncV it fun x r =>
      rC x fun c =>
      asI .i64 c fun i =>
      nilV r <|
      need ((((Nat.beq ((y.1.1.length / 1) * 1) y.1.1.length) && true) && (Nat.ble (((y.1.1.length / 1) + 1) * 8) 140737488355328)) && (Nat.ble ((y.1.1.length / 1) + 1) 140737488355328)) <|
      need (((Nat.beq (((y.1.1.length / 1) + 1) * 1) ((y.1.1 ++ ([C.v (.int .i64 i)])).length)) && true) && true) <|
      some (0, ((y.1.1 ++ ([C.v (.int .i64 i)]), ()), ()))) xs (([], ()), ())).bind fun p =>
    need (((Nat.ble ((p.2.1.1.length / 1) * 1) p.2.1.1.length) && true) && true) <|
    some ⟨V.own 1000000 0 (p.2.1.1.length / 1), [.sb ty_int 0 (List.take ((p.2.1.1.length / 1) * 1) p.2.1.1)], none⟩) := by kernel_rfl
/- slices.AppendSeq[[]int,int] -/
theorem eq2_slices_AppendSeq_sint_int (fu d : Nat) (k1 : Nat) (a1_0 : C) (a1_1 : C) :
    cl fu (d + 1) fn_slices_AppendSeq_sint_int [V.c C.nl, V.c (C.fn k1 ([a1_0, a1_1]))] [] = (
    (prim.iter d k1 ([a1_0, a1_1])).bind fun xs =>
    (overK (fun it (y : (List C × Unit) × Unit) =>
      uncV it fun x r =>
      rC x fun c =>
      asI .i64 c fun i =>
      nilV r <|
      need ((((Nat.beq ((y.1.1.length / 1) * 1) y.1.1.length) && true) && (Nat.ble (((y.1.1.length / 1) + 1) * 8) 140737488355328)) && (Nat.ble ((y.1.1.length / 1) + 1) 140737488355328)) <|
      need (((Nat.beq (((y.1.1.length / 1) + 1) * 1) ((y.1.1 ++ ([C.v (.int .i64 i)])).length)) && true) && true) <|
      some (0, ((y.1.1 ++ ([C.v (.int .i64 i)]), ()), ()))) xs (([], ()), ())).bind fun p =>
    need (((Nat.ble ((p.2.1.1.length / 1) * 1) p.2.1.1.length) && true) && true) <|
    some ⟨V.own 1000000 0 (p.2.1.1.length / 1), [.sb ty_int 0 (List.take ((p.2.1.1.length / 1) * 1) p.2.1.1)], none⟩) := by kernel_rfl
/- slices.AppendSeq[[]int,int] -/
theorem eq3_slices_AppendSeq_sint_int (fu d : Nat) (k1 : Nat) (a1_0 : C) (a1_1 : C) (a1_2 : C) :
    cl fu (d + 1) fn_slices_AppendSeq_sint_int [V.c C.nl, V.c (C.fn k1 ([a1_0, a1_1, a1_2]))] [] = (
    (prim.iter d k1 ([a1_0, a1_1, a1_2])).bind fun xs =>
    (overK (fun it (y : (List C × Unit) × Unit) =>
      uncV it fun x r =>
      rC x fun c =>
      asI .i64 c fun i =>
      nilV r <|
      need ((((Nat.beq ((y.1.1.length / 1) * 1) y.1.1.length) && true) && (Nat.ble (((y.1.1.length / 1) + 1) * 8) 140737488355328)) && (Nat.ble ((y.1.1.length / 1) + 1) 140737488355328)) <|
      need (((Nat.beq (((y.1.1.length / 1) + 1) * 1) ((y.1.1 ++ ([C.v (.int .i64 i)])).length)) && true) && true) <|
      some (0, ((y.1.1 ++ ([C.v (.int .i64 i)]), ()), ()))) xs (([], ()), ())).bind fun p =>
    need (((Nat.ble ((p.2.1.1.length / 1) * 1) p.2.1.1.length) && true) && true) <|
    some ⟨V.own 1000000 0 (p.2.1.1.length / 1), [.sb ty_int 0 (List.take ((p.2.1.1.length / 1) * 1) p.2.1.1)], none⟩) := by kernel_rfl
/- slices.pdqsortOrdered[int] -/
theorem eq_slices_pdqsortOrdered_int (fu d : Nat) (n0 : Nat) (a0 : List C) (a1 : Int) (a2 : Int) (a3 : Int) :
    cl fu (d + 1) fn_slices_pdqsortOrdered_int [V.own 1000000 0 n0, I a1, I a2, I a3] [.sb ty_int 0 a0] = (
    (iter (fun (y : (Nat × List C) × Int × Int × Int × Bool × Bool × Unit) =>
      bif decide (IntKind.i64.wrap (y.2.2.1 - y.2.1) ≤ 12) then
        (cl fu d fn_slices_insertionSortOrdered_int [V.own 1000000 0 y.1.1, I y.2.1, I y.2.2.1] [.sb ty_int 0 y.1.2]).bind fun out =>
        uncO out.objs fun o os =>
        rS o ty_int 0 fun cs =>
        need (Nat.beq cs.length y.1.2.length) <|
        some (1, ((y.1.1, cs), y.2.1, y.2.2.1, y.2.2.2.1, y.2.2.2.2.1, y.2.2.2.2.2.1, ()))
      else
        bif y.2.2.2.1 == 0 then
          (cl fu d fn_slices_heapSortOrdered_int [V.own 1000000 0 y.1.1, I y.2.1, I y.2.2.1] [.sb ty_int 0 y.1.2]).bind fun out1 =>
          uncO out1.objs fun o1 os1 =>
          rS o1 ty_int 0 fun cs1 =>
          need (Nat.beq cs1.length y.1.2.length) <|
          some (1, ((y.1.1, cs1), y.2.1, y.2.2.1, y.2.2.2.1, y.2.2.2.2.1, y.2.2.2.2.2.1, ()))
        else
          (bif !y.2.2.2.2.1 then
            (cl fu d fn_slices_breakPatternsOrdered_int [V.own 1000000 0 y.1.1, I y.2.1, I y.2.2.1] [.sb ty_int 0 y.1.2]).bind fun out2 =>
            uncO out2.objs fun o2 os2 =>
            rS o2 ty_int 0 fun cs2 =>
            need (Nat.beq cs2.length y.1.2.length) <|
            some (0, ((y.1.1, cs2), IntKind.i64.wrap (y.2.2.2.1 - 1), ()))
          else
            some (0, ((y.1.1, y.1.2), y.2.2.2.1, ())) : Option (Nat × (Nat × List C) × Int × Unit)).bind fun p =>
          need (Nat.ble (0 + (p.2.1.1 * 1)) p.2.1.2.length) <|
          (cl fu d fn_slices_choosePivotOrdered_int [V.c (C.sl p.2.1.1 (List.take (p.2.1.1 * 1) p.2.1.2)), I y.2.1, I y.2.2.1] []).bind fun out3 =>
          rT out3.r fun xs =>
          uncV xs fun x ys =>
          rC x fun c =>
          asI .i64 c fun i =>
          uncV ys fun x1 ys1 =>
          rC x1 fun c1 =>
          asI .i64 c1 fun i1 =>
          nilV ys1 <|
          (bif i1 == 2 then
            (cl fu d fn_slices_reverseRangeOrdered_int [V.own 1000000 0 p.2.1.1, I y.2.1, I y.2.2.1] [.sb ty_int 0 p.2.1.2]).bind fun out4 =>
            uncO out4.objs fun o3 os3 =>
            rS o3 ty_int 0 fun cs3 =>
            need (Nat.beq cs3.length p.2.1.2.length) <|
            some (0, ((p.2.1.1, cs3), IntKind.i64.wrap ((IntKind.i64.wrap (y.2.2.1 - 1)) - (IntKind.i64.wrap (i - y.2.1))), 1, ()))
          else
            some (0, ((p.2.1.1, p.2.1.2), i, i1, ())) : Option (Nat × (Nat × List C) × Int × Int × Unit)).bind fun p1 =>
          bif y.2.2.2.2.1 then
            bif y.2.2.2.2.2.1 then
              (bif p1.2.2.2.1 == 1 then
                (cl fu d fn_slices_partialInsertionSortOrdered_int [V.own 1000000 0 p1.2.1.1, I y.2.1, I y.2.2.1] [.sb ty_int 0 p1.2.1.2]).bind fun out5 =>
                uncO out5.objs fun o4 os4 =>
                rS o4 ty_int 0 fun cs4 =>
                need (Nat.beq cs4.length p1.2.1.2.length) <|
                rC out5.r fun c2 =>
                asB c2 fun b =>
                bif b then
                  some (0, ((p1.2.1.1, cs4), ()))
                else
                  some (1, ((p1.2.1.1, cs4), ()))
              else
                some (1, ((p1.2.1.1, p1.2.1.2), ())) : Option (Nat × (Nat × List C) × Unit)).bind fun p2 =>
              natD p2.1 (
                some (1, ((p2.2.1.1, p2.2.1.2), y.2.1, y.2.2.1, p.2.2.1, y.2.2.2.2.1, y.2.2.2.2.2.1, ()))) fun m =>
              bif decide (y.2.1 > 0) then
                need (inR (IntKind.i64.wrap (y.2.1 - 1)) p2.2.1.1) <|
                unc (List.drop (0 + (((IntKind.i64.wrap (y.2.1 - 1)).toNat) * 1)) p2.2.1.2) fun c3 r =>
                asI .i64 c3 fun i2 =>
                need (inR p1.2.2.1 p2.2.1.1) <|
                unc (List.drop (0 + (p1.2.2.1.toNat * 1)) p2.2.1.2) fun c4 _ =>
                asI .i64 c4 fun i3 =>
                (cl fu d fn_cmp_Less_int [I i2, I i3] []).bind fun out6 =>
                rC out6.r fun c5 =>
                asB c5 fun b1 =>
                bif !b1 then
                  (cl fu d fn_slices_partitionEqualOrdered_int [V.own 1000000 0 p2.2.1.1, I y.2.1, I y.2.2.1, I p1.2.2.1] [.sb ty_int 0 p2.2.1.2]).bind fun out7 =>
                  uncO out7.objs fun o5 os5 =>
                  rS o5 ty_int 0 fun cs5 =>
                  need (Nat.beq cs5.length p2.2.1.2.length) <|
                  rC out7.r fun c6 =>
                  asI .i64 c6 fun i4 =>
                  some (0, ((p2.2.1.1, cs5), i4, y.2.2.1, p.2.2.1, y.2.2.2.2.1, y.2.2.2.2.2.1, ()))
                else
                  (cl fu d fn_slices_partitionOrdered_int [V.own 1000000 0 p2.2.1.1, I y.2.1, I y.2.2.1, I p1.2.2.1] [.sb ty_int 0 p2.2.1.2]).bind fun out8 =>
                  uncO out8.objs fun o6 os6 =>
                  rS o6 ty_int 0 fun cs6 =>
                  need (Nat.beq cs6.length p2.2.1.2.length) <|
                  rT out8.r fun xs1 =>
                  uncV xs1 fun x2 ys2 =>
                  rC x2 fun c7 =>
                  asI .i64 c7 fun i5 =>
                  uncV ys2 fun x3 ys3 =>
                  rC x3 fun c8 =>
                  asB c8 fun b2 =>
                  nilV ys3 <|
                  bif decide (IntKind.i64.wrap (i5 - y.2.1) < IntKind.i64.wrap (y.2.2.1 - i5)) then
                    (cl fu d fn_slices_pdqsortOrdered_int [V.own 1000000 0 p2.2.1.1, I y.2.1, I i5, I p.2.2.1] [.sb ty_int 0 cs6]).bind fun out9 =>
                    uncO out9.objs fun o7 os7 =>
                    rS o7 ty_int 0 fun cs7 =>
                    need (Nat.beq cs7.length cs6.length) <|
                    some (0, ((p2.2.1.1, cs7), IntKind.i64.wrap (i5 + 1), y.2.2.1, p.2.2.1, decide (IntKind.i64.wrap (i5 - y.2.1) ≥ IntKind.i64.wrap (Int.tdiv (IntKind.i64.wrap (y.2.2.1 - y.2.1)) 8)), b2, ()))
                  else
                    (cl fu d fn_slices_pdqsortOrdered_int [V.own 1000000 0 p2.2.1.1, I (IntKind.i64.wrap (i5 + 1)), I y.2.2.1, I p.2.2.1] [.sb ty_int 0 cs6]).bind fun out10 =>
                    uncO out10.objs fun o8 os8 =>
                    rS o8 ty_int 0 fun cs8 =>
                    need (Nat.beq cs8.length cs6.length) <|
                    some (0, ((p2.2.1.1, cs8), y.2.1, i5, p.2.2.1, decide (IntKind.i64.wrap (y.2.2.1 - i5) ≥ IntKind.i64.wrap (Int.tdiv (IntKind.i64.wrap (y.2.2.1 - y.2.1)) 8)), b2, ()))
              else
                (cl fu d fn_slices_partitionOrdered_int [V.own 1000000 0 p2.2.1.1, I y.2.1, I y.2.2.1, I p1.2.2.1] [.sb ty_int 0 p2.2.1.2]).bind fun out11 =>
                uncO out11.objs fun o9 os9 =>
                rS o9 ty_int 0 fun cs9 =>
                need (Nat.beq cs9.length p2.2.1.2.length) <|
                rT out11.r fun xs2 =>
                uncV xs2 fun x4 ys4 =>
                rC x4 fun c9 =>
                asI .i64 c9 fun i6 =>
                uncV ys4 fun x5 ys5 =>
                rC x5 fun c10 =>
                asB c10 fun b3 =>
                nilV ys5 <|
                bif decide (IntKind.i64.wrap (i6 - y.2.1) < IntKind.i64.wrap (y.2.2.1 - i6)) then
                  (cl fu d fn_slices_pdqsortOrdered_int [V.own 1000000 0 p2.2.1.1, I y.2.1, I i6, I p.2.2.1] [.sb ty_int 0 cs9]).bind fun out12 =>
                  uncO out12.objs fun o10 os10 =>
                  rS o10 ty_int 0 fun cs10 =>
                  need (Nat.beq cs10.length cs9.length) <|
                  some (0, ((p2.2.1.1, cs10), IntKind.i64.wrap (i6 + 1), y.2.2.1, p.2.2.1, decide (IntKind.i64.wrap (i6 - y.2.1) ≥ IntKind.i64.wrap (Int.tdiv (IntKind.i64.wrap (y.2.2.1 - y.2.1)) 8)), b3, ()))
                else
                  (cl fu d fn_slices_pdqsortOrdered_int [V.own 1000000 0 p2.2.1.1, I (IntKind.i64.wrap (i6 + 1)), I y.2.2.1, I p.2.2.1] [.sb ty_int 0 cs9]).bind fun out13 =>
                  uncO out13.objs fun o11 os11 =>
                  rS o11 ty_int 0 fun cs11 =>
                  need (Nat.beq cs11.length cs9.length) <|
                  some (0, ((p2.2.1.1, cs11), y.2.1, i6, p.2.2.1, decide (IntKind.i64.wrap (y.2.2.1 - i6) ≥ IntKind.i64.wrap (Int.tdiv (IntKind.i64.wrap (y.2.2.1 - y.2.1)) 8)), b3, ()))
            else
              (some (1, ((p1.2.1.1, p1.2.1.2), ())) : Option (Nat × (Nat × List C) × Unit)).bind fun p3 =>
              natD p3.1 (
                some (1, ((p3.2.1.1, p3.2.1.2), y.2.1, y.2.2.1, p.2.2.1, y.2.2.2.2.1, y.2.2.2.2.2.1, ()))) fun m1 =>
              bif decide (y.2.1 > 0) then
                need (inR (IntKind.i64.wrap (y.2.1 - 1)) p3.2.1.1) <|
                unc (List.drop (0 + (((IntKind.i64.wrap (y.2.1 - 1)).toNat) * 1)) p3.2.1.2) fun c11 _ =>
                asI .i64 c11 fun i7 =>
                need (inR p1.2.2.1 p3.2.1.1) <|
                unc (List.drop (0 + (p1.2.2.1.toNat * 1)) p3.2.1.2) fun c12 _ =>
                asI .i64 c12 fun i8 =>
                (cl fu d fn_cmp_Less_int [I i7, I i8] []).bind fun out14 =>
                rC out14.r fun c13 =>
                asB c13 fun b4 =>
                bif !b4 then
                  (cl fu d fn_slices_partitionEqualOrdered_int [V.own 1000000 0 p3.2.1.1, I y.2.1, I y.2.2.1, I p1.2.2.1] [.sb ty_int 0 p3.2.1.2]).bind fun out15 =>
                  uncO out15.objs fun o12 os12 =>
                  rS o12 ty_int 0 fun cs12 =>
                  need (Nat.beq cs12.length p3.2.1.2.length) <|
                  rC out15.r fun c14 =>
                  asI .i64 c14 fun i9 =>
                  some (0, ((p3.2.1.1, cs12), i9, y.2.2.1, p.2.2.1, y.2.2.2.2.1, y.2.2.2.2.2.1, ()))
                else
                  (cl fu d fn_slices_partitionOrdered_int [V.own 1000000 0 p3.2.1.1, I y.2.1, I y.2.2.1, I p1.2.2.1] [.sb ty_int 0 p3.2.1.2]).bind fun out16 =>
                  uncO out16.objs fun o13 os13 =>
                  rS o13 ty_int 0 fun cs13 =>
                  need (Nat.beq cs13.length p3.2.1.2.length) <|
                  rT out16.r fun xs3 =>
                  uncV xs3 fun x6 ys6 =>
                  rC x6 fun c15 =>
                  asI .i64 c15 fun i10 =>
                  uncV ys6 fun x7 ys7 =>
                  rC x7 fun c16 =>
                  asB c16 fun b5 =>
                  nilV ys7 <|
                  bif decide (IntKind.i64.wrap (i10 - y.2.1) < IntKind.i64.wrap (y.2.2.1 - i10)) then
                    (cl fu d fn_slices_pdqsortOrdered_int [V.own 1000000 0 p3.2.1.1, I y.2.1, I i10, I p.2.2.1] [.sb ty_int 0 cs13]).bind fun out17 =>
                    uncO out17.objs fun o14 os14 =>
                    rS o14 ty_int 0 fun cs14 =>
                    need (Nat.beq cs14.length cs13.length) <|
                    some (0, ((p3.2.1.1, cs14), IntKind.i64.wrap (i10 + 1), y.2.2.1, p.2.2.1, decide (IntKind.i64.wrap (i10 - y.2.1) ≥ IntKind.i64.wrap (Int.tdiv (IntKind.i64.wrap (y.2.2.1 - y.2.1)) 8)), b5, ()))
                  else
                    (cl fu d fn_slices_pdqsortOrdered_int [V.own 1000000 0 p3.2.1.1, I (IntKind.i64.wrap (i10 + 1)), I y.2.2.1, I p.2.2.1] [.sb ty_int 0 cs13]).bind fun out18 =>
                    uncO out18.objs fun o15 os15 =>
                    rS o15 ty_int 0 fun cs15 =>
                    need (Nat.beq cs15.length cs13.length) <|
                    some (0, ((p3.2.1.1, cs15), y.2.1, i10, p.2.2.1, decide (IntKind.i64.wrap (y.2.2.1 - i10) ≥ IntKind.i64.wrap (Int.tdiv (IntKind.i64.wrap (y.2.2.1 - y.2.1)) 8)), b5, ()))
              else
                (cl fu d fn_slices_partitionOrdered_int [V.own 1000000 0 p3.2.1.1, I y.2.1, I y.2.2.1, I p1.2.2.1] [.sb ty_int 0 p3.2.1.2]).bind fun out19 =>
                uncO out19.objs fun o16 os16 =>
                rS o16 ty_int 0 fun cs16 =>
                need (Nat.beq cs16.length p3.2.1.2.length) <|
                rT out19.r fun xs4 =>
                uncV xs4 fun x8 ys8 =>
                rC x8 fun c17 =>
                asI .i64 c17 fun i11 =>
                uncV ys8 fun x9 ys9 =>
                rC x9 fun c18 =>
                asB c18 fun b6 =>
                nilV ys9 <|
                bif decide (IntKind.i64.wrap (i11 - y.2.1) < IntKind.i64.wrap (y.2.2.1 - i11)) then
                  (cl fu d fn_slices_pdqsortOrdered_int [V.own 1000000 0 p3.2.1.1, I y.2.1, I i11, I p.2.2.1] [.sb ty_int 0 cs16]).bind fun out20 =>
                  uncO out20.objs fun o17 os17 =>
                  rS o17 ty_int 0 fun cs17 =>
                  need (Nat.beq cs17.length cs16.length) <|
                  some (0, ((p3.2.1.1, cs17), IntKind.i64.wrap (i11 + 1), y.2.2.1, p.2.2.1, decide (IntKind.i64.wrap (i11 - y.2.1) ≥ IntKind.i64.wrap (Int.tdiv (IntKind.i64.wrap (y.2.2.1 - y.2.1)) 8)), b6, ()))
                else
                  (cl fu d fn_slices_pdqsortOrdered_int [V.own 1000000 0 p3.2.1.1, I (IntKind.i64.wrap (i11 + 1)), I y.2.2.1, I p.2.2.1] [.sb ty_int 0 cs16]).bind fun out21 =>
                  uncO out21.objs fun o18 os18 =>
                  rS o18 ty_int 0 fun cs18 =>
                  need (Nat.beq cs18.length cs16.length) <|
                  some (0, ((p3.2.1.1, cs18), y.2.1, i11, p.2.2.1, decide (IntKind.i64.wrap (y.2.2.1 - i11) ≥ IntKind.i64.wrap (Int.tdiv (IntKind.i64.wrap (y.2.2.1 - y.2.1)) 8)), b6, ()))
          else
            (some (1, ((p1.2.1.1, p1.2.1.2), ())) : Option (Nat × (Nat × List C) × Unit)).bind fun p4 =>
            natD p4.1 (
              some (1, ((p4.2.1.1, p4.2.1.2), y.2.1, y.2.2.1, p.2.2.1, y.2.2.2.2.1, y.2.2.2.2.2.1, ()))) fun m2 =>
            bif decide (y.2.1 > 0) then
              need (inR (IntKind.i64.wrap (y.2.1 - 1)) p4.2.1.1) <|
              unc (List.drop (0 + (((IntKind.i64.wrap (y.2.1 - 1)).toNat) * 1)) p4.2.1.2) fun c19 _ =>
              asI .i64 c19 fun i12 =>
              need (inR p1.2.2.1 p4.2.1.1) <|
              unc (List.drop (0 + (p1.2.2.1.toNat * 1)) p4.2.1.2) fun c20 _ =>
              asI .i64 c20 fun i13 =>
              (cl fu d fn_cmp_Less_int [I i12, I i13] []).bind fun out22 =>
              rC out22.r fun c21 =>
              asB c21 fun b7 =>
              bif !b7 then
                (cl fu d fn_slices_partitionEqualOrdered_int [V.own 1000000 0 p4.2.1.1, I y.2.1, I y.2.2.1, I p1.2.2.1] [.sb ty_int 0 p4.2.1.2]).bind fun out23 =>
                uncO out23.objs fun o19 os19 =>
                rS o19 ty_int 0 fun cs19 =>
                need (Nat.beq cs19.length p4.2.1.2.length) <|
                rC out23.r fun c22 =>
                asI .i64 c22 fun i14 =>
                some (0, ((p4.2.1.1, cs19), i14, y.2.2.1, p.2.2.1, y.2.2.2.2.1, y.2.2.2.2.2.1, ()))
              else
                (cl fu d fn_slices_partitionOrdered_int [V.own 1000000 0 p4.2.1.1, I y.2.1, I y.2.2.1, I p1.2.2.1] [.sb ty_int 0 p4.2.1.2]).bind fun out24 =>
                uncO out24.objs fun o20 os20 =>
                rS o20 ty_int 0 fun cs20 =>
                need (Nat.beq cs20.length p4.2.1.2.length) <|
                rT out24.r fun xs5 =>
                uncV xs5 fun x10 ys10 =>
                rC x10 fun c23 =>
                asI .i64 c23 fun i15 =>
                uncV ys10 fun x11 ys11 =>
                rC x11 fun c24 =>
                asB c24 fun b8 =>
                nilV ys11 <|
                bif decide (IntKind.i64.wrap (i15 - y.2.1) < IntKind.i64.wrap (y.2.2.1 - i15)) then
                  (cl fu d fn_slices_pdqsortOrdered_int [V.own 1000000 0 p4.2.1.1, I y.2.1, I i15, I p.2.2.1] [.sb ty_int 0 cs20]).bind fun out25 =>
                  uncO out25.objs fun o21 os21 =>
                  rS o21 ty_int 0 fun cs21 =>
                  need (Nat.beq cs21.length cs20.length) <|
                  some (0, ((p4.2.1.1, cs21), IntKind.i64.wrap (i15 + 1), y.2.2.1, p.2.2.1, decide (IntKind.i64.wrap (i15 - y.2.1) ≥ IntKind.i64.wrap (Int.tdiv (IntKind.i64.wrap (y.2.2.1 - y.2.1)) 8)), b8, ()))
                else
                  (cl fu d fn_slices_pdqsortOrdered_int [V.own 1000000 0 p4.2.1.1, I (IntKind.i64.wrap (i15 + 1)), I y.2.2.1, I p.2.2.1] [.sb ty_int 0 cs20]).bind fun out26 =>
                  uncO out26.objs fun o22 os22 =>
                  rS o22 ty_int 0 fun cs22 =>
                  need (Nat.beq cs22.length cs20.length) <|
                  some (0, ((p4.2.1.1, cs22), y.2.1, i15, p.2.2.1, decide (IntKind.i64.wrap (y.2.2.1 - i15) ≥ IntKind.i64.wrap (Int.tdiv (IntKind.i64.wrap (y.2.2.1 - y.2.1)) 8)), b8, ()))
            else
              (cl fu d fn_slices_partitionOrdered_int [V.own 1000000 0 p4.2.1.1, I y.2.1, I y.2.2.1, I p1.2.2.1] [.sb ty_int 0 p4.2.1.2]).bind fun out27 =>
              uncO out27.objs fun o23 os23 =>
              rS o23 ty_int 0 fun cs23 =>
              need (Nat.beq cs23.length p4.2.1.2.length) <|
              rT out27.r fun xs6 =>
              uncV xs6 fun x12 ys12 =>
              rC x12 fun c25 =>
              asI .i64 c25 fun i16 =>
              uncV ys12 fun x13 ys13 =>
              rC x13 fun c26 =>
              asB c26 fun b9 =>
              nilV ys13 <|
              bif decide (IntKind.i64.wrap (i16 - y.2.1) < IntKind.i64.wrap (y.2.2.1 - i16)) then
                (cl fu d fn_slices_pdqsortOrdered_int [V.own 1000000 0 p4.2.1.1, I y.2.1, I i16, I p.2.2.1] [.sb ty_int 0 cs23]).bind fun out28 =>
                uncO out28.objs fun o24 os24 =>
                rS o24 ty_int 0 fun cs24 =>
                need (Nat.beq cs24.length cs23.length) <|
                some (0, ((p4.2.1.1, cs24), IntKind.i64.wrap (i16 + 1), y.2.2.1, p.2.2.1, decide (IntKind.i64.wrap (i16 - y.2.1) ≥ IntKind.i64.wrap (Int.tdiv (IntKind.i64.wrap (y.2.2.1 - y.2.1)) 8)), b9, ()))
              else
                (cl fu d fn_slices_pdqsortOrdered_int [V.own 1000000 0 p4.2.1.1, I (IntKind.i64.wrap (i16 + 1)), I y.2.2.1, I p.2.2.1] [.sb ty_int 0 cs23]).bind fun out29 =>
                uncO out29.objs fun o25 os25 =>
                rS o25 ty_int 0 fun cs25 =>
                need (Nat.beq cs25.length cs23.length) <|
                some (0, ((p4.2.1.1, cs25), y.2.1, i16, p.2.2.1, decide (IntKind.i64.wrap (y.2.2.1 - i16) ≥ IntKind.i64.wrap (Int.tdiv (IntKind.i64.wrap (y.2.2.1 - y.2.1)) 8)), b9, ()))) fu ((n0, a0), a1, a2, a3, true, true, ())).bind fun p5 =>
    some ⟨V.tup [], [.sb ty_int 0 p5.2.1.2], none⟩) := by kernel_rfl
/- math/bits.Len -/
theorem eq_bits_Len (fu d : Nat) (a0 : Int) :
    cl fu (d + 1) fn_bits_Len [V.c (C.v (.int .u64 a0))] [] = (
    (cl fu d fn_bits_Len64 [V.c (C.v (.int .u64 a0))] []).bind fun out =>
    rC out.r fun c =>
    asI .i64 c fun i =>
    some ⟨I i, [], none⟩) := by kernel_rfl
/- synoptic/synopticref22.size -/
theorem eq_synopticref22_size (fu d : Nat) (a0 : Int) :
    cl fu (d + 1) fn_synopticref22_size [I a0] [] = (
    bif decide (a0 < 0) then
      some ⟨V.c (C.v (.int .u64 (IntKind.u64.wrap (0 - (IntKind.u64.wrap a0))))), [], none⟩
    else
      some ⟨V.c (C.v (.int .u64 (IntKind.u64.wrap a0))), [], none⟩) := by kernel_rfl
/- synoptic/synopticref22.Negate -/
theorem eq_synopticref22_Negate (fu d : Nat) (a0_0 : Int) (a0_1 : Int) :
    cl fu (d + 1) fn_synopticref22_Negate [V.agg ([C.v (.int .i64 a0_0), C.v (.int .u64 a0_1)])] [] = (
    (cl fu d fn_synopticref22_Add [V.agg ([C.v (.int .i64 (IntKind.i64.wrap (BitVec.ofInt (IntKind.bits .i64) (-1) ^^^ BitVec.ofInt (IntKind.bits .i64) a0_0).toNat)), C.v (.int .u64 (IntKind.u64.wrap (BitVec.ofInt (IntKind.bits .u64) 18446744073709551615 ^^^ BitVec.ofInt (IntKind.bits .u64) a0_1).toNat))]), V.agg ([C.v (.int .i64 0), C.v (.int .u64 1)])] []).bind fun out =>
    rA out.r fun cs =>
    need (Nat.beq cs.length 2) <|
    unc cs fun c r =>
    asI .i64 c fun i =>
    unc r fun c1 _ =>
    asI .u64 c1 fun i1 =>
    some ⟨V.agg ([C.v (.int .i64 i), C.v (.int .u64 i1)]), [], none⟩) := by kernel_rfl
/- slices.insertionSortOrdered[int] -/
theorem eq_slices_insertionSortOrdered_int (fu d : Nat) (n0 : Nat) (a0 : List C) (a1 : Int) (a2 : Int) :
    cl fu (d + 1) fn_slices_insertionSortOrdered_int [V.own 1000000 0 n0, I a1, I a2] [.sb ty_int 0 a0] = (
    (iter (fun (y : (Nat × List C) × Int × Unit) =>
      bif decide (y.2.1 < a2) then
        (iter (fun (y1 : (Nat × List C) × Int × Unit) =>
          bif decide (y1.2.1 > a1) then
            need (inR y1.2.1 y1.1.1) <|
            unc (List.drop (0 + (y1.2.1.toNat * 1)) y1.1.2) fun c r =>
            asI .i64 c fun i =>
            need (inR (IntKind.i64.wrap (y1.2.1 - 1)) y1.1.1) <|
            unc (List.drop (0 + (((IntKind.i64.wrap (y1.2.1 - 1)).toNat) * 1)) y1.1.2) fun c1 _ =>
            asI .i64 c1 fun i1 =>
            (cl fu d fn_cmp_Less_int [I i, I i1] []).bind fun out =>
            rC out.r fun c2 =>
            asB c2 fun b =>
            bif b then
              need (inR (IntKind.i64.wrap (y1.2.1 - 1)) y1.1.1) <|
              unc (List.drop (0 + (((IntKind.i64.wrap (y1.2.1 - 1)).toNat) * 1)) y1.1.2) fun c3 _ =>
              asI .i64 c3 fun i2 =>
              need (inR y1.2.1 y1.1.1) <|
              unc (List.drop (0 + (y1.2.1.toNat * 1)) y1.1.2) fun c4 _ =>
              asI .i64 c4 fun i3 =>
              need (inR y1.2.1 y1.1.1) <|
              need (((Nat.ble 0 (0 + (y1.2.1.toNat * 1))) && (Nat.ble ((0 + (y1.2.1.toNat * 1)) + 1) y1.1.2.length)) && true) <|
              need (inR (IntKind.i64.wrap (y1.2.1 - 1)) y1.1.1) <|
              need (((Nat.ble 0 (0 + (((IntKind.i64.wrap (y1.2.1 - 1)).toNat) * 1))) && (Nat.ble ((0 + (((IntKind.i64.wrap (y1.2.1 - 1)).toNat) * 1)) + 1) ((putAt y1.1.2 (0 + (y1.2.1.toNat * 1)) ([C.v (.int .i64 i2)])).length))) && true) <|
              some (0, ((y1.1.1, putAt (putAt y1.1.2 (0 + (y1.2.1.toNat * 1)) ([C.v (.int .i64 i2)])) (0 + (((IntKind.i64.wrap (y1.2.1 - 1)).toNat) * 1)) ([C.v (.int .i64 i3)])), IntKind.i64.wrap (y1.2.1 - 1), ()))
            else
              some (1, ((y1.1.1, y1.1.2), y1.2.1, ()))
          else
            some (1, ((y1.1.1, y1.1.2), y1.2.1, ()))) fu ((y.1.1, y.1.2), y.2.1, ())).bind fun p =>
        some (0, ((p.2.1.1, p.2.1.2), IntKind.i64.wrap (y.2.1 + 1), ()))
      else
        some (1, ((y.1.1, y.1.2), y.2.1, ()))) fu ((n0, a0), IntKind.i64.wrap (a1 + 1), ())).bind fun p1 =>
    some ⟨V.tup [], [.sb ty_int 0 p1.2.1.2], none⟩) := by kernel_rfl
/- slices.heapSortOrdered[int] -/
theorem eq_slices_heapSortOrdered_int (fu d : Nat) (n0 : Nat) (a0 : List C) (a1 : Int) (a2 : Int) :
    cl fu (d + 1) fn_slices_heapSortOrdered_int [V.own 1000000 0 n0, I a1, I a2] [.sb ty_int 0 a0] = (
    (iter (fun (y : (Nat × List C) × Int × Unit) =>
      bif decide (y.2.1 ≥ 0) then
        (cl fu d fn_slices_siftDownOrdered_int [V.own 1000000 0 y.1.1, I y.2.1, I (IntKind.i64.wrap (a2 - a1)), I a1] [.sb ty_int 0 y.1.2]).bind fun out =>
        uncO out.objs fun o os =>
        rS o ty_int 0 fun cs =>
        need (Nat.beq cs.length y.1.2.length) <|
        some (0, ((y.1.1, cs), IntKind.i64.wrap (y.2.1 - 1), ()))
      else
        some (1, ((y.1.1, y.1.2), y.2.1, ()))) fu ((n0, a0), IntKind.i64.wrap (Int.tdiv (IntKind.i64.wrap ((IntKind.i64.wrap (a2 - a1)) - 1)) 2), ())).bind fun p =>
    (iter (fun (y1 : (Nat × List C) × Int × Unit) =>
      bif decide (y1.2.1 ≥ 0) then
        need (inR (IntKind.i64.wrap (a1 + y1.2.1)) y1.1.1) <|
        unc (List.drop (0 + (((IntKind.i64.wrap (a1 + y1.2.1)).toNat) * 1)) y1.1.2) fun c _ =>
        asI .i64 c fun i =>
        need (inR a1 y1.1.1) <|
        unc (List.drop (0 + (a1.toNat * 1)) y1.1.2) fun c1 _ =>
        asI .i64 c1 fun i1 =>
        need (inR a1 y1.1.1) <|
        need (((Nat.ble 0 (0 + (a1.toNat * 1))) && (Nat.ble ((0 + (a1.toNat * 1)) + 1) y1.1.2.length)) && true) <|
        need (inR (IntKind.i64.wrap (a1 + y1.2.1)) y1.1.1) <|
        need (((Nat.ble 0 (0 + (((IntKind.i64.wrap (a1 + y1.2.1)).toNat) * 1))) && (Nat.ble ((0 + (((IntKind.i64.wrap (a1 + y1.2.1)).toNat) * 1)) + 1) ((putAt y1.1.2 (0 + (a1.toNat * 1)) ([C.v (.int .i64 i)])).length))) && true) <|
        (cl fu d fn_slices_siftDownOrdered_int [V.own 1000000 0 y1.1.1, I 0, I y1.2.1, I a1] [.sb ty_int 0 (putAt (putAt y1.1.2 (0 + (a1.toNat * 1)) ([C.v (.int .i64 i)])) (0 + (((IntKind.i64.wrap (a1 + y1.2.1)).toNat) * 1)) ([C.v (.int .i64 i1)]))]).bind fun out1 =>
        uncO out1.objs fun o1 os1 =>
        rS o1 ty_int 0 fun cs1 =>
        need (Nat.beq cs1.length ((putAt (putAt y1.1.2 (0 + (a1.toNat * 1)) ([C.v (.int .i64 i)])) (0 + (((IntKind.i64.wrap (a1 + y1.2.1)).toNat) * 1)) ([C.v (.int .i64 i1)])).length)) <|
        some (0, ((y1.1.1, cs1), IntKind.i64.wrap (y1.2.1 - 1), ()))
      else
        some (1, ((y1.1.1, y1.1.2), y1.2.1, ()))) fu ((p.2.1.1, p.2.1.2), IntKind.i64.wrap ((IntKind.i64.wrap (a2 - a1)) - 1), ())).bind fun p1 =>
    some ⟨V.tup [], [.sb ty_int 0 p1.2.1.2], none⟩) := by kernel_rfl
/- slices.breakPatternsOrdered[int] -/
theorem eq_slices_breakPatternsOrdered_int (fu d : Nat) (n0 : Nat) (a0 : List C) (a1 : Int) (a2 : Int) :
    cl fu (d + 1) fn_slices_breakPatternsOrdered_int [V.own 1000000 0 n0, I a1, I a2] [.sb ty_int 0 a0] = (
    bif decide (IntKind.i64.wrap (a2 - a1) ≥ 8) then
      (cl fu d fn_slices_nextPowerOfTwo [I (IntKind.i64.wrap (a2 - a1))] []).bind fun out =>
      rC out.r fun c =>
      asI .u64 c fun i =>
      bd (IntKind.i64.wrap ((IntKind.i64.wrap (a1 + (IntKind.i64.wrap ((IntKind.i64.wrap (Int.tdiv (IntKind.i64.wrap (a2 - a1)) 4)) * 2)))) - 1)) fun z =>
      (iter (fun (y : (Nat × List C) × Int × Unit) =>
        bd (IntKind.i64.wrap ((IntKind.i64.wrap (a1 + (IntKind.i64.wrap ((IntKind.i64.wrap (Int.tdiv (IntKind.i64.wrap (a2 - a1)) 4)) * 2)))) + 1)) fun z1 =>
        bif decide (y.2.1 ≤ z1) then
          (cl fu d fn_slices_xorshift_Next [V.c (C.cp ([C.v (.int .u64 (IntKind.u64.wrap (IntKind.i64.wrap (a2 - a1))))]))] []).bind fun out1 =>
          rC out1.r fun c1 =>
          asI .u64 c1 fun i1 =>
          bd (IntKind.u64.wrap (BitVec.ofInt (IntKind.bits .u64) i1 &&& BitVec.ofInt (IntKind.bits .u64) (IntKind.u64.wrap (i - 1))).toNat) fun z2 =>
          (bif decide (IntKind.i64.wrap z2 ≥ IntKind.i64.wrap (a2 - a1)) then
            some (0, ((y.1.1, y.1.2), IntKind.i64.wrap ((IntKind.i64.wrap z2) - (IntKind.i64.wrap (a2 - a1))), ()))
          else
            some (0, ((y.1.1, y.1.2), IntKind.i64.wrap z2, ())) : Option (Nat × (Nat × List C) × Int × Unit)).bind fun p =>
          need (inR (IntKind.i64.wrap (a1 + p.2.2.1)) p.2.1.1) <|
          unc (List.drop (0 + (((IntKind.i64.wrap (a1 + p.2.2.1)).toNat) * 1)) p.2.1.2) fun c2 _ =>
          asI .i64 c2 fun i2 =>
          need (inR y.2.1 p.2.1.1) <|
          unc (List.drop (0 + (y.2.1.toNat * 1)) p.2.1.2) fun c3 _ =>
          asI .i64 c3 fun i3 =>
          need (inR y.2.1 p.2.1.1) <|
          need (((Nat.ble 0 (0 + (y.2.1.toNat * 1))) && (Nat.ble ((0 + (y.2.1.toNat * 1)) + 1) p.2.1.2.length)) && true) <|
          need (inR (IntKind.i64.wrap (a1 + p.2.2.1)) p.2.1.1) <|
          need (((Nat.ble 0 (0 + (((IntKind.i64.wrap (a1 + p.2.2.1)).toNat) * 1))) && (Nat.ble ((0 + (((IntKind.i64.wrap (a1 + p.2.2.1)).toNat) * 1)) + 1) ((putAt p.2.1.2 (0 + (y.2.1.toNat * 1)) ([C.v (.int .i64 i2)])).length))) && true) <|
          some (0, ((p.2.1.1, putAt (putAt p.2.1.2 (0 + (y.2.1.toNat * 1)) ([C.v (.int .i64 i2)])) (0 + (((IntKind.i64.wrap (a1 + p.2.2.1)).toNat) * 1)) ([C.v (.int .i64 i3)])), IntKind.i64.wrap (y.2.1 + 1), ()))
        else
          some (1, ((y.1.1, y.1.2), y.2.1, ()))) fu ((n0, a0), z, ())).bind fun p1 =>
      some ⟨V.tup [], [.sb ty_int 0 p1.2.1.2], none⟩
    else
      some ⟨V.tup [], [.sb ty_int 0 a0], none⟩) := by kernel_rfl
/- slices.choosePivotOrdered[int] -/
theorem eq_slices_choosePivotOrdered_int (fu d : Nat) (n0 : Nat) (a0 : List C) (a1 : Int) (a2 : Int) :
    cl fu (d + 1) fn_slices_choosePivotOrdered_int [V.c (C.sl n0 a0), I a1, I a2] [] = (
    (bif decide (IntKind.i64.wrap (a2 - a1) ≥ 8) then
      (bif decide (IntKind.i64.wrap (a2 - a1) ≥ 50) then
        (cl fu d fn_slices_medianAdjacentOrdered_int [V.c (C.sl n0 a0), I (IntKind.i64.wrap (a1 + (IntKind.i64.wrap ((IntKind.i64.wrap (Int.tdiv (IntKind.i64.wrap (a2 - a1)) 4)) * 1)))), V.ptr 1000000 0] [.ob ty_int 0 ([C.v (.int .i64 0)])]).bind fun out =>
        uncO out.objs fun o os =>
        rO o ty_int 0 fun cs =>
        need ((Nat.beq cs.length 1) && true) <|
        unc cs fun c r =>
        asI .i64 c fun i =>
        rC out.r fun c1 =>
        asI .i64 c1 fun i1 =>
        (cl fu d fn_slices_medianAdjacentOrdered_int [V.c (C.sl n0 a0), I (IntKind.i64.wrap (a1 + (IntKind.i64.wrap ((IntKind.i64.wrap (Int.tdiv (IntKind.i64.wrap (a2 - a1)) 4)) * 2)))), V.ptr 1000000 0] [.ob ty_int 0 ([C.v (.int .i64 i)])]).bind fun out1 =>
        uncO out1.objs fun o1 os1 =>
        rO o1 ty_int 0 fun cs1 =>
        need ((Nat.beq cs1.length 1) && true) <|
        unc cs1 fun c2 _ =>
        asI .i64 c2 fun i2 =>
        rC out1.r fun c3 =>
        asI .i64 c3 fun i3 =>
        (cl fu d fn_slices_medianAdjacentOrdered_int [V.c (C.sl n0 a0), I (IntKind.i64.wrap (a1 + (IntKind.i64.wrap ((IntKind.i64.wrap (Int.tdiv (IntKind.i64.wrap (a2 - a1)) 4)) * 3)))), V.ptr 1000000 0] [.ob ty_int 0 ([C.v (.int .i64 i2)])]).bind fun out2 =>
        uncO out2.objs fun o2 os2 =>
        rO o2 ty_int 0 fun cs2 =>
        need ((Nat.beq cs2.length 1) && true) <|
        unc cs2 fun c4 _ =>
        asI .i64 c4 fun i4 =>
        rC out2.r fun c5 =>
        asI .i64 c5 fun i5 =>
        some (0, (i1, i3, i5, (i4, ()), ()))
      else
        some (0, (IntKind.i64.wrap (a1 + (IntKind.i64.wrap ((IntKind.i64.wrap (Int.tdiv (IntKind.i64.wrap (a2 - a1)) 4)) * 1))), IntKind.i64.wrap (a1 + (IntKind.i64.wrap ((IntKind.i64.wrap (Int.tdiv (IntKind.i64.wrap (a2 - a1)) 4)) * 2))), IntKind.i64.wrap (a1 + (IntKind.i64.wrap ((IntKind.i64.wrap (Int.tdiv (IntKind.i64.wrap (a2 - a1)) 4)) * 3))), (0, ()), ())) : Option (Nat × Int × Int × Int × (Int × Unit) × Unit)).bind fun p =>
      (cl fu d fn_slices_medianOrdered_int [V.c (C.sl n0 a0), I p.2.1, I p.2.2.1, I p.2.2.2.1, V.ptr 1000000 0] [.ob ty_int 0 ([C.v (.int .i64 p.2.2.2.2.1.1)])]).bind fun out3 =>
      uncO out3.objs fun o3 os3 =>
      rO o3 ty_int 0 fun cs3 =>
      need ((Nat.beq cs3.length 1) && true) <|
      unc cs3 fun c6 _ =>
      asI .i64 c6 fun i6 =>
      rC out3.r fun c7 =>
      asI .i64 c7 fun i7 =>
      some (0, (i7, (i6, ()), ()))
    else
      some (0, (IntKind.i64.wrap (a1 + (IntKind.i64.wrap ((IntKind.i64.wrap (Int.tdiv (IntKind.i64.wrap (a2 - a1)) 4)) * 2))), (0, ()), ())) : Option (Nat × Int × (Int × Unit) × Unit)).bind fun p1 =>
    bif p1.2.2.1.1 == 0 then
      some ⟨V.tup [I p1.2.1, I 1], [], none⟩
    else
      bif p1.2.2.1.1 == 12 then
        some ⟨V.tup [I p1.2.1, I 2], [], none⟩
      else
        some ⟨V.tup [I p1.2.1, I 0], [], none⟩) := by kernel_rfl
/- slices.reverseRangeOrdered[int] -/
theorem eq_slices_reverseRangeOrdered_int (fu d : Nat) (n0 : Nat) (a0 : List C) (a1 : Int) (a2 : Int) :
    cl fu (d + 1) fn_slices_reverseRangeOrdered_int [V.own 1000000 0 n0, I a1, I a2] [.sb ty_int 0 a0] = (
    (iter (fun (y : (Nat × List C) × Int × Int × Unit) =>
      bif decide (y.2.1 < y.2.2.1) then
        need (inR y.2.2.1 y.1.1) <|
        unc (List.drop (0 + (y.2.2.1.toNat * 1)) y.1.2) fun c _ =>
        asI .i64 c fun i =>
        need (inR y.2.1 y.1.1) <|
        unc (List.drop (0 + (y.2.1.toNat * 1)) y.1.2) fun c1 _ =>
        asI .i64 c1 fun i1 =>
        need (inR y.2.1 y.1.1) <|
        need (((Nat.ble 0 (0 + (y.2.1.toNat * 1))) && (Nat.ble ((0 + (y.2.1.toNat * 1)) + 1) y.1.2.length)) && true) <|
        need (inR y.2.2.1 y.1.1) <|
        need (((Nat.ble 0 (0 + (y.2.2.1.toNat * 1))) && (Nat.ble ((0 + (y.2.2.1.toNat * 1)) + 1) ((putAt y.1.2 (0 + (y.2.1.toNat * 1)) ([C.v (.int .i64 i)])).length))) && true) <|
        some (0, ((y.1.1, putAt (putAt y.1.2 (0 + (y.2.1.toNat * 1)) ([C.v (.int .i64 i)])) (0 + (y.2.2.1.toNat * 1)) ([C.v (.int .i64 i1)])), IntKind.i64.wrap (y.2.1 + 1), IntKind.i64.wrap (y.2.2.1 - 1), ()))
      else
        some (1, ((y.1.1, y.1.2), y.2.1, y.2.2.1, ()))) fu ((n0, a0), a1, IntKind.i64.wrap (a2 - 1), ())).bind fun p =>
    some ⟨V.tup [], [.sb ty_int 0 p.2.1.2], none⟩) := by kernel_rfl
/- slices.partialInsertionSortOrdered[int] -/
theorem eq_slices_partialInsertionSortOrdered_int (fu d : Nat) (n0 : Nat) (a0 : List C) (a1 : Int) (a2 : Int) :
    cl fu (d + 1) fn_slices_partialInsertionSortOrdered_int [V.own 1000000 0 n0, I a1, I a2] [.sb ty_int 0 a0] = (
    (iter (fun (y : (Nat × List C) × Bool × Int × Int × Unit) =>
      bif decide (y.2.2.2.1 < 5) then
        (iter (fun (y1 : (Nat × List C) × Int × Unit) =>
          bif decide (y1.2.1 < a2) then
            need (inR y1.2.1 y1.1.1) <|
            unc (List.drop (0 + (y1.2.1.toNat * 1)) y1.1.2) fun c r =>
            asI .i64 c fun i =>
            need (inR (IntKind.i64.wrap (y1.2.1 - 1)) y1.1.1) <|
            unc (List.drop (0 + (((IntKind.i64.wrap (y1.2.1 - 1)).toNat) * 1)) y1.1.2) fun c1 _ =>
            asI .i64 c1 fun i1 =>
            (cl fu d fn_cmp_Less_int [I i, I i1] []).bind fun out =>
            rC out.r fun c2 =>
            asB c2 fun b =>
            bif !b then
              some (0, ((y1.1.1, y1.1.2), IntKind.i64.wrap (y1.2.1 + 1), ()))
            else
              some (1, ((y1.1.1, y1.1.2), y1.2.1, ()))
          else
            some (1, ((y1.1.1, y1.1.2), y1.2.1, ()))) fu ((y.1.1, y.1.2), y.2.2.1, ())).bind fun p =>
        bif p.2.2.1 == a2 then
          some (2, ((p.2.1.1, p.2.1.2), true, p.2.2.1, y.2.2.2.1, ()))
        else
          bif decide (IntKind.i64.wrap (a2 - a1) < 50) then
            some (2, ((p.2.1.1, p.2.1.2), false, p.2.2.1, y.2.2.2.1, ()))
          else
            need (inR (IntKind.i64.wrap (p.2.2.1 - 1)) p.2.1.1) <|
            unc (List.drop (0 + (((IntKind.i64.wrap (p.2.2.1 - 1)).toNat) * 1)) p.2.1.2) fun c3 _ =>
            asI .i64 c3 fun i2 =>
            need (inR p.2.2.1 p.2.1.1) <|
            unc (List.drop (0 + (p.2.2.1.toNat * 1)) p.2.1.2) fun c4 _ =>
            asI .i64 c4 fun i3 =>
            need (inR p.2.2.1 p.2.1.1) <|
            need (((Nat.ble 0 (0 + (p.2.2.1.toNat * 1))) && (Nat.ble ((0 + (p.2.2.1.toNat * 1)) + 1) p.2.1.2.length)) && true) <|
            need (inR (IntKind.i64.wrap (p.2.2.1 - 1)) p.2.1.1) <|
            need (((Nat.ble 0 (0 + (((IntKind.i64.wrap (p.2.2.1 - 1)).toNat) * 1))) && (Nat.ble ((0 + (((IntKind.i64.wrap (p.2.2.1 - 1)).toNat) * 1)) + 1) ((putAt p.2.1.2 (0 + (p.2.2.1.toNat * 1)) ([C.v (.int .i64 i2)])).length))) && true) <|
            (bif decide (IntKind.i64.wrap (p.2.2.1 - a1) ≥ 2) then
              (iter (fun (y2 : (Nat × List C) × Int × Unit) =>
                bif decide (y2.2.1 ≥ 1) then
                  need (inR y2.2.1 y2.1.1) <|
                  unc (List.drop (0 + (y2.2.1.toNat * 1)) y2.1.2) fun c5 _ =>
                  asI .i64 c5 fun i4 =>
                  need (inR (IntKind.i64.wrap (y2.2.1 - 1)) y2.1.1) <|
                  unc (List.drop (0 + (((IntKind.i64.wrap (y2.2.1 - 1)).toNat) * 1)) y2.1.2) fun c6 _ =>
                  asI .i64 c6 fun i5 =>
                  (cl fu d fn_cmp_Less_int [I i4, I i5] []).bind fun out1 =>
                  rC out1.r fun c7 =>
                  asB c7 fun b1 =>
                  bif !b1 then
                    some (1, ((y2.1.1, y2.1.2), y2.2.1, ()))
                  else
                    need (inR (IntKind.i64.wrap (y2.2.1 - 1)) y2.1.1) <|
                    unc (List.drop (0 + (((IntKind.i64.wrap (y2.2.1 - 1)).toNat) * 1)) y2.1.2) fun c8 _ =>
                    asI .i64 c8 fun i6 =>
                    need (inR y2.2.1 y2.1.1) <|
                    unc (List.drop (0 + (y2.2.1.toNat * 1)) y2.1.2) fun c9 _ =>
                    asI .i64 c9 fun i7 =>
                    need (inR y2.2.1 y2.1.1) <|
                    need (((Nat.ble 0 (0 + (y2.2.1.toNat * 1))) && (Nat.ble ((0 + (y2.2.1.toNat * 1)) + 1) y2.1.2.length)) && true) <|
                    need (inR (IntKind.i64.wrap (y2.2.1 - 1)) y2.1.1) <|
                    need (((Nat.ble 0 (0 + (((IntKind.i64.wrap (y2.2.1 - 1)).toNat) * 1))) && (Nat.ble ((0 + (((IntKind.i64.wrap (y2.2.1 - 1)).toNat) * 1)) + 1) ((putAt y2.1.2 (0 + (y2.2.1.toNat * 1)) ([C.v (.int .i64 i6)])).length))) && true) <|
                    some (0, ((y2.1.1, putAt (putAt y2.1.2 (0 + (y2.2.1.toNat * 1)) ([C.v (.int .i64 i6)])) (0 + (((IntKind.i64.wrap (y2.2.1 - 1)).toNat) * 1)) ([C.v (.int .i64 i7)])), IntKind.i64.wrap (y2.2.1 - 1), ()))
                else
                  some (1, ((y2.1.1, y2.1.2), y2.2.1, ()))) fu ((p.2.1.1, putAt (putAt p.2.1.2 (0 + (p.2.2.1.toNat * 1)) ([C.v (.int .i64 i2)])) (0 + (((IntKind.i64.wrap (p.2.2.1 - 1)).toNat) * 1)) ([C.v (.int .i64 i3)])), IntKind.i64.wrap (p.2.2.1 - 1), ())).bind fun p1 =>
              some (0, ((p1.2.1.1, p1.2.1.2), ()))
            else
              some (0, ((p.2.1.1, putAt (putAt p.2.1.2 (0 + (p.2.2.1.toNat * 1)) ([C.v (.int .i64 i2)])) (0 + (((IntKind.i64.wrap (p.2.2.1 - 1)).toNat) * 1)) ([C.v (.int .i64 i3)])), ())) : Option (Nat × (Nat × List C) × Unit)).bind fun p2 =>
            bif decide (IntKind.i64.wrap (a2 - p.2.2.1) ≥ 2) then
              (iter (fun (y3 : (Nat × List C) × Int × Unit) =>
                bif decide (y3.2.1 < a2) then
                  need (inR y3.2.1 y3.1.1) <|
                  unc (List.drop (0 + (y3.2.1.toNat * 1)) y3.1.2) fun c10 _ =>
                  asI .i64 c10 fun i8 =>
                  need (inR (IntKind.i64.wrap (y3.2.1 - 1)) y3.1.1) <|
                  unc (List.drop (0 + (((IntKind.i64.wrap (y3.2.1 - 1)).toNat) * 1)) y3.1.2) fun c11 _ =>
                  asI .i64 c11 fun i9 =>
                  (cl fu d fn_cmp_Less_int [I i8, I i9] []).bind fun out2 =>
                  rC out2.r fun c12 =>
                  asB c12 fun b2 =>
                  bif !b2 then
                    some (1, ((y3.1.1, y3.1.2), y3.2.1, ()))
                  else
                    need (inR (IntKind.i64.wrap (y3.2.1 - 1)) y3.1.1) <|
                    unc (List.drop (0 + (((IntKind.i64.wrap (y3.2.1 - 1)).toNat) * 1)) y3.1.2) fun c13 _ =>
                    asI .i64 c13 fun i10 =>
                    need (inR y3.2.1 y3.1.1) <|
                    unc (List.drop (0 + (y3.2.1.toNat * 1)) y3.1.2) fun c14 _ =>
                    asI .i64 c14 fun i11 =>
                    need (inR y3.2.1 y3.1.1) <|
                    need (((Nat.ble 0 (0 + (y3.2.1.toNat * 1))) && (Nat.ble ((0 + (y3.2.1.toNat * 1)) + 1) y3.1.2.length)) && true) <|
                    need (inR (IntKind.i64.wrap (y3.2.1 - 1)) y3.1.1) <|
                    need (((Nat.ble 0 (0 + (((IntKind.i64.wrap (y3.2.1 - 1)).toNat) * 1))) && (Nat.ble ((0 + (((IntKind.i64.wrap (y3.2.1 - 1)).toNat) * 1)) + 1) ((putAt y3.1.2 (0 + (y3.2.1.toNat * 1)) ([C.v (.int .i64 i10)])).length))) && true) <|
                    some (0, ((y3.1.1, putAt (putAt y3.1.2 (0 + (y3.2.1.toNat * 1)) ([C.v (.int .i64 i10)])) (0 + (((IntKind.i64.wrap (y3.2.1 - 1)).toNat) * 1)) ([C.v (.int .i64 i11)])), IntKind.i64.wrap (y3.2.1 + 1), ()))
                else
                  some (1, ((y3.1.1, y3.1.2), y3.2.1, ()))) fu ((p2.2.1.1, p2.2.1.2), IntKind.i64.wrap (p.2.2.1 + 1), ())).bind fun p3 =>
              some (0, ((p3.2.1.1, p3.2.1.2), y.2.1, p.2.2.1, IntKind.i64.wrap (y.2.2.2.1 + 1), ()))
            else
              some (0, ((p2.2.1.1, p2.2.1.2), y.2.1, p.2.2.1, IntKind.i64.wrap (y.2.2.2.1 + 1), ()))
      else
        some (1, ((y.1.1, y.1.2), y.2.1, y.2.2.1, y.2.2.2.1, ()))) fu ((n0, a0), false, IntKind.i64.wrap (a1 + 1), 0, ())).bind fun p4 =>
    natD p4.1 (
      some ⟨B false, [.sb ty_int 0 p4.2.1.2], none⟩) fun m =>
    some ⟨B p4.2.2.1, [.sb ty_int 0 p4.2.1.2], none⟩) := by kernel_rfl
/- cmp.Less[int] -/
theorem eq_cmp_Less_int (fu d : Nat) (a0 : Int) (a1 : Int) :
    cl fu (d + 1) fn_cmp_Less_int [I a0, I a1] [] = (
    (cl fu d fn_cmp_isNaN_int [I a0] []).bind fun out =>
    rC out.r fun c =>
    asB c fun b =>
    bif b then
      (cl fu d fn_cmp_isNaN_int [I a1] []).bind fun out1 =>
      rC out1.r fun c1 =>
      asB c1 fun b1 =>
      bif !b1 then
        some ⟨B true, [], none⟩
      else
        some ⟨B (decide (a0 < a1)), [], none⟩
    else
      some ⟨B (decide (a0 < a1)), [], none⟩) := by kernel_rfl
/- slices.partitionEqualOrdered[int] -/
theorem eq_slices_partitionEqualOrdered_int (fu d : Nat) (n0 : Nat) (a0 : List C) (a1 : Int) (a2 : Int) (a3 : Int) :
    cl fu (d + 1) fn_slices_partitionEqualOrdered_int [V.own 1000000 0 n0, I a1, I a2, I a3] [.sb ty_int 0 a0] = (
    need (inR a3 n0) <|
    unc (List.drop (0 + (a3.toNat * 1)) a0) fun c r =>
    asI .i64 c fun i =>
    need (inR a1 n0) <|
    unc (List.drop (0 + (a1.toNat * 1)) a0) fun c1 _ =>
    asI .i64 c1 fun i1 =>
    need (inR a1 n0) <|
    need (((Nat.ble 0 (0 + (a1.toNat * 1))) && (Nat.ble ((0 + (a1.toNat * 1)) + 1) a0.length)) && true) <|
    need (inR a3 n0) <|
    need (((Nat.ble 0 (0 + (a3.toNat * 1))) && (Nat.ble ((0 + (a3.toNat * 1)) + 1) ((putAt a0 (0 + (a1.toNat * 1)) ([C.v (.int .i64 i)])).length))) && true) <|
    (iter (fun (y : (Nat × List C) × Int × Int × Unit) =>
      (iter (fun (y1 : (Nat × List C) × Int × Unit) =>
        bif decide (y1.2.1 ≤ y.2.2.1) then
          need (inR a1 y1.1.1) <|
          unc (List.drop (0 + (a1.toNat * 1)) y1.1.2) fun c2 _ =>
          asI .i64 c2 fun i2 =>
          need (inR y1.2.1 y1.1.1) <|
          unc (List.drop (0 + (y1.2.1.toNat * 1)) y1.1.2) fun c3 _ =>
          asI .i64 c3 fun i3 =>
          (cl fu d fn_cmp_Less_int [I i2, I i3] []).bind fun out =>
          rC out.r fun c4 =>
          asB c4 fun b =>
          bif !b then
            some (0, ((y1.1.1, y1.1.2), IntKind.i64.wrap (y1.2.1 + 1), ()))
          else
            some (1, ((y1.1.1, y1.1.2), y1.2.1, ()))
        else
          some (1, ((y1.1.1, y1.1.2), y1.2.1, ()))) fu ((y.1.1, y.1.2), y.2.1, ())).bind fun p =>
      (iter (fun (y2 : (Nat × List C) × Int × Unit) =>
        bif decide (p.2.2.1 ≤ y2.2.1) then
          need (inR a1 y2.1.1) <|
          unc (List.drop (0 + (a1.toNat * 1)) y2.1.2) fun c5 _ =>
          asI .i64 c5 fun i4 =>
          need (inR y2.2.1 y2.1.1) <|
          unc (List.drop (0 + (y2.2.1.toNat * 1)) y2.1.2) fun c6 _ =>
          asI .i64 c6 fun i5 =>
          (cl fu d fn_cmp_Less_int [I i4, I i5] []).bind fun out1 =>
          rC out1.r fun c7 =>
          asB c7 fun b1 =>
          bif b1 then
            some (0, ((y2.1.1, y2.1.2), IntKind.i64.wrap (y2.2.1 - 1), ()))
          else
            some (1, ((y2.1.1, y2.1.2), y2.2.1, ()))
        else
          some (1, ((y2.1.1, y2.1.2), y2.2.1, ()))) fu ((p.2.1.1, p.2.1.2), y.2.2.1, ())).bind fun p1 =>
      bif decide (p.2.2.1 > p1.2.2.1) then
        some (1, ((p1.2.1.1, p1.2.1.2), p.2.2.1, p1.2.2.1, ()))
      else
        need (inR p1.2.2.1 p1.2.1.1) <|
        unc (List.drop (0 + (p1.2.2.1.toNat * 1)) p1.2.1.2) fun c8 _ =>
        asI .i64 c8 fun i6 =>
        need (inR p.2.2.1 p1.2.1.1) <|
        unc (List.drop (0 + (p.2.2.1.toNat * 1)) p1.2.1.2) fun c9 _ =>
        asI .i64 c9 fun i7 =>
        need (inR p.2.2.1 p1.2.1.1) <|
        need (((Nat.ble 0 (0 + (p.2.2.1.toNat * 1))) && (Nat.ble ((0 + (p.2.2.1.toNat * 1)) + 1) p1.2.1.2.length)) && true) <|
        need (inR p1.2.2.1 p1.2.1.1) <|
        need (((Nat.ble 0 (0 + (p1.2.2.1.toNat * 1))) && (Nat.ble ((0 + (p1.2.2.1.toNat * 1)) + 1) ((putAt p1.2.1.2 (0 + (p.2.2.1.toNat * 1)) ([C.v (.int .i64 i6)])).length))) && true) <|
        some (0, ((p1.2.1.1, putAt (putAt p1.2.1.2 (0 + (p.2.2.1.toNat * 1)) ([C.v (.int .i64 i6)])) (0 + (p1.2.2.1.toNat * 1)) ([C.v (.int .i64 i7)])), IntKind.i64.wrap (p.2.2.1 + 1), IntKind.i64.wrap (p1.2.2.1 - 1), ()))) fu ((n0, putAt (putAt a0 (0 + (a1.toNat * 1)) ([C.v (.int .i64 i)])) (0 + (a3.toNat * 1)) ([C.v (.int .i64 i1)])), IntKind.i64.wrap (a1 + 1), IntKind.i64.wrap (a2 - 1), ())).bind fun p2 =>
    some ⟨I p2.2.2.1, [.sb ty_int 0 p2.2.1.2], none⟩) := by kernel_rfl
/- slices.partitionOrdered[int] -/
theorem eq_slices_partitionOrdered_int (fu d : Nat) (n0 : Nat) (a0 : List C) (a1 : Int) (a2 : Int) (a3 : Int) :
    cl fu (d + 1) fn_slices_partitionOrdered_int [V.own 1000000 0 n0, I a1, I a2, I a3] [.sb ty_int 0 a0] = (
    need (inR a3 n0) <|
    unc (List.drop (0 + (a3.toNat * 1)) a0) fun c r =>
    asI .i64 c fun i =>
    need (inR a1 n0) <|
    unc (List.drop (0 + (a1.toNat * 1)) a0) fun c1 _ =>
    asI .i64 c1 fun i1 =>
    need (inR a1 n0) <|
    need (((Nat.ble 0 (0 + (a1.toNat * 1))) && (Nat.ble ((0 + (a1.toNat * 1)) + 1) a0.length)) && true) <|
    need (inR a3 n0) <|
    need (((Nat.ble 0 (0 + (a3.toNat * 1))) && (Nat.ble ((0 + (a3.toNat * 1)) + 1) ((putAt a0 (0 + (a1.toNat * 1)) ([C.v (.int .i64 i)])).length))) && true) <|
    (iter (fun (y : (Nat × List C) × Int × Unit) =>
      bif decide (y.2.1 ≤ IntKind.i64.wrap (a2 - 1)) then
        need (inR y.2.1 y.1.1) <|
        unc (List.drop (0 + (y.2.1.toNat * 1)) y.1.2) fun c2 _ =>
        asI .i64 c2 fun i2 =>
        need (inR a1 y.1.1) <|
        unc (List.drop (0 + (a1.toNat * 1)) y.1.2) fun c3 _ =>
        asI .i64 c3 fun i3 =>
        (cl fu d fn_cmp_Less_int [I i2, I i3] []).bind fun out =>
        rC out.r fun c4 =>
        asB c4 fun b =>
        bif b then
          some (0, ((y.1.1, y.1.2), IntKind.i64.wrap (y.2.1 + 1), ()))
        else
          some (1, ((y.1.1, y.1.2), y.2.1, ()))
      else
        some (1, ((y.1.1, y.1.2), y.2.1, ()))) fu ((n0, putAt (putAt a0 (0 + (a1.toNat * 1)) ([C.v (.int .i64 i)])) (0 + (a3.toNat * 1)) ([C.v (.int .i64 i1)])), IntKind.i64.wrap (a1 + 1), ())).bind fun p =>
    (iter (fun (y1 : (Nat × List C) × Int × Unit) =>
      bif decide (p.2.2.1 ≤ y1.2.1) then
        need (inR y1.2.1 y1.1.1) <|
        unc (List.drop (0 + (y1.2.1.toNat * 1)) y1.1.2) fun c5 _ =>
        asI .i64 c5 fun i4 =>
        need (inR a1 y1.1.1) <|
        unc (List.drop (0 + (a1.toNat * 1)) y1.1.2) fun c6 _ =>
        asI .i64 c6 fun i5 =>
        (cl fu d fn_cmp_Less_int [I i4, I i5] []).bind fun out1 =>
        rC out1.r fun c7 =>
        asB c7 fun b1 =>
        bif !b1 then
          some (0, ((y1.1.1, y1.1.2), IntKind.i64.wrap (y1.2.1 - 1), ()))
        else
          some (1, ((y1.1.1, y1.1.2), y1.2.1, ()))
      else
        some (1, ((y1.1.1, y1.1.2), y1.2.1, ()))) fu ((p.2.1.1, p.2.1.2), IntKind.i64.wrap (a2 - 1), ())).bind fun p1 =>
    bif decide (p.2.2.1 > p1.2.2.1) then
      need (inR a1 p1.2.1.1) <|
      unc (List.drop (0 + (a1.toNat * 1)) p1.2.1.2) fun c8 _ =>
      asI .i64 c8 fun i6 =>
      need (inR p1.2.2.1 p1.2.1.1) <|
      unc (List.drop (0 + (p1.2.2.1.toNat * 1)) p1.2.1.2) fun c9 _ =>
      asI .i64 c9 fun i7 =>
      need (inR p1.2.2.1 p1.2.1.1) <|
      need (((Nat.ble 0 (0 + (p1.2.2.1.toNat * 1))) && (Nat.ble ((0 + (p1.2.2.1.toNat * 1)) + 1) p1.2.1.2.length)) && true) <|
      need (inR a1 p1.2.1.1) <|
      need (((Nat.ble 0 (0 + (a1.toNat * 1))) && (Nat.ble ((0 + (a1.toNat * 1)) + 1) ((putAt p1.2.1.2 (0 + (p1.2.2.1.toNat * 1)) ([C.v (.int .i64 i6)])).length))) && true) <|
      some ⟨V.tup [I p1.2.2.1, B true], [.sb ty_int 0 (putAt (putAt p1.2.1.2 (0 + (p1.2.2.1.toNat * 1)) ([C.v (.int .i64 i6)])) (0 + (a1.toNat * 1)) ([C.v (.int .i64 i7)]))], none⟩
    else
      need (inR p1.2.2.1 p1.2.1.1) <|
      unc (List.drop (0 + (p1.2.2.1.toNat * 1)) p1.2.1.2) fun c10 _ =>
      asI .i64 c10 fun i8 =>
      need (inR p.2.2.1 p1.2.1.1) <|
      unc (List.drop (0 + (p.2.2.1.toNat * 1)) p1.2.1.2) fun c11 _ =>
      asI .i64 c11 fun i9 =>
      need (inR p.2.2.1 p1.2.1.1) <|
      need (((Nat.ble 0 (0 + (p.2.2.1.toNat * 1))) && (Nat.ble ((0 + (p.2.2.1.toNat * 1)) + 1) p1.2.1.2.length)) && true) <|
      need (inR p1.2.2.1 p1.2.1.1) <|
      need (((Nat.ble 0 (0 + (p1.2.2.1.toNat * 1))) && (Nat.ble ((0 + (p1.2.2.1.toNat * 1)) + 1) ((putAt p1.2.1.2 (0 + (p.2.2.1.toNat * 1)) ([C.v (.int .i64 i8)])).length))) && true) <|
      (iter (fun (y2 : (Nat × List C) × Int × Int × Unit) =>
        (iter (fun (y3 : (Nat × List C) × Int × Unit) =>
          bif decide (y3.2.1 ≤ y2.2.2.1) then
            need (inR y3.2.1 y3.1.1) <|
            unc (List.drop (0 + (y3.2.1.toNat * 1)) y3.1.2) fun c12 _ =>
            asI .i64 c12 fun i10 =>
            need (inR a1 y3.1.1) <|
            unc (List.drop (0 + (a1.toNat * 1)) y3.1.2) fun c13 _ =>
            asI .i64 c13 fun i11 =>
            (cl fu d fn_cmp_Less_int [I i10, I i11] []).bind fun out2 =>
            rC out2.r fun c14 =>
            asB c14 fun b2 =>
            bif b2 then
              some (0, ((y3.1.1, y3.1.2), IntKind.i64.wrap (y3.2.1 + 1), ()))
            else
              some (1, ((y3.1.1, y3.1.2), y3.2.1, ()))
          else
            some (1, ((y3.1.1, y3.1.2), y3.2.1, ()))) fu ((y2.1.1, y2.1.2), y2.2.1, ())).bind fun p2 =>
        (iter (fun (y4 : (Nat × List C) × Int × Unit) =>
          bif decide (p2.2.2.1 ≤ y4.2.1) then
            need (inR y4.2.1 y4.1.1) <|
            unc (List.drop (0 + (y4.2.1.toNat * 1)) y4.1.2) fun c15 _ =>
            asI .i64 c15 fun i12 =>
            need (inR a1 y4.1.1) <|
            unc (List.drop (0 + (a1.toNat * 1)) y4.1.2) fun c16 _ =>
            asI .i64 c16 fun i13 =>
            (cl fu d fn_cmp_Less_int [I i12, I i13] []).bind fun out3 =>
            rC out3.r fun c17 =>
            asB c17 fun b3 =>
            bif !b3 then
              some (0, ((y4.1.1, y4.1.2), IntKind.i64.wrap (y4.2.1 - 1), ()))
            else
              some (1, ((y4.1.1, y4.1.2), y4.2.1, ()))
          else
            some (1, ((y4.1.1, y4.1.2), y4.2.1, ()))) fu ((p2.2.1.1, p2.2.1.2), y2.2.2.1, ())).bind fun p3 =>
        bif decide (p2.2.2.1 > p3.2.2.1) then
          some (1, ((p3.2.1.1, p3.2.1.2), p2.2.2.1, p3.2.2.1, ()))
        else
          need (inR p3.2.2.1 p3.2.1.1) <|
          unc (List.drop (0 + (p3.2.2.1.toNat * 1)) p3.2.1.2) fun c18 _ =>
          asI .i64 c18 fun i14 =>
          need (inR p2.2.2.1 p3.2.1.1) <|
          unc (List.drop (0 + (p2.2.2.1.toNat * 1)) p3.2.1.2) fun c19 _ =>
          asI .i64 c19 fun i15 =>
          need (inR p2.2.2.1 p3.2.1.1) <|
          need (((Nat.ble 0 (0 + (p2.2.2.1.toNat * 1))) && (Nat.ble ((0 + (p2.2.2.1.toNat * 1)) + 1) p3.2.1.2.length)) && true) <|
          need (inR p3.2.2.1 p3.2.1.1) <|
          need (((Nat.ble 0 (0 + (p3.2.2.1.toNat * 1))) && (Nat.ble ((0 + (p3.2.2.1.toNat * 1)) + 1) ((putAt p3.2.1.2 (0 + (p2.2.2.1.toNat * 1)) ([C.v (.int .i64 i14)])).length))) && true) <|
          some (0, ((p3.2.1.1, putAt (putAt p3.2.1.2 (0 + (p2.2.2.1.toNat * 1)) ([C.v (.int .i64 i14)])) (0 + (p3.2.2.1.toNat * 1)) ([C.v (.int .i64 i15)])), IntKind.i64.wrap (p2.2.2.1 + 1), IntKind.i64.wrap (p3.2.2.1 - 1), ()))) fu ((p1.2.1.1, putAt (putAt p1.2.1.2 (0 + (p.2.2.1.toNat * 1)) ([C.v (.int .i64 i8)])) (0 + (p1.2.2.1.toNat * 1)) ([C.v (.int .i64 i9)])), IntKind.i64.wrap (p.2.2.1 + 1), IntKind.i64.wrap (p1.2.2.1 - 1), ())).bind fun p4 =>
      need (inR a1 p4.2.1.1) <|
      unc (List.drop (0 + (a1.toNat * 1)) p4.2.1.2) fun c20 _ =>
      asI .i64 c20 fun i16 =>
      need (inR p4.2.2.2.1 p4.2.1.1) <|
      unc (List.drop (0 + (p4.2.2.2.1.toNat * 1)) p4.2.1.2) fun c21 _ =>
      asI .i64 c21 fun i17 =>
      need (inR p4.2.2.2.1 p4.2.1.1) <|
      need (((Nat.ble 0 (0 + (p4.2.2.2.1.toNat * 1))) && (Nat.ble ((0 + (p4.2.2.2.1.toNat * 1)) + 1) p4.2.1.2.length)) && true) <|
      need (inR a1 p4.2.1.1) <|
      need (((Nat.ble 0 (0 + (a1.toNat * 1))) && (Nat.ble ((0 + (a1.toNat * 1)) + 1) ((putAt p4.2.1.2 (0 + (p4.2.2.2.1.toNat * 1)) ([C.v (.int .i64 i16)])).length))) && true) <|
      some ⟨V.tup [I p4.2.2.2.1, B false], [.sb ty_int 0 (putAt (putAt p4.2.1.2 (0 + (p4.2.2.2.1.toNat * 1)) ([C.v (.int .i64 i16)])) (0 + (a1.toNat * 1)) ([C.v (.int .i64 i17)]))], none⟩) := by kernel_rfl
/- math/bits.Len32 -/
theorem eq_bits_Len32 (fu d : Nat) (a0 : Int) :
    cl fu (d + 1) fn_bits_Len32 [V.c (C.v (.int .u32 a0))] [] = (
    (bif decide (a0 ≥ 65536) then
      some (0, (Int.fdiv a0 (2 ^ 16), 16, ()))
    else
      some (0, (a0, 0, ())) : Option (Nat × Int × Int × Unit)).bind fun p =>
    bif decide (p.2.1 ≥ 256) then
      need (inR (IntKind.u8.wrap (Int.fdiv p.2.1 (2 ^ 8))) (kb1 : ByteArray).size) <|
      bd (IntKind.i64.wrap ((IntKind.i64.wrap (p.2.2.1 + 8)) + (IntKind.i64.wrap (((kb1 : ByteArray).data.getD ((IntKind.u8.wrap (Int.fdiv p.2.1 (2 ^ 8))).toNat) 0).toNat : Int)))) fun z =>
      some ⟨I z, [], none⟩
    else
      need (inR (IntKind.u8.wrap p.2.1) (kb1 : ByteArray).size) <|
      bd (IntKind.i64.wrap (p.2.2.1 + (IntKind.i64.wrap (((kb1 : ByteArray).data.getD ((IntKind.u8.wrap p.2.1).toNat) 0).toNat : Int)))) fun z1 =>
      some ⟨I z1, [], none⟩) := by kernel_rfl
/- math/bits.Len64 -/
theorem eq_bits_Len64 (fu d : Nat) (a0 : Int) :
    cl fu (d + 1) fn_bits_Len64 [V.c (C.v (.int .u64 a0))] [] = (
    (bif decide (a0 ≥ 4294967296) then
      some (0, (Int.fdiv a0 (2 ^ 32), 32, ()))
    else
      some (0, (a0, 0, ())) : Option (Nat × Int × Int × Unit)).bind fun p =>
    (bif decide (p.2.1 ≥ 65536) then
      some (0, (Int.fdiv p.2.1 (2 ^ 16), IntKind.i64.wrap (p.2.2.1 + 16), ()))
    else
      some (0, (p.2.1, p.2.2.1, ())) : Option (Nat × Int × Int × Unit)).bind fun p1 =>
    bif decide (p1.2.1 ≥ 256) then
      need (inR (IntKind.u8.wrap (Int.fdiv p1.2.1 (2 ^ 8))) (kb1 : ByteArray).size) <|
      bd (IntKind.i64.wrap ((IntKind.i64.wrap (p1.2.2.1 + 8)) + (IntKind.i64.wrap (((kb1 : ByteArray).data.getD ((IntKind.u8.wrap (Int.fdiv p1.2.1 (2 ^ 8))).toNat) 0).toNat : Int)))) fun z =>
      some ⟨I z, [], none⟩
    else
      need (inR (IntKind.u8.wrap p1.2.1) (kb1 : ByteArray).size) <|
      bd (IntKind.i64.wrap (p1.2.2.1 + (IntKind.i64.wrap (((kb1 : ByteArray).data.getD ((IntKind.u8.wrap p1.2.1).toNat) 0).toNat : Int)))) fun z1 =>
      some ⟨I z1, [], none⟩) := by kernel_rfl
/- synoptic/synopticref22.Add -/
theorem eq_synopticref22_Add (fu d : Nat) (a0_0 : Int) (a0_1 : Int) (a1_0 : Int) (a1_1 : Int) :
    cl fu (d + 1) fn_synopticref22_Add [V.agg ([C.v (.int .i64 a0_0), C.v (.int .u64 a0_1)]), V.agg ([C.v (.int .i64 a1_0), C.v (.int .u64 a1_1)])] [] = (
    (cl fu d fn_bits_Add64 [V.c (C.v (.int .u64 a0_1)), V.c (C.v (.int .u64 a1_1)), V.c (C.v (.int .u64 0))] []).bind fun out =>
    rT out.r fun xs =>
    uncV xs fun x ys =>
    rC x fun c =>
    asI .u64 c fun i =>
    uncV ys fun x1 ys1 =>
    rC x1 fun c1 =>
    asI .u64 c1 fun i1 =>
    nilV ys1 <|
    (cl fu d fn_bits_Add64 [V.c (C.v (.int .u64 (IntKind.u64.wrap a0_0))), V.c (C.v (.int .u64 (IntKind.u64.wrap a1_0))), V.c (C.v (.int .u64 i1))] []).bind fun out1 =>
    rT out1.r fun xs1 =>
    uncV xs1 fun x2 ys2 =>
    rC x2 fun c2 =>
    asI .u64 c2 fun i2 =>
    uncV ys2 fun x3 ys3 =>
    rC x3 fun c3 =>
    asI .u64 c3 fun i3 =>
    nilV ys3 <|
    some ⟨V.agg ([C.v (.int .i64 (IntKind.i64.wrap i2)), C.v (.int .u64 i)]), [], none⟩) := by kernel_rfl
/- slices.siftDownOrdered[int] -/
theorem eq_slices_siftDownOrdered_int (fu d : Nat) (n0 : Nat) (a0 : List C) (a1 : Int) (a2 : Int) (a3 : Int) :
    cl fu (d + 1) fn_slices_siftDownOrdered_int [V.own 1000000 0 n0, I a1, I a2, I a3] [.sb ty_int 0 a0] = (
    (iter (fun (y : (Nat × List C) × Int × Unit) =>
      bif decide (IntKind.i64.wrap ((IntKind.i64.wrap (2 * y.2.1)) + 1) ≥ a2) then
        some (1, ((y.1.1, y.1.2), y.2.1, ()))
      else
        bif decide (IntKind.i64.wrap ((IntKind.i64.wrap ((IntKind.i64.wrap (2 * y.2.1)) + 1)) + 1) < a2) then
          need (inR (IntKind.i64.wrap (a3 + (IntKind.i64.wrap ((IntKind.i64.wrap (2 * y.2.1)) + 1)))) y.1.1) <|
          unc (List.drop (0 + (((IntKind.i64.wrap (a3 + (IntKind.i64.wrap ((IntKind.i64.wrap (2 * y.2.1)) + 1)))).toNat) * 1)) y.1.2) fun c r =>
          asI .i64 c fun i =>
          need (inR (IntKind.i64.wrap ((IntKind.i64.wrap (a3 + (IntKind.i64.wrap ((IntKind.i64.wrap (2 * y.2.1)) + 1)))) + 1)) y.1.1) <|
          unc (List.drop (0 + (((IntKind.i64.wrap ((IntKind.i64.wrap (a3 + (IntKind.i64.wrap ((IntKind.i64.wrap (2 * y.2.1)) + 1)))) + 1)).toNat) * 1)) y.1.2) fun c1 _ =>
          asI .i64 c1 fun i1 =>
          (cl fu d fn_cmp_Less_int [I i, I i1] []).bind fun out =>
          rC out.r fun c2 =>
          asB c2 fun b =>
          (bif b then
            some (0, ((y.1.1, y.1.2), IntKind.i64.wrap ((IntKind.i64.wrap ((IntKind.i64.wrap (2 * y.2.1)) + 1)) + 1), ()))
          else
            some (0, ((y.1.1, y.1.2), IntKind.i64.wrap ((IntKind.i64.wrap (2 * y.2.1)) + 1), ())) : Option (Nat × (Nat × List C) × Int × Unit)).bind fun p =>
          need (inR (IntKind.i64.wrap (a3 + y.2.1)) p.2.1.1) <|
          unc (List.drop (0 + (((IntKind.i64.wrap (a3 + y.2.1)).toNat) * 1)) p.2.1.2) fun c3 _ =>
          asI .i64 c3 fun i2 =>
          need (inR (IntKind.i64.wrap (a3 + p.2.2.1)) p.2.1.1) <|
          unc (List.drop (0 + (((IntKind.i64.wrap (a3 + p.2.2.1)).toNat) * 1)) p.2.1.2) fun c4 _ =>
          asI .i64 c4 fun i3 =>
          (cl fu d fn_cmp_Less_int [I i2, I i3] []).bind fun out1 =>
          rC out1.r fun c5 =>
          asB c5 fun b1 =>
          bif !b1 then
            some (2, ((p.2.1.1, p.2.1.2), y.2.1, ()))
          else
            need (inR (IntKind.i64.wrap (a3 + p.2.2.1)) p.2.1.1) <|
            unc (List.drop (0 + (((IntKind.i64.wrap (a3 + p.2.2.1)).toNat) * 1)) p.2.1.2) fun c6 _ =>
            asI .i64 c6 fun i4 =>
            need (inR (IntKind.i64.wrap (a3 + y.2.1)) p.2.1.1) <|
            unc (List.drop (0 + (((IntKind.i64.wrap (a3 + y.2.1)).toNat) * 1)) p.2.1.2) fun c7 _ =>
            asI .i64 c7 fun i5 =>
            need (inR (IntKind.i64.wrap (a3 + y.2.1)) p.2.1.1) <|
            need (((Nat.ble 0 (0 + (((IntKind.i64.wrap (a3 + y.2.1)).toNat) * 1))) && (Nat.ble ((0 + (((IntKind.i64.wrap (a3 + y.2.1)).toNat) * 1)) + 1) p.2.1.2.length)) && true) <|
            need (inR (IntKind.i64.wrap (a3 + p.2.2.1)) p.2.1.1) <|
            need (((Nat.ble 0 (0 + (((IntKind.i64.wrap (a3 + p.2.2.1)).toNat) * 1))) && (Nat.ble ((0 + (((IntKind.i64.wrap (a3 + p.2.2.1)).toNat) * 1)) + 1) ((putAt p.2.1.2 (0 + (((IntKind.i64.wrap (a3 + y.2.1)).toNat) * 1)) ([C.v (.int .i64 i4)])).length))) && true) <|
            bd (putAt (putAt p.2.1.2 (0 + (((IntKind.i64.wrap (a3 + y.2.1)).toNat) * 1)) ([C.v (.int .i64 i4)])) (0 + (((IntKind.i64.wrap (a3 + p.2.2.1)).toNat) * 1)) ([C.v (.int .i64 i5)])) fun cs =>
            some (0, ((p.2.1.1, cs), p.2.2.1, ()))
        else
          (some (0, ((y.1.1, y.1.2), IntKind.i64.wrap ((IntKind.i64.wrap (2 * y.2.1)) + 1), ())) : Option (Nat × (Nat × List C) × Int × Unit)).bind fun p1 =>
          need (inR (IntKind.i64.wrap (a3 + y.2.1)) p1.2.1.1) <|
          unc (List.drop (0 + (((IntKind.i64.wrap (a3 + y.2.1)).toNat) * 1)) p1.2.1.2) fun c8 _ =>
          asI .i64 c8 fun i6 =>
          need (inR (IntKind.i64.wrap (a3 + p1.2.2.1)) p1.2.1.1) <|
          unc (List.drop (0 + (((IntKind.i64.wrap (a3 + p1.2.2.1)).toNat) * 1)) p1.2.1.2) fun c9 _ =>
          asI .i64 c9 fun i7 =>
          (cl fu d fn_cmp_Less_int [I i6, I i7] []).bind fun out2 =>
          rC out2.r fun c10 =>
          asB c10 fun b2 =>
          bif !b2 then
            some (2, ((p1.2.1.1, p1.2.1.2), y.2.1, ()))
          else
            need (inR (IntKind.i64.wrap (a3 + p1.2.2.1)) p1.2.1.1) <|
            unc (List.drop (0 + (((IntKind.i64.wrap (a3 + p1.2.2.1)).toNat) * 1)) p1.2.1.2) fun c11 _ =>
            asI .i64 c11 fun i8 =>
            need (inR (IntKind.i64.wrap (a3 + y.2.1)) p1.2.1.1) <|
            unc (List.drop (0 + (((IntKind.i64.wrap (a3 + y.2.1)).toNat) * 1)) p1.2.1.2) fun c12 _ =>
            asI .i64 c12 fun i9 =>
            need (inR (IntKind.i64.wrap (a3 + y.2.1)) p1.2.1.1) <|
            need (((Nat.ble 0 (0 + (((IntKind.i64.wrap (a3 + y.2.1)).toNat) * 1))) && (Nat.ble ((0 + (((IntKind.i64.wrap (a3 + y.2.1)).toNat) * 1)) + 1) p1.2.1.2.length)) && true) <|
            need (inR (IntKind.i64.wrap (a3 + p1.2.2.1)) p1.2.1.1) <|
            need (((Nat.ble 0 (0 + (((IntKind.i64.wrap (a3 + p1.2.2.1)).toNat) * 1))) && (Nat.ble ((0 + (((IntKind.i64.wrap (a3 + p1.2.2.1)).toNat) * 1)) + 1) ((putAt p1.2.1.2 (0 + (((IntKind.i64.wrap (a3 + y.2.1)).toNat) * 1)) ([C.v (.int .i64 i8)])).length))) && true) <|
            bd (putAt (putAt p1.2.1.2 (0 + (((IntKind.i64.wrap (a3 + y.2.1)).toNat) * 1)) ([C.v (.int .i64 i8)])) (0 + (((IntKind.i64.wrap (a3 + p1.2.2.1)).toNat) * 1)) ([C.v (.int .i64 i9)])) fun cs1 =>
            some (0, ((p1.2.1.1, cs1), p1.2.2.1, ()))) fu ((n0, a0), a1, ())).bind fun p2 =>
    natD p2.1 (
      some ⟨V.tup [], [.sb ty_int 0 p2.2.1.2], none⟩) fun m =>
    some ⟨V.tup [], [.sb ty_int 0 p2.2.1.2], none⟩) := by kernel_rfl
/- slices.nextPowerOfTwo -/
theorem eq_slices_nextPowerOfTwo (fu d : Nat) (a0 : Int) :
    cl fu (d + 1) fn_slices_nextPowerOfTwo [I a0] [] = (
    (cl fu d fn_bits_Len [V.c (C.v (.int .u64 (IntKind.u64.wrap a0)))] []).bind fun out =>
    rC out.r fun c =>
    asI .i64 c fun i =>
    need (!(decide (i < 0))) <|
    some ⟨V.c (C.v (.int .u64 (IntKind.u64.wrap (1 * 2 ^ (min i.toNat (IntKind.bits .u64)))))), [], none⟩) := by kernel_rfl
/- (*slices.xorshift).Next -/
theorem eq_slices_xorshift_Next (fu d : Nat) (a0_0 : Int) :
    cl fu (d + 1) fn_slices_xorshift_Next [V.ptr 1000000 0] [.ob ty_slices_xorshift 0 ([C.v (.int .u64 a0_0)])] = (
    bd (IntKind.u64.wrap (BitVec.ofInt (IntKind.bits .u64) a0_0 ^^^ BitVec.ofInt (IntKind.bits .u64) (IntKind.u64.wrap (a0_0 * 2 ^ 13))).toNat) fun z =>
    bd (IntKind.u64.wrap ((IntKind.u64.wrap (BitVec.ofInt (IntKind.bits .u64) z ^^^ BitVec.ofInt (IntKind.bits .u64) (Int.fdiv z (2 ^ 7))).toNat) * 2 ^ 17)) fun z1 =>
    bd (IntKind.u64.wrap (BitVec.ofInt (IntKind.bits .u64) (IntKind.u64.wrap (BitVec.ofInt (IntKind.bits .u64) z ^^^ BitVec.ofInt (IntKind.bits .u64) (Int.fdiv z (2 ^ 7))).toNat) ^^^ BitVec.ofInt (IntKind.bits .u64) z1).toNat) fun z2 =>
    some ⟨V.c (C.v (.int .u64 z2)), [.ob ty_slices_xorshift 0 ([C.v (.int .u64 z2)])], none⟩) := by kernel_rfl
/- slices.medianAdjacentOrdered[int] -/
theorem eq_slices_medianAdjacentOrdered_int (fu d : Nat) (n0 : Nat) (a0 : List C) (a1 : Int) (a2_0 : Int) :
    cl fu (d + 1) fn_slices_medianAdjacentOrdered_int [V.c (C.sl n0 a0), I a1, V.ptr 1000000 0] [.ob ty_int 0 ([C.v (.int .i64 a2_0)])] = (
    (cl fu d fn_slices_medianOrdered_int [V.c (C.sl n0 a0), I (IntKind.i64.wrap (a1 - 1)), I a1, I (IntKind.i64.wrap (a1 + 1)), V.ptr 1000000 0] [.ob ty_int 0 ([C.v (.int .i64 a2_0)])]).bind fun out =>
    uncO out.objs fun o os =>
    rO o ty_int 0 fun cs =>
    need ((Nat.beq cs.length 1) && true) <|
    unc cs fun c r =>
    asI .i64 c fun i =>
    rC out.r fun c1 =>
    asI .i64 c1 fun i1 =>
    some ⟨I i1, [.ob ty_int 0 ([C.v (.int .i64 i)])], none⟩) := by kernel_rfl
/- slices.medianOrdered[int] -/
theorem eq_slices_medianOrdered_int (fu d : Nat) (n0 : Nat) (a0 : List C) (a1 : Int) (a2 : Int) (a3 : Int) (a4_0 : Int) :
    cl fu (d + 1) fn_slices_medianOrdered_int [V.c (C.sl n0 a0), I a1, I a2, I a3, V.ptr 1000000 0] [.ob ty_int 0 ([C.v (.int .i64 a4_0)])] = (
    (cl fu d fn_slices_order2Ordered_int [V.c (C.sl n0 a0), I a1, I a2, V.ptr 1000000 0] [.ob ty_int 0 ([C.v (.int .i64 a4_0)])]).bind fun out =>
    uncO out.objs fun o os =>
    rO o ty_int 0 fun cs =>
    need ((Nat.beq cs.length 1) && true) <|
    unc cs fun c r =>
    asI .i64 c fun i =>
    rT out.r fun xs =>
    uncV xs fun x ys =>
    rC x fun c1 =>
    asI .i64 c1 fun i1 =>
    uncV ys fun x1 ys1 =>
    rC x1 fun c2 =>
    asI .i64 c2 fun i2 =>
    nilV ys1 <|
    (cl fu d fn_slices_order2Ordered_int [V.c (C.sl n0 a0), I i2, I a3, V.ptr 1000000 0] [.ob ty_int 0 ([C.v (.int .i64 i)])]).bind fun out1 =>
    uncO out1.objs fun o1 os1 =>
    rO o1 ty_int 0 fun cs1 =>
    need ((Nat.beq cs1.length 1) && true) <|
    unc cs1 fun c3 _ =>
    asI .i64 c3 fun i3 =>
    rT out1.r fun xs1 =>
    uncV xs1 fun x2 ys2 =>
    rC x2 fun c4 =>
    asI .i64 c4 fun i4 =>
    uncV ys2 fun x3 ys3 =>
    rC x3 fun c5 =>
    asI .i64 c5 fun i5 =>
    nilV ys3 <|
    (cl fu d fn_slices_order2Ordered_int [V.c (C.sl n0 a0), I i1, I i4, V.ptr 1000000 0] [.ob ty_int 0 ([C.v (.int .i64 i3)])]).bind fun out2 =>
    uncO out2.objs fun o2 os2 =>
    rO o2 ty_int 0 fun cs2 =>
    need ((Nat.beq cs2.length 1) && true) <|
    unc cs2 fun c6 _ =>
    asI .i64 c6 fun i6 =>
    rT out2.r fun xs2 =>
    uncV xs2 fun x4 ys4 =>
    rC x4 fun c7 =>
    asI .i64 c7 fun i7 =>
    uncV ys4 fun x5 ys5 =>
    rC x5 fun c8 =>
    asI .i64 c8 fun i8 =>
    nilV ys5 <|
    some ⟨I i8, [.ob ty_int 0 ([C.v (.int .i64 i6)])], none⟩) := by kernel_rfl
/- slices.order2Ordered[int] -/
theorem eq_slices_order2Ordered_int (fu d : Nat) (n0 : Nat) (a0 : List C) (a1 : Int) (a2 : Int) (a3_0 : Int) :
    cl fu (d + 1) fn_slices_order2Ordered_int [V.c (C.sl n0 a0), I a1, I a2, V.ptr 1000000 0] [.ob ty_int 0 ([C.v (.int .i64 a3_0)])] = (
    need (inR a2 n0) <|
    unc (List.drop (a2.toNat * 1) a0) fun c r =>
    asI .i64 c fun i =>
    need (inR a1 n0) <|
    unc (List.drop (a1.toNat * 1) a0) fun c1 _ =>
    asI .i64 c1 fun i1 =>
    (cl fu d fn_cmp_Less_int [I i, I i1] []).bind fun out =>
    rC out.r fun c2 =>
    asB c2 fun b =>
    bif b then
      some ⟨V.tup [I a2, I a1], [.ob ty_int 0 ([C.v (.int .i64 (IntKind.i64.wrap (a3_0 + 1)))])], none⟩
    else
      some ⟨V.tup [I a1, I a2], [.ob ty_int 0 ([C.v (.int .i64 a3_0)])], none⟩) := by kernel_rfl
end Go.Proofs.Ytepjbmlhfhahcaa
