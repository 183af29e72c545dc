/- What the program's functions come to. -/
import Derived.Test.YtjdafdibghfdhaaDoorLay
set_option linter.unusedVariables false
set_option linter.unusedSimpArgs false
namespace Go.Proofs.YtjdafdibghfdhaaDoor
open Go Go.PM
set_option maxRecDepth 100000
/- synoptic/synopticlaw14.LimitsClean -/
theorem eq_synopticlaw14_LimitsClean (fu d : Nat) (n0 : Nat) (a0 : List C) :
    cl fu (d + 1) fn_synopticlaw14_LimitsClean [V.c (C.sl n0 a0)] [] = (
    (cl fu d fn_synoptickeep_New [V.c (C.sl n0 a0)] []).bind fun out =>
    rP out.r 0 <|
    uncO out.objs fun o os =>
    rN o ty_synoptickeep_Src 2 fun cs =>
    unc cs fun c r =>
    unc r fun c1 _ =>
    asI .i64 c1 fun i =>
    (cl fu d fn_synopticref04_List [V.ptr 1000000 0] [.ob ty_synoptickeep_Src 0 ([c, C.v (.int .i64 i)])]).bind fun out1 =>
    uncO out1.objs fun o1 os1 =>
    rO o1 ty_synoptickeep_Src 0 fun cs1 =>
    need ((Nat.beq cs1.length 2) && true) <|
    unc cs1 fun c2 r2 =>
    unc r2 fun c3 _ =>
    asI .i64 c3 fun i1 =>
    rC out1.r fun c4 =>
    need (noYl [V.c (nrm c4)]) <|
    (cl fu d fn_limits_Check [V.c (nrm c4)] []).bind fun out2 =>
    rC out2.r fun c5 =>
    need (noYl [V.c (nrm c4)]) <|
    (cl fu d fn_synopticref04_Without [V.c (nrm c4), V.c (nrm c5)] []).bind fun out3 =>
    rC out3.r fun c6 =>
    need (noYl [V.c (nrm c6)]) <|
    (cl fu d fn_limits_Check [V.c (nrm c6)] []).bind fun out4 =>
    rC out4.r fun c7 =>
    asSl c7 fun n cs2 =>
    bif decide (((n : Nat) : Int) > 0) then
      some ⟨B false, [], none⟩
    else
      (iter (fun (y : Bool × Int × Unit) =>
        asSl c5 fun n1 cs3 =>
        bif decide (y.2.1 < ((n1 : Nat) : Int)) then
          asSl c5 fun n2 cs4 =>
          need (inR (IntKind.i64.wrap (y.2.1 - 1)) n2) <|
          unc (List.drop (((IntKind.i64.wrap (y.2.1 - 1)).toNat) * 1) cs4) fun c8 _ =>
          asI .i64 c8 fun i2 =>
          asSl c5 fun n3 cs5 =>
          need (inR y.2.1 n3) <|
          unc (List.drop (y.2.1.toNat * 1) cs5) fun c9 _ =>
          asI .i64 c9 fun i3 =>
          bif decide (i2 ≥ i3) then
            some (2, (false, y.2.1, ()))
          else
            some (0, (y.1, IntKind.i64.wrap (y.2.1 + 1), ()))
        else
          some (1, (y.1, y.2.1, ()))) fu (false, 1, ())).bind fun p =>
      natD p.1 (
        asSl c4 fun n4 cs6 =>
        (iter (fun (y1 : Bool × Int × Unit) =>
          bif decide (y1.2.1 < ((n4 : Nat) : Int)) then
            asSl c4 fun n5 cs7 =>
            need (inR y1.2.1 n5) <|
            unc (List.drop (y1.2.1.toNat * 2) cs7) fun c10 r6 =>
            asI .i64 c10 fun i4 =>
            unc r6 fun c11 _ =>
            asI .i64 c11 fun i5 =>
            (cl fu d fn_synopticref14_Gross [V.agg ([C.v (.int .i64 i4), C.v (.int .i64 i5)])] []).bind fun out5 =>
            rC out5.r fun c12 =>
            asB c12 fun b =>
            need (noYl [V.c (nrm c4)]) <|
            (cl fu d fn_synopticref04_Find [V.c (nrm c4), I 2] []).bind fun out6 =>
            rT out6.r fun xs =>
            uncV xs fun x ys =>
            rC x fun c13 =>
            asI .i64 c13 fun i6 =>
            uncV ys fun x1 ys1 =>
            rC x1 fun c14 =>
            asB c14 fun b1 =>
            nilV ys1 <|
            need (noYl [V.c (nrm c4)]) <|
            (cl fu d fn_synopticref04_Find [V.c (nrm c4), I 3] []).bind fun out7 =>
            rT out7.r fun xs1 =>
            uncV xs1 fun x2 ys2 =>
            rC x2 fun c15 =>
            asI .i64 c15 fun i7 =>
            uncV ys2 fun x3 ys3 =>
            rC x3 fun c16 =>
            asB c16 fun b2 =>
            nilV ys3 <|
            bif !b then
              need (noYl [V.c (nrm c4)]) <|
              (cl fu d fn_synopticref04_Find [V.c (nrm c4), I 4] []).bind fun out8 =>
              rT out8.r fun xs2 =>
              uncV xs2 fun x4 ys4 =>
              rC x4 fun c17 =>
              asI .i64 c17 fun i8 =>
              uncV ys4 fun x5 ys5 =>
              rC x5 fun c18 =>
              asB c18 fun b3 =>
              nilV ys5 <|
              need (noYl [V.c (nrm c4)]) <|
              (cl fu d fn_synopticref04_Find [V.c (nrm c4), I 5] []).bind fun out9 =>
              rT out9.r fun xs3 =>
              uncV xs3 fun x6 ys6 =>
              rC x6 fun c19 =>
              asI .i64 c19 fun i9 =>
              uncV ys6 fun x7 ys7 =>
              rC x7 fun c20 =>
              asB c20 fun b4 =>
              nilV ys7 <|
              need (noYl [V.c (nrm c5)]) <|
              (cl fu d fn_synoptickeep_In [V.c (nrm c5), I i4] []).bind fun out10 =>
              rC out10.r fun c21 =>
              asB c21 fun b5 =>
              bif !(b5 == true) then
                some (2, (false, y1.2.1, ()))
              else
                some (0, (y1.1, IntKind.i64.wrap (y1.2.1 + 1), ()))
            else
              bif b1 then
                bif b2 then
                  bif decide (i7 > i6) then
                    bif i4 == 2 then
                      need (noYl [V.c (nrm c4)]) <|
                      (cl fu d fn_synopticref04_Find [V.c (nrm c4), I 4] []).bind fun out11 =>
                      rT out11.r fun xs4 =>
                      uncV xs4 fun x8 ys8 =>
                      rC x8 fun c22 =>
                      asI .i64 c22 fun i10 =>
                      uncV ys8 fun x9 ys9 =>
                      rC x9 fun c23 =>
                      asB c23 fun b6 =>
                      nilV ys9 <|
                      need (noYl [V.c (nrm c4)]) <|
                      (cl fu d fn_synopticref04_Find [V.c (nrm c4), I 5] []).bind fun out12 =>
                      rT out12.r fun xs5 =>
                      uncV xs5 fun x10 ys10 =>
                      rC x10 fun c24 =>
                      asI .i64 c24 fun i11 =>
                      uncV ys10 fun x11 ys11 =>
                      rC x11 fun c25 =>
                      asB c25 fun b7 =>
                      nilV ys11 <|
                      need (noYl [V.c (nrm c5)]) <|
                      (cl fu d fn_synoptickeep_In [V.c (nrm c5), I i4] []).bind fun out13 =>
                      rC out13.r fun c26 =>
                      asB c26 fun b8 =>
                      bif !(b8 == true) then
                        some (2, (false, y1.2.1, ()))
                      else
                        some (0, (y1.1, IntKind.i64.wrap (y1.2.1 + 1), ()))
                    else
                      need (noYl [V.c (nrm c4)]) <|
                      (cl fu d fn_synopticref04_Find [V.c (nrm c4), I 4] []).bind fun out14 =>
                      rT out14.r fun xs6 =>
                      uncV xs6 fun x12 ys12 =>
                      rC x12 fun c27 =>
                      asI .i64 c27 fun i12 =>
                      uncV ys12 fun x13 ys13 =>
                      rC x13 fun c28 =>
                      asB c28 fun b9 =>
                      nilV ys13 <|
                      need (noYl [V.c (nrm c4)]) <|
                      (cl fu d fn_synopticref04_Find [V.c (nrm c4), I 5] []).bind fun out15 =>
                      rT out15.r fun xs7 =>
                      uncV xs7 fun x14 ys14 =>
                      rC x14 fun c29 =>
                      asI .i64 c29 fun i13 =>
                      uncV ys14 fun x15 ys15 =>
                      rC x15 fun c30 =>
                      asB c30 fun b10 =>
                      nilV ys15 <|
                      bif i4 == 3 then
                        need (noYl [V.c (nrm c5)]) <|
                        (cl fu d fn_synoptickeep_In [V.c (nrm c5), I i4] []).bind fun out16 =>
                        rC out16.r fun c31 =>
                        asB c31 fun b11 =>
                        bif !(b11 == true) then
                          some (2, (false, y1.2.1, ()))
                        else
                          some (0, (y1.1, IntKind.i64.wrap (y1.2.1 + 1), ()))
                      else
                        bif b9 then
                          bif b10 then
                            bif decide (IntKind.i64.wrap ((IntKind.i64.wrap (i12 * i12)) + (IntKind.i64.wrap (i13 * i13))) > 810000) then
                              bif i4 == 4 then
                                need (noYl [V.c (nrm c5)]) <|
                                (cl fu d fn_synoptickeep_In [V.c (nrm c5), I i4] []).bind fun out17 =>
                                rC out17.r fun c32 =>
                                asB c32 fun b12 =>
                                bif !(b12 == true) then
                                  some (2, (false, y1.2.1, ()))
                                else
                                  some (0, (y1.1, IntKind.i64.wrap (y1.2.1 + 1), ()))
                              else
                                need (noYl [V.c (nrm c5)]) <|
                                (cl fu d fn_synoptickeep_In [V.c (nrm c5), I i4] []).bind fun out18 =>
                                rC out18.r fun c33 =>
                                asB c33 fun b13 =>
                                bif !(b13 == (i4 == 5)) then
                                  some (2, (false, y1.2.1, ()))
                                else
                                  some (0, (y1.1, IntKind.i64.wrap (y1.2.1 + 1), ()))
                            else
                              need (noYl [V.c (nrm c5)]) <|
                              (cl fu d fn_synoptickeep_In [V.c (nrm c5), I i4] []).bind fun out19 =>
                              rC out19.r fun c34 =>
                              asB c34 fun b14 =>
                              bif !(b14 == false) then
                                some (2, (false, y1.2.1, ()))
                              else
                                some (0, (y1.1, IntKind.i64.wrap (y1.2.1 + 1), ()))
                          else
                            need (noYl [V.c (nrm c5)]) <|
                            (cl fu d fn_synoptickeep_In [V.c (nrm c5), I i4] []).bind fun out20 =>
                            rC out20.r fun c35 =>
                            asB c35 fun b15 =>
                            bif !(b15 == false) then
                              some (2, (false, y1.2.1, ()))
                            else
                              some (0, (y1.1, IntKind.i64.wrap (y1.2.1 + 1), ()))
                        else
                          need (noYl [V.c (nrm c5)]) <|
                          (cl fu d fn_synoptickeep_In [V.c (nrm c5), I i4] []).bind fun out21 =>
                          rC out21.r fun c36 =>
                          asB c36 fun b16 =>
                          bif !(b16 == false) then
                            some (2, (false, y1.2.1, ()))
                          else
                            some (0, (y1.1, IntKind.i64.wrap (y1.2.1 + 1), ()))
                  else
                    need (noYl [V.c (nrm c4)]) <|
                    (cl fu d fn_synopticref04_Find [V.c (nrm c4), I 4] []).bind fun out22 =>
                    rT out22.r fun xs8 =>
                    uncV xs8 fun x16 ys16 =>
                    rC x16 fun c37 =>
                    asI .i64 c37 fun i14 =>
                    uncV ys16 fun x17 ys17 =>
                    rC x17 fun c38 =>
                    asB c38 fun b17 =>
                    nilV ys17 <|
                    need (noYl [V.c (nrm c4)]) <|
                    (cl fu d fn_synopticref04_Find [V.c (nrm c4), I 5] []).bind fun out23 =>
                    rT out23.r fun xs9 =>
                    uncV xs9 fun x18 ys18 =>
                    rC x18 fun c39 =>
                    asI .i64 c39 fun i15 =>
                    uncV ys18 fun x19 ys19 =>
                    rC x19 fun c40 =>
                    asB c40 fun b18 =>
                    nilV ys19 <|
                    bif b17 then
                      bif b18 then
                        bif decide (IntKind.i64.wrap ((IntKind.i64.wrap (i14 * i14)) + (IntKind.i64.wrap (i15 * i15))) > 810000) then
                          bif i4 == 4 then
                            need (noYl [V.c (nrm c5)]) <|
                            (cl fu d fn_synoptickeep_In [V.c (nrm c5), I i4] []).bind fun out24 =>
                            rC out24.r fun c41 =>
                            asB c41 fun b19 =>
                            bif !(b19 == true) then
                              some (2, (false, y1.2.1, ()))
                            else
                              some (0, (y1.1, IntKind.i64.wrap (y1.2.1 + 1), ()))
                          else
                            need (noYl [V.c (nrm c5)]) <|
                            (cl fu d fn_synoptickeep_In [V.c (nrm c5), I i4] []).bind fun out25 =>
                            rC out25.r fun c42 =>
                            asB c42 fun b20 =>
                            bif !(b20 == (i4 == 5)) then
                              some (2, (false, y1.2.1, ()))
                            else
                              some (0, (y1.1, IntKind.i64.wrap (y1.2.1 + 1), ()))
                        else
                          need (noYl [V.c (nrm c5)]) <|
                          (cl fu d fn_synoptickeep_In [V.c (nrm c5), I i4] []).bind fun out26 =>
                          rC out26.r fun c43 =>
                          asB c43 fun b21 =>
                          bif !(b21 == false) then
                            some (2, (false, y1.2.1, ()))
                          else
                            some (0, (y1.1, IntKind.i64.wrap (y1.2.1 + 1), ()))
                      else
                        need (noYl [V.c (nrm c5)]) <|
                        (cl fu d fn_synoptickeep_In [V.c (nrm c5), I i4] []).bind fun out27 =>
                        rC out27.r fun c44 =>
                        asB c44 fun b22 =>
                        bif !(b22 == false) then
                          some (2, (false, y1.2.1, ()))
                        else
                          some (0, (y1.1, IntKind.i64.wrap (y1.2.1 + 1), ()))
                    else
                      need (noYl [V.c (nrm c5)]) <|
                      (cl fu d fn_synoptickeep_In [V.c (nrm c5), I i4] []).bind fun out28 =>
                      rC out28.r fun c45 =>
                      asB c45 fun b23 =>
                      bif !(b23 == false) then
                        some (2, (false, y1.2.1, ()))
                      else
                        some (0, (y1.1, IntKind.i64.wrap (y1.2.1 + 1), ()))
                else
                  need (noYl [V.c (nrm c4)]) <|
                  (cl fu d fn_synopticref04_Find [V.c (nrm c4), I 4] []).bind fun out29 =>
                  rT out29.r fun xs10 =>
                  uncV xs10 fun x20 ys20 =>
                  rC x20 fun c46 =>
                  asI .i64 c46 fun i16 =>
                  uncV ys20 fun x21 ys21 =>
                  rC x21 fun c47 =>
                  asB c47 fun b24 =>
                  nilV ys21 <|
                  need (noYl [V.c (nrm c4)]) <|
                  (cl fu d fn_synopticref04_Find [V.c (nrm c4), I 5] []).bind fun out30 =>
                  rT out30.r fun xs11 =>
                  uncV xs11 fun x22 ys22 =>
                  rC x22 fun c48 =>
                  asI .i64 c48 fun i17 =>
                  uncV ys22 fun x23 ys23 =>
                  rC x23 fun c49 =>
                  asB c49 fun b25 =>
                  nilV ys23 <|
                  bif b24 then
                    bif b25 then
                      bif decide (IntKind.i64.wrap ((IntKind.i64.wrap (i16 * i16)) + (IntKind.i64.wrap (i17 * i17))) > 810000) then
                        bif i4 == 4 then
                          need (noYl [V.c (nrm c5)]) <|
                          (cl fu d fn_synoptickeep_In [V.c (nrm c5), I i4] []).bind fun out31 =>
                          rC out31.r fun c50 =>
                          asB c50 fun b26 =>
                          bif !(b26 == true) then
                            some (2, (false, y1.2.1, ()))
                          else
                            some (0, (y1.1, IntKind.i64.wrap (y1.2.1 + 1), ()))
                        else
                          need (noYl [V.c (nrm c5)]) <|
                          (cl fu d fn_synoptickeep_In [V.c (nrm c5), I i4] []).bind fun out32 =>
                          rC out32.r fun c51 =>
                          asB c51 fun b27 =>
                          bif !(b27 == (i4 == 5)) then
                            some (2, (false, y1.2.1, ()))
                          else
                            some (0, (y1.1, IntKind.i64.wrap (y1.2.1 + 1), ()))
                      else
                        need (noYl [V.c (nrm c5)]) <|
                        (cl fu d fn_synoptickeep_In [V.c (nrm c5), I i4] []).bind fun out33 =>
                        rC out33.r fun c52 =>
                        asB c52 fun b28 =>
                        bif !(b28 == false) then
                          some (2, (false, y1.2.1, ()))
                        else
                          some (0, (y1.1, IntKind.i64.wrap (y1.2.1 + 1), ()))
                    else
                      need (noYl [V.c (nrm c5)]) <|
                      (cl fu d fn_synoptickeep_In [V.c (nrm c5), I i4] []).bind fun out34 =>
                      rC out34.r fun c53 =>
                      asB c53 fun b29 =>
                      bif !(b29 == false) then
                        some (2, (false, y1.2.1, ()))
                      else
                        some (0, (y1.1, IntKind.i64.wrap (y1.2.1 + 1), ()))
                  else
                    need (noYl [V.c (nrm c5)]) <|
                    (cl fu d fn_synoptickeep_In [V.c (nrm c5), I i4] []).bind fun out35 =>
                    rC out35.r fun c54 =>
                    asB c54 fun b30 =>
                    bif !(b30 == false) then
                      some (2, (false, y1.2.1, ()))
                    else
                      some (0, (y1.1, IntKind.i64.wrap (y1.2.1 + 1), ()))
              else
                need (noYl [V.c (nrm c4)]) <|
                (cl fu d fn_synopticref04_Find [V.c (nrm c4), I 4] []).bind fun out36 =>
                rT out36.r fun xs12 =>
                uncV xs12 fun x24 ys24 =>
                rC x24 fun c55 =>
                asI .i64 c55 fun i18 =>
                uncV ys24 fun x25 ys25 =>
                rC x25 fun c56 =>
                asB c56 fun b31 =>
                nilV ys25 <|
                need (noYl [V.c (nrm c4)]) <|
                (cl fu d fn_synopticref04_Find [V.c (nrm c4), I 5] []).bind fun out37 =>
                rT out37.r fun xs13 =>
                uncV xs13 fun x26 ys26 =>
                rC x26 fun c57 =>
                asI .i64 c57 fun i19 =>
                uncV ys26 fun x27 ys27 =>
                rC x27 fun c58 =>
                asB c58 fun b32 =>
                nilV ys27 <|
                bif b31 then
                  bif b32 then
                    bif decide (IntKind.i64.wrap ((IntKind.i64.wrap (i18 * i18)) + (IntKind.i64.wrap (i19 * i19))) > 810000) then
                      bif i4 == 4 then
                        need (noYl [V.c (nrm c5)]) <|
                        (cl fu d fn_synoptickeep_In [V.c (nrm c5), I i4] []).bind fun out38 =>
                        rC out38.r fun c59 =>
                        asB c59 fun b33 =>
                        bif !(b33 == true) then
                          some (2, (false, y1.2.1, ()))
                        else
                          some (0, (y1.1, IntKind.i64.wrap (y1.2.1 + 1), ()))
                      else
                        need (noYl [V.c (nrm c5)]) <|
                        (cl fu d fn_synoptickeep_In [V.c (nrm c5), I i4] []).bind fun out39 =>
                        rC out39.r fun c60 =>
                        asB c60 fun b34 =>
                        bif !(b34 == (i4 == 5)) then
                          some (2, (false, y1.2.1, ()))
                        else
                          some (0, (y1.1, IntKind.i64.wrap (y1.2.1 + 1), ()))
                    else
                      need (noYl [V.c (nrm c5)]) <|
                      (cl fu d fn_synoptickeep_In [V.c (nrm c5), I i4] []).bind fun out40 =>
                      rC out40.r fun c61 =>
                      asB c61 fun b35 =>
                      bif !(b35 == false) then
                        some (2, (false, y1.2.1, ()))
                      else
                        some (0, (y1.1, IntKind.i64.wrap (y1.2.1 + 1), ()))
                  else
                    need (noYl [V.c (nrm c5)]) <|
                    (cl fu d fn_synoptickeep_In [V.c (nrm c5), I i4] []).bind fun out41 =>
                    rC out41.r fun c62 =>
                    asB c62 fun b36 =>
                    bif !(b36 == false) then
                      some (2, (false, y1.2.1, ()))
                    else
                      some (0, (y1.1, IntKind.i64.wrap (y1.2.1 + 1), ()))
                else
                  need (noYl [V.c (nrm c5)]) <|
                  (cl fu d fn_synoptickeep_In [V.c (nrm c5), I i4] []).bind fun out42 =>
                  rC out42.r fun c63 =>
                  asB c63 fun b37 =>
                  bif !(b37 == false) then
                    some (2, (false, y1.2.1, ()))
                  else
                    some (0, (y1.1, IntKind.i64.wrap (y1.2.1 + 1), ()))
          else
            some (1, (y1.1, y1.2.1, ()))) fu (p.2.1, 0, ())).bind fun p1 =>
        natD p1.1 (
          (cl fu d fn_synopticlaw14_awake [] []).bind fun out43 =>
          rC out43.r fun c64 =>
          asB c64 fun b38 =>
          some ⟨B b38, [], none⟩) fun m1 =>
        some ⟨B p1.2.1, [], none⟩) fun m =>
      some ⟨B p.2.1, [], none⟩) := by kernel_rfl
/- synoptic/synopticlaw14.LimitsNarrow -/
theorem eq_synopticlaw14_LimitsNarrow (fu d : Nat) (a0 : Int) (a1 : Int) :
    cl fu (d + 1) fn_synopticlaw14_LimitsNarrow [I a0, I a1] [] = (
    (cl fu d fn_synoptickeep_Mod [I a0, I 11] []).bind fun out =>
    rC out.r fun c =>
    asI .i64 c fun i =>
    (cl fu d fn_synopticref04_Describe [I (IntKind.i64.wrap (1 + i))] []).bind fun out1 =>
    rT out1.r fun xs =>
    uncV xs fun x ys =>
    rA x fun cs =>
    need (Nat.beq cs.length 4) <|
    unc cs fun c1 r =>
    asS c1 fun s =>
    unc r fun c2 r1 =>
    asI .i64 c2 fun i1 =>
    unc r1 fun c3 r2 =>
    asI .i64 c3 fun i2 =>
    unc r2 fun c4 _ =>
    asI .i64 c4 fun i3 =>
    uncV ys fun x1 ys1 =>
    rC x1 fun c5 =>
    asI .i64 c5 fun i4 =>
    nilV ys1 <|
    (iter (fun (y : Int × Int × Int × Unit) =>
      bif decide (y.2.2.1 ≤ IntKind.i64.wrap (i2 + 1)) then
        (cl fu d fn_limits_Gross [V.agg ([C.v (.int .i64 (IntKind.i64.wrap (1 + i))), C.v (.int .i64 y.2.2.1)])] []).bind fun out2 =>
        rC out2.r fun c6 =>
        asB c6 fun b =>
        bif b then
          some (0, ((if y.2.2.1 < y.1 then y.2.2.1 else y.1), (if y.2.2.1 > y.2.1 then y.2.2.1 else y.2.1), IntKind.i64.wrap (y.2.2.1 + 1), ()))
        else
          some (0, (y.1, y.2.1, IntKind.i64.wrap (y.2.2.1 + 1), ()))
      else
        some (1, (y.1, y.2.1, y.2.2.1, ()))) fu (IntKind.i64.wrap (i2 + 1), IntKind.i64.wrap (i1 - 1), IntKind.i64.wrap (i1 - 1), ())).bind fun p =>
    bif decide (p.2.1 > p.2.2.1) then
      some ⟨B false, [], none⟩
    else
      bif decide (p.2.1 < i1) then
        some ⟨B false, [], none⟩
      else
        bif decide (p.2.2.1 > i2) then
          some ⟨B false, [], none⟩
        else
          (cl fu d fn_limits_Gross [V.agg ([C.v (.int .i64 (IntKind.i64.wrap (1 + i))), C.v (.int .i64 a1)])] []).bind fun out3 =>
          rC out3.r fun c7 =>
          asB c7 fun b1 =>
          bif decide (a1 ≥ p.2.1) then
            bif b1 == (decide (a1 ≤ p.2.2.1)) then
              (cl fu d fn_synopticlaw14_awake [] []).bind fun out4 =>
              rC out4.r fun c8 =>
              asB c8 fun b2 =>
              some ⟨B b2, [], none⟩
            else
              some ⟨B false, [], none⟩
          else
            bif b1 == false then
              (cl fu d fn_synopticlaw14_awake [] []).bind fun out5 =>
              rC out5.r fun c9 =>
              asB c9 fun b3 =>
              some ⟨B b3, [], none⟩
            else
              some ⟨B false, [], none⟩) := by kernel_rfl
/- synoptic/synopticlaw14.LimitsAlone -/
theorem eq_synopticlaw14_LimitsAlone (fu d : Nat) (n0 : Nat) (a0 : List C) :
    cl fu (d + 1) fn_synopticlaw14_LimitsAlone [V.c (C.sl n0 a0)] [] = (
    (cl fu d fn_synoptickeep_New [V.c (C.sl n0 a0)] []).bind fun out =>
    rP out.r 0 <|
    uncO out.objs fun o os =>
    rN o ty_synoptickeep_Src 2 fun cs =>
    unc cs fun c r =>
    unc r fun c1 _ =>
    asI .i64 c1 fun i =>
    (cl fu d fn_synopticref04_List [V.ptr 1000000 0] [.ob ty_synoptickeep_Src 0 ([c, C.v (.int .i64 i)])]).bind fun out1 =>
    uncO out1.objs fun o1 os1 =>
    rO o1 ty_synoptickeep_Src 0 fun cs1 =>
    need ((Nat.beq cs1.length 2) && true) <|
    unc cs1 fun c2 r2 =>
    unc r2 fun c3 _ =>
    asI .i64 c3 fun i1 =>
    rC out1.r fun c4 =>
    need (noYl [V.c (nrm c4)]) <|
    (cl fu d fn_limits_Check [V.c (nrm c4)] []).bind fun out2 =>
    rC out2.r fun c5 =>
    asSl c4 fun n cs2 =>
    (iter (fun (y : Bool × Int × Unit) =>
      bif decide (y.2.1 < ((n : Nat) : Int)) then
        asSl c4 fun n1 cs3 =>
        need (inR y.2.1 n1) <|
        unc (List.drop (y.2.1.toNat * 2) cs3) fun c6 r4 =>
        asI .i64 c6 fun i2 =>
        unc r4 fun c7 _ =>
        asI .i64 c7 fun i3 =>
        (cl fu d fn_limits_Check [V.c (C.sl 1 ([C.v (.int .i64 i2), C.v (.int .i64 i3)]))] []).bind fun out3 =>
        rC out3.r fun c8 =>
        bif decide (i2 ≥ 2) then
          bif !(decide (i2 ≤ 5)) then
            need (noYl [V.c (nrm c5)]) <|
            (cl fu d fn_synoptickeep_In [V.c (nrm c5), I i2] []).bind fun out4 =>
            rC out4.r fun c9 =>
            asB c9 fun b =>
            asSl c8 fun n2 cs4 =>
            bif !(b == (decide (((n2 : Nat) : Int) > 0))) then
              some (2, (false, y.2.1, ()))
            else
              bif decide (i2 ≤ 5) then
                asSl c8 fun n3 cs5 =>
                bif decide (((n3 : Nat) : Int) > 0) then
                  need (noYl [V.c (nrm c5)]) <|
                  (cl fu d fn_synoptickeep_In [V.c (nrm c5), I i2] []).bind fun out5 =>
                  rC out5.r fun c10 =>
                  asB c10 fun b1 =>
                  bif !b1 then
                    some (2, (false, y.2.1, ()))
                  else
                    asSl c8 fun n4 cs6 =>
                    (cl fu d fn_limits_Gross [V.agg ([C.v (.int .i64 i2), C.v (.int .i64 i3)])] []).bind fun out6 =>
                    rC out6.r fun c11 =>
                    asB c11 fun b2 =>
                    bif (decide (((n4 : Nat) : Int) > 0)) == b2 then
                      some (2, (false, y.2.1, ()))
                    else
                      some (0, (y.1, IntKind.i64.wrap (y.2.1 + 1), ()))
                else
                  asSl c8 fun n5 cs7 =>
                  (cl fu d fn_limits_Gross [V.agg ([C.v (.int .i64 i2), C.v (.int .i64 i3)])] []).bind fun out7 =>
                  rC out7.r fun c12 =>
                  asB c12 fun b3 =>
                  bif (decide (((n5 : Nat) : Int) > 0)) == b3 then
                    some (2, (false, y.2.1, ()))
                  else
                    some (0, (y.1, IntKind.i64.wrap (y.2.1 + 1), ()))
              else
                asSl c8 fun n6 cs8 =>
                (cl fu d fn_limits_Gross [V.agg ([C.v (.int .i64 i2), C.v (.int .i64 i3)])] []).bind fun out8 =>
                rC out8.r fun c13 =>
                asB c13 fun b4 =>
                bif (decide (((n6 : Nat) : Int) > 0)) == b4 then
                  some (2, (false, y.2.1, ()))
                else
                  some (0, (y.1, IntKind.i64.wrap (y.2.1 + 1), ()))
          else
            bif decide (i2 ≤ 5) then
              asSl c8 fun n7 cs9 =>
              bif decide (((n7 : Nat) : Int) > 0) then
                need (noYl [V.c (nrm c5)]) <|
                (cl fu d fn_synoptickeep_In [V.c (nrm c5), I i2] []).bind fun out9 =>
                rC out9.r fun c14 =>
                asB c14 fun b5 =>
                bif !b5 then
                  some (2, (false, y.2.1, ()))
                else
                  asSl c8 fun n8 cs10 =>
                  (cl fu d fn_limits_Gross [V.agg ([C.v (.int .i64 i2), C.v (.int .i64 i3)])] []).bind fun out10 =>
                  rC out10.r fun c15 =>
                  asB c15 fun b6 =>
                  bif (decide (((n8 : Nat) : Int) > 0)) == b6 then
                    some (2, (false, y.2.1, ()))
                  else
                    some (0, (y.1, IntKind.i64.wrap (y.2.1 + 1), ()))
              else
                asSl c8 fun n9 cs11 =>
                (cl fu d fn_limits_Gross [V.agg ([C.v (.int .i64 i2), C.v (.int .i64 i3)])] []).bind fun out11 =>
                rC out11.r fun c16 =>
                asB c16 fun b7 =>
                bif (decide (((n9 : Nat) : Int) > 0)) == b7 then
                  some (2, (false, y.2.1, ()))
                else
                  some (0, (y.1, IntKind.i64.wrap (y.2.1 + 1), ()))
            else
              asSl c8 fun n10 cs12 =>
              (cl fu d fn_limits_Gross [V.agg ([C.v (.int .i64 i2), C.v (.int .i64 i3)])] []).bind fun out12 =>
              rC out12.r fun c17 =>
              asB c17 fun b8 =>
              bif (decide (((n10 : Nat) : Int) > 0)) == b8 then
                some (2, (false, y.2.1, ()))
              else
                some (0, (y.1, IntKind.i64.wrap (y.2.1 + 1), ()))
        else
          need (noYl [V.c (nrm c5)]) <|
          (cl fu d fn_synoptickeep_In [V.c (nrm c5), I i2] []).bind fun out13 =>
          rC out13.r fun c18 =>
          asB c18 fun b9 =>
          asSl c8 fun n11 cs13 =>
          bif !(b9 == (decide (((n11 : Nat) : Int) > 0))) then
            some (2, (false, y.2.1, ()))
          else
            asSl c8 fun n12 cs14 =>
            (cl fu d fn_limits_Gross [V.agg ([C.v (.int .i64 i2), C.v (.int .i64 i3)])] []).bind fun out14 =>
            rC out14.r fun c19 =>
            asB c19 fun b10 =>
            bif (decide (((n12 : Nat) : Int) > 0)) == b10 then
              some (2, (false, y.2.1, ()))
            else
              some (0, (y.1, IntKind.i64.wrap (y.2.1 + 1), ()))
      else
        some (1, (y.1, y.2.1, ()))) fu (false, 0, ())).bind fun p =>
    natD p.1 (
      (cl fu d fn_synopticlaw14_awake [] []).bind fun out15 =>
      rC out15.r fun c20 =>
      asB c20 fun b11 =>
      some ⟨B b11, [], none⟩) fun m =>
    some ⟨B p.2.1, [], none⟩) := by kernel_rfl
/- synoptic/synoptickeep.New -/
theorem eq_synoptickeep_New (fu d : Nat) (n0 : Nat) (a0 : List C) :
    cl fu (d + 1) fn_synoptickeep_New [V.c (C.sl n0 a0)] [] = (
    need ((decide (0 ≤ (if 2000 < ((n0 : Nat) : Int) then 2000 else ((n0 : Nat) : Int)))) && (decide ((if 2000 < ((n0 : Nat) : Int) then 2000 else ((n0 : Nat) : Int)) ≤ ((n0 : Nat) : Int)))) <|
    some ⟨V.ptr 1000000 0, [.ob ty_synoptickeep_Src 0 ([C.sl ((if 2000 < ((n0 : Nat) : Int) then 2000 else ((n0 : Nat) : Int)).toNat) (List.take (((if 2000 < ((n0 : Nat) : Int) then 2000 else ((n0 : Nat) : Int)).toNat) * 1) a0), C.v (.int .i64 0)])], none⟩) := by kernel_rfl
/- synoptic/synopticref04.List -/
theorem eq_synopticref04_List (fu d : Nat) (a0_0 : C) (a0_1 : Int) :
    cl fu (d + 1) fn_synopticref04_List [V.ptr 1000000 0] [.ob ty_synoptickeep_Src 0 ([a0_0, C.v (.int .i64 a0_1)])] = (
    (iter (fun (y : List C × Int × (C × Int × Unit) × Unit) =>
      bif decide (y.2.1 ≤ 11) then
        (cl fu d fn_synoptickeep_Src_N [V.ptr 1000000 0, I 3] [.ob ty_synoptickeep_Src 0 ([y.2.2.1.1, C.v (.int .i64 y.2.2.1.2.1)])]).bind fun out =>
        uncO out.objs fun o os =>
        rO o ty_synoptickeep_Src 0 fun cs =>
        need ((Nat.beq cs.length 2) && true) <|
        unc cs fun c r =>
        unc r fun c1 _ =>
        asI .i64 c1 fun i =>
        rC out.r fun c2 =>
        asI .i64 c2 fun i1 =>
        bif i1 == 0 then
          (cl fu d fn_synopticref04_Some [V.ptr 1000000 0, I y.2.1] [.ob ty_synoptickeep_Src 0 ([c, C.v (.int .i64 i)])]).bind fun out1 =>
          uncO out1.objs fun o1 os1 =>
          rO o1 ty_synoptickeep_Src 0 fun cs1 =>
          need ((Nat.beq cs1.length 2) && true) <|
          unc cs1 fun c3 r2 =>
          unc r2 fun c4 _ =>
          asI .i64 c4 fun i2 =>
          rA out1.r fun cs2 =>
          need (Nat.beq cs2.length 2) <|
          unc cs2 fun c5 r4 =>
          asI .i64 c5 fun i3 =>
          unc r4 fun c6 _ =>
          asI .i64 c6 fun i4 =>
          need ((((Nat.beq ((y.1.length / 2) * 2) y.1.length) && true) && (Nat.ble (((y.1.length / 2) + 1) * 16) 140737488355328)) && (Nat.ble ((y.1.length / 2) + 1) 140737488355328)) <|
          need (((Nat.beq (((y.1.length / 2) + 1) * 2) ((y.1 ++ ([C.v (.int .i64 i3), C.v (.int .i64 i4)])).length)) && true) && true) <|
          some (0, (y.1 ++ ([C.v (.int .i64 i3), C.v (.int .i64 i4)]), IntKind.i64.wrap (y.2.1 + 1), (c3, i2, ()), ()))
        else
          need (((Nat.beq ((y.1.length / 2) * 2) y.1.length) && true) && true) <|
          some (0, (y.1, IntKind.i64.wrap (y.2.1 + 1), (c, i, ()), ()))
      else
        need (((Nat.beq ((y.1.length / 2) * 2) y.1.length) && true) && true) <|
        some (1, (y.1, y.2.1, (y.2.2.1.1, y.2.2.1.2.1, ()), ()))) fu ([], 1, (a0_0, a0_1, ()), ())).bind fun p =>
    need (Nat.ble (0 + ((p.2.1.length / 2) * 2)) p.2.1.length) <|
    some ⟨V.c (C.sl (p.2.1.length / 2) (List.take ((p.2.1.length / 2) * 2) p.2.1)), [.ob ty_synoptickeep_Src 0 ([p.2.2.2.1.1, C.v (.int .i64 p.2.2.2.1.2.1)])], none⟩) := by kernel_rfl
/- synoptic/limits.Check -/
theorem eq_limits_Check (fu d : Nat) (n0 : Nat) (a0 : List C) :
    cl fu (d + 1) fn_limits_Check [V.c (C.sl n0 a0)] [] = (
    (iter (fun (y : List C × Int × Unit) =>
      bif decide (y.2.1 < ((n0 : Nat) : Int)) then
        need (inR y.2.1 n0) <|
        unc (List.drop (y.2.1.toNat * 2) a0) fun c r =>
        asI .i64 c fun i =>
        unc r fun c1 _ =>
        asI .i64 c1 fun i1 =>
        (cl fu d fn_limits_Gross [V.agg ([C.v (.int .i64 i), C.v (.int .i64 i1)])] []).bind fun out =>
        rC out.r fun c2 =>
        asB c2 fun b =>
        bif !b then
          need ((((Nat.beq ((y.1.length / 1) * 1) y.1.length) && true) && (Nat.ble (((y.1.length / 1) + 1) * 8) 140737488355328)) && (Nat.ble ((y.1.length / 1) + 1) 140737488355328)) <|
          need (((Nat.beq (((y.1.length / 1) + 1) * 1) ((y.1 ++ ([C.v (.int .i64 i)])).length)) && true) && true) <|
          some (0, (y.1 ++ ([C.v (.int .i64 i)]), IntKind.i64.wrap (y.2.1 + 1), ()))
        else
          need (((Nat.beq ((y.1.length / 1) * 1) y.1.length) && true) && true) <|
          some (0, (y.1, IntKind.i64.wrap (y.2.1 + 1), ()))
      else
        need (((Nat.beq ((y.1.length / 1) * 1) y.1.length) && true) && true) <|
        some (1, (y.1, y.2.1, ()))) fu ([], 0, ())).bind fun p =>
    (cl fu d fn_limits_find [V.c (C.sl n0 a0), I 2] []).bind fun out1 =>
    rT out1.r fun xs =>
    uncV xs fun x ys =>
    rC x fun c3 =>
    asI .i64 c3 fun i2 =>
    uncV ys fun x1 ys1 =>
    rC x1 fun c4 =>
    asB c4 fun b1 =>
    nilV ys1 <|
    (cl fu d fn_limits_find [V.c (C.sl n0 a0), I 3] []).bind fun out2 =>
    rT out2.r fun xs1 =>
    uncV xs1 fun x2 ys2 =>
    rC x2 fun c5 =>
    asI .i64 c5 fun i3 =>
    uncV ys2 fun x3 ys3 =>
    rC x3 fun c6 =>
    asB c6 fun b2 =>
    nilV ys3 <|
    bif b1 then
      bif b2 then
        (bif decide (i3 > i2) then
          need ((((Nat.beq ((p.2.1.length / 1) * 1) p.2.1.length) && true) && (Nat.ble (((p.2.1.length / 1) + 2) * 8) 140737488355328)) && (Nat.ble ((p.2.1.length / 1) + 2) 140737488355328)) <|
          need (((Nat.beq (((p.2.1.length / 1) + 2) * 1) ((p.2.1 ++ ([C.v (.int .i64 2), C.v (.int .i64 3)])).length)) && true) && true) <|
          some (0, (p.2.1 ++ ([C.v (.int .i64 2), C.v (.int .i64 3)]), ()))
        else
          need (((Nat.beq ((p.2.1.length / 1) * 1) p.2.1.length) && true) && true) <|
          some (0, (p.2.1, ())) : Option (Nat × List C × Unit)).bind fun p1 =>
        (cl fu d fn_limits_find [V.c (C.sl n0 a0), I 4] []).bind fun out3 =>
        rT out3.r fun xs2 =>
        uncV xs2 fun x4 ys4 =>
        rC x4 fun c7 =>
        asI .i64 c7 fun i4 =>
        uncV ys4 fun x5 ys5 =>
        rC x5 fun c8 =>
        asB c8 fun b3 =>
        nilV ys5 <|
        (cl fu d fn_limits_find [V.c (C.sl n0 a0), I 5] []).bind fun out4 =>
        rT out4.r fun xs3 =>
        uncV xs3 fun x6 ys6 =>
        rC x6 fun c9 =>
        asI .i64 c9 fun i5 =>
        uncV ys6 fun x7 ys7 =>
        rC x7 fun c10 =>
        asB c10 fun b4 =>
        nilV ys7 <|
        bif b3 then
          bif b4 then
            bif decide (IntKind.i64.wrap ((IntKind.i64.wrap (i4 * i4)) + (IntKind.i64.wrap (i5 * i5))) > 810000) then
              need ((((Nat.beq ((p1.2.1.length / 1) * 1) p1.2.1.length) && true) && (Nat.ble (((p1.2.1.length / 1) + 2) * 8) 140737488355328)) && (Nat.ble ((p1.2.1.length / 1) + 2) 140737488355328)) <|
              (cl fu d fn_slices_Sort_sint_int [V.own 1000000 0 ((p1.2.1.length / 1) + 2)] [.sb ty_int 0 (p1.2.1 ++ ([C.v (.int .i64 4), C.v (.int .i64 5)]))]).bind fun out5 =>
              uncO out5.objs fun o os =>
              rS o ty_int 0 fun cs =>
              need (Nat.beq cs.length ((p1.2.1 ++ ([C.v (.int .i64 4), C.v (.int .i64 5)])).length)) <|
              (cl fu d fn_slices_Compact_sint_int [V.own 1000000 0 ((p1.2.1.length / 1) + 2)] [.sb ty_int 0 cs]).bind fun out6 =>
              uncO out6.objs fun o1 os1 =>
              rF o1 ty_int fun fz cs1 =>
              need (Nat.beq cs1.length cs.length) <|
              rC out6.r fun c11 =>
              some ⟨V.c c11, [], none⟩
            else
              (cl fu d fn_slices_Sort_sint_int [V.own 1000000 0 (p1.2.1.length / 1)] [.sb ty_int 0 p1.2.1]).bind fun out7 =>
              uncO out7.objs fun o2 os2 =>
              rS o2 ty_int 0 fun cs2 =>
              need (Nat.beq cs2.length p1.2.1.length) <|
              (cl fu d fn_slices_Compact_sint_int [V.own 1000000 0 (p1.2.1.length / 1)] [.sb ty_int 0 cs2]).bind fun out8 =>
              uncO out8.objs fun o3 os3 =>
              rF o3 ty_int fun fz1 cs3 =>
              need (Nat.beq cs3.length cs2.length) <|
              rC out8.r fun c12 =>
              some ⟨V.c c12, [], none⟩
          else
            (cl fu d fn_slices_Sort_sint_int [V.own 1000000 0 (p1.2.1.length / 1)] [.sb ty_int 0 p1.2.1]).bind fun out9 =>
            uncO out9.objs fun o4 os4 =>
            rS o4 ty_int 0 fun cs4 =>
            need (Nat.beq cs4.length p1.2.1.length) <|
            (cl fu d fn_slices_Compact_sint_int [V.own 1000000 0 (p1.2.1.length / 1)] [.sb ty_int 0 cs4]).bind fun out10 =>
            uncO out10.objs fun o5 os5 =>
            rF o5 ty_int fun fz2 cs5 =>
            need (Nat.beq cs5.length cs4.length) <|
            rC out10.r fun c13 =>
            some ⟨V.c c13, [], none⟩
        else
          (cl fu d fn_slices_Sort_sint_int [V.own 1000000 0 (p1.2.1.length / 1)] [.sb ty_int 0 p1.2.1]).bind fun out11 =>
          uncO out11.objs fun o6 os6 =>
          rS o6 ty_int 0 fun cs6 =>
          need (Nat.beq cs6.length p1.2.1.length) <|
          (cl fu d fn_slices_Compact_sint_int [V.own 1000000 0 (p1.2.1.length / 1)] [.sb ty_int 0 cs6]).bind fun out12 =>
          uncO out12.objs fun o7 os7 =>
          rF o7 ty_int fun fz3 cs7 =>
          need (Nat.beq cs7.length cs6.length) <|
          rC out12.r fun c14 =>
          some ⟨V.c c14, [], none⟩
      else
        (need (((Nat.beq ((p.2.1.length / 1) * 1) p.2.1.length) && true) && true) <|
        some (0, (p.2.1, ())) : Option (Nat × List C × Unit)).bind fun p2 =>
        (cl fu d fn_limits_find [V.c (C.sl n0 a0), I 4] []).bind fun out13 =>
        rT out13.r fun xs4 =>
        uncV xs4 fun x8 ys8 =>
        rC x8 fun c15 =>
        asI .i64 c15 fun i6 =>
        uncV ys8 fun x9 ys9 =>
        rC x9 fun c16 =>
        asB c16 fun b5 =>
        nilV ys9 <|
        (cl fu d fn_limits_find [V.c (C.sl n0 a0), I 5] []).bind fun out14 =>
        rT out14.r fun xs5 =>
        uncV xs5 fun x10 ys10 =>
        rC x10 fun c17 =>
        asI .i64 c17 fun i7 =>
        uncV ys10 fun x11 ys11 =>
        rC x11 fun c18 =>
        asB c18 fun b6 =>
        nilV ys11 <|
        bif b5 then
          bif b6 then
            bif decide (IntKind.i64.wrap ((IntKind.i64.wrap (i6 * i6)) + (IntKind.i64.wrap (i7 * i7))) > 810000) then
              need ((((Nat.beq ((p2.2.1.length / 1) * 1) p2.2.1.length) && true) && (Nat.ble (((p2.2.1.length / 1) + 2) * 8) 140737488355328)) && (Nat.ble ((p2.2.1.length / 1) + 2) 140737488355328)) <|
              (cl fu d fn_slices_Sort_sint_int [V.own 1000000 0 ((p2.2.1.length / 1) + 2)] [.sb ty_int 0 (p2.2.1 ++ ([C.v (.int .i64 4), C.v (.int .i64 5)]))]).bind fun out15 =>
              uncO out15.objs fun o8 os8 =>
              rS o8 ty_int 0 fun cs8 =>
              need (Nat.beq cs8.length ((p2.2.1 ++ ([C.v (.int .i64 4), C.v (.int .i64 5)])).length)) <|
              (cl fu d fn_slices_Compact_sint_int [V.own 1000000 0 ((p2.2.1.length / 1) + 2)] [.sb ty_int 0 cs8]).bind fun out16 =>
              uncO out16.objs fun o9 os9 =>
              rF o9 ty_int fun fz4 cs9 =>
              need (Nat.beq cs9.length cs8.length) <|
              rC out16.r fun c19 =>
              some ⟨V.c c19, [], none⟩
            else
              (cl fu d fn_slices_Sort_sint_int [V.own 1000000 0 (p2.2.1.length / 1)] [.sb ty_int 0 p2.2.1]).bind fun out17 =>
              uncO out17.objs fun o10 os10 =>
              rS o10 ty_int 0 fun cs10 =>
              need (Nat.beq cs10.length p2.2.1.length) <|
              (cl fu d fn_slices_Compact_sint_int [V.own 1000000 0 (p2.2.1.length / 1)] [.sb ty_int 0 cs10]).bind fun out18 =>
              uncO out18.objs fun o11 os11 =>
              rF o11 ty_int fun fz5 cs11 =>
              need (Nat.beq cs11.length cs10.length) <|
              rC out18.r fun c20 =>
              some ⟨V.c c20, [], none⟩
          else
            (cl fu d fn_slices_Sort_sint_int [V.own 1000000 0 (p2.2.1.length / 1)] [.sb ty_int 0 p2.2.1]).bind fun out19 =>
            uncO out19.objs fun o12 os12 =>
            rS o12 ty_int 0 fun cs12 =>
            need (Nat.beq cs12.length p2.2.1.length) <|
            (cl fu d fn_slices_Compact_sint_int [V.own 1000000 0 (p2.2.1.length / 1)] [.sb ty_int 0 cs12]).bind fun out20 =>
            uncO out20.objs fun o13 os13 =>
            rF o13 ty_int fun fz6 cs13 =>
            need (Nat.beq cs13.length cs12.length) <|
            rC out20.r fun c21 =>
            some ⟨V.c c21, [], none⟩
        else
          (cl fu d fn_slices_Sort_sint_int [V.own 1000000 0 (p2.2.1.length / 1)] [.sb ty_int 0 p2.2.1]).bind fun out21 =>
          uncO out21.objs fun o14 os14 =>
          rS o14 ty_int 0 fun cs14 =>
          need (Nat.beq cs14.length p2.2.1.length) <|
          (cl fu d fn_slices_Compact_sint_int [V.own 1000000 0 (p2.2.1.length / 1)] [.sb ty_int 0 cs14]).bind fun out22 =>
          uncO out22.objs fun o15 os15 =>
          rF o15 ty_int fun fz7 cs15 =>
          need (Nat.beq cs15.length cs14.length) <|
          rC out22.r fun c22 =>
          some ⟨V.c c22, [], none⟩
    else
      (need (((Nat.beq ((p.2.1.length / 1) * 1) p.2.1.length) && true) && true) <|
      some (0, (p.2.1, ())) : Option (Nat × List C × Unit)).bind fun p3 =>
      (cl fu d fn_limits_find [V.c (C.sl n0 a0), I 4] []).bind fun out23 =>
      rT out23.r fun xs6 =>
      uncV xs6 fun x12 ys12 =>
      rC x12 fun c23 =>
      asI .i64 c23 fun i8 =>
      uncV ys12 fun x13 ys13 =>
      rC x13 fun c24 =>
      asB c24 fun b7 =>
      nilV ys13 <|
      (cl fu d fn_limits_find [V.c (C.sl n0 a0), I 5] []).bind fun out24 =>
      rT out24.r fun xs7 =>
      uncV xs7 fun x14 ys14 =>
      rC x14 fun c25 =>
      asI .i64 c25 fun i9 =>
      uncV ys14 fun x15 ys15 =>
      rC x15 fun c26 =>
      asB c26 fun b8 =>
      nilV ys15 <|
      bif b7 then
        bif b8 then
          bif decide (IntKind.i64.wrap ((IntKind.i64.wrap (i8 * i8)) + (IntKind.i64.wrap (i9 * i9))) > 810000) then
            need ((((Nat.beq ((p3.2.1.length / 1) * 1) p3.2.1.length) && true) && (Nat.ble (((p3.2.1.length / 1) + 2) * 8) 140737488355328)) && (Nat.ble ((p3.2.1.length / 1) + 2) 140737488355328)) <|
            (cl fu d fn_slices_Sort_sint_int [V.own 1000000 0 ((p3.2.1.length / 1) + 2)] [.sb ty_int 0 (p3.2.1 ++ ([C.v (.int .i64 4), C.v (.int .i64 5)]))]).bind fun out25 =>
            uncO out25.objs fun o16 os16 =>
            rS o16 ty_int 0 fun cs16 =>
            need (Nat.beq cs16.length ((p3.2.1 ++ ([C.v (.int .i64 4), C.v (.int .i64 5)])).length)) <|
            (cl fu d fn_slices_Compact_sint_int [V.own 1000000 0 ((p3.2.1.length / 1) + 2)] [.sb ty_int 0 cs16]).bind fun out26 =>
            uncO out26.objs fun o17 os17 =>
            rF o17 ty_int fun fz8 cs17 =>
            need (Nat.beq cs17.length cs16.length) <|
            rC out26.r fun c27 =>
            some ⟨V.c c27, [], none⟩
          else
            (cl fu d fn_slices_Sort_sint_int [V.own 1000000 0 (p3.2.1.length / 1)] [.sb ty_int 0 p3.2.1]).bind fun out27 =>
            uncO out27.objs fun o18 os18 =>
            rS o18 ty_int 0 fun cs18 =>
            need (Nat.beq cs18.length p3.2.1.length) <|
            (cl fu d fn_slices_Compact_sint_int [V.own 1000000 0 (p3.2.1.length / 1)] [.sb ty_int 0 cs18]).bind fun out28 =>
            uncO out28.objs fun o19 os19 =>
            rF o19 ty_int fun fz9 cs19 =>
            need (Nat.beq cs19.length cs18.length) <|
            rC out28.r fun c28 =>
            some ⟨V.c c28, [], none⟩
        else
          (cl fu d fn_slices_Sort_sint_int [V.own 1000000 0 (p3.2.1.length / 1)] [.sb ty_int 0 p3.2.1]).bind fun out29 =>
          uncO out29.objs fun o20 os20 =>
          rS o20 ty_int 0 fun cs20 =>
          need (Nat.beq cs20.length p3.2.1.length) <|
          (cl fu d fn_slices_Compact_sint_int [V.own 1000000 0 (p3.2.1.length / 1)] [.sb ty_int 0 cs20]).bind fun out30 =>
          uncO out30.objs fun o21 os21 =>
          rF o21 ty_int fun fz10 cs21 =>
          need (Nat.beq cs21.length cs20.length) <|
          rC out30.r fun c29 =>
          some ⟨V.c c29, [], none⟩
      else
        (cl fu d fn_slices_Sort_sint_int [V.own 1000000 0 (p3.2.1.length / 1)] [.sb ty_int 0 p3.2.1]).bind fun out31 =>
        uncO out31.objs fun o22 os22 =>
        rS o22 ty_int 0 fun cs22 =>
        need (Nat.beq cs22.length p3.2.1.length) <|
        (cl fu d fn_slices_Compact_sint_int [V.own 1000000 0 (p3.2.1.length / 1)] [.sb ty_int 0 cs22]).bind fun out32 =>
        uncO out32.objs fun o23 os23 =>
        rF o23 ty_int fun fz11 cs23 =>
        need (Nat.beq cs23.length cs22.length) <|
        rC out32.r fun c30 =>
        some ⟨V.c c30, [], none⟩) := by kernel_rfl
/- synoptic/synopticref04.Without -/
theorem eq_synopticref04_Without (fu d : Nat) (n0 : Nat) (a0 : List C) (n1 : Nat) (a1 : List C) :
    cl fu (d + 1) fn_synopticref04_Without [V.c (C.sl n0 a0), V.c (C.sl n1 a1)] [] = (
    (iter (fun (y : List C × Int × Unit) =>
      bif decide (y.2.1 < ((n0 : Nat) : Int)) then
        need (inR y.2.1 n0) <|
        unc (List.drop (y.2.1.toNat * 2) a0) fun c r =>
        asI .i64 c fun i =>
        (cl fu d fn_synoptickeep_In [V.c (C.sl n1 a1), I i] []).bind fun out =>
        rC out.r fun c1 =>
        asB c1 fun b =>
        bif !b then
          need (inR y.2.1 n0) <|
          unc (List.drop (y.2.1.toNat * 2) a0) fun c2 r1 =>
          asI .i64 c2 fun i1 =>
          unc r1 fun c3 _ =>
          asI .i64 c3 fun i2 =>
          need ((((Nat.beq ((y.1.length / 2) * 2) y.1.length) && true) && (Nat.ble (((y.1.length / 2) + 1) * 16) 140737488355328)) && (Nat.ble ((y.1.length / 2) + 1) 140737488355328)) <|
          need (((Nat.beq (((y.1.length / 2) + 1) * 2) ((y.1 ++ ([C.v (.int .i64 i1), C.v (.int .i64 i2)])).length)) && true) && true) <|
          some (0, (y.1 ++ ([C.v (.int .i64 i1), C.v (.int .i64 i2)]), IntKind.i64.wrap (y.2.1 + 1), ()))
        else
          need (((Nat.beq ((y.1.length / 2) * 2) y.1.length) && true) && true) <|
          some (0, (y.1, IntKind.i64.wrap (y.2.1 + 1), ()))
      else
        need (((Nat.beq ((y.1.length / 2) * 2) y.1.length) && true) && true) <|
        some (1, (y.1, y.2.1, ()))) fu ([], 0, ())).bind fun p =>
    need (Nat.ble (0 + ((p.2.1.length / 2) * 2)) p.2.1.length) <|
    some ⟨V.c (C.sl (p.2.1.length / 2) (List.take ((p.2.1.length / 2) * 2) p.2.1)), [], none⟩) := by kernel_rfl
/- synoptic/synopticref14.Gross -/
theorem eq_synopticref14_Gross (fu d : Nat) (a0_0 : Int) (a0_1 : Int) :
    cl fu (d + 1) fn_synopticref14_Gross [V.agg ([C.v (.int .i64 a0_0), C.v (.int .i64 a0_1)])] [] = (
    bif decide (a0_0 < 1) then
      some ⟨B false, [], none⟩
    else
      bif decide (a0_0 > 11) then
        some ⟨B false, [], none⟩
      else
        need (inR (IntKind.i64.wrap (a0_0 - 1)) 11) <|
        need (Nat.ble 2 ((List.drop (((IntKind.i64.wrap (a0_0 - 1)).toNat) * 2) ([C.v (.int .i64 8700), C.v (.int .i64 10850), C.v (.int .i64 1830), C.v (.int .i64 3300), C.v (.int .i64 1830), C.v (.int .i64 3100), C.v (.int .i64 (-900)), C.v (.int .i64 900), C.v (.int .i64 (-900)), C.v (.int .i64 900), C.v (.int .i64 1000), C.v (.int .i64 1650), C.v (.int .i64 2100), C.v (.int .i64 3150), C.v (.int .i64 2500), C.v (.int .i64 3350), C.v (.int .i64 2050), C.v (.int .i64 2950), C.v (.int .i64 4700), C.v (.int .i64 6050), C.v (.int .i64 2050), C.v (.int .i64 2850)])).length)) <|
        need ((((Nat.beq ((List.take 2 (List.drop (((IntKind.i64.wrap (a0_0 - 1)).toNat) * 2) ([C.v (.int .i64 8700), C.v (.int .i64 10850), C.v (.int .i64 1830), C.v (.int .i64 3300), C.v (.int .i64 1830), C.v (.int .i64 3100), C.v (.int .i64 (-900)), C.v (.int .i64 900), C.v (.int .i64 (-900)), C.v (.int .i64 900), C.v (.int .i64 1000), C.v (.int .i64 1650), C.v (.int .i64 2100), C.v (.int .i64 3150), C.v (.int .i64 2500), C.v (.int .i64 3350), C.v (.int .i64 2050), C.v (.int .i64 2950), C.v (.int .i64 4700), C.v (.int .i64 6050), C.v (.int .i64 2050), C.v (.int .i64 2850)]))).length) 2) && true) && (Nat.ble (0 + ((List.take 2 (List.drop (((IntKind.i64.wrap (a0_0 - 1)).toNat) * 2) ([C.v (.int .i64 8700), C.v (.int .i64 10850), C.v (.int .i64 1830), C.v (.int .i64 3300), C.v (.int .i64 1830), C.v (.int .i64 3100), C.v (.int .i64 (-900)), C.v (.int .i64 900), C.v (.int .i64 (-900)), C.v (.int .i64 900), C.v (.int .i64 1000), C.v (.int .i64 1650), C.v (.int .i64 2100), C.v (.int .i64 3150), C.v (.int .i64 2500), C.v (.int .i64 3350), C.v (.int .i64 2050), C.v (.int .i64 2950), C.v (.int .i64 4700), C.v (.int .i64 6050), C.v (.int .i64 2050), C.v (.int .i64 2850)]))).length)) 2)) && true) <|
        unc (putAt ([C.v (.int .i64 0), C.v (.int .i64 0)]) 0 (List.take 2 (List.drop (((IntKind.i64.wrap (a0_0 - 1)).toNat) * 2) ([C.v (.int .i64 8700), C.v (.int .i64 10850), C.v (.int .i64 1830), C.v (.int .i64 3300), C.v (.int .i64 1830), C.v (.int .i64 3100), C.v (.int .i64 (-900)), C.v (.int .i64 900), C.v (.int .i64 (-900)), C.v (.int .i64 900), C.v (.int .i64 1000), C.v (.int .i64 1650), C.v (.int .i64 2100), C.v (.int .i64 3150), C.v (.int .i64 2500), C.v (.int .i64 3350), C.v (.int .i64 2050), C.v (.int .i64 2950), C.v (.int .i64 4700), C.v (.int .i64 6050), C.v (.int .i64 2050), C.v (.int .i64 2850)])))) fun c _ =>
        asI .i64 c fun i =>
        bif decide (a0_1 ≥ i) then
          unc (List.drop 1 (putAt ([C.v (.int .i64 0), C.v (.int .i64 0)]) 0 (List.take 2 (List.drop (((IntKind.i64.wrap (a0_0 - 1)).toNat) * 2) ([C.v (.int .i64 8700), C.v (.int .i64 10850), C.v (.int .i64 1830), C.v (.int .i64 3300), C.v (.int .i64 1830), C.v (.int .i64 3100), C.v (.int .i64 (-900)), C.v (.int .i64 900), C.v (.int .i64 (-900)), C.v (.int .i64 900), C.v (.int .i64 1000), C.v (.int .i64 1650), C.v (.int .i64 2100), C.v (.int .i64 3150), C.v (.int .i64 2500), C.v (.int .i64 3350), C.v (.int .i64 2050), C.v (.int .i64 2950), C.v (.int .i64 4700), C.v (.int .i64 6050), C.v (.int .i64 2050), C.v (.int .i64 2850)]))))) fun c1 _ =>
          asI .i64 c1 fun i1 =>
          some ⟨B (decide (a0_1 ≤ i1)), [], none⟩
        else
          some ⟨B false, [], none⟩) := by kernel_rfl
/- synoptic/synopticref04.Find -/
theorem eq_synopticref04_Find (fu d : Nat) (n0 : Nat) (a0 : List C) (a1 : Int) :
    cl fu (d + 1) fn_synopticref04_Find [V.c (C.sl n0 a0), I a1] [] = (
    (iter (fun (y : Int × Bool × Int × Unit) =>
      bif decide (y.2.2.1 < ((n0 : Nat) : Int)) then
        need (inR y.2.2.1 n0) <|
        unc (List.drop (y.2.2.1.toNat * 2) a0) fun c _ =>
        asI .i64 c fun i =>
        bif i == a1 then
          need (inR y.2.2.1 n0) <|
          unc (List.drop 1 (List.drop (y.2.2.1.toNat * 2) a0)) fun c1 _ =>
          asI .i64 c1 fun i1 =>
          some (2, (i1, true, y.2.2.1, ()))
        else
          some (0, (y.1, y.2.1, IntKind.i64.wrap (y.2.2.1 + 1), ()))
      else
        some (1, (y.1, y.2.1, y.2.2.1, ()))) fu (0, false, 0, ())).bind fun p =>
    natD p.1 (
      some ⟨V.tup [I 0, B false], [], none⟩) fun m =>
    some ⟨V.tup [I p.2.1, B p.2.2.1], [], none⟩) := by kernel_rfl
/- synoptic/synoptickeep.In -/
theorem eq_synoptickeep_In (fu d : Nat) (n0 : Nat) (a0 : List C) (a1 : Int) :
    cl fu (d + 1) fn_synoptickeep_In [V.c (C.sl n0 a0), I a1] [] = (
    (iter (fun (y : Bool × Int × Unit) =>
      bif decide (y.2.1 < ((n0 : Nat) : Int)) then
        need (inR y.2.1 n0) <|
        unc (List.drop (y.2.1.toNat * 1) a0) fun c _ =>
        asI .i64 c fun i =>
        bif i == a1 then
          some (2, (true, y.2.1, ()))
        else
          some (0, (y.1, IntKind.i64.wrap (y.2.1 + 1), ()))
      else
        some (1, (y.1, y.2.1, ()))) fu (false, 0, ())).bind fun p =>
    natD p.1 (
      some ⟨B false, [], none⟩) fun m =>
    some ⟨B p.2.1, [], none⟩) := by kernel_rfl
/- synoptic/synopticlaw14.awake -/
theorem eq_synopticlaw14_awake (fu d : Nat)  :
    cl fu (d + 1) fn_synopticlaw14_awake [] [] = (
    (cl fu d fn_limits_Check [V.c (C.sl 2 ([C.v (.int .i64 2), C.v (.int .i64 2800), C.v (.int .i64 3), C.v (.int .i64 2810)]))] []).bind fun out =>
    rC out.r fun c =>
    (cl fu d fn_limits_Check [V.c (C.sl 2 ([C.v (.int .i64 2), C.v (.int .i64 2800), C.v (.int .i64 3), C.v (.int .i64 2800)]))] []).bind fun out1 =>
    rC out1.r fun c1 =>
    (cl fu d fn_limits_Check [V.c (C.sl 2 ([C.v (.int .i64 4), C.v (.int .i64 700), C.v (.int .i64 5), C.v (.int .i64 700)]))] []).bind fun out2 =>
    rC out2.r fun c2 =>
    need (noYl [V.c (nrm c)]) <|
    (cl fu d fn_synoptickeep_Ints [V.c (nrm c), V.c (C.sl 2 ([C.v (.int .i64 2), C.v (.int .i64 3)]))] []).bind fun out3 =>
    rC out3.r fun c3 =>
    asB c3 fun b =>
    bif b then
      asSl c1 fun n cs =>
      bif ((n : Nat) : Int) == 0 then
        need (noYl [V.c (nrm c2)]) <|
        (cl fu d fn_synoptickeep_Ints [V.c (nrm c2), V.c (C.sl 2 ([C.v (.int .i64 4), C.v (.int .i64 5)]))] []).bind fun out4 =>
        rC out4.r fun c4 =>
        asB c4 fun b1 =>
        some ⟨B b1, [], none⟩
      else
        some ⟨B false, [], none⟩
    else
      some ⟨B false, [], none⟩) := by kernel_rfl
/- synoptic/synoptickeep.Mod -/
theorem eq_synoptickeep_Mod (fu d : Nat) (a0 : Int) (a1 : Int) :
    cl fu (d + 1) fn_synoptickeep_Mod [I a0, I a1] [] = (
    bif decide (a1 < 1) then
      some ⟨I 0, [], none⟩
    else
      need (!(a1 == 0)) <|
      bif decide (Int.tmod a0 a1 < 0) then
        some ⟨I (IntKind.i64.wrap ((Int.tmod a0 a1) + a1)), [], none⟩
      else
        some ⟨I (Int.tmod a0 a1), [], none⟩) := by kernel_rfl
/- synoptic/synopticref04.Describe -/
theorem eq_synopticref04_Describe (fu d : Nat) (a0 : Int) :
    cl fu (d + 1) fn_synopticref04_Describe [I a0] [] = (
    bif decide (a0 < 1) then
      some ⟨V.tup [V.agg ([C.v (.string (⟨#[]⟩)), C.v (.int .i64 0), C.v (.int .i64 0), C.v (.int .i64 0)]), I 4], [], none⟩
    else
      bif decide (a0 > 11) then
        some ⟨V.tup [V.agg ([C.v (.string (⟨#[]⟩)), C.v (.int .i64 0), C.v (.int .i64 0), C.v (.int .i64 0)]), I 4], [], none⟩
      else
        need (inR (IntKind.i64.wrap (a0 - 1)) 11) <|
        unc (List.drop (((IntKind.i64.wrap (a0 - 1)).toNat) * 4) ([C.v (.string (⟨#[80]⟩)), C.v (.int .i64 8000), C.v (.int .i64 11000), C.v (.int .i64 5), C.v (.string (⟨#[84]⟩)), C.v (.int .i64 1800), C.v (.int .i64 3300), C.v (.int .i64 4), C.v (.string (⟨#[68]⟩)), C.v (.int .i64 1800), C.v (.int .i64 3300), C.v (.int .i64 4), C.v (.string (⟨#[69]⟩)), C.v (.int .i64 (-1000)), C.v (.int .i64 1000), C.v (.int .i64 4), C.v (.string (⟨#[78]⟩)), C.v (.int .i64 (-1000)), C.v (.int .i64 1000), C.v (.int .i64 4), C.v (.string (⟨#[65]⟩)), C.v (.int .i64 900), C.v (.int .i64 1700), C.v (.int .i64 4), C.v (.string (⟨#[66]⟩)), C.v (.int .i64 2000), C.v (.int .i64 3200), C.v (.int .i64 4), C.v (.string (⟨#[70]⟩)), C.v (.int .i64 2400), C.v (.int .i64 3400), C.v (.int .i64 4), C.v (.string (⟨#[71]⟩)), C.v (.int .i64 2000), C.v (.int .i64 3000), C.v (.int .i64 4), C.v (.string (⟨#[74]⟩)), C.v (.int .i64 4400), C.v (.int .i64 6200), C.v (.int .i64 4), C.v (.string (⟨#[75]⟩)), C.v (.int .i64 2000), C.v (.int .i64 2900), C.v (.int .i64 4)])) fun c r =>
        asS c fun s =>
        unc r fun c1 r1 =>
        asI .i64 c1 fun i =>
        unc r1 fun c2 r2 =>
        asI .i64 c2 fun i1 =>
        unc r2 fun c3 _ =>
        asI .i64 c3 fun i2 =>
        some ⟨V.tup [V.agg ([C.v (.string s), C.v (.int .i64 i), C.v (.int .i64 i1), C.v (.int .i64 i2)]), I 0], [], none⟩) := by kernel_rfl
/- synoptic/limits.Gross -/
theorem eq_limits_Gross (fu d : Nat) (a0_0 : Int) (a0_1 : Int) :
    cl fu (d + 1) fn_limits_Gross [V.agg ([C.v (.int .i64 a0_0), C.v (.int .i64 a0_1)])] [] = (
    bif decide (a0_0 < 1) then
      some ⟨B false, [], none⟩
    else
      bif decide (a0_0 ≥ 12) then
        some ⟨B false, [], none⟩
      else
        need (inR a0_0 12) <|
        need (Nat.ble 2 ((List.drop (a0_0.toNat * 2) gl_limits_bounds).length)) <|
        need ((((Nat.beq ((List.take 2 (List.drop (a0_0.toNat * 2) gl_limits_bounds)).length) 2) && true) && (Nat.ble (0 + ((List.take 2 (List.drop (a0_0.toNat * 2) gl_limits_bounds)).length)) 2)) && true) <|
        unc (putAt ([C.v (.int .i64 0), C.v (.int .i64 0)]) 0 (List.take 2 (List.drop (a0_0.toNat * 2) gl_limits_bounds))) fun c _ =>
        asI .i64 c fun i =>
        bif decide (a0_1 ≥ i) then
          unc (List.drop 1 (putAt ([C.v (.int .i64 0), C.v (.int .i64 0)]) 0 (List.take 2 (List.drop (a0_0.toNat * 2) gl_limits_bounds)))) fun c1 _ =>
          asI .i64 c1 fun i1 =>
          some ⟨B (decide (a0_1 ≤ i1)), [], none⟩
        else
          some ⟨B false, [], none⟩) := by kernel_rfl
/- (*synoptic/synoptickeep.Src).N -/
theorem eq_synoptickeep_Src_N (fu d : Nat) (a0_0 : C) (a0_1 : Int) (a1 : Int) :
    cl fu (d + 1) fn_synoptickeep_Src_N [V.ptr 1000000 0, I a1] [.ob ty_synoptickeep_Src 0 ([a0_0, C.v (.int .i64 a0_1)])] = (
    (cl fu d fn_synoptickeep_Src_Raw [V.ptr 1000000 0] [.ob ty_synoptickeep_Src 0 ([a0_0, C.v (.int .i64 a0_1)])]).bind fun out =>
    uncO out.objs fun o os =>
    rO o ty_synoptickeep_Src 0 fun cs =>
    need ((Nat.beq cs.length 2) && true) <|
    unc cs fun c r =>
    unc r fun c1 _ =>
    asI .i64 c1 fun i =>
    rC out.r fun c2 =>
    asI .i64 c2 fun i1 =>
    (cl fu d fn_synoptickeep_Mod [I i1, I a1] []).bind fun out1 =>
    rC out1.r fun c3 =>
    asI .i64 c3 fun i2 =>
    some ⟨I i2, [.ob ty_synoptickeep_Src 0 ([c, C.v (.int .i64 i)])], none⟩) := by kernel_rfl
/- synoptic/synopticref04.Some -/
theorem eq_synopticref04_Some (fu d : Nat) (a0_0 : C) (a0_1 : Int) (a1 : Int) :
    cl fu (d + 1) fn_synopticref04_Some [V.ptr 1000000 0, I a1] [.ob ty_synoptickeep_Src 0 ([a0_0, C.v (.int .i64 a0_1)])] = (
    (cl fu d fn_synopticref04_Describe [I a1] []).bind fun out =>
    rT out.r fun xs =>
    uncV xs fun x ys =>
    rA x fun cs =>
    need (Nat.beq cs.length 4) <|
    unc cs fun c r =>
    asS c fun s =>
    unc r fun c1 r1 =>
    asI .i64 c1 fun i =>
    unc r1 fun c2 r2 =>
    asI .i64 c2 fun i1 =>
    unc r2 fun c3 _ =>
    asI .i64 c3 fun i2 =>
    uncV ys fun x1 ys1 =>
    rC x1 fun c4 =>
    asI .i64 c4 fun i3 =>
    nilV ys1 <|
    (cl fu d fn_synoptickeep_Src_Range [V.ptr 1000000 0, I i, I i1] [.ob ty_synoptickeep_Src 0 ([a0_0, C.v (.int .i64 a0_1)])]).bind fun out1 =>
    uncO out1.objs fun o os =>
    rO o ty_synoptickeep_Src 0 fun cs1 =>
    need ((Nat.beq cs1.length 2) && true) <|
    unc cs1 fun c5 r4 =>
    unc r4 fun c6 _ =>
    asI .i64 c6 fun i4 =>
    rC out1.r fun c7 =>
    asI .i64 c7 fun i5 =>
    (cl fu d fn_synoptickeep_Src_N [V.ptr 1000000 0, I 5] [.ob ty_synoptickeep_Src 0 ([c5, C.v (.int .i64 i4)])]).bind fun out2 =>
    uncO out2.objs fun o1 os1 =>
    rO o1 ty_synoptickeep_Src 0 fun cs2 =>
    need ((Nat.beq cs2.length 2) && true) <|
    unc cs2 fun c8 r6 =>
    unc r6 fun c9 _ =>
    asI .i64 c9 fun i6 =>
    rC out2.r fun c10 =>
    asI .i64 c10 fun i7 =>
    bif i7 == 0 then
      (cl fu d fn_synoptickeep_Src_Pick [V.ptr 1000000 0, V.c (C.sl 2 ([C.v (.int .i64 i), C.v (.int .i64 i1)]))] [.ob ty_synoptickeep_Src 0 ([c8, C.v (.int .i64 i6)])]).bind fun out3 =>
      uncO out3.objs fun o2 os2 =>
      rO o2 ty_synoptickeep_Src 0 fun cs3 =>
      need ((Nat.beq cs3.length 2) && true) <|
      unc cs3 fun c11 r8 =>
      unc r8 fun c12 _ =>
      asI .i64 c12 fun i8 =>
      rC out3.r fun c13 =>
      asI .i64 c13 fun i9 =>
      some ⟨V.agg ([C.v (.int .i64 a1), C.v (.int .i64 i9)]), [.ob ty_synoptickeep_Src 0 ([c11, C.v (.int .i64 i8)])], none⟩
    else
      (bif i7 == 1 then
        some (0, (i7 == 1, (0, 0, ()), (s, i, i1, i2, ()), (a1, i5, ()), (c8, i6, ()), ()))
      else
        some (0, (i7 == 2, (0, 0, ()), (s, i, i1, i2, ()), (a1, i5, ()), (c8, i6, ()), ())) : Option (Nat × Bool × (Int × Int × Unit) × (ByteArray × Int × Int × Int × Unit) × (Int × Int × Unit) × (C × Int × Unit) × Unit)).bind fun p =>
      (bif p.2.1 then
        (cl fu d fn_synoptickeep_Src_Range [V.ptr 1000000 0, I (-40), I 40] [.ob ty_synoptickeep_Src 0 ([p.2.2.2.2.2.1.1, C.v (.int .i64 p.2.2.2.2.2.1.2.1)])]).bind fun out4 =>
        uncO out4.objs fun o3 os3 =>
        rO o3 ty_synoptickeep_Src 0 fun cs4 =>
        need ((Nat.beq cs4.length 2) && true) <|
        unc cs4 fun c14 r10 =>
        unc r10 fun c15 _ =>
        asI .i64 c15 fun i10 =>
        rC out4.r fun c16 =>
        asI .i64 c16 fun i11 =>
        some (0, (p.2.1, (p.2.2.1.1, p.2.2.1.2.1, ()), (p.2.2.2.1.1, p.2.2.2.1.2.1, p.2.2.2.1.2.2.1, p.2.2.2.1.2.2.2.1, ()), (p.2.2.2.2.1.1, IntKind.i64.wrap ((IntKind.i64.wrap (Int.tdiv (IntKind.i64.wrap (p.2.2.2.1.2.1 + p.2.2.2.1.2.2.1)) 2)) + i11), ()), (c14, i10, ()), ()))
      else
        some (0, (p.2.1, (p.2.2.1.1, p.2.2.1.2.1, ()), (p.2.2.2.1.1, p.2.2.2.1.2.1, p.2.2.2.1.2.2.1, p.2.2.2.1.2.2.2.1, ()), (p.2.2.2.2.1.1, p.2.2.2.2.1.2.1, ()), (p.2.2.2.2.2.1.1, p.2.2.2.2.2.1.2.1, ()), ())) : Option (Nat × Bool × (Int × Int × Unit) × (ByteArray × Int × Int × Int × Unit) × (Int × Int × Unit) × (C × Int × Unit) × Unit)).bind fun p1 =>
      some ⟨V.agg ([C.v (.int .i64 p1.2.2.2.2.1.1), C.v (.int .i64 p1.2.2.2.2.1.2.1)]), [.ob ty_synoptickeep_Src 0 ([p1.2.2.2.2.2.1.1, C.v (.int .i64 p1.2.2.2.2.2.1.2.1)])], none⟩) := by kernel_rfl
/- synoptic/limits.find -/
theorem eq_limits_find (fu d : Nat) (n0 : Nat) (a0 : List C) (a1 : Int) :
    cl fu (d + 1) fn_limits_find [V.c (C.sl n0 a0), I a1] [] = (
    (cl fu d fn_element_Find [V.c (C.sl n0 a0), I a1] []).bind fun out =>
    rT out.r fun xs =>
    uncV xs fun x ys =>
    rC x fun c =>
    asI .i64 c fun i =>
    uncV ys fun x1 ys1 =>
    rC x1 fun c1 =>
    asB c1 fun b =>
    nilV ys1 <|
    bif b then
      bif decide (i ≥ (-100000)) then
        some ⟨V.tup [I i, B (decide (i ≤ 100000))], [], none⟩
      else
        some ⟨V.tup [I i, B false], [], none⟩
    else
      some ⟨V.tup [I i, B false], [], none⟩) := by kernel_rfl
/- synoptic/synoptickeep.Ints -/
theorem eq_synoptickeep_Ints (fu d : Nat) (n0 : Nat) (a0 : List C) (n1 : Nat) (a1 : List C) :
    cl fu (d + 1) fn_synoptickeep_Ints [V.c (C.sl n0 a0), V.c (C.sl n1 a1)] [] = (
    bif ((n0 : Nat) : Int) != ((n1 : Nat) : Int) then
      some ⟨B false, [], none⟩
    else
      (iter (fun (y : Bool × Int × Unit) =>
        bif decide (y.2.1 < ((n0 : Nat) : Int)) then
          need (inR y.2.1 n0) <|
          unc (List.drop (y.2.1.toNat * 1) a0) fun c _ =>
          asI .i64 c fun i =>
          need (inR y.2.1 n1) <|
          unc (List.drop (y.2.1.toNat * 1) a1) fun c1 _ =>
          asI .i64 c1 fun i1 =>
          bif i != i1 then
            some (2, (false, y.2.1, ()))
          else
            some (0, (y.1, IntKind.i64.wrap (y.2.1 + 1), ()))
        else
          some (1, (y.1, y.2.1, ()))) fu (false, 0, ())).bind fun p =>
      natD p.1 (
        some ⟨B true, [], none⟩) fun m =>
      some ⟨B p.2.1, [], none⟩) := by kernel_rfl
/- (*synoptic/synoptickeep.Src).Raw -/
theorem eq_synoptickeep_Src_Raw (fu d : Nat) (a0_0 : C) (a0_1 : Int) :
    cl fu (d + 1) fn_synoptickeep_Src_Raw [V.ptr 1000000 0] [.ob ty_synoptickeep_Src 0 ([a0_0, C.v (.int .i64 a0_1)])] = (
    asSl a0_0 fun n cs =>
    bif decide (a0_1 ≥ ((n : Nat) : Int)) then
      some ⟨I 0, [.ob ty_synoptickeep_Src 0 ([a0_0, C.v (.int .i64 a0_1)])], none⟩
    else
      asSl a0_0 fun n1 cs1 =>
      need (inR (IntKind.i64.wrap ((IntKind.i64.wrap (a0_1 + 1)) - 1)) n1) <|
      unc (List.drop (((IntKind.i64.wrap ((IntKind.i64.wrap (a0_1 + 1)) - 1)).toNat) * 1) cs1) fun c _ =>
      asI .i64 c fun i =>
      some ⟨I i, [.ob ty_synoptickeep_Src 0 ([a0_0, C.v (.int .i64 (IntKind.i64.wrap (a0_1 + 1)))])], none⟩) := by kernel_rfl
/- (*synoptic/synoptickeep.Src).Range -/
theorem eq_synoptickeep_Src_Range (fu d : Nat) (a0_0 : C) (a0_1 : Int) (a1 : Int) (a2 : Int) :
    cl fu (d + 1) fn_synoptickeep_Src_Range [V.ptr 1000000 0, I a1, I a2] [.ob ty_synoptickeep_Src 0 ([a0_0, C.v (.int .i64 a0_1)])] = (
    (cl fu d fn_synoptickeep_Src_N [V.ptr 1000000 0, I (IntKind.i64.wrap ((IntKind.i64.wrap (a2 - a1)) + 1))] [.ob ty_synoptickeep_Src 0 ([a0_0, C.v (.int .i64 a0_1)])]).bind fun out =>
    uncO out.objs fun o os =>
    rO o ty_synoptickeep_Src 0 fun cs =>
    need ((Nat.beq cs.length 2) && true) <|
    unc cs fun c r =>
    unc r fun c1 _ =>
    asI .i64 c1 fun i =>
    rC out.r fun c2 =>
    asI .i64 c2 fun i1 =>
    some ⟨I (IntKind.i64.wrap (a1 + i1)), [.ob ty_synoptickeep_Src 0 ([c, C.v (.int .i64 i)])], none⟩) := by kernel_rfl
/- (*synoptic/synoptickeep.Src).Pick -/
theorem eq_synoptickeep_Src_Pick (fu d : Nat) (a0_0 : C) (a0_1 : Int) (n1 : Nat) (a1 : List C) :
    cl fu (d + 1) fn_synoptickeep_Src_Pick [V.ptr 1000000 0, V.c (C.sl n1 a1)] [.ob ty_synoptickeep_Src 0 ([a0_0, C.v (.int .i64 a0_1)])] = (
    (cl fu d fn_synoptickeep_Src_N [V.ptr 1000000 0, I ((n1 : Nat) : Int)] [.ob ty_synoptickeep_Src 0 ([a0_0, C.v (.int .i64 a0_1)])]).bind fun out =>
    uncO out.objs fun o os =>
    rO o ty_synoptickeep_Src 0 fun cs =>
    need ((Nat.beq cs.length 2) && true) <|
    unc cs fun c r =>
    unc r fun c1 _ =>
    asI .i64 c1 fun i =>
    rC out.r fun c2 =>
    asI .i64 c2 fun i1 =>
    need (inR i1 n1) <|
    unc (List.drop (i1.toNat * 1) a1) fun c3 _ =>
    asI .i64 c3 fun i2 =>
    some ⟨I i2, [.ob ty_synoptickeep_Src 0 ([c, C.v (.int .i64 i)])], none⟩) := by kernel_rfl
/- synoptic/element.Find -/
theorem eq_element_Find (fu d : Nat) (n0 : Nat) (a0 : List C) (a1 : Int) :
    cl fu (d + 1) fn_element_Find [V.c (C.sl n0 a0), I a1] [] = (
    (cl fu d fn_slices_IndexFunc_sapi_Reading_api_Reading [V.c (C.sl n0 a0), V.c (C.fn fn_element_Find_1 ([C.cp ([C.v (.int .i64 a1)])]))] []).bind fun out =>
    rC out.r fun c =>
    asI .i64 c fun i =>
    bif decide (i < 0) then
      some ⟨V.tup [I 0, B false], [], none⟩
    else
      need (inR i n0) <|
      unc (List.drop 1 (List.drop (i.toNat * 2) a0)) fun c1 _ =>
      asI .i64 c1 fun i1 =>
      some ⟨V.tup [I i1, B true], [], none⟩) := by kernel_rfl
/- slices.pdqsortOrdered[int] -/
theorem eq_slices_pdqsortOrdered_int (fu d : Nat) (n0 : Nat) (a0 : List C) (a1 : Int) (a2 : Int) (a3 : Int) :
    cl fu (d + 1) fn_slices_pdqsortOrdered_int [V.own 1000000 0 n0, I a1, I a2, I a3] [.sb ty_int 0 a0] = (
    (iter (fun (y : (Nat × List C) × Int × Int × Int × Bool × Bool × Unit) =>
      bif decide (IntKind.i64.wrap (y.2.2.1 - y.2.1) ≤ 12) then
        (cl fu d fn_slices_insertionSortOrdered_int [V.own 1000000 0 y.1.1, I y.2.1, I y.2.2.1] [.sb ty_int 0 y.1.2]).bind fun out =>
        uncO out.objs fun o os =>
        rS o ty_int 0 fun cs =>
        need (Nat.beq cs.length y.1.2.length) <|
        some (1, ((y.1.1, cs), y.2.1, y.2.2.1, y.2.2.2.1, y.2.2.2.2.1, y.2.2.2.2.2.1, ()))
      else
        bif y.2.2.2.1 == 0 then
          (cl fu d fn_slices_heapSortOrdered_int [V.own 1000000 0 y.1.1, I y.2.1, I y.2.2.1] [.sb ty_int 0 y.1.2]).bind fun out1 =>
          uncO out1.objs fun o1 os1 =>
          rS o1 ty_int 0 fun cs1 =>
          need (Nat.beq cs1.length y.1.2.length) <|
          some (1, ((y.1.1, cs1), y.2.1, y.2.2.1, y.2.2.2.1, y.2.2.2.2.1, y.2.2.2.2.2.1, ()))
        else
          (bif !y.2.2.2.2.1 then
            (cl fu d fn_slices_breakPatternsOrdered_int [V.own 1000000 0 y.1.1, I y.2.1, I y.2.2.1] [.sb ty_int 0 y.1.2]).bind fun out2 =>
            uncO out2.objs fun o2 os2 =>
            rS o2 ty_int 0 fun cs2 =>
            need (Nat.beq cs2.length y.1.2.length) <|
            some (0, ((y.1.1, cs2), IntKind.i64.wrap (y.2.2.2.1 - 1), ()))
          else
            some (0, ((y.1.1, y.1.2), y.2.2.2.1, ())) : Option (Nat × (Nat × List C) × Int × Unit)).bind fun p =>
          need (Nat.ble (0 + (p.2.1.1 * 1)) p.2.1.2.length) <|
          (cl fu d fn_slices_choosePivotOrdered_int [V.c (C.sl p.2.1.1 (List.take (p.2.1.1 * 1) p.2.1.2)), I y.2.1, I y.2.2.1] []).bind fun out3 =>
          rT out3.r fun xs =>
          uncV xs fun x ys =>
          rC x fun c =>
          asI .i64 c fun i =>
          uncV ys fun x1 ys1 =>
          rC x1 fun c1 =>
          asI .i64 c1 fun i1 =>
          nilV ys1 <|
          (bif i1 == 2 then
            (cl fu d fn_slices_reverseRangeOrdered_int [V.own 1000000 0 p.2.1.1, I y.2.1, I y.2.2.1] [.sb ty_int 0 p.2.1.2]).bind fun out4 =>
            uncO out4.objs fun o3 os3 =>
            rS o3 ty_int 0 fun cs3 =>
            need (Nat.beq cs3.length p.2.1.2.length) <|
            some (0, ((p.2.1.1, cs3), IntKind.i64.wrap ((IntKind.i64.wrap (y.2.2.1 - 1)) - (IntKind.i64.wrap (i - y.2.1))), 1, ()))
          else
            some (0, ((p.2.1.1, p.2.1.2), i, i1, ())) : Option (Nat × (Nat × List C) × Int × Int × Unit)).bind fun p1 =>
          bif y.2.2.2.2.1 then
            bif y.2.2.2.2.2.1 then
              (bif p1.2.2.2.1 == 1 then
                (cl fu d fn_slices_partialInsertionSortOrdered_int [V.own 1000000 0 p1.2.1.1, I y.2.1, I y.2.2.1] [.sb ty_int 0 p1.2.1.2]).bind fun out5 =>
                uncO out5.objs fun o4 os4 =>
                rS o4 ty_int 0 fun cs4 =>
                need (Nat.beq cs4.length p1.2.1.2.length) <|
                rC out5.r fun c2 =>
                asB c2 fun b =>
                bif b then
                  some (0, ((p1.2.1.1, cs4), ()))
                else
                  some (1, ((p1.2.1.1, cs4), ()))
              else
                some (1, ((p1.2.1.1, p1.2.1.2), ())) : Option (Nat × (Nat × List C) × Unit)).bind fun p2 =>
              natD p2.1 (
                some (1, ((p2.2.1.1, p2.2.1.2), y.2.1, y.2.2.1, p.2.2.1, y.2.2.2.2.1, y.2.2.2.2.2.1, ()))) fun m =>
              bif decide (y.2.1 > 0) then
                need (inR (IntKind.i64.wrap (y.2.1 - 1)) p2.2.1.1) <|
                unc (List.drop (0 + (((IntKind.i64.wrap (y.2.1 - 1)).toNat) * 1)) p2.2.1.2) fun c3 r =>
                asI .i64 c3 fun i2 =>
                need (inR p1.2.2.1 p2.2.1.1) <|
                unc (List.drop (0 + (p1.2.2.1.toNat * 1)) p2.2.1.2) fun c4 _ =>
                asI .i64 c4 fun i3 =>
                (cl fu d fn_cmp_Less_int [I i2, I i3] []).bind fun out6 =>
                rC out6.r fun c5 =>
                asB c5 fun b1 =>
                bif !b1 then
                  (cl fu d fn_slices_partitionEqualOrdered_int [V.own 1000000 0 p2.2.1.1, I y.2.1, I y.2.2.1, I p1.2.2.1] [.sb ty_int 0 p2.2.1.2]).bind fun out7 =>
                  uncO out7.objs fun o5 os5 =>
                  rS o5 ty_int 0 fun cs5 =>
                  need (Nat.beq cs5.length p2.2.1.2.length) <|
                  rC out7.r fun c6 =>
                  asI .i64 c6 fun i4 =>
                  some (0, ((p2.2.1.1, cs5), i4, y.2.2.1, p.2.2.1, y.2.2.2.2.1, y.2.2.2.2.2.1, ()))
                else
                  (cl fu d fn_slices_partitionOrdered_int [V.own 1000000 0 p2.2.1.1, I y.2.1, I y.2.2.1, I p1.2.2.1] [.sb ty_int 0 p2.2.1.2]).bind fun out8 =>
                  uncO out8.objs fun o6 os6 =>
                  rS o6 ty_int 0 fun cs6 =>
                  need (Nat.beq cs6.length p2.2.1.2.length) <|
                  rT out8.r fun xs1 =>
                  uncV xs1 fun x2 ys2 =>
                  rC x2 fun c7 =>
                  asI .i64 c7 fun i5 =>
                  uncV ys2 fun x3 ys3 =>
                  rC x3 fun c8 =>
                  asB c8 fun b2 =>
                  nilV ys3 <|
                  bif decide (IntKind.i64.wrap (i5 - y.2.1) < IntKind.i64.wrap (y.2.2.1 - i5)) then
                    (cl fu d fn_slices_pdqsortOrdered_int [V.own 1000000 0 p2.2.1.1, I y.2.1, I i5, I p.2.2.1] [.sb ty_int 0 cs6]).bind fun out9 =>
                    uncO out9.objs fun o7 os7 =>
                    rS o7 ty_int 0 fun cs7 =>
                    need (Nat.beq cs7.length cs6.length) <|
                    some (0, ((p2.2.1.1, cs7), IntKind.i64.wrap (i5 + 1), y.2.2.1, p.2.2.1, decide (IntKind.i64.wrap (i5 - y.2.1) ≥ IntKind.i64.wrap (Int.tdiv (IntKind.i64.wrap (y.2.2.1 - y.2.1)) 8)), b2, ()))
                  else
                    (cl fu d fn_slices_pdqsortOrdered_int [V.own 1000000 0 p2.2.1.1, I (IntKind.i64.wrap (i5 + 1)), I y.2.2.1, I p.2.2.1] [.sb ty_int 0 cs6]).bind fun out10 =>
                    uncO out10.objs fun o8 os8 =>
                    rS o8 ty_int 0 fun cs8 =>
                    need (Nat.beq cs8.length cs6.length) <|
                    some (0, ((p2.2.1.1, cs8), y.2.1, i5, p.2.2.1, decide (IntKind.i64.wrap (y.2.2.1 - i5) ≥ IntKind.i64.wrap (Int.tdiv (IntKind.i64.wrap (y.2.2.1 - y.2.1)) 8)), b2, ()))
              else
                (cl fu d fn_slices_partitionOrdered_int [V.own 1000000 0 p2.2.1.1, I y.2.1, I y.2.2.1, I p1.2.2.1] [.sb ty_int 0 p2.2.1.2]).bind fun out11 =>
                uncO out11.objs fun o9 os9 =>
                rS o9 ty_int 0 fun cs9 =>
                need (Nat.beq cs9.length p2.2.1.2.length) <|
                rT out11.r fun xs2 =>
                uncV xs2 fun x4 ys4 =>
                rC x4 fun c9 =>
                asI .i64 c9 fun i6 =>
                uncV ys4 fun x5 ys5 =>
                rC x5 fun c10 =>
                asB c10 fun b3 =>
                nilV ys5 <|
                bif decide (IntKind.i64.wrap (i6 - y.2.1) < IntKind.i64.wrap (y.2.2.1 - i6)) then
                  (cl fu d fn_slices_pdqsortOrdered_int [V.own 1000000 0 p2.2.1.1, I y.2.1, I i6, I p.2.2.1] [.sb ty_int 0 cs9]).bind fun out12 =>
                  uncO out12.objs fun o10 os10 =>
                  rS o10 ty_int 0 fun cs10 =>
                  need (Nat.beq cs10.length cs9.length) <|
                  some (0, ((p2.2.1.1, cs10), IntKind.i64.wrap (i6 + 1), y.2.2.1, p.2.2.1, decide (IntKind.i64.wrap (i6 - y.2.1) ≥ IntKind.i64.wrap (Int.tdiv (IntKind.i64.wrap (y.2.2.1 - y.2.1)) 8)), b3, ()))
                else
                  (cl fu d fn_slices_pdqsortOrdered_int [V.own 1000000 0 p2.2.1.1, I (IntKind.i64.wrap (i6 + 1)), I y.2.2.1, I p.2.2.1] [.sb ty_int 0 cs9]).bind fun out13 =>
                  uncO out13.objs fun o11 os11 =>
                  rS o11 ty_int 0 fun cs11 =>
                  need (Nat.beq cs11.length cs9.length) <|
                  some (0, ((p2.2.1.1, cs11), y.2.1, i6, p.2.2.1, decide (IntKind.i64.wrap (y.2.2.1 - i6) ≥ IntKind.i64.wrap (Int.tdiv (IntKind.i64.wrap (y.2.2.1 - y.2.1)) 8)), b3, ()))
            else
              (some (1, ((p1.2.1.1, p1.2.1.2), ())) : Option (Nat × (Nat × List C) × Unit)).bind fun p3 =>
              natD p3.1 (
                some (1, ((p3.2.1.1, p3.2.1.2), y.2.1, y.2.2.1, p.2.2.1, y.2.2.2.2.1, y.2.2.2.2.2.1, ()))) fun m1 =>
              bif decide (y.2.1 > 0) then
                need (inR (IntKind.i64.wrap (y.2.1 - 1)) p3.2.1.1) <|
                unc (List.drop (0 + (((IntKind.i64.wrap (y.2.1 - 1)).toNat) * 1)) p3.2.1.2) fun c11 _ =>
                asI .i64 c11 fun i7 =>
                need (inR p1.2.2.1 p3.2.1.1) <|
                unc (List.drop (0 + (p1.2.2.1.toNat * 1)) p3.2.1.2) fun c12 _ =>
                asI .i64 c12 fun i8 =>
                (cl fu d fn_cmp_Less_int [I i7, I i8] []).bind fun out14 =>
                rC out14.r fun c13 =>
                asB c13 fun b4 =>
                bif !b4 then
                  (cl fu d fn_slices_partitionEqualOrdered_int [V.own 1000000 0 p3.2.1.1, I y.2.1, I y.2.2.1, I p1.2.2.1] [.sb ty_int 0 p3.2.1.2]).bind fun out15 =>
                  uncO out15.objs fun o12 os12 =>
                  rS o12 ty_int 0 fun cs12 =>
                  need (Nat.beq cs12.length p3.2.1.2.length) <|
                  rC out15.r fun c14 =>
                  asI .i64 c14 fun i9 =>
                  some (0, ((p3.2.1.1, cs12), i9, y.2.2.1, p.2.2.1, y.2.2.2.2.1, y.2.2.2.2.2.1, ()))
                else
                  (cl fu d fn_slices_partitionOrdered_int [V.own 1000000 0 p3.2.1.1, I y.2.1, I y.2.2.1, I p1.2.2.1] [.sb ty_int 0 p3.2.1.2]).bind fun out16 =>
                  uncO out16.objs fun o13 os13 =>
                  rS o13 ty_int 0 fun cs13 =>
                  need (Nat.beq cs13.length p3.2.1.2.length) <|
                  rT out16.r fun xs3 =>
                  uncV xs3 fun x6 ys6 =>
                  rC x6 fun c15 =>
                  asI .i64 c15 fun i10 =>
                  uncV ys6 fun x7 ys7 =>
                  rC x7 fun c16 =>
                  asB c16 fun b5 =>
                  nilV ys7 <|
                  bif decide (IntKind.i64.wrap (i10 - y.2.1) < IntKind.i64.wrap (y.2.2.1 - i10)) then
                    (cl fu d fn_slices_pdqsortOrdered_int [V.own 1000000 0 p3.2.1.1, I y.2.1, I i10, I p.2.2.1] [.sb ty_int 0 cs13]).bind fun out17 =>
                    uncO out17.objs fun o14 os14 =>
                    rS o14 ty_int 0 fun cs14 =>
                    need (Nat.beq cs14.length cs13.length) <|
                    some (0, ((p3.2.1.1, cs14), IntKind.i64.wrap (i10 + 1), y.2.2.1, p.2.2.1, decide (IntKind.i64.wrap (i10 - y.2.1) ≥ IntKind.i64.wrap (Int.tdiv (IntKind.i64.wrap (y.2.2.1 - y.2.1)) 8)), b5, ()))
                  else
                    (cl fu d fn_slices_pdqsortOrdered_int [V.own 1000000 0 p3.2.1.1, I (IntKind.i64.wrap (i10 + 1)), I y.2.2.1, I p.2.2.1] [.sb ty_int 0 cs13]).bind fun out18 =>
                    uncO out18.objs fun o15 os15 =>
                    rS o15 ty_int 0 fun cs15 =>
                    need (Nat.beq cs15.length cs13.length) <|
                    some (0, ((p3.2.1.1, cs15), y.2.1, i10, p.2.2.1, decide (IntKind.i64.wrap (y.2.2.1 - i10) ≥ IntKind.i64.wrap (Int.tdiv (IntKind.i64.wrap (y.2.2.1 - y.2.1)) 8)), b5, ()))
              else
                (cl fu d fn_slices_partitionOrdered_int [V.own 1000000 0 p3.2.1.1, I y.2.1, I y.2.2.1, I p1.2.2.1] [.sb ty_int 0 p3.2.1.2]).bind fun out19 =>
                uncO out19.objs fun o16 os16 =>
                rS o16 ty_int 0 fun cs16 =>
                need (Nat.beq cs16.length p3.2.1.2.length) <|
                rT out19.r fun xs4 =>
                uncV xs4 fun x8 ys8 =>
                rC x8 fun c17 =>
                asI .i64 c17 fun i11 =>
                uncV ys8 fun x9 ys9 =>
                rC x9 fun c18 =>
                asB c18 fun b6 =>
                nilV ys9 <|
                bif decide (IntKind.i64.wrap (i11 - y.2.1) < IntKind.i64.wrap (y.2.2.1 - i11)) then
                  (cl fu d fn_slices_pdqsortOrdered_int [V.own 1000000 0 p3.2.1.1, I y.2.1, I i11, I p.2.2.1] [.sb ty_int 0 cs16]).bind fun out20 =>
                  uncO out20.objs fun o17 os17 =>
                  rS o17 ty_int 0 fun cs17 =>
                  need (Nat.beq cs17.length cs16.length) <|
                  some (0, ((p3.2.1.1, cs17), IntKind.i64.wrap (i11 + 1), y.2.2.1, p.2.2.1, decide (IntKind.i64.wrap (i11 - y.2.1) ≥ IntKind.i64.wrap (Int.tdiv (IntKind.i64.wrap (y.2.2.1 - y.2.1)) 8)), b6, ()))
                else
                  (cl fu d fn_slices_pdqsortOrdered_int [V.own 1000000 0 p3.2.1.1, I (IntKind.i64.wrap (i11 + 1)), I y.2.2.1, I p.2.2.1] [.sb ty_int 0 cs16]).bind fun out21 =>
                  uncO out21.objs fun o18 os18 =>
                  rS o18 ty_int 0 fun cs18 =>
                  need (Nat.beq cs18.length cs16.length) <|
                  some (0, ((p3.2.1.1, cs18), y.2.1, i11, p.2.2.1, decide (IntKind.i64.wrap (y.2.2.1 - i11) ≥ IntKind.i64.wrap (Int.tdiv (IntKind.i64.wrap (y.2.2.1 - y.2.1)) 8)), b6, ()))
          else
            (some (1, ((p1.2.1.1, p1.2.1.2), ())) : Option (Nat × (Nat × List C) × Unit)).bind fun p4 =>
            natD p4.1 (
              some (1, ((p4.2.1.1, p4.2.1.2), y.2.1, y.2.2.1, p.2.2.1, y.2.2.2.2.1, y.2.2.2.2.2.1, ()))) fun m2 =>
            bif decide (y.2.1 > 0) then
              need (inR (IntKind.i64.wrap (y.2.1 - 1)) p4.2.1.1) <|
              unc (List.drop (0 + (((IntKind.i64.wrap (y.2.1 - 1)).toNat) * 1)) p4.2.1.2) fun c19 _ =>
              asI .i64 c19 fun i12 =>
              need (inR p1.2.2.1 p4.2.1.1) <|
              unc (List.drop (0 + (p1.2.2.1.toNat * 1)) p4.2.1.2) fun c20 _ =>
              asI .i64 c20 fun i13 =>
              (cl fu d fn_cmp_Less_int [I i12, I i13] []).bind fun out22 =>
              rC out22.r fun c21 =>
              asB c21 fun b7 =>
              bif !b7 then
                (cl fu d fn_slices_partitionEqualOrdered_int [V.own 1000000 0 p4.2.1.1, I y.2.1, I y.2.2.1, I p1.2.2.1] [.sb ty_int 0 p4.2.1.2]).bind fun out23 =>
                uncO out23.objs fun o19 os19 =>
                rS o19 ty_int 0 fun cs19 =>
                need (Nat.beq cs19.length p4.2.1.2.length) <|
                rC out23.r fun c22 =>
                asI .i64 c22 fun i14 =>
                some (0, ((p4.2.1.1, cs19), i14, y.2.2.1, p.2.2.1, y.2.2.2.2.1, y.2.2.2.2.2.1, ()))
              else
                (cl fu d fn_slices_partitionOrdered_int [V.own 1000000 0 p4.2.1.1, I y.2.1, I y.2.2.1, I p1.2.2.1] [.sb ty_int 0 p4.2.1.2]).bind fun out24 =>
                uncO out24.objs fun o20 os20 =>
                rS o20 ty_int 0 fun cs20 =>
                need (Nat.beq cs20.length p4.2.1.2.length) <|
                rT out24.r fun xs5 =>
                uncV xs5 fun x10 ys10 =>
                rC x10 fun c23 =>
                asI .i64 c23 fun i15 =>
                uncV ys10 fun x11 ys11 =>
                rC x11 fun c24 =>
                asB c24 fun b8 =>
                nilV ys11 <|
                bif decide (IntKind.i64.wrap (i15 - y.2.1) < IntKind.i64.wrap (y.2.2.1 - i15)) then
                  (cl fu d fn_slices_pdqsortOrdered_int [V.own 1000000 0 p4.2.1.1, I y.2.1, I i15, I p.2.2.1] [.sb ty_int 0 cs20]).bind fun out25 =>
                  uncO out25.objs fun o21 os21 =>
                  rS o21 ty_int 0 fun cs21 =>
                  need (Nat.beq cs21.length cs20.length) <|
                  some (0, ((p4.2.1.1, cs21), IntKind.i64.wrap (i15 + 1), y.2.2.1, p.2.2.1, decide (IntKind.i64.wrap (i15 - y.2.1) ≥ IntKind.i64.wrap (Int.tdiv (IntKind.i64.wrap (y.2.2.1 - y.2.1)) 8)), b8, ()))
                else
                  (cl fu d fn_slices_pdqsortOrdered_int [V.own 1000000 0 p4.2.1.1, I (IntKind.i64.wrap (i15 + 1)), I y.2.2.1, I p.2.2.1] [.sb ty_int 0 cs20]).bind fun out26 =>
                  uncO out26.objs fun o22 os22 =>
                  rS o22 ty_int 0 fun cs22 =>
                  need (Nat.beq cs22.length cs20.length) <|
                  some (0, ((p4.2.1.1, cs22), y.2.1, i15, p.2.2.1, decide (IntKind.i64.wrap (y.2.2.1 - i15) ≥ IntKind.i64.wrap (Int.tdiv (IntKind.i64.wrap (y.2.2.1 - y.2.1)) 8)), b8, ()))
            else
              (cl fu d fn_slices_partitionOrdered_int [V.own 1000000 0 p4.2.1.1, I y.2.1, I y.2.2.1, I p1.2.2.1] [.sb ty_int 0 p4.2.1.2]).bind fun out27 =>
              uncO out27.objs fun o23 os23 =>
              rS o23 ty_int 0 fun cs23 =>
              need (Nat.beq cs23.length p4.2.1.2.length) <|
              rT out27.r fun xs6 =>
              uncV xs6 fun x12 ys12 =>
              rC x12 fun c25 =>
              asI .i64 c25 fun i16 =>
              uncV ys12 fun x13 ys13 =>
              rC x13 fun c26 =>
              asB c26 fun b9 =>
              nilV ys13 <|
              bif decide (IntKind.i64.wrap (i16 - y.2.1) < IntKind.i64.wrap (y.2.2.1 - i16)) then
                (cl fu d fn_slices_pdqsortOrdered_int [V.own 1000000 0 p4.2.1.1, I y.2.1, I i16, I p.2.2.1] [.sb ty_int 0 cs23]).bind fun out28 =>
                uncO out28.objs fun o24 os24 =>
                rS o24 ty_int 0 fun cs24 =>
                need (Nat.beq cs24.length cs23.length) <|
                some (0, ((p4.2.1.1, cs24), IntKind.i64.wrap (i16 + 1), y.2.2.1, p.2.2.1, decide (IntKind.i64.wrap (i16 - y.2.1) ≥ IntKind.i64.wrap (Int.tdiv (IntKind.i64.wrap (y.2.2.1 - y.2.1)) 8)), b9, ()))
              else
                (cl fu d fn_slices_pdqsortOrdered_int [V.own 1000000 0 p4.2.1.1, I (IntKind.i64.wrap (i16 + 1)), I y.2.2.1, I p.2.2.1] [.sb ty_int 0 cs23]).bind fun out29 =>
                uncO out29.objs fun o25 os25 =>
                rS o25 ty_int 0 fun cs25 =>
                need (Nat.beq cs25.length cs23.length) <|
                some (0, ((p4.2.1.1, cs25), y.2.1, i16, p.2.2.1, decide (IntKind.i64.wrap (y.2.2.1 - i16) ≥ IntKind.i64.wrap (Int.tdiv (IntKind.i64.wrap (y.2.2.1 - y.2.1)) 8)), b9, ()))) fu ((n0, a0), a1, a2, a3, true, true, ())).bind fun p5 =>
    some ⟨V.tup [], [.sb ty_int 0 p5.2.1.2], none⟩) := by kernel_rfl
/- math/bits.Len -/
theorem eq_bits_Len (fu d : Nat) (a0 : Int) :
    cl fu (d + 1) fn_bits_Len [V.c (C.v (.int .u64 a0))] [] = (
    (cl fu d fn_bits_Len64 [V.c (C.v (.int .u64 a0))] []).bind fun out =>
    rC out.r fun c =>
    asI .i64 c fun i =>
    some ⟨I i, [], none⟩) := by kernel_rfl
/- slices.IndexFunc[[]synoptic/api.Reading,synoptic/api.Reading] -/
theorem eq_slices_IndexFunc_sapi_Reading_api_Reading (fu d : Nat) (n0 : Nat) (a0 : List C) (k1 : Nat) :
    cl fu (d + 1) fn_slices_IndexFunc_sapi_Reading_api_Reading [V.c (C.sl n0 a0), V.c (C.fn k1 ([]))] [] = (
    (iter (fun (y : Int × Int × Unit) =>
      bif decide (y.2.1 < ((n0 : Nat) : Int)) then
        need (inR y.2.1 n0) <|
        unc (List.drop (y.2.1.toNat * 2) a0) fun c r =>
        asI .i64 c fun i =>
        unc r fun c1 _ =>
        asI .i64 c1 fun i1 =>
        (cl fu d k1 [V.agg ([C.v (.int .i64 i), C.v (.int .i64 i1)])] []).bind fun out =>
        rC out.r fun c2 =>
        asB c2 fun b =>
        bif b then
          some (2, (y.2.1, y.2.1, ()))
        else
          some (0, (y.1, IntKind.i64.wrap (y.2.1 + 1), ()))
      else
        some (1, (y.1, y.2.1, ()))) fu (0, 0, ())).bind fun p =>
    natD p.1 (
      some ⟨I (-1), [], none⟩) fun m =>
    some ⟨I p.2.1, [], none⟩) := by kernel_rfl
/- slices.IndexFunc[[]synoptic/api.Reading,synoptic/api.Reading] -/
theorem eq1_slices_IndexFunc_sapi_Reading_api_Reading (fu d : Nat) (n0 : Nat) (a0 : List C) (k1 : Nat) (a1_0 : C) :
    cl fu (d + 1) fn_slices_IndexFunc_sapi_Reading_api_Reading [V.c (C.sl n0 a0), V.c (C.fn k1 ([a1_0]))] [] = (
    (iter (fun (y : Int × Int × Unit) =>
      bif decide (y.2.1 < ((n0 : Nat) : Int)) then
        need (inR y.2.1 n0) <|
        unc (List.drop (y.2.1.toNat * 2) a0) fun c r =>
        asI .i64 c fun i =>
        unc r fun c1 _ =>
        asI .i64 c1 fun i1 =>
        (cl fu d k1 [V.agg ([C.v (.int .i64 i), C.v (.int .i64 i1)]), V.c a1_0] []).bind fun out =>
        rC out.r fun c2 =>
        asB c2 fun b =>
        bif b then
          some (2, (y.2.1, y.2.1, ()))
        else
          some (0, (y.1, IntKind.i64.wrap (y.2.1 + 1), ()))
      else
        some (1, (y.1, y.2.1, ()))) fu (0, 0, ())).bind fun p =>
    natD p.1 (
      some ⟨I (-1), [], none⟩) fun m =>
    some ⟨I p.2.1, [], none⟩) := by kernel_rfl
/- slices.IndexFunc[[]synoptic/api.Reading,synoptic/api.Reading] -/
theorem eq2_slices_IndexFunc_sapi_Reading_api_Reading (fu d : Nat) (n0 : Nat) (a0 : List C) (k1 : Nat) (a1_0 : C) (a1_1 : C) :
    cl fu (d + 1) fn_slices_IndexFunc_sapi_Reading_api_Reading [V.c (C.sl n0 a0), V.c (C.fn k1 ([a1_0, a1_1]))] [] = (
    (iter (fun (y : Int × Int × Unit) =>
      bif decide (y.2.1 < ((n0 : Nat) : Int)) then
        need (inR y.2.1 n0) <|
        unc (List.drop (y.2.1.toNat * 2) a0) fun c r =>
        asI .i64 c fun i =>
        unc r fun c1 _ =>
        asI .i64 c1 fun i1 =>
        (cl fu d k1 [V.agg ([C.v (.int .i64 i), C.v (.int .i64 i1)]), V.c a1_0, V.c a1_1] []).bind fun out =>
        rC out.r fun c2 =>
        asB c2 fun b =>
        bif b then
          some (2, (y.2.1, y.2.1, ()))
        else
          some (0, (y.1, IntKind.i64.wrap (y.2.1 + 1), ()))
      else
        some (1, (y.1, y.2.1, ()))) fu (0, 0, ())).bind fun p =>
    natD p.1 (
      some ⟨I (-1), [], none⟩) fun m =>
    some ⟨I p.2.1, [], none⟩) := by kernel_rfl
/- slices.IndexFunc[[]synoptic/api.Reading,synoptic/api.Reading] -/
theorem eq3_slices_IndexFunc_sapi_Reading_api_Reading (fu d : Nat) (n0 : Nat) (a0 : List C) (k1 : Nat) (a1_0 : C) (a1_1 : C) (a1_2 : C) :
    cl fu (d + 1) fn_slices_IndexFunc_sapi_Reading_api_Reading [V.c (C.sl n0 a0), V.c (C.fn k1 ([a1_0, a1_1, a1_2]))] [] = (
    (iter (fun (y : Int × Int × Unit) =>
      bif decide (y.2.1 < ((n0 : Nat) : Int)) then
        need (inR y.2.1 n0) <|
        unc (List.drop (y.2.1.toNat * 2) a0) fun c r =>
        asI .i64 c fun i =>
        unc r fun c1 _ =>
        asI .i64 c1 fun i1 =>
        (cl fu d k1 [V.agg ([C.v (.int .i64 i), C.v (.int .i64 i1)]), V.c a1_0, V.c a1_1, V.c a1_2] []).bind fun out =>
        rC out.r fun c2 =>
        asB c2 fun b =>
        bif b then
          some (2, (y.2.1, y.2.1, ()))
        else
          some (0, (y.1, IntKind.i64.wrap (y.2.1 + 1), ()))
      else
        some (1, (y.1, y.2.1, ()))) fu (0, 0, ())).bind fun p =>
    natD p.1 (
      some ⟨I (-1), [], none⟩) fun m =>
    some ⟨I p.2.1, [], none⟩) := by kernel_rfl
/- synoptic/element.Find$1 -/
theorem eq_element_Find_1 (fu d : Nat) (a0_0 : Int) (a0_1 : Int) (e0 : List C) :
    cl fu (d + 1) fn_element_Find_1 [V.agg ([C.v (.int .i64 a0_0), C.v (.int .i64 a0_1)]), V.c (C.cp e0)] [] = (
    unc e0 fun c _ =>
    asI .i64 c fun i =>
    some ⟨B (a0_0 == i), [], none⟩) := by kernel_rfl
/- slices.insertionSortOrdered[int] -/
theorem eq_slices_insertionSortOrdered_int (fu d : Nat) (n0 : Nat) (a0 : List C) (a1 : Int) (a2 : Int) :
    cl fu (d + 1) fn_slices_insertionSortOrdered_int [V.own 1000000 0 n0, I a1, I a2] [.sb ty_int 0 a0] = (
    (iter (fun (y : (Nat × List C) × Int × Unit) =>
      bif decide (y.2.1 < a2) then
        (iter (fun (y1 : (Nat × List C) × Int × Unit) =>
          bif decide (y1.2.1 > a1) then
            need (inR y1.2.1 y1.1.1) <|
            unc (List.drop (0 + (y1.2.1.toNat * 1)) y1.1.2) fun c r =>
            asI .i64 c fun i =>
            need (inR (IntKind.i64.wrap (y1.2.1 - 1)) y1.1.1) <|
            unc (List.drop (0 + (((IntKind.i64.wrap (y1.2.1 - 1)).toNat) * 1)) y1.1.2) fun c1 _ =>
            asI .i64 c1 fun i1 =>
            (cl fu d fn_cmp_Less_int [I i, I i1] []).bind fun out =>
            rC out.r fun c2 =>
            asB c2 fun b =>
            bif b then
              need (inR (IntKind.i64.wrap (y1.2.1 - 1)) y1.1.1) <|
              unc (List.drop (0 + (((IntKind.i64.wrap (y1.2.1 - 1)).toNat) * 1)) y1.1.2) fun c3 _ =>
              asI .i64 c3 fun i2 =>
              need (inR y1.2.1 y1.1.1) <|
              unc (List.drop (0 + (y1.2.1.toNat * 1)) y1.1.2) fun c4 _ =>
              asI .i64 c4 fun i3 =>
              need (inR y1.2.1 y1.1.1) <|
              need (((Nat.ble 0 (0 + (y1.2.1.toNat * 1))) && (Nat.ble ((0 + (y1.2.1.toNat * 1)) + 1) y1.1.2.length)) && true) <|
              need (inR (IntKind.i64.wrap (y1.2.1 - 1)) y1.1.1) <|
              need (((Nat.ble 0 (0 + (((IntKind.i64.wrap (y1.2.1 - 1)).toNat) * 1))) && (Nat.ble ((0 + (((IntKind.i64.wrap (y1.2.1 - 1)).toNat) * 1)) + 1) ((putAt y1.1.2 (0 + (y1.2.1.toNat * 1)) ([C.v (.int .i64 i2)])).length))) && true) <|
              some (0, ((y1.1.1, putAt (putAt y1.1.2 (0 + (y1.2.1.toNat * 1)) ([C.v (.int .i64 i2)])) (0 + (((IntKind.i64.wrap (y1.2.1 - 1)).toNat) * 1)) ([C.v (.int .i64 i3)])), IntKind.i64.wrap (y1.2.1 - 1), ()))
            else
              some (1, ((y1.1.1, y1.1.2), y1.2.1, ()))
          else
            some (1, ((y1.1.1, y1.1.2), y1.2.1, ()))) fu ((y.1.1, y.1.2), y.2.1, ())).bind fun p =>
        some (0, ((p.2.1.1, p.2.1.2), IntKind.i64.wrap (y.2.1 + 1), ()))
      else
        some (1, ((y.1.1, y.1.2), y.2.1, ()))) fu ((n0, a0), IntKind.i64.wrap (a1 + 1), ())).bind fun p1 =>
    some ⟨V.tup [], [.sb ty_int 0 p1.2.1.2], none⟩) := by kernel_rfl
/- slices.heapSortOrdered[int] -/
theorem eq_slices_heapSortOrdered_int (fu d : Nat) (n0 : Nat) (a0 : List C) (a1 : Int) (a2 : Int) :
    cl fu (d + 1) fn_slices_heapSortOrdered_int [V.own 1000000 0 n0, I a1, I a2] [.sb ty_int 0 a0] = (
    (iter (fun (y : (Nat × List C) × Int × Unit) =>
      bif decide (y.2.1 ≥ 0) then
        (cl fu d fn_slices_siftDownOrdered_int [V.own 1000000 0 y.1.1, I y.2.1, I (IntKind.i64.wrap (a2 - a1)), I a1] [.sb ty_int 0 y.1.2]).bind fun out =>
        uncO out.objs fun o os =>
        rS o ty_int 0 fun cs =>
        need (Nat.beq cs.length y.1.2.length) <|
        some (0, ((y.1.1, cs), IntKind.i64.wrap (y.2.1 - 1), ()))
      else
        some (1, ((y.1.1, y.1.2), y.2.1, ()))) fu ((n0, a0), IntKind.i64.wrap (Int.tdiv (IntKind.i64.wrap ((IntKind.i64.wrap (a2 - a1)) - 1)) 2), ())).bind fun p =>
    (iter (fun (y1 : (Nat × List C) × Int × Unit) =>
      bif decide (y1.2.1 ≥ 0) then
        need (inR (IntKind.i64.wrap (a1 + y1.2.1)) y1.1.1) <|
        unc (List.drop (0 + (((IntKind.i64.wrap (a1 + y1.2.1)).toNat) * 1)) y1.1.2) fun c _ =>
        asI .i64 c fun i =>
        need (inR a1 y1.1.1) <|
        unc (List.drop (0 + (a1.toNat * 1)) y1.1.2) fun c1 _ =>
        asI .i64 c1 fun i1 =>
        need (inR a1 y1.1.1) <|
        need (((Nat.ble 0 (0 + (a1.toNat * 1))) && (Nat.ble ((0 + (a1.toNat * 1)) + 1) y1.1.2.length)) && true) <|
        need (inR (IntKind.i64.wrap (a1 + y1.2.1)) y1.1.1) <|
        need (((Nat.ble 0 (0 + (((IntKind.i64.wrap (a1 + y1.2.1)).toNat) * 1))) && (Nat.ble ((0 + (((IntKind.i64.wrap (a1 + y1.2.1)).toNat) * 1)) + 1) ((putAt y1.1.2 (0 + (a1.toNat * 1)) ([C.v (.int .i64 i)])).length))) && true) <|
        (cl fu d fn_slices_siftDownOrdered_int [V.own 1000000 0 y1.1.1, I 0, I y1.2.1, I a1] [.sb ty_int 0 (putAt (putAt y1.1.2 (0 + (a1.toNat * 1)) ([C.v (.int .i64 i)])) (0 + (((IntKind.i64.wrap (a1 + y1.2.1)).toNat) * 1)) ([C.v (.int .i64 i1)]))]).bind fun out1 =>
        uncO out1.objs fun o1 os1 =>
        rS o1 ty_int 0 fun cs1 =>
        need (Nat.beq cs1.length ((putAt (putAt y1.1.2 (0 + (a1.toNat * 1)) ([C.v (.int .i64 i)])) (0 + (((IntKind.i64.wrap (a1 + y1.2.1)).toNat) * 1)) ([C.v (.int .i64 i1)])).length)) <|
        some (0, ((y1.1.1, cs1), IntKind.i64.wrap (y1.2.1 - 1), ()))
      else
        some (1, ((y1.1.1, y1.1.2), y1.2.1, ()))) fu ((p.2.1.1, p.2.1.2), IntKind.i64.wrap ((IntKind.i64.wrap (a2 - a1)) - 1), ())).bind fun p1 =>
    some ⟨V.tup [], [.sb ty_int 0 p1.2.1.2], none⟩) := by kernel_rfl
/- slices.breakPatternsOrdered[int] -/
theorem eq_slices_breakPatternsOrdered_int (fu d : Nat) (n0 : Nat) (a0 : List C) (a1 : Int) (a2 : Int) :
    cl fu (d + 1) fn_slices_breakPatternsOrdered_int [V.own 1000000 0 n0, I a1, I a2] [.sb ty_int 0 a0] = (
    bif decide (IntKind.i64.wrap (a2 - a1) ≥ 8) then
      (cl fu d fn_slices_nextPowerOfTwo [I (IntKind.i64.wrap (a2 - a1))] []).bind fun out =>
      rC out.r fun c =>
      asI .u64 c fun i =>
      bd (IntKind.i64.wrap ((IntKind.i64.wrap (a1 + (IntKind.i64.wrap ((IntKind.i64.wrap (Int.tdiv (IntKind.i64.wrap (a2 - a1)) 4)) * 2)))) - 1)) fun z =>
      (iter (fun (y : (Nat × List C) × Int × Unit) =>
        bd (IntKind.i64.wrap ((IntKind.i64.wrap (a1 + (IntKind.i64.wrap ((IntKind.i64.wrap (Int.tdiv (IntKind.i64.wrap (a2 - a1)) 4)) * 2)))) + 1)) fun z1 =>
        bif decide (y.2.1 ≤ z1) then
          (cl fu d fn_slices_xorshift_Next [V.c (C.cp ([C.v (.int .u64 (IntKind.u64.wrap (IntKind.i64.wrap (a2 - a1))))]))] []).bind fun out1 =>
          rC out1.r fun c1 =>
          asI .u64 c1 fun i1 =>
          bd (IntKind.u64.wrap (BitVec.ofInt (IntKind.bits .u64) i1 &&& BitVec.ofInt (IntKind.bits .u64) (IntKind.u64.wrap (i - 1))).toNat) fun z2 =>
          (bif decide (IntKind.i64.wrap z2 ≥ IntKind.i64.wrap (a2 - a1)) then
            some (0, ((y.1.1, y.1.2), IntKind.i64.wrap ((IntKind.i64.wrap z2) - (IntKind.i64.wrap (a2 - a1))), ()))
          else
            some (0, ((y.1.1, y.1.2), IntKind.i64.wrap z2, ())) : Option (Nat × (Nat × List C) × Int × Unit)).bind fun p =>
          need (inR (IntKind.i64.wrap (a1 + p.2.2.1)) p.2.1.1) <|
          unc (List.drop (0 + (((IntKind.i64.wrap (a1 + p.2.2.1)).toNat) * 1)) p.2.1.2) fun c2 _ =>
          asI .i64 c2 fun i2 =>
          need (inR y.2.1 p.2.1.1) <|
          unc (List.drop (0 + (y.2.1.toNat * 1)) p.2.1.2) fun c3 _ =>
          asI .i64 c3 fun i3 =>
          need (inR y.2.1 p.2.1.1) <|
          need (((Nat.ble 0 (0 + (y.2.1.toNat * 1))) && (Nat.ble ((0 + (y.2.1.toNat * 1)) + 1) p.2.1.2.length)) && true) <|
          need (inR (IntKind.i64.wrap (a1 + p.2.2.1)) p.2.1.1) <|
          need (((Nat.ble 0 (0 + (((IntKind.i64.wrap (a1 + p.2.2.1)).toNat) * 1))) && (Nat.ble ((0 + (((IntKind.i64.wrap (a1 + p.2.2.1)).toNat) * 1)) + 1) ((putAt p.2.1.2 (0 + (y.2.1.toNat * 1)) ([C.v (.int .i64 i2)])).length))) && true) <|
          some (0, ((p.2.1.1, putAt (putAt p.2.1.2 (0 + (y.2.1.toNat * 1)) ([C.v (.int .i64 i2)])) (0 + (((IntKind.i64.wrap (a1 + p.2.2.1)).toNat) * 1)) ([C.v (.int .i64 i3)])), IntKind.i64.wrap (y.2.1 + 1), ()))
        else
          some (1, ((y.1.1, y.1.2), y.2.1, ()))) fu ((n0, a0), z, ())).bind fun p1 =>
      some ⟨V.tup [], [.sb ty_int 0 p1.2.1.2], none⟩
    else
      some ⟨V.tup [], [.sb ty_int 0 a0], none⟩) := by kernel_rfl
/- slices.choosePivotOrdered[int] -/
theorem eq_slices_choosePivotOrdered_int (fu d : Nat) (n0 : Nat) (a0 : List C) (a1 : Int) (a2 : Int) :
    cl fu (d + 1) fn_slices_choosePivotOrdered_int [V.c (C.sl n0 a0), I a1, I a2] [] = (
    (bif decide (IntKind.i64.wrap (a2 - a1) ≥ 8) then
      (bif decide (IntKind.i64.wrap (a2 - a1) ≥ 50) then
        (cl fu d fn_slices_medianAdjacentOrdered_int [V.c (C.sl n0 a0), I (IntKind.i64.wrap (a1 + (IntKind.i64.wrap ((IntKind.i64.wrap (Int.tdiv (IntKind.i64.wrap (a2 - a1)) 4)) * 1)))), V.ptr 1000000 0] [.ob ty_int 0 ([C.v (.int .i64 0)])]).bind fun out =>
        uncO out.objs fun o os =>
        rO o ty_int 0 fun cs =>
        need ((Nat.beq cs.length 1) && true) <|
        unc cs fun c r =>
        asI .i64 c fun i =>
        rC out.r fun c1 =>
        asI .i64 c1 fun i1 =>
        (cl fu d fn_slices_medianAdjacentOrdered_int [V.c (C.sl n0 a0), I (IntKind.i64.wrap (a1 + (IntKind.i64.wrap ((IntKind.i64.wrap (Int.tdiv (IntKind.i64.wrap (a2 - a1)) 4)) * 2)))), V.ptr 1000000 0] [.ob ty_int 0 ([C.v (.int .i64 i)])]).bind fun out1 =>
        uncO out1.objs fun o1 os1 =>
        rO o1 ty_int 0 fun cs1 =>
        need ((Nat.beq cs1.length 1) && true) <|
        unc cs1 fun c2 _ =>
        asI .i64 c2 fun i2 =>
        rC out1.r fun c3 =>
        asI .i64 c3 fun i3 =>
        (cl fu d fn_slices_medianAdjacentOrdered_int [V.c (C.sl n0 a0), I (IntKind.i64.wrap (a1 + (IntKind.i64.wrap ((IntKind.i64.wrap (Int.tdiv (IntKind.i64.wrap (a2 - a1)) 4)) * 3)))), V.ptr 1000000 0] [.ob ty_int 0 ([C.v (.int .i64 i2)])]).bind fun out2 =>
        uncO out2.objs fun o2 os2 =>
        rO o2 ty_int 0 fun cs2 =>
        need ((Nat.beq cs2.length 1) && true) <|
        unc cs2 fun c4 _ =>
        asI .i64 c4 fun i4 =>
        rC out2.r fun c5 =>
        asI .i64 c5 fun i5 =>
        some (0, (i1, i3, i5, (i4, ()), ()))
      else
        some (0, (IntKind.i64.wrap (a1 + (IntKind.i64.wrap ((IntKind.i64.wrap (Int.tdiv (IntKind.i64.wrap (a2 - a1)) 4)) * 1))), IntKind.i64.wrap (a1 + (IntKind.i64.wrap ((IntKind.i64.wrap (Int.tdiv (IntKind.i64.wrap (a2 - a1)) 4)) * 2))), IntKind.i64.wrap (a1 + (IntKind.i64.wrap ((IntKind.i64.wrap (Int.tdiv (IntKind.i64.wrap (a2 - a1)) 4)) * 3))), (0, ()), ())) : Option (Nat × Int × Int × Int × (Int × Unit) × Unit)).bind fun p =>
      (cl fu d fn_slices_medianOrdered_int [V.c (C.sl n0 a0), I p.2.1, I p.2.2.1, I p.2.2.2.1, V.ptr 1000000 0] [.ob ty_int 0 ([C.v (.int .i64 p.2.2.2.2.1.1)])]).bind fun out3 =>
      uncO out3.objs fun o3 os3 =>
      rO o3 ty_int 0 fun cs3 =>
      need ((Nat.beq cs3.length 1) && true) <|
      unc cs3 fun c6 _ =>
      asI .i64 c6 fun i6 =>
      rC out3.r fun c7 =>
      asI .i64 c7 fun i7 =>
      some (0, (i7, (i6, ()), ()))
    else
      some (0, (IntKind.i64.wrap (a1 + (IntKind.i64.wrap ((IntKind.i64.wrap (Int.tdiv (IntKind.i64.wrap (a2 - a1)) 4)) * 2))), (0, ()), ())) : Option (Nat × Int × (Int × Unit) × Unit)).bind fun p1 =>
    bif p1.2.2.1.1 == 0 then
      some ⟨V.tup [I p1.2.1, I 1], [], none⟩
    else
      bif p1.2.2.1.1 == 12 then
        some ⟨V.tup [I p1.2.1, I 2], [], none⟩
      else
        some ⟨V.tup [I p1.2.1, I 0], [], none⟩) := by kernel_rfl
/- slices.reverseRangeOrdered[int] -/
theorem eq_slices_reverseRangeOrdered_int (fu d : Nat) (n0 : Nat) (a0 : List C) (a1 : Int) (a2 : Int) :
    cl fu (d + 1) fn_slices_reverseRangeOrdered_int [V.own 1000000 0 n0, I a1, I a2] [.sb ty_int 0 a0] = (
    (iter (fun (y : (Nat × List C) × Int × Int × Unit) =>
      bif decide (y.2.1 < y.2.2.1) then
        need (inR y.2.2.1 y.1.1) <|
        unc (List.drop (0 + (y.2.2.1.toNat * 1)) y.1.2) fun c _ =>
        asI .i64 c fun i =>
        need (inR y.2.1 y.1.1) <|
        unc (List.drop (0 + (y.2.1.toNat * 1)) y.1.2) fun c1 _ =>
        asI .i64 c1 fun i1 =>
        need (inR y.2.1 y.1.1) <|
        need (((Nat.ble 0 (0 + (y.2.1.toNat * 1))) && (Nat.ble ((0 + (y.2.1.toNat * 1)) + 1) y.1.2.length)) && true) <|
        need (inR y.2.2.1 y.1.1) <|
        need (((Nat.ble 0 (0 + (y.2.2.1.toNat * 1))) && (Nat.ble ((0 + (y.2.2.1.toNat * 1)) + 1) ((putAt y.1.2 (0 + (y.2.1.toNat * 1)) ([C.v (.int .i64 i)])).length))) && true) <|
        some (0, ((y.1.1, putAt (putAt y.1.2 (0 + (y.2.1.toNat * 1)) ([C.v (.int .i64 i)])) (0 + (y.2.2.1.toNat * 1)) ([C.v (.int .i64 i1)])), IntKind.i64.wrap (y.2.1 + 1), IntKind.i64.wrap (y.2.2.1 - 1), ()))
      else
        some (1, ((y.1.1, y.1.2), y.2.1, y.2.2.1, ()))) fu ((n0, a0), a1, IntKind.i64.wrap (a2 - 1), ())).bind fun p =>
    some ⟨V.tup [], [.sb ty_int 0 p.2.1.2], none⟩) := by kernel_rfl
/- slices.partialInsertionSortOrdered[int] -/
theorem eq_slices_partialInsertionSortOrdered_int (fu d : Nat) (n0 : Nat) (a0 : List C) (a1 : Int) (a2 : Int) :
    cl fu (d + 1) fn_slices_partialInsertionSortOrdered_int [V.own 1000000 0 n0, I a1, I a2] [.sb ty_int 0 a0] = (
    (iter (fun (y : (Nat × List C) × Bool × Int × Int × Unit) =>
      bif decide (y.2.2.2.1 < 5) then
        (iter (fun (y1 : (Nat × List C) × Int × Unit) =>
          bif decide (y1.2.1 < a2) then
            need (inR y1.2.1 y1.1.1) <|
            unc (List.drop (0 + (y1.2.1.toNat * 1)) y1.1.2) fun c r =>
            asI .i64 c fun i =>
            need (inR (IntKind.i64.wrap (y1.2.1 - 1)) y1.1.1) <|
            unc (List.drop (0 + (((IntKind.i64.wrap (y1.2.1 - 1)).toNat) * 1)) y1.1.2) fun c1 _ =>
            asI .i64 c1 fun i1 =>
            (cl fu d fn_cmp_Less_int [I i, I i1] []).bind fun out =>
            rC out.r fun c2 =>
            asB c2 fun b =>
            bif !b then
              some (0, ((y1.1.1, y1.1.2), IntKind.i64.wrap (y1.2.1 + 1), ()))
            else
              some (1, ((y1.1.1, y1.1.2), y1.2.1, ()))
          else
            some (1, ((y1.1.1, y1.1.2), y1.2.1, ()))) fu ((y.1.1, y.1.2), y.2.2.1, ())).bind fun p =>
        bif p.2.2.1 == a2 then
          some (2, ((p.2.1.1, p.2.1.2), true, p.2.2.1, y.2.2.2.1, ()))
        else
          bif decide (IntKind.i64.wrap (a2 - a1) < 50) then
            some (2, ((p.2.1.1, p.2.1.2), false, p.2.2.1, y.2.2.2.1, ()))
          else
            need (inR (IntKind.i64.wrap (p.2.2.1 - 1)) p.2.1.1) <|
            unc (List.drop (0 + (((IntKind.i64.wrap (p.2.2.1 - 1)).toNat) * 1)) p.2.1.2) fun c3 _ =>
            asI .i64 c3 fun i2 =>
            need (inR p.2.2.1 p.2.1.1) <|
            unc (List.drop (0 + (p.2.2.1.toNat * 1)) p.2.1.2) fun c4 _ =>
            asI .i64 c4 fun i3 =>
            need (inR p.2.2.1 p.2.1.1) <|
            need (((Nat.ble 0 (0 + (p.2.2.1.toNat * 1))) && (Nat.ble ((0 + (p.2.2.1.toNat * 1)) + 1) p.2.1.2.length)) && true) <|
            need (inR (IntKind.i64.wrap (p.2.2.1 - 1)) p.2.1.1) <|
            need (((Nat.ble 0 (0 + (((IntKind.i64.wrap (p.2.2.1 - 1)).toNat) * 1))) && (Nat.ble ((0 + (((IntKind.i64.wrap (p.2.2.1 - 1)).toNat) * 1)) + 1) ((putAt p.2.1.2 (0 + (p.2.2.1.toNat * 1)) ([C.v (.int .i64 i2)])).length))) && true) <|
            (bif decide (IntKind.i64.wrap (p.2.2.1 - a1) ≥ 2) then
              (iter (fun (y2 : (Nat × List C) × Int × Unit) =>
                bif decide (y2.2.1 ≥ 1) then
                  need (inR y2.2.1 y2.1.1) <|
                  unc (List.drop (0 + (y2.2.1.toNat * 1)) y2.1.2) fun c5 _ =>
                  asI .i64 c5 fun i4 =>
                  need (inR (IntKind.i64.wrap (y2.2.1 - 1)) y2.1.1) <|
                  unc (List.drop (0 + (((IntKind.i64.wrap (y2.2.1 - 1)).toNat) * 1)) y2.1.2) fun c6 _ =>
                  asI .i64 c6 fun i5 =>
                  (cl fu d fn_cmp_Less_int [I i4, I i5] []).bind fun out1 =>
                  rC out1.r fun c7 =>
                  asB c7 fun b1 =>
                  bif !b1 then
                    some (1, ((y2.1.1, y2.1.2), y2.2.1, ()))
                  else
                    need (inR (IntKind.i64.wrap (y2.2.1 - 1)) y2.1.1) <|
                    unc (List.drop (0 + (((IntKind.i64.wrap (y2.2.1 - 1)).toNat) * 1)) y2.1.2) fun c8 _ =>
                    asI .i64 c8 fun i6 =>
                    need (inR y2.2.1 y2.1.1) <|
                    unc (List.drop (0 + (y2.2.1.toNat * 1)) y2.1.2) fun c9 _ =>
                    asI .i64 c9 fun i7 =>
                    need (inR y2.2.1 y2.1.1) <|
                    need (((Nat.ble 0 (0 + (y2.2.1.toNat * 1))) && (Nat.ble ((0 + (y2.2.1.toNat * 1)) + 1) y2.1.2.length)) && true) <|
                    need (inR (IntKind.i64.wrap (y2.2.1 - 1)) y2.1.1) <|
                    need (((Nat.ble 0 (0 + (((IntKind.i64.wrap (y2.2.1 - 1)).toNat) * 1))) && (Nat.ble ((0 + (((IntKind.i64.wrap (y2.2.1 - 1)).toNat) * 1)) + 1) ((putAt y2.1.2 (0 + (y2.2.1.toNat * 1)) ([C.v (.int .i64 i6)])).length))) && true) <|
                    some (0, ((y2.1.1, putAt (putAt y2.1.2 (0 + (y2.2.1.toNat * 1)) ([C.v (.int .i64 i6)])) (0 + (((IntKind.i64.wrap (y2.2.1 - 1)).toNat) * 1)) ([C.v (.int .i64 i7)])), IntKind.i64.wrap (y2.2.1 - 1), ()))
                else
                  some (1, ((y2.1.1, y2.1.2), y2.2.1, ()))) fu ((p.2.1.1, putAt (putAt p.2.1.2 (0 + (p.2.2.1.toNat * 1)) ([C.v (.int .i64 i2)])) (0 + (((IntKind.i64.wrap (p.2.2.1 - 1)).toNat) * 1)) ([C.v (.int .i64 i3)])), IntKind.i64.wrap (p.2.2.1 - 1), ())).bind fun p1 =>
              some (0, ((p1.2.1.1, p1.2.1.2), ()))
            else
              some (0, ((p.2.1.1, putAt (putAt p.2.1.2 (0 + (p.2.2.1.toNat * 1)) ([C.v (.int .i64 i2)])) (0 + (((IntKind.i64.wrap (p.2.2.1 - 1)).toNat) * 1)) ([C.v (.int .i64 i3)])), ())) : Option (Nat × (Nat × List C) × Unit)).bind fun p2 =>
            bif decide (IntKind.i64.wrap (a2 - p.2.2.1) ≥ 2) then
              (iter (fun (y3 : (Nat × List C) × Int × Unit) =>
                bif decide (y3.2.1 < a2) then
                  need (inR y3.2.1 y3.1.1) <|
                  unc (List.drop (0 + (y3.2.1.toNat * 1)) y3.1.2) fun c10 _ =>
                  asI .i64 c10 fun i8 =>
                  need (inR (IntKind.i64.wrap (y3.2.1 - 1)) y3.1.1) <|
                  unc (List.drop (0 + (((IntKind.i64.wrap (y3.2.1 - 1)).toNat) * 1)) y3.1.2) fun c11 _ =>
                  asI .i64 c11 fun i9 =>
                  (cl fu d fn_cmp_Less_int [I i8, I i9] []).bind fun out2 =>
                  rC out2.r fun c12 =>
                  asB c12 fun b2 =>
                  bif !b2 then
                    some (1, ((y3.1.1, y3.1.2), y3.2.1, ()))
                  else
                    need (inR (IntKind.i64.wrap (y3.2.1 - 1)) y3.1.1) <|
                    unc (List.drop (0 + (((IntKind.i64.wrap (y3.2.1 - 1)).toNat) * 1)) y3.1.2) fun c13 _ =>
                    asI .i64 c13 fun i10 =>
                    need (inR y3.2.1 y3.1.1) <|
                    unc (List.drop (0 + (y3.2.1.toNat * 1)) y3.1.2) fun c14 _ =>
                    asI .i64 c14 fun i11 =>
                    need (inR y3.2.1 y3.1.1) <|
                    need (((Nat.ble 0 (0 + (y3.2.1.toNat * 1))) && (Nat.ble ((0 + (y3.2.1.toNat * 1)) + 1) y3.1.2.length)) && true) <|
                    need (inR (IntKind.i64.wrap (y3.2.1 - 1)) y3.1.1) <|
                    need (((Nat.ble 0 (0 + (((IntKind.i64.wrap (y3.2.1 - 1)).toNat) * 1))) && (Nat.ble ((0 + (((IntKind.i64.wrap (y3.2.1 - 1)).toNat) * 1)) + 1) ((putAt y3.1.2 (0 + (y3.2.1.toNat * 1)) ([C.v (.int .i64 i10)])).length))) && true) <|
                    some (0, ((y3.1.1, putAt (putAt y3.1.2 (0 + (y3.2.1.toNat * 1)) ([C.v (.int .i64 i10)])) (0 + (((IntKind.i64.wrap (y3.2.1 - 1)).toNat) * 1)) ([C.v (.int .i64 i11)])), IntKind.i64.wrap (y3.2.1 + 1), ()))
                else
                  some (1, ((y3.1.1, y3.1.2), y3.2.1, ()))) fu ((p2.2.1.1, p2.2.1.2), IntKind.i64.wrap (p.2.2.1 + 1), ())).bind fun p3 =>
              some (0, ((p3.2.1.1, p3.2.1.2), y.2.1, p.2.2.1, IntKind.i64.wrap (y.2.2.2.1 + 1), ()))
            else
              some (0, ((p2.2.1.1, p2.2.1.2), y.2.1, p.2.2.1, IntKind.i64.wrap (y.2.2.2.1 + 1), ()))
      else
        some (1, ((y.1.1, y.1.2), y.2.1, y.2.2.1, y.2.2.2.1, ()))) fu ((n0, a0), false, IntKind.i64.wrap (a1 + 1), 0, ())).bind fun p4 =>
    natD p4.1 (
      some ⟨B false, [.sb ty_int 0 p4.2.1.2], none⟩) fun m =>
    some ⟨B p4.2.2.1, [.sb ty_int 0 p4.2.1.2], none⟩) := by kernel_rfl
/- cmp.Less[int] -/
theorem eq_cmp_Less_int (fu d : Nat) (a0 : Int) (a1 : Int) :
    cl fu (d + 1) fn_cmp_Less_int [I a0, I a1] [] = (
    (cl fu d fn_cmp_isNaN_int [I a0] []).bind fun out =>
    rC out.r fun c =>
    asB c fun b =>
    bif b then
      (cl fu d fn_cmp_isNaN_int [I a1] []).bind fun out1 =>
      rC out1.r fun c1 =>
      asB c1 fun b1 =>
      bif !b1 then
        some ⟨B true, [], none⟩
      else
        some ⟨B (decide (a0 < a1)), [], none⟩
    else
      some ⟨B (decide (a0 < a1)), [], none⟩) := by kernel_rfl
/- slices.partitionEqualOrdered[int] -/
theorem eq_slices_partitionEqualOrdered_int (fu d : Nat) (n0 : Nat) (a0 : List C) (a1 : Int) (a2 : Int) (a3 : Int) :
    cl fu (d + 1) fn_slices_partitionEqualOrdered_int [V.own 1000000 0 n0, I a1, I a2, I a3] [.sb ty_int 0 a0] = (
    need (inR a3 n0) <|
    unc (List.drop (0 + (a3.toNat * 1)) a0) fun c r =>
    asI .i64 c fun i =>
    need (inR a1 n0) <|
    unc (List.drop (0 + (a1.toNat * 1)) a0) fun c1 _ =>
    asI .i64 c1 fun i1 =>
    need (inR a1 n0) <|
    need (((Nat.ble 0 (0 + (a1.toNat * 1))) && (Nat.ble ((0 + (a1.toNat * 1)) + 1) a0.length)) && true) <|
    need (inR a3 n0) <|
    need (((Nat.ble 0 (0 + (a3.toNat * 1))) && (Nat.ble ((0 + (a3.toNat * 1)) + 1) ((putAt a0 (0 + (a1.toNat * 1)) ([C.v (.int .i64 i)])).length))) && true) <|
    (iter (fun (y : (Nat × List C) × Int × Int × Unit) =>
      (iter (fun (y1 : (Nat × List C) × Int × Unit) =>
        bif decide (y1.2.1 ≤ y.2.2.1) then
          need (inR a1 y1.1.1) <|
          unc (List.drop (0 + (a1.toNat * 1)) y1.1.2) fun c2 _ =>
          asI .i64 c2 fun i2 =>
          need (inR y1.2.1 y1.1.1) <|
          unc (List.drop (0 + (y1.2.1.toNat * 1)) y1.1.2) fun c3 _ =>
          asI .i64 c3 fun i3 =>
          (cl fu d fn_cmp_Less_int [I i2, I i3] []).bind fun out =>
          rC out.r fun c4 =>
          asB c4 fun b =>
          bif !b then
            some (0, ((y1.1.1, y1.1.2), IntKind.i64.wrap (y1.2.1 + 1), ()))
          else
            some (1, ((y1.1.1, y1.1.2), y1.2.1, ()))
        else
          some (1, ((y1.1.1, y1.1.2), y1.2.1, ()))) fu ((y.1.1, y.1.2), y.2.1, ())).bind fun p =>
      (iter (fun (y2 : (Nat × List C) × Int × Unit) =>
        bif decide (p.2.2.1 ≤ y2.2.1) then
          need (inR a1 y2.1.1) <|
          unc (List.drop (0 + (a1.toNat * 1)) y2.1.2) fun c5 _ =>
          asI .i64 c5 fun i4 =>
          need (inR y2.2.1 y2.1.1) <|
          unc (List.drop (0 + (y2.2.1.toNat * 1)) y2.1.2) fun c6 _ =>
          asI .i64 c6 fun i5 =>
          (cl fu d fn_cmp_Less_int [I i4, I i5] []).bind fun out1 =>
          rC out1.r fun c7 =>
          asB c7 fun b1 =>
          bif b1 then
            some (0, ((y2.1.1, y2.1.2), IntKind.i64.wrap (y2.2.1 - 1), ()))
          else
            some (1, ((y2.1.1, y2.1.2), y2.2.1, ()))
        else
          some (1, ((y2.1.1, y2.1.2), y2.2.1, ()))) fu ((p.2.1.1, p.2.1.2), y.2.2.1, ())).bind fun p1 =>
      bif decide (p.2.2.1 > p1.2.2.1) then
        some (1, ((p1.2.1.1, p1.2.1.2), p.2.2.1, p1.2.2.1, ()))
      else
        need (inR p1.2.2.1 p1.2.1.1) <|
        unc (List.drop (0 + (p1.2.2.1.toNat * 1)) p1.2.1.2) fun c8 _ =>
        asI .i64 c8 fun i6 =>
        need (inR p.2.2.1 p1.2.1.1) <|
        unc (List.drop (0 + (p.2.2.1.toNat * 1)) p1.2.1.2) fun c9 _ =>
        asI .i64 c9 fun i7 =>
        need (inR p.2.2.1 p1.2.1.1) <|
        need (((Nat.ble 0 (0 + (p.2.2.1.toNat * 1))) && (Nat.ble ((0 + (p.2.2.1.toNat * 1)) + 1) p1.2.1.2.length)) && true) <|
        need (inR p1.2.2.1 p1.2.1.1) <|
        need (((Nat.ble 0 (0 + (p1.2.2.1.toNat * 1))) && (Nat.ble ((0 + (p1.2.2.1.toNat * 1)) + 1) ((putAt p1.2.1.2 (0 + (p.2.2.1.toNat * 1)) ([C.v (.int .i64 i6)])).length))) && true) <|
        some (0, ((p1.2.1.1, putAt (putAt p1.2.1.2 (0 + (p.2.2.1.toNat * 1)) ([C.v (.int .i64 i6)])) (0 + (p1.2.2.1.toNat * 1)) ([C.v (.int .i64 i7)])), IntKind.i64.wrap (p.2.2.1 + 1), IntKind.i64.wrap (p1.2.2.1 - 1), ()))) fu ((n0, putAt (putAt a0 (0 + (a1.toNat * 1)) ([C.v (.int .i64 i)])) (0 + (a3.toNat * 1)) ([C.v (.int .i64 i1)])), IntKind.i64.wrap (a1 + 1), IntKind.i64.wrap (a2 - 1), ())).bind fun p2 =>
    some ⟨I p2.2.2.1, [.sb ty_int 0 p2.2.1.2], none⟩) := by kernel_rfl
/- slices.partitionOrdered[int] -/
theorem eq_slices_partitionOrdered_int (fu d : Nat) (n0 : Nat) (a0 : List C) (a1 : Int) (a2 : Int) (a3 : Int) :
    cl fu (d + 1) fn_slices_partitionOrdered_int [V.own 1000000 0 n0, I a1, I a2, I a3] [.sb ty_int 0 a0] = (
    need (inR a3 n0) <|
    unc (List.drop (0 + (a3.toNat * 1)) a0) fun c r =>
    asI .i64 c fun i =>
    need (inR a1 n0) <|
    unc (List.drop (0 + (a1.toNat * 1)) a0) fun c1 _ =>
    asI .i64 c1 fun i1 =>
    need (inR a1 n0) <|
    need (((Nat.ble 0 (0 + (a1.toNat * 1))) && (Nat.ble ((0 + (a1.toNat * 1)) + 1) a0.length)) && true) <|
    need (inR a3 n0) <|
    need (((Nat.ble 0 (0 + (a3.toNat * 1))) && (Nat.ble ((0 + (a3.toNat * 1)) + 1) ((putAt a0 (0 + (a1.toNat * 1)) ([C.v (.int .i64 i)])).length))) && true) <|
    (iter (fun (y : (Nat × List C) × Int × Unit) =>
      bif decide (y.2.1 ≤ IntKind.i64.wrap (a2 - 1)) then
        need (inR y.2.1 y.1.1) <|
        unc (List.drop (0 + (y.2.1.toNat * 1)) y.1.2) fun c2 _ =>
        asI .i64 c2 fun i2 =>
        need (inR a1 y.1.1) <|
        unc (List.drop (0 + (a1.toNat * 1)) y.1.2) fun c3 _ =>
        asI .i64 c3 fun i3 =>
        (cl fu d fn_cmp_Less_int [I i2, I i3] []).bind fun out =>
        rC out.r fun c4 =>
        asB c4 fun b =>
        bif b then
          some (0, ((y.1.1, y.1.2), IntKind.i64.wrap (y.2.1 + 1), ()))
        else
          some (1, ((y.1.1, y.1.2), y.2.1, ()))
      else
        some (1, ((y.1.1, y.1.2), y.2.1, ()))) fu ((n0, putAt (putAt a0 (0 + (a1.toNat * 1)) ([C.v (.int .i64 i)])) (0 + (a3.toNat * 1)) ([C.v (.int .i64 i1)])), IntKind.i64.wrap (a1 + 1), ())).bind fun p =>
    (iter (fun (y1 : (Nat × List C) × Int × Unit) =>
      bif decide (p.2.2.1 ≤ y1.2.1) then
        need (inR y1.2.1 y1.1.1) <|
        unc (List.drop (0 + (y1.2.1.toNat * 1)) y1.1.2) fun c5 _ =>
        asI .i64 c5 fun i4 =>
        need (inR a1 y1.1.1) <|
        unc (List.drop (0 + (a1.toNat * 1)) y1.1.2) fun c6 _ =>
        asI .i64 c6 fun i5 =>
        (cl fu d fn_cmp_Less_int [I i4, I i5] []).bind fun out1 =>
        rC out1.r fun c7 =>
        asB c7 fun b1 =>
        bif !b1 then
          some (0, ((y1.1.1, y1.1.2), IntKind.i64.wrap (y1.2.1 - 1), ()))
        else
          some (1, ((y1.1.1, y1.1.2), y1.2.1, ()))
      else
        some (1, ((y1.1.1, y1.1.2), y1.2.1, ()))) fu ((p.2.1.1, p.2.1.2), IntKind.i64.wrap (a2 - 1), ())).bind fun p1 =>
    bif decide (p.2.2.1 > p1.2.2.1) then
      need (inR a1 p1.2.1.1) <|
      unc (List.drop (0 + (a1.toNat * 1)) p1.2.1.2) fun c8 _ =>
      asI .i64 c8 fun i6 =>
      need (inR p1.2.2.1 p1.2.1.1) <|
      unc (List.drop (0 + (p1.2.2.1.toNat * 1)) p1.2.1.2) fun c9 _ =>
      asI .i64 c9 fun i7 =>
      need (inR p1.2.2.1 p1.2.1.1) <|
      need (((Nat.ble 0 (0 + (p1.2.2.1.toNat * 1))) && (Nat.ble ((0 + (p1.2.2.1.toNat * 1)) + 1) p1.2.1.2.length)) && true) <|
      need (inR a1 p1.2.1.1) <|
      need (((Nat.ble 0 (0 + (a1.toNat * 1))) && (Nat.ble ((0 + (a1.toNat * 1)) + 1) ((putAt p1.2.1.2 (0 + (p1.2.2.1.toNat * 1)) ([C.v (.int .i64 i6)])).length))) && true) <|
      some ⟨V.tup [I p1.2.2.1, B true], [.sb ty_int 0 (putAt (putAt p1.2.1.2 (0 + (p1.2.2.1.toNat * 1)) ([C.v (.int .i64 i6)])) (0 + (a1.toNat * 1)) ([C.v (.int .i64 i7)]))], none⟩
    else
      need (inR p1.2.2.1 p1.2.1.1) <|
      unc (List.drop (0 + (p1.2.2.1.toNat * 1)) p1.2.1.2) fun c10 _ =>
      asI .i64 c10 fun i8 =>
      need (inR p.2.2.1 p1.2.1.1) <|
      unc (List.drop (0 + (p.2.2.1.toNat * 1)) p1.2.1.2) fun c11 _ =>
      asI .i64 c11 fun i9 =>
      need (inR p.2.2.1 p1.2.1.1) <|
      need (((Nat.ble 0 (0 + (p.2.2.1.toNat * 1))) && (Nat.ble ((0 + (p.2.2.1.toNat * 1)) + 1) p1.2.1.2.length)) && true) <|
      need (inR p1.2.2.1 p1.2.1.1) <|
      need (((Nat.ble 0 (0 + (p1.2.2.1.toNat * 1))) && (Nat.ble ((0 + (p1.2.2.1.toNat * 1)) + 1) ((putAt p1.2.1.2 (0 + (p.2.2.1.toNat * 1)) ([C.v (.int .i64 i8)])).length))) && true) <|
      (iter (fun (y2 : (Nat × List C) × Int × Int × Unit) =>
        (iter (fun (y3 : (Nat × List C) × Int × Unit) =>
          bif decide (y3.2.1 ≤ y2.2.2.1) then
            need (inR y3.2.1 y3.1.1) <|
            unc (List.drop (0 + (y3.2.1.toNat * 1)) y3.1.2) fun c12 _ =>
            asI .i64 c12 fun i10 =>
            need (inR a1 y3.1.1) <|
            unc (List.drop (0 + (a1.toNat * 1)) y3.1.2) fun c13 _ =>
            asI .i64 c13 fun i11 =>
            (cl fu d fn_cmp_Less_int [I i10, I i11] []).bind fun out2 =>
            rC out2.r fun c14 =>
            asB c14 fun b2 =>
            bif b2 then
              some (0, ((y3.1.1, y3.1.2), IntKind.i64.wrap (y3.2.1 + 1), ()))
            else
              some (1, ((y3.1.1, y3.1.2), y3.2.1, ()))
          else
            some (1, ((y3.1.1, y3.1.2), y3.2.1, ()))) fu ((y2.1.1, y2.1.2), y2.2.1, ())).bind fun p2 =>
        (iter (fun (y4 : (Nat × List C) × Int × Unit) =>
          bif decide (p2.2.2.1 ≤ y4.2.1) then
            need (inR y4.2.1 y4.1.1) <|
            unc (List.drop (0 + (y4.2.1.toNat * 1)) y4.1.2) fun c15 _ =>
            asI .i64 c15 fun i12 =>
            need (inR a1 y4.1.1) <|
            unc (List.drop (0 + (a1.toNat * 1)) y4.1.2) fun c16 _ =>
            asI .i64 c16 fun i13 =>
            (cl fu d fn_cmp_Less_int [I i12, I i13] []).bind fun out3 =>
            rC out3.r fun c17 =>
            asB c17 fun b3 =>
            bif !b3 then
              some (0, ((y4.1.1, y4.1.2), IntKind.i64.wrap (y4.2.1 - 1), ()))
            else
              some (1, ((y4.1.1, y4.1.2), y4.2.1, ()))
          else
            some (1, ((y4.1.1, y4.1.2), y4.2.1, ()))) fu ((p2.2.1.1, p2.2.1.2), y2.2.2.1, ())).bind fun p3 =>
        bif decide (p2.2.2.1 > p3.2.2.1) then
          some (1, ((p3.2.1.1, p3.2.1.2), p2.2.2.1, p3.2.2.1, ()))
        else
          need (inR p3.2.2.1 p3.2.1.1) <|
          unc (List.drop (0 + (p3.2.2.1.toNat * 1)) p3.2.1.2) fun c18 _ =>
          asI .i64 c18 fun i14 =>
          need (inR p2.2.2.1 p3.2.1.1) <|
          unc (List.drop (0 + (p2.2.2.1.toNat * 1)) p3.2.1.2) fun c19 _ =>
          asI .i64 c19 fun i15 =>
          need (inR p2.2.2.1 p3.2.1.1) <|
          need (((Nat.ble 0 (0 + (p2.2.2.1.toNat * 1))) && (Nat.ble ((0 + (p2.2.2.1.toNat * 1)) + 1) p3.2.1.2.length)) && true) <|
          need (inR p3.2.2.1 p3.2.1.1) <|
          need (((Nat.ble 0 (0 + (p3.2.2.1.toNat * 1))) && (Nat.ble ((0 + (p3.2.2.1.toNat * 1)) + 1) ((putAt p3.2.1.2 (0 + (p2.2.2.1.toNat * 1)) ([C.v (.int .i64 i14)])).length))) && true) <|
          some (0, ((p3.2.1.1, putAt (putAt p3.2.1.2 (0 + (p2.2.2.1.toNat * 1)) ([C.v (.int .i64 i14)])) (0 + (p3.2.2.1.toNat * 1)) ([C.v (.int .i64 i15)])), IntKind.i64.wrap (p2.2.2.1 + 1), IntKind.i64.wrap (p3.2.2.1 - 1), ()))) fu ((p1.2.1.1, putAt (putAt p1.2.1.2 (0 + (p.2.2.1.toNat * 1)) ([C.v (.int .i64 i8)])) (0 + (p1.2.2.1.toNat * 1)) ([C.v (.int .i64 i9)])), IntKind.i64.wrap (p.2.2.1 + 1), IntKind.i64.wrap (p1.2.2.1 - 1), ())).bind fun p4 =>
      need (inR a1 p4.2.1.1) <|
      unc (List.drop (0 + (a1.toNat * 1)) p4.2.1.2) fun c20 _ =>
      asI .i64 c20 fun i16 =>
      need (inR p4.2.2.2.1 p4.2.1.1) <|
      unc (List.drop (0 + (p4.2.2.2.1.toNat * 1)) p4.2.1.2) fun c21 _ =>
      asI .i64 c21 fun i17 =>
      need (inR p4.2.2.2.1 p4.2.1.1) <|
      need (((Nat.ble 0 (0 + (p4.2.2.2.1.toNat * 1))) && (Nat.ble ((0 + (p4.2.2.2.1.toNat * 1)) + 1) p4.2.1.2.length)) && true) <|
      need (inR a1 p4.2.1.1) <|
      need (((Nat.ble 0 (0 + (a1.toNat * 1))) && (Nat.ble ((0 + (a1.toNat * 1)) + 1) ((putAt p4.2.1.2 (0 + (p4.2.2.2.1.toNat * 1)) ([C.v (.int .i64 i16)])).length))) && true) <|
      some ⟨V.tup [I p4.2.2.2.1, B false], [.sb ty_int 0 (putAt (putAt p4.2.1.2 (0 + (p4.2.2.2.1.toNat * 1)) ([C.v (.int .i64 i16)])) (0 + (a1.toNat * 1)) ([C.v (.int .i64 i17)]))], none⟩) := by kernel_rfl
/- math/bits.Len32 -/
theorem eq_bits_Len32 (fu d : Nat) (a0 : Int) :
    cl fu (d + 1) fn_bits_Len32 [V.c (C.v (.int .u32 a0))] [] = (
    (bif decide (a0 ≥ 65536) then
      some (0, (Int.fdiv a0 (2 ^ 16), 16, ()))
    else
      some (0, (a0, 0, ())) : Option (Nat × Int × Int × Unit)).bind fun p =>
    bif decide (p.2.1 ≥ 256) then
      need (inR (IntKind.u8.wrap (Int.fdiv p.2.1 (2 ^ 8))) (kb0 : ByteArray).size) <|
      bd (IntKind.i64.wrap ((IntKind.i64.wrap (p.2.2.1 + 8)) + (IntKind.i64.wrap (((kb0 : ByteArray).data.getD ((IntKind.u8.wrap (Int.fdiv p.2.1 (2 ^ 8))).toNat) 0).toNat : Int)))) fun z =>
      some ⟨I z, [], none⟩
    else
      need (inR (IntKind.u8.wrap p.2.1) (kb0 : ByteArray).size) <|
      bd (IntKind.i64.wrap (p.2.2.1 + (IntKind.i64.wrap (((kb0 : ByteArray).data.getD ((IntKind.u8.wrap p.2.1).toNat) 0).toNat : Int)))) fun z1 =>
      some ⟨I z1, [], none⟩) := by kernel_rfl
/- math/bits.Len64 -/
theorem eq_bits_Len64 (fu d : Nat) (a0 : Int) :
    cl fu (d + 1) fn_bits_Len64 [V.c (C.v (.int .u64 a0))] [] = (
    (bif decide (a0 ≥ 4294967296) then
      some (0, (Int.fdiv a0 (2 ^ 32), 32, ()))
    else
      some (0, (a0, 0, ())) : Option (Nat × Int × Int × Unit)).bind fun p =>
    (bif decide (p.2.1 ≥ 65536) then
      some (0, (Int.fdiv p.2.1 (2 ^ 16), IntKind.i64.wrap (p.2.2.1 + 16), ()))
    else
      some (0, (p.2.1, p.2.2.1, ())) : Option (Nat × Int × Int × Unit)).bind fun p1 =>
    bif decide (p1.2.1 ≥ 256) then
      need (inR (IntKind.u8.wrap (Int.fdiv p1.2.1 (2 ^ 8))) (kb0 : ByteArray).size) <|
      bd (IntKind.i64.wrap ((IntKind.i64.wrap (p1.2.2.1 + 8)) + (IntKind.i64.wrap (((kb0 : ByteArray).data.getD ((IntKind.u8.wrap (Int.fdiv p1.2.1 (2 ^ 8))).toNat) 0).toNat : Int)))) fun z =>
      some ⟨I z, [], none⟩
    else
      need (inR (IntKind.u8.wrap p1.2.1) (kb0 : ByteArray).size) <|
      bd (IntKind.i64.wrap (p1.2.2.1 + (IntKind.i64.wrap (((kb0 : ByteArray).data.getD ((IntKind.u8.wrap p1.2.1).toNat) 0).toNat : Int)))) fun z1 =>
      some ⟨I z1, [], none⟩) := by kernel_rfl
/- slices.siftDownOrdered[int] -/
theorem eq_slices_siftDownOrdered_int (fu d : Nat) (n0 : Nat) (a0 : List C) (a1 : Int) (a2 : Int) (a3 : Int) :
    cl fu (d + 1) fn_slices_siftDownOrdered_int [V.own 1000000 0 n0, I a1, I a2, I a3] [.sb ty_int 0 a0] = (
    (iter (fun (y : (Nat × List C) × Int × Unit) =>
      bif decide (IntKind.i64.wrap ((IntKind.i64.wrap (2 * y.2.1)) + 1) ≥ a2) then
        some (1, ((y.1.1, y.1.2), y.2.1, ()))
      else
        bif decide (IntKind.i64.wrap ((IntKind.i64.wrap ((IntKind.i64.wrap (2 * y.2.1)) + 1)) + 1) < a2) then
          need (inR (IntKind.i64.wrap (a3 + (IntKind.i64.wrap ((IntKind.i64.wrap (2 * y.2.1)) + 1)))) y.1.1) <|
          unc (List.drop (0 + (((IntKind.i64.wrap (a3 + (IntKind.i64.wrap ((IntKind.i64.wrap (2 * y.2.1)) + 1)))).toNat) * 1)) y.1.2) fun c r =>
          asI .i64 c fun i =>
          need (inR (IntKind.i64.wrap ((IntKind.i64.wrap (a3 + (IntKind.i64.wrap ((IntKind.i64.wrap (2 * y.2.1)) + 1)))) + 1)) y.1.1) <|
          unc (List.drop (0 + (((IntKind.i64.wrap ((IntKind.i64.wrap (a3 + (IntKind.i64.wrap ((IntKind.i64.wrap (2 * y.2.1)) + 1)))) + 1)).toNat) * 1)) y.1.2) fun c1 _ =>
          asI .i64 c1 fun i1 =>
          (cl fu d fn_cmp_Less_int [I i, I i1] []).bind fun out =>
          rC out.r fun c2 =>
          asB c2 fun b =>
          (bif b then
            some (0, ((y.1.1, y.1.2), IntKind.i64.wrap ((IntKind.i64.wrap ((IntKind.i64.wrap (2 * y.2.1)) + 1)) + 1), ()))
          else
            some (0, ((y.1.1, y.1.2), IntKind.i64.wrap ((IntKind.i64.wrap (2 * y.2.1)) + 1), ())) : Option (Nat × (Nat × List C) × Int × Unit)).bind fun p =>
          need (inR (IntKind.i64.wrap (a3 + y.2.1)) p.2.1.1) <|
          unc (List.drop (0 + (((IntKind.i64.wrap (a3 + y.2.1)).toNat) * 1)) p.2.1.2) fun c3 _ =>
          asI .i64 c3 fun i2 =>
          need (inR (IntKind.i64.wrap (a3 + p.2.2.1)) p.2.1.1) <|
          unc (List.drop (0 + (((IntKind.i64.wrap (a3 + p.2.2.1)).toNat) * 1)) p.2.1.2) fun c4 _ =>
          asI .i64 c4 fun i3 =>
          (cl fu d fn_cmp_Less_int [I i2, I i3] []).bind fun out1 =>
          rC out1.r fun c5 =>
          asB c5 fun b1 =>
          bif !b1 then
            some (2, ((p.2.1.1, p.2.1.2), y.2.1, ()))
          else
            need (inR (IntKind.i64.wrap (a3 + p.2.2.1)) p.2.1.1) <|
            unc (List.drop (0 + (((IntKind.i64.wrap (a3 + p.2.2.1)).toNat) * 1)) p.2.1.2) fun c6 _ =>
            asI .i64 c6 fun i4 =>
            need (inR (IntKind.i64.wrap (a3 + y.2.1)) p.2.1.1) <|
            unc (List.drop (0 + (((IntKind.i64.wrap (a3 + y.2.1)).toNat) * 1)) p.2.1.2) fun c7 _ =>
            asI .i64 c7 fun i5 =>
            need (inR (IntKind.i64.wrap (a3 + y.2.1)) p.2.1.1) <|
            need (((Nat.ble 0 (0 + (((IntKind.i64.wrap (a3 + y.2.1)).toNat) * 1))) && (Nat.ble ((0 + (((IntKind.i64.wrap (a3 + y.2.1)).toNat) * 1)) + 1) p.2.1.2.length)) && true) <|
            need (inR (IntKind.i64.wrap (a3 + p.2.2.1)) p.2.1.1) <|
            need (((Nat.ble 0 (0 + (((IntKind.i64.wrap (a3 + p.2.2.1)).toNat) * 1))) && (Nat.ble ((0 + (((IntKind.i64.wrap (a3 + p.2.2.1)).toNat) * 1)) + 1) ((putAt p.2.1.2 (0 + (((IntKind.i64.wrap (a3 + y.2.1)).toNat) * 1)) ([C.v (.int .i64 i4)])).length))) && true) <|
            some (0, ((p.2.1.1, putAt (putAt p.2.1.2 (0 + (((IntKind.i64.wrap (a3 + y.2.1)).toNat) * 1)) ([C.v (.int .i64 i4)])) (0 + (((IntKind.i64.wrap (a3 + p.2.2.1)).toNat) * 1)) ([C.v (.int .i64 i5)])), p.2.2.1, ()))
        else
          (some (0, ((y.1.1, y.1.2), IntKind.i64.wrap ((IntKind.i64.wrap (2 * y.2.1)) + 1), ())) : Option (Nat × (Nat × List C) × Int × Unit)).bind fun p1 =>
          need (inR (IntKind.i64.wrap (a3 + y.2.1)) p1.2.1.1) <|
          unc (List.drop (0 + (((IntKind.i64.wrap (a3 + y.2.1)).toNat) * 1)) p1.2.1.2) fun c8 _ =>
          asI .i64 c8 fun i6 =>
          need (inR (IntKind.i64.wrap (a3 + p1.2.2.1)) p1.2.1.1) <|
          unc (List.drop (0 + (((IntKind.i64.wrap (a3 + p1.2.2.1)).toNat) * 1)) p1.2.1.2) fun c9 _ =>
          asI .i64 c9 fun i7 =>
          (cl fu d fn_cmp_Less_int [I i6, I i7] []).bind fun out2 =>
          rC out2.r fun c10 =>
          asB c10 fun b2 =>
          bif !b2 then
            some (2, ((p1.2.1.1, p1.2.1.2), y.2.1, ()))
          else
            need (inR (IntKind.i64.wrap (a3 + p1.2.2.1)) p1.2.1.1) <|
            unc (List.drop (0 + (((IntKind.i64.wrap (a3 + p1.2.2.1)).toNat) * 1)) p1.2.1.2) fun c11 _ =>
            asI .i64 c11 fun i8 =>
            need (inR (IntKind.i64.wrap (a3 + y.2.1)) p1.2.1.1) <|
            unc (List.drop (0 + (((IntKind.i64.wrap (a3 + y.2.1)).toNat) * 1)) p1.2.1.2) fun c12 _ =>
            asI .i64 c12 fun i9 =>
            need (inR (IntKind.i64.wrap (a3 + y.2.1)) p1.2.1.1) <|
            need (((Nat.ble 0 (0 + (((IntKind.i64.wrap (a3 + y.2.1)).toNat) * 1))) && (Nat.ble ((0 + (((IntKind.i64.wrap (a3 + y.2.1)).toNat) * 1)) + 1) p1.2.1.2.length)) && true) <|
            need (inR (IntKind.i64.wrap (a3 + p1.2.2.1)) p1.2.1.1) <|
            need (((Nat.ble 0 (0 + (((IntKind.i64.wrap (a3 + p1.2.2.1)).toNat) * 1))) && (Nat.ble ((0 + (((IntKind.i64.wrap (a3 + p1.2.2.1)).toNat) * 1)) + 1) ((putAt p1.2.1.2 (0 + (((IntKind.i64.wrap (a3 + y.2.1)).toNat) * 1)) ([C.v (.int .i64 i8)])).length))) && true) <|
            some (0, ((p1.2.1.1, putAt (putAt p1.2.1.2 (0 + (((IntKind.i64.wrap (a3 + y.2.1)).toNat) * 1)) ([C.v (.int .i64 i8)])) (0 + (((IntKind.i64.wrap (a3 + p1.2.2.1)).toNat) * 1)) ([C.v (.int .i64 i9)])), p1.2.2.1, ()))) fu ((n0, a0), a1, ())).bind fun p2 =>
    natD p2.1 (
      some ⟨V.tup [], [.sb ty_int 0 p2.2.1.2], none⟩) fun m =>
    some ⟨V.tup [], [.sb ty_int 0 p2.2.1.2], none⟩) := by kernel_rfl
/- slices.nextPowerOfTwo -/
theorem eq_slices_nextPowerOfTwo (fu d : Nat) (a0 : Int) :
    cl fu (d + 1) fn_slices_nextPowerOfTwo [I a0] [] = (
    (cl fu d fn_bits_Len [V.c (C.v (.int .u64 (IntKind.u64.wrap a0)))] []).bind fun out =>
    rC out.r fun c =>
    asI .i64 c fun i =>
    need (!(decide (i < 0))) <|
    some ⟨V.c (C.v (.int .u64 (IntKind.u64.wrap (1 * 2 ^ (min i.toNat (IntKind.bits .u64)))))), [], none⟩) := by kernel_rfl
/- (*slices.xorshift).Next -/
theorem eq_slices_xorshift_Next (fu d : Nat) (a0_0 : Int) :
    cl fu (d + 1) fn_slices_xorshift_Next [V.ptr 1000000 0] [.ob ty_slices_xorshift 0 ([C.v (.int .u64 a0_0)])] = (
    bd (IntKind.u64.wrap (BitVec.ofInt (IntKind.bits .u64) a0_0 ^^^ BitVec.ofInt (IntKind.bits .u64) (IntKind.u64.wrap (a0_0 * 2 ^ 13))).toNat) fun z =>
    bd (IntKind.u64.wrap ((IntKind.u64.wrap (BitVec.ofInt (IntKind.bits .u64) z ^^^ BitVec.ofInt (IntKind.bits .u64) (Int.fdiv z (2 ^ 7))).toNat) * 2 ^ 17)) fun z1 =>
    bd (IntKind.u64.wrap (BitVec.ofInt (IntKind.bits .u64) (IntKind.u64.wrap (BitVec.ofInt (IntKind.bits .u64) z ^^^ BitVec.ofInt (IntKind.bits .u64) (Int.fdiv z (2 ^ 7))).toNat) ^^^ BitVec.ofInt (IntKind.bits .u64) z1).toNat) fun z2 =>
    some ⟨V.c (C.v (.int .u64 z2)), [.ob ty_slices_xorshift 0 ([C.v (.int .u64 z2)])], none⟩) := by kernel_rfl
/- slices.medianAdjacentOrdered[int] -/
theorem eq_slices_medianAdjacentOrdered_int (fu d : Nat) (n0 : Nat) (a0 : List C) (a1 : Int) (a2_0 : Int) :
    cl fu (d + 1) fn_slices_medianAdjacentOrdered_int [V.c (C.sl n0 a0), I a1, V.ptr 1000000 0] [.ob ty_int 0 ([C.v (.int .i64 a2_0)])] = (
    (cl fu d fn_slices_medianOrdered_int [V.c (C.sl n0 a0), I (IntKind.i64.wrap (a1 - 1)), I a1, I (IntKind.i64.wrap (a1 + 1)), V.ptr 1000000 0] [.ob ty_int 0 ([C.v (.int .i64 a2_0)])]).bind fun out =>
    uncO out.objs fun o os =>
    rO o ty_int 0 fun cs =>
    need ((Nat.beq cs.length 1) && true) <|
    unc cs fun c r =>
    asI .i64 c fun i =>
    rC out.r fun c1 =>
    asI .i64 c1 fun i1 =>
    some ⟨I i1, [.ob ty_int 0 ([C.v (.int .i64 i)])], none⟩) := by kernel_rfl
/- slices.medianOrdered[int] -/
theorem eq_slices_medianOrdered_int (fu d : Nat) (n0 : Nat) (a0 : List C) (a1 : Int) (a2 : Int) (a3 : Int) (a4_0 : Int) :
    cl fu (d + 1) fn_slices_medianOrdered_int [V.c (C.sl n0 a0), I a1, I a2, I a3, V.ptr 1000000 0] [.ob ty_int 0 ([C.v (.int .i64 a4_0)])] = (
    (cl fu d fn_slices_order2Ordered_int [V.c (C.sl n0 a0), I a1, I a2, V.ptr 1000000 0] [.ob ty_int 0 ([C.v (.int .i64 a4_0)])]).bind fun out =>
    uncO out.objs fun o os =>
    rO o ty_int 0 fun cs =>
    need ((Nat.beq cs.length 1) && true) <|
    unc cs fun c r =>
    asI .i64 c fun i =>
    rT out.r fun xs =>
    uncV xs fun x ys =>
    rC x fun c1 =>
    asI .i64 c1 fun i1 =>
    uncV ys fun x1 ys1 =>
    rC x1 fun c2 =>
    asI .i64 c2 fun i2 =>
    nilV ys1 <|
    (cl fu d fn_slices_order2Ordered_int [V.c (C.sl n0 a0), I i2, I a3, V.ptr 1000000 0] [.ob ty_int 0 ([C.v (.int .i64 i)])]).bind fun out1 =>
    uncO out1.objs fun o1 os1 =>
    rO o1 ty_int 0 fun cs1 =>
    need ((Nat.beq cs1.length 1) && true) <|
    unc cs1 fun c3 _ =>
    asI .i64 c3 fun i3 =>
    rT out1.r fun xs1 =>
    uncV xs1 fun x2 ys2 =>
    rC x2 fun c4 =>
    asI .i64 c4 fun i4 =>
    uncV ys2 fun x3 ys3 =>
    rC x3 fun c5 =>
    asI .i64 c5 fun i5 =>
    nilV ys3 <|
    (cl fu d fn_slices_order2Ordered_int [V.c (C.sl n0 a0), I i1, I i4, V.ptr 1000000 0] [.ob ty_int 0 ([C.v (.int .i64 i3)])]).bind fun out2 =>
    uncO out2.objs fun o2 os2 =>
    rO o2 ty_int 0 fun cs2 =>
    need ((Nat.beq cs2.length 1) && true) <|
    unc cs2 fun c6 _ =>
    asI .i64 c6 fun i6 =>
    rT out2.r fun xs2 =>
    uncV xs2 fun x4 ys4 =>
    rC x4 fun c7 =>
    asI .i64 c7 fun i7 =>
    uncV ys4 fun x5 ys5 =>
    rC x5 fun c8 =>
    asI .i64 c8 fun i8 =>
    nilV ys5 <|
    some ⟨I i8, [.ob ty_int 0 ([C.v (.int .i64 i6)])], none⟩) := by kernel_rfl
/- cmp.isNaN[int] -/
theorem eq_cmp_isNaN_int (fu d : Nat) (a0 : Int) :
    cl fu (d + 1) fn_cmp_isNaN_int [I a0] [] = (
    some ⟨B (a0 != a0), [], none⟩) := by kernel_rfl
/- slices.order2Ordered[int] -/
theorem eq_slices_order2Ordered_int (fu d : Nat) (n0 : Nat) (a0 : List C) (a1 : Int) (a2 : Int) (a3_0 : Int) :
    cl fu (d + 1) fn_slices_order2Ordered_int [V.c (C.sl n0 a0), I a1, I a2, V.ptr 1000000 0] [.ob ty_int 0 ([C.v (.int .i64 a3_0)])] = (
    need (inR a2 n0) <|
    unc (List.drop (a2.toNat * 1) a0) fun c r =>
    asI .i64 c fun i =>
    need (inR a1 n0) <|
    unc (List.drop (a1.toNat * 1) a0) fun c1 _ =>
    asI .i64 c1 fun i1 =>
    (cl fu d fn_cmp_Less_int [I i, I i1] []).bind fun out =>
    rC out.r fun c2 =>
    asB c2 fun b =>
    bif b then
      some ⟨V.tup [I a2, I a1], [.ob ty_int 0 ([C.v (.int .i64 (IntKind.i64.wrap (a3_0 + 1)))])], none⟩
    else
      some ⟨V.tup [I a1, I a2], [.ob ty_int 0 ([C.v (.int .i64 a3_0)])], none⟩) := by kernel_rfl
end Go.Proofs.YtjdafdibghfdhaaDoor
