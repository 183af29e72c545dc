/- What the program's functions come to. -/
import Derived.Test.YtobmbacppbkgeaaDoorLay
set_option linter.unusedVariables false
set_option linter.unusedSimpArgs false
namespace Go.Proofs.YtobmbacppbkgeaaDoor
open Go Go.PM
set_option maxRecDepth 100000
/- synoptic/synopticlaw21.OperatorParts -/
theorem eq_synopticlaw21_OperatorParts (fu d : Nat) (n0 : Nat) (a0 : List C) :
 cl fu (d + 1) fn_synopticlaw21_OperatorParts [V.c (C.sl n0 a0)] [] = (
 (cl fu d fn_synoptickeep_New [V.c (C.sl n0 a0)] []).bind fun out =>
 rP out.r 0 <|
 uncO out.objs fun o os =>
 rN o ty_synoptickeep_Src 2 fun cs =>
 unc cs fun c r =>
 unc r fun c1 _ =>
 asI .i64 c1 fun i =>
 (cl fu d fn_synoptickeep_Src_Range [V.ptr 1000000 0, I 1, I 3] [.ob ty_synoptickeep_Src 0 ([c, C.v (.int .i64 i)])]).bind fun out1 =>
 uncO out1.objs fun o1 os1 =>
 rO o1 ty_synoptickeep_Src 0 fun cs1 =>
 need ((Nat.beq cs1.length 2) && true) <|
 unc cs1 fun c2 r2 =>
 unc r2 fun c3 _ =>
 asI .i64 c3 fun i1 =>
 rC out1.r fun c4 =>
 asI .i64 c4 fun i2 =>
 (cl fu d fn_synopticdata_Crowd [V.ptr 1000000 0, I 6, I 14000000] [.ob ty_synoptickeep_Src 0 ([c2, C.v (.int .i64 i1)])]).bind fun out2 =>
 uncO out2.objs fun o2 os2 =>
 rO o2 ty_synoptickeep_Src 0 fun cs2 =>
 need ((Nat.beq cs2.length 2) && true) <|
 unc cs2 fun c5 r4 =>
 unc r4 fun c6 _ =>
 asI .i64 c6 fun i3 =>
 rC out2.r fun c7 =>
 (cl fu d fn_synopticdata_Crowd [V.ptr 1000000 0, I 6, I 14000000] [.ob ty_synoptickeep_Src 0 ([c5, C.v (.int .i64 i3)])]).bind fun out3 =>
 uncO out3.objs fun o3 os3 =>
 rO o3 ty_synoptickeep_Src 0 fun cs3 =>
 need ((Nat.beq cs3.length 2) && true) <|
 unc cs3 fun c8 r6 =>
 unc r6 fun c9 _ =>
 asI .i64 c9 fun i4 =>
 rC out3.r fun c10 =>
 (cl fu d fn_operator_Rows [I i2, V.c (nrm c7), I 1, I 7] []).bind fun out4 =>
 rT out4.r fun xs =>
 uncV xs fun x ys =>
 rC x fun c11 =>
 uncV ys fun x1 ys1 =>
 rC x1 fun c12 =>
 asI .i64 c12 fun i5 =>
 nilV ys1 <|
 (cl fu d fn_operator_Rows [I i2, V.c (nrm c10), I 1, I 7] []).bind fun out5 =>
 rT out5.r fun xs1 =>
 uncV xs1 fun x2 ys2 =>
 rC x2 fun c13 =>
 uncV ys2 fun x3 ys3 =>
 rC x3 fun c14 =>
 asI .i64 c14 fun i6 =>
 nilV ys3 <|
 asSl c7 fun n cs4 =>
 need (Nat.beq (n * 8) cs4.length) <|
 need ((Nat.ble ((0 + n) * 88) 140737488355328) && (Nat.ble (0 + n) 140737488355328)) <|
 asSl c10 fun n1 cs5 =>
 need (Nat.beq (n1 * 8) cs5.length) <|
 need ((((Nat.beq ((0 + n) * 8) cs4.length) && true) && (Nat.ble (((0 + n) + n1) * 88) 140737488355328)) && (Nat.ble ((0 + n) + n1) 140737488355328)) <|
 need (Nat.ble (0 + (((0 + n) + n1) * 8)) ((cs4 ++ cs5).length)) <|
 (cl fu d fn_operator_Rows [I i2, V.c (C.sl ((0 + n) + n1) (List.take (((0 + n) + n1) * 8) (cs4 ++ cs5))), I 1, I 7] []).bind fun out6 =>
 rT out6.r fun xs2 =>
 uncV xs2 fun x4 ys4 =>
 rC x4 fun c15 =>
 uncV ys4 fun x5 ys5 =>
 rC x5 fun c16 =>
 asI .i64 c16 fun i7 =>
 nilV ys5 <|
 bif i5 != 0 then
 some ⟨B false, [], none⟩
 else
 bif i6 != 0 then
 some ⟨B false, [], none⟩
 else
 bif i7 != 0 then
 some ⟨B false, [], none⟩
 else
 asSl c15 fun n2 cs6 =>
 asSl c11 fun n3 cs7 =>
 asSl c13 fun n4 cs8 =>
 bif ((n2 : Nat) : Int) != (IntKind.i64.wrap (((n3 : Nat) : Int) + ((n4 : Nat) : Int))) then
 some ⟨B false, [], none⟩
 else
 asSl c15 fun n5 cs9 =>
 (iter (fun (y : Bool × Int × (C × Int × Unit) × Unit) =>
 bif decide (y.2.1 < ((n5 : Nat) : Int)) then
 asSl c15 fun n6 cs10 =>
 need (inR y.2.1 n6) <|
 unc (List.drop (y.2.1.toNat * 4) cs10) fun c17 r8 =>
 unc r8 fun c18 r9 =>
 asI .i64 c18 fun i8 =>
 unc r9 fun c19 r10 =>
 asI .i64 c19 fun i9 =>
 unc r10 fun c20 _ =>
 asI .i64 c20 fun i10 =>
 asSl c11 fun n7 cs11 =>
 bif decide (y.2.1 < ((n7 : Nat) : Int)) then
 sliceC 4 (some (I y.2.1)) (some (I (IntKind.i64.wrap (y.2.1 + 1)))) c11 fun c21 =>
 (cl fu d fn_synopticref21_Same [V.c (C.sl 1 ([c17, C.v (.int .i64 i8), C.v (.int .i64 i9), C.v (.int .i64 i10)])), V.c (nrm c21)] []).bind fun out7 =>
 rC out7.r fun c22 =>
 asB c22 fun b =>
 bif !b then
 some (2, (false, y.2.1, (y.2.2.1.1, y.2.2.1.2.1, ()), ()))
 else
 some (0, (y.1, IntKind.i64.wrap (y.2.1 + 1), (y.2.2.1.1, y.2.2.1.2.1, ()), ()))
 else
 asSl c7 fun n8 cs12 =>
 asSl c11 fun n9 cs13 =>
 asSl c11 fun n10 cs14 =>
 sliceC 4 (some (I (IntKind.i64.wrap (y.2.1 - ((n9 : Nat) : Int))))) (some (I (IntKind.i64.wrap ((IntKind.i64.wrap (y.2.1 - ((n10 : Nat) : Int))) + 1)))) c13 fun c23 =>
 (cl fu d fn_synopticref21_Same [V.c (C.sl 1 ([c17, C.v (.int .i64 i8), C.v (.int .i64 i9), C.v (.int .i64 (IntKind.i64.wrap (i10 - ((n8 : Nat) : Int))))])), V.c (nrm c23)] []).bind fun out8 =>
 rC out8.r fun c24 =>
 asB c24 fun b1 =>
 bif !b1 then
 some (2, (false, y.2.1, (y.2.2.1.1, y.2.2.1.2.1, ()), ()))
 else
 some (0, (y.1, IntKind.i64.wrap (y.2.1 + 1), (y.2.2.1.1, y.2.2.1.2.1, ()), ()))
 else
 some (1, (y.1, y.2.1, (y.2.2.1.1, y.2.2.1.2.1, ()), ()))) fu (false, 0, (c8, i4, ()), ())).bind fun p =>
 natD p.1 (
 asSl c15 fun n11 cs15 =>
 (cl fu d fn_synopticlaw21_values [V.ptr 1000000 0, I ((n11 : Nat) : Int), I 1000] [.ob ty_synoptickeep_Src 0 ([p.2.2.2.1.1, C.v (.int .i64 p.2.2.2.1.2.1)])]).bind fun out9 =>
 uncO out9.objs fun o4 os4 =>
 rO o4 ty_synoptickeep_Src 0 fun cs16 =>
 need ((Nat.beq cs16.length 2) && true) <|
 unc cs16 fun c25 r12 =>
 unc r12 fun c26 _ =>
 asI .i64 c26 fun i11 =>
 rC out9.r fun c27 =>
 (cl fu d fn_synopticref03_Count [I i2] []).bind fun out10 =>
 rC out10.r fun c28 =>
 asI .i64 c28 fun i12 =>
 asSl c11 fun n12 cs17 =>
 sliceC 1 none (some (I ((n12 : Nat) : Int))) c27 fun c29 =>
 need (noYl [V.c (nrm c11)]) <|
 (cl fu d fn_operator_Transpose [V.c (nrm c11), I i12, V.c (nrm c29)] []).bind fun out11 =>
 rT out11.r fun xs3 =>
 uncV xs3 fun x6 ys6 =>
 rC x6 fun c30 =>
 uncV ys6 fun x7 ys7 =>
 rC x7 fun c31 =>
 asI .i64 c31 fun i13 =>
 nilV ys7 <|
 asSl c11 fun n13 cs18 =>
 sliceC 1 (some (I ((n13 : Nat) : Int))) none c27 fun c32 =>
 need (noYl [V.c (nrm c13)]) <|
 (cl fu d fn_operator_Transpose [V.c (nrm c13), I i12, V.c (nrm c32)] []).bind fun out12 =>
 rT out12.r fun xs4 =>
 uncV xs4 fun x8 ys8 =>
 rC x8 fun c33 =>
 uncV ys8 fun x9 ys9 =>
 rC x9 fun c34 =>
 asI .i64 c34 fun i14 =>
 nilV ys9 <|
 need (noYl [V.c (nrm c15)]) <|
 (cl fu d fn_operator_Transpose [V.c (nrm c15), I i12, V.c (nrm c27)] []).bind fun out13 =>
 rT out13.r fun xs5 =>
 uncV xs5 fun x10 ys10 =>
 rC x10 fun c35 =>
 uncV ys10 fun x11 ys11 =>
 rC x11 fun c36 =>
 asI .i64 c36 fun i15 =>
 nilV ys11 <|
 bif i13 != 0 then
 some ⟨B false, [], none⟩
 else
 bif i14 != 0 then
 some ⟨B false, [], none⟩
 else
 bif i15 != 0 then
 some ⟨B false, [], none⟩
 else
 asSl c35 fun n14 cs19 =>
 bif ((n14 : Nat) : Int) != i12 then
 some ⟨B false, [], none⟩
 else
 asSl c35 fun n15 cs20 =>
 (iter (fun (y1 : Bool × Int × Unit) =>
 bif decide (y1.2.1 < ((n15 : Nat) : Int)) then
 asSl c35 fun n16 cs21 =>
 need (inR y1.2.1 n16) <|
 unc (List.drop (y1.2.1.toNat * 1) cs21) fun c37 _ =>
 asI .i64 c37 fun i16 =>
 asSl c30 fun n17 cs22 =>
 need (inR y1.2.1 n17) <|
 unc (List.drop (y1.2.1.toNat * 1) cs22) fun c38 _ =>
 asI .i64 c38 fun i17 =>
 asSl c33 fun n18 cs23 =>
 need (inR y1.2.1 n18) <|
 unc (List.drop (y1.2.1.toNat * 1) cs23) fun c39 _ =>
 asI .i64 c39 fun i18 =>
 bif i16 != (IntKind.i64.wrap (i17 + i18)) then
 some (2, (false, y1.2.1, ()))
 else
 some (0, (y1.1, IntKind.i64.wrap (y1.2.1 + 1), ()))
 else
 some (1, (y1.1, y1.2.1, ()))) fu (p.2.1, 0, ())).bind fun p1 =>
 natD p1.1 (
 need (noYl [V.c (nrm c35)]) <|
 (cl fu d fn_synoptickeep_Sum [V.c (nrm c35)] []).bind fun out14 =>
 rC out14.r fun c40 =>
 asI .i64 c40 fun i19 =>
 need (noYl [V.c (nrm c27)]) <|
 (cl fu d fn_synoptickeep_Sum [V.c (nrm c27)] []).bind fun out15 =>
 rC out15.r fun c41 =>
 asI .i64 c41 fun i20 =>
 bif i19 == (IntKind.i64.wrap (840 * i20)) then
 (cl fu d fn_synopticlaw21_awake [] []).bind fun out16 =>
 rC out16.r fun c42 =>
 asB c42 fun b2 =>
 some ⟨B b2, [], none⟩
 else
 some ⟨B false, [], none⟩) fun m1 =>
 some ⟨B p1.2.1, [], none⟩) fun m =>
 some ⟨B p.2.1, [], none⟩) := by kernel_rfl
/- synoptic/synoptickeep.New -/
theorem eq_synoptickeep_New (fu d : Nat) (n0 : Nat) (a0 : List C) :
 cl fu (d + 1) fn_synoptickeep_New [V.c (C.sl n0 a0)] [] = (
 need ((decide (0 ≤ (if 2000 < ((n0 : Nat) : Int) then 2000 else ((n0 : Nat) : Int)))) && (decide ((if 2000 < ((n0 : Nat) : Int) then 2000 else ((n0 : Nat) : Int)) ≤ ((n0 : Nat) : Int)))) <|
 some ⟨V.ptr 1000000 0, [.ob ty_synoptickeep_Src 0 ([C.sl ((if 2000 < ((n0 : Nat) : Int) then 2000 else ((n0 : Nat) : Int)).toNat) (List.take (((if 2000 < ((n0 : Nat) : Int) then 2000 else ((n0 : Nat) : Int)).toNat) * 1) a0), C.v (.int .i64 0)])], none⟩) := by kernel_rfl
/- synoptic/synopticlaw21.values -/
theorem eq_synopticlaw21_values (fu d : Nat) (a0_0 : C) (a0_1 : Int) (a1 : Int) (a2 : Int) :
 cl fu (d + 1) fn_synopticlaw21_values [V.ptr 1000000 0, I a1, I a2] [.ob ty_synoptickeep_Src 0 ([a0_0, C.v (.int .i64 a0_1)])] = (
 need (((((decide (0 ≤ a1)) && (decide (a1 ≤ a1))) && (decide ((8 : Int) * a1 ≤ 140737488355328))) && (decide (a1 ≤ 140737488355328))) && true) <|
 (cl fu d fn_synoptickeep_Src_Range [V.ptr 1000000 0, I (IntKind.i64.wrap (0 - a2)), I a2] [.ob ty_synoptickeep_Src 0 ([a0_0, C.v (.int .i64 a0_1)])]).bind fun out =>
 uncO out.objs fun o os =>
 rO o ty_synoptickeep_Src 0 fun cs =>
 need ((Nat.beq cs.length 2) && true) <|
 unc cs fun c r =>
 unc r fun c1 _ =>
 asI .i64 c1 fun i =>
 rC out.r fun c2 =>
 asI .i64 c2 fun i1 =>
 need (((Nat.beq (a1.toNat * 1) ((reps a1.toNat ([C.v (.int .i64 0)])).length)) && true) && true) <|
 (iter (fun (y : List C × Int × (C × Int × Unit) × Unit) =>
 bif decide (y.2.1 < ((a1.toNat : Nat) : Int)) then
 (cl fu d fn_synoptickeep_Src_Range [V.ptr 1000000 0, I (-500), I 500] [.ob ty_synoptickeep_Src 0 ([y.2.2.1.1, C.v (.int .i64 y.2.2.1.2.1)])]).bind fun out1 =>
 uncO out1.objs fun o1 os1 =>
 rO o1 ty_synoptickeep_Src 0 fun cs1 =>
 need ((Nat.beq cs1.length 2) && true) <|
 unc cs1 fun c3 r2 =>
 unc r2 fun c4 _ =>
 asI .i64 c4 fun i2 =>
 rC out1.r fun c5 =>
 asI .i64 c5 fun i3 =>
 (cl fu d fn_synoptickeep_Src_Range [V.ptr 1000000 0, I (IntKind.i64.wrap (0 - a2)), I a2] [.ob ty_synoptickeep_Src 0 ([c3, C.v (.int .i64 i2)])]).bind fun out2 =>
 uncO out2.objs fun o2 os2 =>
 rO o2 ty_synoptickeep_Src 0 fun cs2 =>
 need ((Nat.beq cs2.length 2) && true) <|
 unc cs2 fun c6 r4 =>
 unc r4 fun c7 _ =>
 asI .i64 c7 fun i4 =>
 rC out2.r fun c8 =>
 asI .i64 c8 fun i5 =>
 (cl fu d fn_synoptickeep_Src_Pick [V.ptr 1000000 0, V.c (C.sl 3 ([C.v (.int .i64 0), C.v (.int .i64 i3), C.v (.int .i64 i5)]))] [.ob ty_synoptickeep_Src 0 ([c6, C.v (.int .i64 i4)])]).bind fun out3 =>
 uncO out3.objs fun o3 os3 =>
 rO o3 ty_synoptickeep_Src 0 fun cs3 =>
 need ((Nat.beq cs3.length 2) && true) <|
 unc cs3 fun c9 r6 =>
 unc r6 fun c10 _ =>
 asI .i64 c10 fun i6 =>
 rC out3.r fun c11 =>
 asI .i64 c11 fun i7 =>
 need (inR y.2.1 (y.1.length / 1)) <|
 need (((Nat.ble 0 (0 + (y.2.1.toNat * 1))) && (Nat.ble ((0 + (y.2.1.toNat * 1)) + 1) y.1.length)) && true) <|
 need (((Nat.beq ((y.1.length / 1) * 1) ((putAt y.1 (0 + (y.2.1.toNat * 1)) ([C.v (.int .i64 (IntKind.i64.wrap (i1 + i7)))])).length)) && true) && true) <|
 some (0, (putAt y.1 (0 + (y.2.1.toNat * 1)) ([C.v (.int .i64 (IntKind.i64.wrap (i1 + i7)))]), IntKind.i64.wrap (y.2.1 + 1), (c9, i6, ()), ()))
 else
 need (((Nat.beq ((y.1.length / 1) * 1) y.1.length) && true) && true) <|
 some (1, (y.1, y.2.1, (y.2.2.1.1, y.2.2.1.2.1, ()), ()))) fu (reps a1.toNat ([C.v (.int .i64 0)]), 0, (c, i, ()), ())).bind fun p =>
 need (Nat.ble (0 + ((p.2.1.length / 1) * 1)) p.2.1.length) <|
 some ⟨V.c (C.sl (p.2.1.length / 1) (List.take ((p.2.1.length / 1) * 1) p.2.1)), [.ob ty_synoptickeep_Src 0 ([p.2.2.2.1.1, C.v (.int .i64 p.2.2.2.1.2.1)])], none⟩) := by kernel_rfl
/- synoptic/synoptickeep.Mod -/
theorem eq_synoptickeep_Mod (fu d : Nat) (a0 : Int) (a1 : Int) :
 cl fu (d + 1) fn_synoptickeep_Mod [I a0, I a1] [] = (
 bif decide (a1 < 1) then
 some ⟨I 0, [], none⟩
 else
 need (!(a1 == 0)) <|
 bif decide (Int.tmod a0 a1 < 0) then
 some ⟨I (IntKind.i64.wrap ((Int.tmod a0 a1) + a1)), [], none⟩
 else
 some ⟨I (Int.tmod a0 a1), [], none⟩) := by kernel_rfl
/- synoptic/operator.Apply -/
theorem eq_operator_Apply (fu d : Nat) (n0 : Nat) (a0 : List C) (n1 : Nat) (a1 : List C) :
 cl fu (d + 1) fn_operator_Apply [V.c (C.sl n0 a0), V.c (C.sl n1 a1)] [] = (
 bif decide (((n0 : Nat) : Int) > 200) then
 some ⟨V.tup [V.own 1000000 0 0, I 2], [.sb ty_int 0 ([])], none⟩
 else
 bif decide (((n1 : Nat) : Int) > 642) then
 some ⟨V.tup [V.own 1000000 0 0, I 2], [.sb ty_int 0 ([])], none⟩
 else
 (cl fu d fn_operator_invalid [V.c (C.sl n0 a0), I ((n1 : Nat) : Int)] []).bind fun out =>
 rC out.r fun c =>
 asB c fun b =>
 bif b then
 some ⟨V.tup [V.own 1000000 0 0, I 1], [.sb ty_int 0 ([])], none⟩
 else
 (cl fu d fn_operator_small [V.c (C.sl n1 a1)] []).bind fun out1 =>
 rC out1.r fun c1 =>
 asB c1 fun b1 =>
 bif !b1 then
 some ⟨V.tup [V.own 1000000 0 0, I 1], [.sb ty_int 0 ([])], none⟩
 else
 (iter (fun (y : List C × Int × Unit) =>
 bif decide (y.2.1 < ((n0 : Nat) : Int)) then
 need (inR y.2.1 n0) <|
 unc (List.drop (y.2.1.toNat * 4) a0) fun c2 r =>
 unc r fun c3 r1 =>
 asI .i64 c3 fun i =>
 unc r1 fun c4 r2 =>
 asI .i64 c4 fun i1 =>
 unc r2 fun c5 _ =>
 asI .i64 c5 fun i2 =>
 (cl fu d fn_operator_value [V.agg ([c2, C.v (.int .i64 i), C.v (.int .i64 i1), C.v (.int .i64 i2)]), V.c (C.sl n1 a1)] []).bind fun out2 =>
 rC out2.r fun c6 =>
 asI .i64 c6 fun i3 =>
 need ((((Nat.beq ((y.1.length / 1) * 1) y.1.length) && true) && (Nat.ble (((y.1.length / 1) + 1) * 8) 140737488355328)) && (Nat.ble ((y.1.length / 1) + 1) 140737488355328)) <|
 need (((Nat.beq (((y.1.length / 1) + 1) * 1) ((y.1 ++ ([C.v (.int .i64 i3)])).length)) && true) && true) <|
 some (0, (y.1 ++ ([C.v (.int .i64 i3)]), IntKind.i64.wrap (y.2.1 + 1), ()))
 else
 need (((Nat.beq ((y.1.length / 1) * 1) y.1.length) && true) && true) <|
 some (1, (y.1, y.2.1, ()))) fu ([], 0, ())).bind fun p =>
 need (((Nat.ble ((p.2.1.length / 1) * 1) p.2.1.length) && true) && true) <|
 some ⟨V.tup [V.own 1000000 0 (p.2.1.length / 1), I 0], [.sb ty_int 0 (List.take ((p.2.1.length / 1) * 1) p.2.1)], none⟩) := by kernel_rfl
/- synoptic/operator.Departures -/
theorem eq_operator_Departures (fu d : Nat) (n0 : Nat) (a0 : List C) (n1 : Nat) (a1 : List C) :
 cl fu (d + 1) fn_operator_Departures [V.c (C.sl n0 a0), V.c (C.sl n1 a1)] [] = (
 (cl fu d fn_operator_Apply [V.c (C.sl n0 a0), V.c (C.sl n1 a1)] []).bind fun out =>
 rT out.r fun xs =>
 uncV xs fun x ys =>
 rW x 0 fun n =>
 uncO out.objs fun o os =>
 rS o ty_int 0 fun cs =>
 need ((Nat.beq (n * 1) cs.length) && true) <|
 uncV ys fun x1 ys1 =>
 rC x1 fun c =>
 asI .i64 c fun i =>
 nilV ys1 <|
 need (((Nat.beq (n * 1) cs.length) && true) && true) <|
 (iter (fun (y : List C × Int × Unit) =>
 bif decide (y.2.1 < ((n : Nat) : Int)) then
 need (inR y.2.1 n0) <|
 unc (List.drop 1 (List.drop (y.2.1.toNat * 4) a0)) fun c1 _ =>
 asI .i64 c1 fun i1 =>
 need (inR y.2.1 (y.1.length / 1)) <|
 unc (List.drop (0 + (y.2.1.toNat * 1)) y.1) fun c2 _ =>
 asI .i64 c2 fun i2 =>
 need (inR y.2.1 (y.1.length / 1)) <|
 need (((Nat.ble 0 (0 + (y.2.1.toNat * 1))) && (Nat.ble ((0 + (y.2.1.toNat * 1)) + 1) y.1.length)) && true) <|
 need (((Nat.beq ((y.1.length / 1) * 1) ((putAt y.1 (0 + (y.2.1.toNat * 1)) ([C.v (.int .i64 (IntKind.i64.wrap ((IntKind.i64.wrap (840 * i1)) - i2)))])).length)) && true) && true) <|
 some (0, (putAt y.1 (0 + (y.2.1.toNat * 1)) ([C.v (.int .i64 (IntKind.i64.wrap ((IntKind.i64.wrap (840 * i1)) - i2)))]), IntKind.i64.wrap (y.2.1 + 1), ()))
 else
 need (((Nat.beq ((y.1.length / 1) * 1) y.1.length) && true) && true) <|
 some (1, (y.1, y.2.1, ()))) fu (cs, 0, ())).bind fun p =>
 need (Nat.ble (0 + ((p.2.1.length / 1) * 1)) p.2.1.length) <|
 some ⟨V.tup [V.c (C.sl (p.2.1.length / 1) (List.take ((p.2.1.length / 1) * 1) p.2.1)), I i], [], none⟩) := by kernel_rfl
/- synoptic/synopticlaw21.awake -/
theorem eq_synopticlaw21_awake (fu d : Nat)  :
 cl fu (d + 1) fn_synopticlaw21_awake [] [] = (
 (cl fu d fn_operator_Rows [I 2, V.c (C.sl 1 ([C.v (.int .i64 0), C.v (.string (⟨#[]⟩)), C.v (.int .i64 0), C.v (.int .i64 0), C.v (.int .i64 630), C.v (.int .i64 210), C.v (.int .i64 0), C.sl 1 ([C.v (.int .i64 1), C.v (.int .i64 10100)])])), I 1, I 3] []).bind fun out =>
 rT out.r fun xs =>
 uncV xs fun x ys =>
 rC x fun c =>
 uncV ys fun x1 ys1 =>
 rC x1 fun c1 =>
 asI .i64 c1 fun i =>
 nilV ys1 <|
 bif i != 0 then
 some ⟨B false, [], none⟩
 else
 asSl c fun n cs =>
 bif ((n : Nat) : Int) != 1 then
 some ⟨B false, [], none⟩
 else
 asSl c fun n1 cs1 =>
 need (inR 0 n1) <|
 unc cs1 fun c2 r =>
 asSl c2 fun n2 cs2 =>
 bif ((n2 : Nat) : Int) != 2 then
 some ⟨B false, [], none⟩
 else
 asSl c fun n3 cs3 =>
 need (inR 0 n3) <|
 unc cs3 fun c3 _ =>
 asSl c3 fun n4 cs4 =>
 need (inR 0 n4) <|
 unc cs4 fun c4 _ =>
 asI .i64 c4 fun i1 =>
 asSl c fun n5 cs5 =>
 need (inR 0 n5) <|
 unc cs5 fun c5 _ =>
 asSl c5 fun n6 cs6 =>
 need (inR 1 n6) <|
 unc (List.drop 2 cs6) fun c6 _ =>
 asI .i64 c6 fun i2 =>
 need (inR i1 42) <|
 need (((Nat.ble 0 (0 + (i1.toNat * 1))) && (Nat.ble ((0 + (i1.toNat * 1)) + 1) 42)) && true) <|
 bd (putAt ([C.v (.int .i64 0), C.v (.int .i64 0), C.v (.int .i64 0), C.v (.int .i64 0), C.v (.int .i64 0), C.v (.int .i64 0), C.v (.int .i64 0), C.v (.int .i64 0), C.v (.int .i64 0), C.v (.int .i64 0), C.v (.int .i64 0), C.v (.int .i64 0), C.v (.int .i64 0), C.v (.int .i64 0), C.v (.int .i64 0), C.v (.int .i64 0), C.v (.int .i64 0), C.v (.int .i64 0), C.v (.int .i64 0), C.v (.int .i64 0), C.v (.int .i64 0), C.v (.int .i64 0), C.v (.int .i64 0), C.v (.int .i64 0), C.v (.int .i64 0), C.v (.int .i64 0), C.v (.int .i64 0), C.v (.int .i64 0), C.v (.int .i64 0), C.v (.int .i64 0), C.v (.int .i64 0), C.v (.int .i64 0), C.v (.int .i64 0), C.v (.int .i64 0), C.v (.int .i64 0), C.v (.int .i64 0), C.v (.int .i64 0), C.v (.int .i64 0), C.v (.int .i64 0), C.v (.int .i64 0), C.v (.int .i64 0), C.v (.int .i64 0)]) (0 + (i1.toNat * 1)) ([C.v (.int .i64 10090)])) fun cs7 =>
 need (inR i2 42) <|
 need (((Nat.ble 0 (0 + (i2.toNat * 1))) && (Nat.ble ((0 + (i2.toNat * 1)) + 1) cs7.length)) && true) <|
 need (Nat.ble 42 ((putAt cs7 (0 + (i2.toNat * 1)) ([C.v (.int .i64 10100)])).length)) <|
 need (noYl [V.c (nrm c)]) <|
 (cl fu d fn_operator_Apply [V.c (nrm c), V.c (C.sl 42 (List.take 42 (putAt cs7 (0 + (i2.toNat * 1)) ([C.v (.int .i64 10100)]))))] []).bind fun out1 =>
 rT out1.r fun xs1 =>
 uncV xs1 fun x2 ys2 =>
 rW x2 0 fun n7 =>
 uncO out1.objs fun o os =>
 rS o ty_int 0 fun cs8 =>
 need ((Nat.beq (n7 * 1) cs8.length) && true) <|
 uncV ys2 fun x3 ys3 =>
 rC x3 fun c7 =>
 asI .i64 c7 fun i3 =>
 nilV ys3 <|
 need (Nat.ble 42 ((putAt cs7 (0 + (i2.toNat * 1)) ([C.v (.int .i64 10100)])).length)) <|
 need (noYl [V.c (nrm c)]) <|
 (cl fu d fn_operator_Departures [V.c (nrm c), V.c (C.sl 42 (List.take 42 (putAt cs7 (0 + (i2.toNat * 1)) ([C.v (.int .i64 10100)]))))] []).bind fun out2 =>
 rT out2.r fun xs2 =>
 uncV xs2 fun x4 ys4 =>
 rC x4 fun c8 =>
 uncV ys4 fun x5 ys5 =>
 rC x5 fun c9 =>
 asI .i64 c9 fun i4 =>
 nilV ys5 <|
 bif i3 == 0 then
 bif i4 == 0 then
 need (Nat.ble (0 + (n7 * 1)) cs8.length) <|
 (cl fu d fn_synoptickeep_Ints [V.c (C.sl n7 (List.take (n7 * 1) cs8)), V.c (C.sl 1 ([C.v (.int .i64 8479800)]))] []).bind fun out3 =>
 rC out3.r fun c10 =>
 asB c10 fun b =>
 bif b then
 need (noYl [V.c (nrm c8)]) <|
 (cl fu d fn_synoptickeep_Ints [V.c (nrm c8), V.c (C.sl 1 ([C.v (.int .i64 4200)]))] []).bind fun out4 =>
 rC out4.r fun c11 =>
 asB c11 fun b1 =>
 some ⟨B b1, [], none⟩
 else
 some ⟨B false, [], none⟩
 else
 some ⟨B false, [], none⟩
 else
 some ⟨B false, [], none⟩) := by kernel_rfl
/- (*synoptic/synoptickeep.Src).Range -/
theorem eq_synoptickeep_Src_Range (fu d : Nat) (a0_0 : C) (a0_1 : Int) (a1 : Int) (a2 : Int) :
 cl fu (d + 1) fn_synoptickeep_Src_Range [V.ptr 1000000 0, I a1, I a2] [.ob ty_synoptickeep_Src 0 ([a0_0, C.v (.int .i64 a0_1)])] = (
 (cl fu d fn_synoptickeep_Src_N [V.ptr 1000000 0, I (IntKind.i64.wrap ((IntKind.i64.wrap (a2 - a1)) + 1))] [.ob ty_synoptickeep_Src 0 ([a0_0, C.v (.int .i64 a0_1)])]).bind fun out =>
 uncO out.objs fun o os =>
 rO o ty_synoptickeep_Src 0 fun cs =>
 need ((Nat.beq cs.length 2) && true) <|
 unc cs fun c r =>
 unc r fun c1 _ =>
 asI .i64 c1 fun i =>
 rC out.r fun c2 =>
 asI .i64 c2 fun i1 =>
 some ⟨I (IntKind.i64.wrap (a1 + i1)), [.ob ty_synoptickeep_Src 0 ([c, C.v (.int .i64 i)])], none⟩) := by kernel_rfl
/- (*synoptic/synoptickeep.Src).N -/
theorem eq_synoptickeep_Src_N (fu d : Nat) (a0_0 : C) (a0_1 : Int) (a1 : Int) :
 cl fu (d + 1) fn_synoptickeep_Src_N [V.ptr 1000000 0, I a1] [.ob ty_synoptickeep_Src 0 ([a0_0, C.v (.int .i64 a0_1)])] = (
 (cl fu d fn_synoptickeep_Src_Raw [V.ptr 1000000 0] [.ob ty_synoptickeep_Src 0 ([a0_0, C.v (.int .i64 a0_1)])]).bind fun out =>
 uncO out.objs fun o os =>
 rO o ty_synoptickeep_Src 0 fun cs =>
 need ((Nat.beq cs.length 2) && true) <|
 unc cs fun c r =>
 unc r fun c1 _ =>
 asI .i64 c1 fun i =>
 rC out.r fun c2 =>
 asI .i64 c2 fun i1 =>
 (cl fu d fn_synoptickeep_Mod [I i1, I a1] []).bind fun out1 =>
 rC out1.r fun c3 =>
 asI .i64 c3 fun i2 =>
 some ⟨I i2, [.ob ty_synoptickeep_Src 0 ([c, C.v (.int .i64 i)])], none⟩) := by kernel_rfl
/- synoptic/operator.Rows -/
theorem eq_operator_Rows (fu d : Nat) (a0 : Int) (n1 : Nat) (a1 : List C) (a2 : Int) (a3 : Int) :
 cl fu (d + 1) fn_operator_Rows [I a0, V.c (C.sl n1 a1), I a2, I a3] [] = (
 (cl fu d fn_mesh_Frequency [I a0] []).bind fun out =>
 rC out.r fun c =>
 asB c fun b =>
 bif !b then
 some ⟨V.tup [V.c C.nl, I 1], [], none⟩
 else
 (cl fu d fn_element_Describe [I a2] []).bind fun out1 =>
 rT out1.r fun xs =>
 uncV xs fun x ys =>
 rA x fun cs =>
 need (Nat.beq cs.length 4) <|
 unc cs fun c1 r =>
 asS c1 fun s =>
 unc r fun c2 r1 =>
 asI .i64 c2 fun i =>
 unc r1 fun c3 r2 =>
 asI .i64 c3 fun i1 =>
 unc r2 fun c4 _ =>
 asI .i64 c4 fun i2 =>
 uncV ys fun x1 ys1 =>
 rC x1 fun c5 =>
 asI .i64 c5 fun i3 =>
 nilV ys1 <|
 bif i3 != 0 then
 some ⟨V.tup [V.c C.nl, I i3], [], none⟩
 else
 (cl fu d fn_operator_weighted [I a3] []).bind fun out2 =>
 rC out2.r fun c6 =>
 asB c6 fun b1 =>
 bif !b1 then
 some ⟨V.tup [V.c C.nl, I 1], [], none⟩
 else
 (iter (fun (y : List C × Int × Int × Unit) =>
 bif decide (y.2.2.1 < ((n1 : Nat) : Int)) then
 need (inR y.2.2.1 n1) <|
 unc (List.drop (y.2.2.1.toNat * 8) a1) fun c7 r4 =>
 asI .i64 c7 fun i4 =>
 unc r4 fun c8 r5 =>
 asS c8 fun s1 =>
 unc r5 fun c9 r6 =>
 asI .i64 c9 fun i5 =>
 unc r6 fun c10 r7 =>
 asI .i64 c10 fun i6 =>
 unc r7 fun c11 r8 =>
 asI .i64 c11 fun i7 =>
 unc r8 fun c12 r9 =>
 asI .i64 c12 fun i8 =>
 unc r9 fun c13 r10 =>
 asI .i64 c13 fun i9 =>
 unc r10 fun c14 _ =>
 need (noYl [V.c (nrm c14)]) <|
 (cl fu d fn_element_Validate [V.c (nrm c14)] []).bind fun out3 =>
 rC out3.r fun c15 =>
 asI .i64 c15 fun i10 =>
 bif i10 != 0 then
 some (2, ([], i10, y.2.2.1, ()))
 else
 need (((Nat.beq ((y.1.length / 4) * 4) y.1.length) && true) && true) <|
 some (0, (y.1, y.2.1, IntKind.i64.wrap (y.2.2.1 + 1), ()))
 else
 need (((Nat.beq ((y.1.length / 4) * 4) y.1.length) && true) && true) <|
 some (1, (y.1, y.2.1, y.2.2.1, ()))) fu ([], 0, 0, ())).bind fun p =>
 natD p.1 (
 (cl fu d fn_mesh_Points [I a0] []).bind fun out4 =>
 rC out4.r fun c16 =>
 need (((Nat.beq ((p.2.1.length / 4) * 4) p.2.1.length) && true) && true) <|
 (iter (fun (y1 : List C × Int × List C × Int × Unit) =>
 bif decide (y1.2.2.2.1 < ((n1 : Nat) : Int)) then
 need (inR y1.2.2.2.1 n1) <|
 unc (List.drop (y1.2.2.2.1.toNat * 8) a1) fun c17 r12 =>
 asI .i64 c17 fun i11 =>
 unc r12 fun c18 r13 =>
 asS c18 fun s2 =>
 unc r13 fun c19 r14 =>
 asI .i64 c19 fun i12 =>
 unc r14 fun c20 r15 =>
 asI .i64 c20 fun i13 =>
 unc r15 fun c21 r16 =>
 asI .i64 c21 fun i14 =>
 unc r16 fun c22 r17 =>
 asI .i64 c22 fun i15 =>
 unc r17 fun c23 r18 =>
 asI .i64 c23 fun i16 =>
 unc r18 fun c24 _ =>
 need (noYl [V.c (nrm c24)]) <|
 (cl fu d fn_element_Find [V.c (nrm c24), I a2] []).bind fun out5 =>
 rT out5.r fun xs1 =>
 uncV xs1 fun x2 ys2 =>
 rC x2 fun c25 =>
 asI .i64 c25 fun i17 =>
 uncV ys2 fun x3 ys3 =>
 rC x3 fun c26 =>
 asB c26 fun b2 =>
 nilV ys3 <|
 bif !b2 then
 need (((Nat.beq ((y1.1.length / 4) * 4) y1.1.length) && true) && true) <|
 need (((Nat.beq ((y1.2.2.1.length / 4) * 4) y1.2.2.1.length) && true) && true) <|
 some (0, (y1.1, y1.2.1, y1.2.2.1, IntKind.i64.wrap (y1.2.2.2.1 + 1), ()))
 else
 (cl fu d fn_place_Valid [V.agg ([C.v (.int .i64 i13), C.v (.int .i64 i14), C.v (.int .i64 i15), C.v (.int .i64 i16)])] []).bind fun out6 =>
 rC out6.r fun c27 =>
 asB c27 fun b3 =>
 bif !b3 then
 need (((Nat.beq ((y1.2.2.1.length / 4) * 4) y1.2.2.1.length) && true) && true) <|
 some (2, ([], 1, y1.2.2.1, y1.2.2.2.1, ()))
 else
 need (noYl [V.c c16]) <|
 (cl fu d fn_mesh_Net_Locate [V.c c16, V.agg ([C.v (.int .i64 i13), C.v (.int .i64 i14), C.v (.int .i64 i15), C.v (.int .i64 i16)])] []).bind fun out7 =>
 rC out7.r fun c28 =>
 need ((((Nat.beq ((y1.2.2.1.length / 4) * 4) y1.2.2.1.length) && true) && (Nat.ble (((y1.2.2.1.length / 4) + 1) * 48) 140737488355328)) && (Nat.ble ((y1.2.2.1.length / 4) + 1) 140737488355328)) <|
 need (((Nat.beq ((y1.1.length / 4) * 4) y1.1.length) && true) && true) <|
 need (((Nat.beq (((y1.2.2.1.length / 4) + 1) * 4) ((y1.2.2.1 ++ ([c28, C.v (.int .i64 i17), C.v (.int .i64 a3), C.v (.int .i64 y1.2.2.2.1)])).length)) && true) && true) <|
 some (0, (y1.1, y1.2.1, y1.2.2.1 ++ ([c28, C.v (.int .i64 i17), C.v (.int .i64 a3), C.v (.int .i64 y1.2.2.2.1)]), IntKind.i64.wrap (y1.2.2.2.1 + 1), ()))
 else
 need (((Nat.beq ((y1.1.length / 4) * 4) y1.1.length) && true) && true) <|
 need (((Nat.beq ((y1.2.2.1.length / 4) * 4) y1.2.2.1.length) && true) && true) <|
 some (1, (y1.1, y1.2.1, y1.2.2.1, y1.2.2.2.1, ()))) fu (p.2.1, p.2.2.1, [], 0, ())).bind fun p1 =>
 natD p1.1 (
 bif decide (((p1.2.2.2.1.length / 4 : Nat) : Int) > 200) then
 some ⟨V.tup [V.c C.nl, I 2], [], none⟩
 else
 need (Nat.ble (0 + ((p1.2.2.2.1.length / 4) * 4)) p1.2.2.2.1.length) <|
 some ⟨V.tup [V.c (C.sl (p1.2.2.2.1.length / 4) (List.take ((p1.2.2.2.1.length / 4) * 4) p1.2.2.2.1)), I 0], [], none⟩) fun m1 =>
 need (Nat.ble (0 + ((p1.2.1.length / 4) * 4)) p1.2.1.length) <|
 some ⟨V.tup [V.c (C.sl (p1.2.1.length / 4) (List.take ((p1.2.1.length / 4) * 4) p1.2.1)), I p1.2.2.1], [], none⟩) fun m =>
 need (Nat.ble (0 + ((p.2.1.length / 4) * 4)) p.2.1.length) <|
 some ⟨V.tup [V.c (C.sl (p.2.1.length / 4) (List.take ((p.2.1.length / 4) * 4) p.2.1)), I p.2.2.1], [], none⟩) := by kernel_rfl
/- synoptic/synopticref02.Addresses -/
theorem eq_synopticref02_Addresses (fu d : Nat) (a0_0 : Int) (a0_1 : Int) (a0_2 : Int) (a0_3 : Int) :
 cl fu (d + 1) fn_synopticref02_Addresses [V.agg ([C.v (.int .i64 a0_0), C.v (.int .i64 a0_1), C.v (.int .i64 a0_2), C.v (.int .i64 a0_3)])] [] = (
 (cl fu d fn_synopticref02_Valid [V.agg ([C.v (.int .i64 a0_0), C.v (.int .i64 a0_1), C.v (.int .i64 a0_2), C.v (.int .i64 a0_3)])] []).bind fun out =>
 rC out.r fun c =>
 asB c fun b =>
 bif !b then
 some ⟨V.tup [V.c C.nl, I 1], [], none⟩
 else
 (cl fu d fn_synopticref02_Weights [V.agg ([C.v (.int .i64 a0_0), C.v (.int .i64 a0_1), C.v (.int .i64 a0_2), C.v (.int .i64 a0_3)])] []).bind fun out1 =>
 rA out1.r fun cs =>
 need ((((Nat.beq cs.length 12) && true) && (Nat.ble (0 + cs.length) 12)) && true) <|
 bd (putAt ([C.v (.int .i64 0), C.v (.int .i64 0), C.v (.int .i64 0), C.v (.int .i64 0), C.v (.int .i64 0), C.v (.int .i64 0), C.v (.int .i64 0), C.v (.int .i64 0), C.v (.int .i64 0), C.v (.int .i64 0), C.v (.int .i64 0), C.v (.int .i64 0)]) 0 cs) fun cs1 =>
 (iter (fun (y : List C × Int × Unit) =>
 bif decide (y.2.1 < 20) then
 need (Nat.ble 12 cs1.length) <|
 (cl fu d fn_synopticref02_On [I y.2.1, V.agg (List.take 12 cs1)] []).bind fun out2 =>
 rT out2.r fun xs =>
 uncV xs fun x ys =>
 rA x fun cs2 =>
 need (Nat.beq cs2.length 4) <|
 unc cs2 fun c1 r =>
 asI .i64 c1 fun i =>
 unc r fun c2 r1 =>
 asI .i64 c2 fun i1 =>
 unc r1 fun c3 r2 =>
 asI .i64 c3 fun i2 =>
 unc r2 fun c4 _ =>
 asI .i64 c4 fun i3 =>
 uncV ys fun x1 ys1 =>
 rC x1 fun c5 =>
 asB c5 fun b1 =>
 nilV ys1 <|
 bif b1 then
 need ((((Nat.beq ((y.1.length / 4) * 4) y.1.length) && true) && (Nat.ble (((y.1.length / 4) + 1) * 32) 140737488355328)) && (Nat.ble ((y.1.length / 4) + 1) 140737488355328)) <|
 need (((Nat.beq (((y.1.length / 4) + 1) * 4) ((y.1 ++ ([C.v (.int .i64 i), C.v (.int .i64 i1), C.v (.int .i64 i2), C.v (.int .i64 i3)])).length)) && true) && true) <|
 some (0, (y.1 ++ ([C.v (.int .i64 i), C.v (.int .i64 i1), C.v (.int .i64 i2), C.v (.int .i64 i3)]), IntKind.i64.wrap (y.2.1 + 1), ()))
 else
 need (((Nat.beq ((y.1.length / 4) * 4) y.1.length) && true) && true) <|
 some (0, (y.1, IntKind.i64.wrap (y.2.1 + 1), ()))
 else
 need (((Nat.beq ((y.1.length / 4) * 4) y.1.length) && true) && true) <|
 some (1, (y.1, y.2.1, ()))) fu ([], 0, ())).bind fun p =>
 need (Nat.ble (0 + ((p.2.1.length / 4) * 4)) p.2.1.length) <|
 some ⟨V.tup [V.c (C.sl (p.2.1.length / 4) (List.take ((p.2.1.length / 4) * 4) p.2.1)), I 0], [], none⟩) := by kernel_rfl
/- synoptic/synopticref21.Same -/
theorem eq_synopticref21_Same (fu d : Nat) (n0 : Nat) (a0 : List C) (n1 : Nat) (a1 : List C) :
 cl fu (d + 1) fn_synopticref21_Same [V.c (C.sl n0 a0), V.c (C.sl n1 a1)] [] = (
 bif ((n0 : Nat) : Int) != ((n1 : Nat) : Int) then
 some ⟨B false, [], none⟩
 else
 (iter (fun (y : Bool × Int × Unit) =>
 bif decide (y.2.1 < ((n0 : Nat) : Int)) then
 need (inR y.2.1 n0) <|
 unc (List.drop 1 (List.drop (y.2.1.toNat * 4) a0)) fun c r =>
 asI .i64 c fun i =>
 need (inR y.2.1 n1) <|
 unc (List.drop 1 (List.drop (y.2.1.toNat * 4) a1)) fun c1 _ =>
 asI .i64 c1 fun i1 =>
 bif i != i1 then
 some (2, (false, y.2.1, ()))
 else
 need (inR y.2.1 n0) <|
 unc (List.drop 2 (List.drop (y.2.1.toNat * 4) a0)) fun c2 _ =>
 asI .i64 c2 fun i2 =>
 need (inR y.2.1 n1) <|
 unc (List.drop 2 (List.drop (y.2.1.toNat * 4) a1)) fun c3 _ =>
 asI .i64 c3 fun i3 =>
 bif i2 != i3 then
 some (2, (false, y.2.1, ()))
 else
 need (inR y.2.1 n0) <|
 unc (List.drop 3 (List.drop (y.2.1.toNat * 4) a0)) fun c4 _ =>
 asI .i64 c4 fun i4 =>
 need (inR y.2.1 n1) <|
 unc (List.drop 3 (List.drop (y.2.1.toNat * 4) a1)) fun c5 _ =>
 asI .i64 c5 fun i5 =>
 bif i4 != i5 then
 some (2, (false, y.2.1, ()))
 else
 need (inR y.2.1 n0) <|
 unc (List.drop (y.2.1.toNat * 4) a0) fun c6 _ =>
 need (inR y.2.1 n1) <|
 unc (List.drop (y.2.1.toNat * 4) a1) fun c7 _ =>
 need (noYl [V.c (nrm c6)]) <|
 (cl fu d fn_synopticref03_Shares [V.c (nrm c6), V.c (nrm c7)] []).bind fun out =>
 rC out.r fun c8 =>
 asB c8 fun b =>
 bif !b then
 some (2, (false, y.2.1, ()))
 else
 some (0, (y.1, IntKind.i64.wrap (y.2.1 + 1), ()))
 else
 some (1, (y.1, y.2.1, ()))) fu (false, 0, ())).bind fun p =>
 natD p.1 (
 some ⟨B true, [], none⟩) fun m =>
 some ⟨B p.2.1, [], none⟩) := by kernel_rfl
/- synoptic/synopticref02.Weights -/
theorem eq_synopticref02_Weights (fu d : Nat) (a0_0 : Int) (a0_1 : Int) (a0_2 : Int) (a0_3 : Int) :
 cl fu (d + 1) fn_synopticref02_Weights [V.agg ([C.v (.int .i64 a0_0), C.v (.int .i64 a0_1), C.v (.int .i64 a0_2), C.v (.int .i64 a0_3)])] [] = (
 (cl fu d fn_synopticref02_Corners [I a0_0] []).bind fun out =>
 rT out.r fun xs =>
 uncV xs fun x ys =>
 rA x fun cs =>
 uncV ys fun x1 ys1 =>
 rC x1 fun c =>
 asI .i64 c fun i =>
 nilV ys1 <|
 need ((((Nat.beq cs.length 3) && true) && (Nat.ble (0 + cs.length) 3)) && true) <|
 unc (putAt ([C.v (.int .i64 0), C.v (.int .i64 0), C.v (.int .i64 0)]) 0 cs) fun c1 _ =>
 asI .i64 c1 fun i1 =>
 unc (List.drop 1 (putAt ([C.v (.int .i64 0), C.v (.int .i64 0), C.v (.int .i64 0)]) 0 cs)) fun c2 _ =>
 asI .i64 c2 fun i2 =>
 unc (List.drop 2 (putAt ([C.v (.int .i64 0), C.v (.int .i64 0), C.v (.int .i64 0)]) 0 cs)) fun c3 _ =>
 asI .i64 c3 fun i3 =>
 need (inR i1 12) <|
 need (((Nat.ble 0 (0 + (i1.toNat * 1))) && (Nat.ble ((0 + (i1.toNat * 1)) + 1) 12)) && true) <|
 bd (putAt ([C.v (.int .i64 0), C.v (.int .i64 0), C.v (.int .i64 0), C.v (.int .i64 0), C.v (.int .i64 0), C.v (.int .i64 0), C.v (.int .i64 0), C.v (.int .i64 0), C.v (.int .i64 0), C.v (.int .i64 0), C.v (.int .i64 0), C.v (.int .i64 0)]) (0 + (i1.toNat * 1)) ([C.v (.int .i64 a0_1)])) fun cs1 =>
 need (inR i2 12) <|
 need (((Nat.ble 0 (0 + (i2.toNat * 1))) && (Nat.ble ((0 + (i2.toNat * 1)) + 1) cs1.length)) && true) <|
 need (inR i3 12) <|
 need (((Nat.ble 0 (0 + (i3.toNat * 1))) && (Nat.ble ((0 + (i3.toNat * 1)) + 1) ((putAt cs1 (0 + (i2.toNat * 1)) ([C.v (.int .i64 a0_2)])).length))) && true) <|
 need (Nat.ble 12 ((putAt (putAt cs1 (0 + (i2.toNat * 1)) ([C.v (.int .i64 a0_2)])) (0 + (i3.toNat * 1)) ([C.v (.int .i64 a0_3)])).length)) <|
 need ((((Nat.beq ((List.take 12 (putAt (putAt cs1 (0 + (i2.toNat * 1)) ([C.v (.int .i64 a0_2)])) (0 + (i3.toNat * 1)) ([C.v (.int .i64 a0_3)]))).length) 12) && true) && (Nat.ble (0 + ((List.take 12 (putAt (putAt cs1 (0 + (i2.toNat * 1)) ([C.v (.int .i64 a0_2)])) (0 + (i3.toNat * 1)) ([C.v (.int .i64 a0_3)]))).length)) 12)) && true) <|
 bd (putAt ([C.v (.int .i64 0), C.v (.int .i64 0), C.v (.int .i64 0), C.v (.int .i64 0), C.v (.int .i64 0), C.v (.int .i64 0), C.v (.int .i64 0), C.v (.int .i64 0), C.v (.int .i64 0), C.v (.int .i64 0), C.v (.int .i64 0), C.v (.int .i64 0)]) 0 (List.take 12 (putAt (putAt cs1 (0 + (i2.toNat * 1)) ([C.v (.int .i64 a0_2)])) (0 + (i3.toNat * 1)) ([C.v (.int .i64 a0_3)])))) fun cs2 =>
 need (Nat.ble 12 cs2.length) <|
 some ⟨V.agg (List.take 12 cs2), [], none⟩) := by kernel_rfl
/- (*synoptic/synoptickeep.Src).Pick -/
theorem eq_synoptickeep_Src_Pick (fu d : Nat) (a0_0 : C) (a0_1 : Int) (n1 : Nat) (a1 : List C) :
 cl fu (d + 1) fn_synoptickeep_Src_Pick [V.ptr 1000000 0, V.c (C.sl n1 a1)] [.ob ty_synoptickeep_Src 0 ([a0_0, C.v (.int .i64 a0_1)])] = (
 (cl fu d fn_synoptickeep_Src_N [V.ptr 1000000 0, I ((n1 : Nat) : Int)] [.ob ty_synoptickeep_Src 0 ([a0_0, C.v (.int .i64 a0_1)])]).bind fun out =>
 uncO out.objs fun o os =>
 rO o ty_synoptickeep_Src 0 fun cs =>
 need ((Nat.beq cs.length 2) && true) <|
 unc cs fun c r =>
 unc r fun c1 _ =>
 asI .i64 c1 fun i =>
 rC out.r fun c2 =>
 asI .i64 c2 fun i1 =>
 need (inR i1 n1) <|
 unc (List.drop (i1.toNat * 1) a1) fun c3 _ =>
 asI .i64 c3 fun i2 =>
 some ⟨I i2, [.ob ty_synoptickeep_Src 0 ([c, C.v (.int .i64 i)])], none⟩) := by kernel_rfl
/- synoptic/synoptickeep.Ints -/
theorem eq_synoptickeep_Ints (fu d : Nat) (n0 : Nat) (a0 : List C) (n1 : Nat) (a1 : List C) :
 cl fu (d + 1) fn_synoptickeep_Ints [V.c (C.sl n0 a0), V.c (C.sl n1 a1)] [] = (
 bif ((n0 : Nat) : Int) != ((n1 : Nat) : Int) then
 some ⟨B false, [], none⟩
 else
 (iter (fun (y : Bool × Int × Unit) =>
 bif decide (y.2.1 < ((n0 : Nat) : Int)) then
 need (inR y.2.1 n0) <|
 unc (List.drop (y.2.1.toNat * 1) a0) fun c _ =>
 asI .i64 c fun i =>
 need (inR y.2.1 n1) <|
 unc (List.drop (y.2.1.toNat * 1) a1) fun c1 _ =>
 asI .i64 c1 fun i1 =>
 bif i != i1 then
 some (2, (false, y.2.1, ()))
 else
 some (0, (y.1, IntKind.i64.wrap (y.2.1 + 1), ()))
 else
 some (1, (y.1, y.2.1, ()))) fu (false, 0, ())).bind fun p =>
 natD p.1 (
 some ⟨B true, [], none⟩) fun m =>
 some ⟨B p.2.1, [], none⟩) := by kernel_rfl
/- synoptic/operator.Transpose -/
theorem eq_operator_Transpose (fu d : Nat) (n0 : Nat) (a0 : List C) (a1 : Int) (n2 : Nat) (a2 : List C) :
 cl fu (d + 1) fn_operator_Transpose [V.c (C.sl n0 a0), I a1, V.c (C.sl n2 a2)] [] = (
 bif decide (((n0 : Nat) : Int) > 200) then
 some ⟨V.tup [V.c C.nl, I 2], [], none⟩
 else
 bif decide (a1 < 0) then
 some ⟨V.tup [V.c C.nl, I 1], [], none⟩
 else
 bif decide (a1 > 642) then
 some ⟨V.tup [V.c C.nl, I 1], [], none⟩
 else
 (cl fu d fn_operator_invalid [V.c (C.sl n0 a0), I a1] []).bind fun out =>
 rC out.r fun c =>
 asB c fun b =>
 bif b then
 some ⟨V.tup [V.c C.nl, I 1], [], none⟩
 else
 bif ((n2 : Nat) : Int) != ((n0 : Nat) : Int) then
 some ⟨V.tup [V.c C.nl, I 1], [], none⟩
 else
 (cl fu d fn_operator_small [V.c (C.sl n2 a2)] []).bind fun out1 =>
 rC out1.r fun c1 =>
 asB c1 fun b1 =>
 bif !b1 then
 some ⟨V.tup [V.c C.nl, I 1], [], none⟩
 else
 need (((((decide (0 ≤ a1)) && (decide (a1 ≤ a1))) && (decide ((8 : Int) * a1 ≤ 140737488355328))) && (decide (a1 ≤ 140737488355328))) && true) <|
 need (((Nat.beq (a1.toNat * 1) ((reps a1.toNat ([C.v (.int .i64 0)])).length)) && true) && true) <|
 (iter (fun (y : List C × Int × Unit) =>
 bif decide (y.2.1 < ((n0 : Nat) : Int)) then
 need (inR y.2.1 n0) <|
 unc (List.drop (y.2.1.toNat * 4) a0) fun c2 r =>
 unc r fun c3 r1 =>
 asI .i64 c3 fun i =>
 unc r1 fun c4 r2 =>
 asI .i64 c4 fun i1 =>
 unc r2 fun c5 _ =>
 asI .i64 c5 fun i2 =>
 asSl c2 fun n cs =>
 need (((Nat.beq ((y.1.length / 1) * 1) y.1.length) && true) && true) <|
 (iter (fun (y1 : List C × Int × Unit) =>
 bif decide (y1.2.1 < ((n : Nat) : Int)) then
 asSl c2 fun n3 cs1 =>
 need (inR y1.2.1 n3) <|
 unc (List.drop (y1.2.1.toNat * 2) cs1) fun c6 r4 =>
 asI .i64 c6 fun i3 =>
 unc r4 fun c7 _ =>
 asI .i64 c7 fun i4 =>
 need (inR i3 (y1.1.length / 1)) <|
 unc (List.drop (0 + (i3.toNat * 1)) y1.1) fun c8 _ =>
 asI .i64 c8 fun i5 =>
 need (inR y.2.1 n2) <|
 unc (List.drop (y.2.1.toNat * 1) a2) fun c9 _ =>
 asI .i64 c9 fun i6 =>
 need (inR i3 (y1.1.length / 1)) <|
 need (((Nat.ble 0 (0 + (i3.toNat * 1))) && (Nat.ble ((0 + (i3.toNat * 1)) + 1) y1.1.length)) && true) <|
 need (((Nat.beq ((y1.1.length / 1) * 1) ((putAt y1.1 (0 + (i3.toNat * 1)) ([C.v (.int .i64 (IntKind.i64.wrap (i5 + (IntKind.i64.wrap (i4 * i6)))))])).length)) && true) && true) <|
 some (0, (putAt y1.1 (0 + (i3.toNat * 1)) ([C.v (.int .i64 (IntKind.i64.wrap (i5 + (IntKind.i64.wrap (i4 * i6)))))]), IntKind.i64.wrap (y1.2.1 + 1), ()))
 else
 need (((Nat.beq ((y1.1.length / 1) * 1) y1.1.length) && true) && true) <|
 some (1, (y1.1, y1.2.1, ()))) fu (y.1, 0, ())).bind fun p =>
 need (((Nat.beq ((p.2.1.length / 1) * 1) p.2.1.length) && true) && true) <|
 some (0, (p.2.1, IntKind.i64.wrap (y.2.1 + 1), ()))
 else
 need (((Nat.beq ((y.1.length / 1) * 1) y.1.length) && true) && true) <|
 some (1, (y.1, y.2.1, ()))) fu (reps a1.toNat ([C.v (.int .i64 0)]), 0, ())).bind fun p1 =>
 need (Nat.ble (0 + ((p1.2.1.length / 1) * 1)) p1.2.1.length) <|
 some ⟨V.tup [V.c (C.sl (p1.2.1.length / 1) (List.take ((p1.2.1.length / 1) * 1) p1.2.1)), I 0], [], none⟩) := by kernel_rfl
/- synoptic/synopticdata.Crowd -/
theorem eq_synopticdata_Crowd (fu d : Nat) (a0_0 : C) (a0_1 : Int) (a1 : Int) (a2 : Int) :
 cl fu (d + 1) fn_synopticdata_Crowd [V.ptr 1000000 0, I a1, I a2] [.ob ty_synoptickeep_Src 0 ([a0_0, C.v (.int .i64 a0_1)])] = (
 (cl fu d fn_synopticdata_Place [V.ptr 1000000 0] [.ob ty_synoptickeep_Src 0 ([a0_0, C.v (.int .i64 a0_1)])]).bind fun out =>
 uncO out.objs fun o os =>
 rO o ty_synoptickeep_Src 0 fun cs =>
 need ((Nat.beq cs.length 2) && true) <|
 unc cs fun c r =>
 unc r fun c1 _ =>
 asI .i64 c1 fun i =>
 rA out.r fun cs1 =>
 need (Nat.beq cs1.length 4) <|
 unc cs1 fun c2 r2 =>
 asI .i64 c2 fun i1 =>
 unc r2 fun c3 r3 =>
 asI .i64 c3 fun i2 =>
 unc r3 fun c4 r4 =>
 asI .i64 c4 fun i3 =>
 unc r4 fun c5 _ =>
 asI .i64 c5 fun i4 =>
 (cl fu d fn_synoptickeep_Src_N [V.ptr 1000000 0, I (IntKind.i64.wrap (a1 + 1))] [.ob ty_synoptickeep_Src 0 ([c, C.v (.int .i64 i)])]).bind fun out1 =>
 uncO out1.objs fun o1 os1 =>
 rO o1 ty_synoptickeep_Src 0 fun cs2 =>
 need ((Nat.beq cs2.length 2) && true) <|
 unc cs2 fun c6 r6 =>
 unc r6 fun c7 _ =>
 asI .i64 c7 fun i5 =>
 rC out1.r fun c8 =>
 asI .i64 c8 fun i6 =>
 (iter (fun (y : List C × Int × (C × Int × Unit) × Unit) =>
 bif decide (y.2.1 > 0) then
 (cl fu d fn_synoptickeep_Src_Range [V.ptr 1000000 0, I 1, I 3] [.ob ty_synoptickeep_Src 0 ([y.2.2.1.1, C.v (.int .i64 y.2.2.1.2.1)])]).bind fun out2 =>
 uncO out2.objs fun o2 os2 =>
 rO o2 ty_synoptickeep_Src 0 fun cs3 =>
 need ((Nat.beq cs3.length 2) && true) <|
 unc cs3 fun c9 r8 =>
 unc r8 fun c10 _ =>
 asI .i64 c10 fun i7 =>
 rC out2.r fun c11 =>
 asI .i64 c11 fun i8 =>
 (cl fu d fn_synoptickeep_Src_Text [V.ptr 1000000 0, V.c (C.sl 10 ([C.v (.string (⟨#[65, 76, 80, 72, 65]⟩)), C.v (.string (⟨#[66, 82, 65, 86, 79]⟩)), C.v (.string (⟨#[48, 49, 50, 51, 52]⟩)), C.v (.string (⟨#[68, 69, 76, 84, 65]⟩)), C.v (.string (⟨#[69, 67, 72, 79, 55]⟩)), C.v (.string (⟨#[55, 55, 55, 55, 55]⟩)), C.v (.string (⟨#[71, 79, 76, 70, 49]⟩)), C.v (.string (⟨#[72, 79, 84, 69, 76]⟩)), C.v (.string (⟨#[73, 78, 68, 73, 65]⟩)), C.v (.string (⟨#[74, 85, 76, 73, 65]⟩))]))] [.ob ty_synoptickeep_Src 0 ([c9, C.v (.int .i64 i7)])]).bind fun out3 =>
 uncO out3.objs fun o3 os3 =>
 rO o3 ty_synoptickeep_Src 0 fun cs4 =>
 need ((Nat.beq cs4.length 2) && true) <|
 unc cs4 fun c12 r10 =>
 unc r10 fun c13 _ =>
 asI .i64 c13 fun i9 =>
 rC out3.r fun c14 =>
 asS c14 fun s =>
 (cl fu d fn_synoptickeep_Src_Range [V.ptr 1000000 0, I 0, I 50] [.ob ty_synoptickeep_Src 0 ([c12, C.v (.int .i64 i9)])]).bind fun out4 =>
 uncO out4.objs fun o4 os4 =>
 rO o4 ty_synoptickeep_Src 0 fun cs5 =>
 need ((Nat.beq cs5.length 2) && true) <|
 unc cs5 fun c15 r12 =>
 unc r12 fun c16 _ =>
 asI .i64 c16 fun i10 =>
 rC out4.r fun c17 =>
 asI .i64 c17 fun i11 =>
 (cl fu d fn_synoptickeep_Src_N [V.ptr 1000000 0, I 4] [.ob ty_synoptickeep_Src 0 ([c15, C.v (.int .i64 i10)])]).bind fun out5 =>
 uncO out5.objs fun o5 os5 =>
 rO o5 ty_synoptickeep_Src 0 fun cs6 =>
 need ((Nat.beq cs6.length 2) && true) <|
 unc cs6 fun c18 r14 =>
 unc r14 fun c19 _ =>
 asI .i64 c19 fun i12 =>
 rC out5.r fun c20 =>
 asI .i64 c20 fun i13 =>
 (bif i13 == 0 then
 (cl fu d fn_synopticdata_Place [V.ptr 1000000 0] [.ob ty_synoptickeep_Src 0 ([c18, C.v (.int .i64 i12)])]).bind fun out6 =>
 uncO out6.objs fun o6 os6 =>
 rO o6 ty_synoptickeep_Src 0 fun cs7 =>
 need ((Nat.beq cs7.length 2) && true) <|
 unc cs7 fun c21 r16 =>
 unc r16 fun c22 _ =>
 asI .i64 c22 fun i14 =>
 rA out6.r fun cs8 =>
 need (Nat.beq cs8.length 4) <|
 unc cs8 fun c23 r18 =>
 asI .i64 c23 fun i15 =>
 unc r18 fun c24 r19 =>
 asI .i64 c24 fun i16 =>
 unc r19 fun c25 r20 =>
 asI .i64 c25 fun i17 =>
 unc r20 fun c26 _ =>
 asI .i64 c26 fun i18 =>
 need (((Nat.beq ((y.1.length / 8) * 8) y.1.length) && true) && true) <|
 some (0, (y.1, (i8, s, IntKind.i64.wrap (a2 + i11), i15, i16, i17, i18, [], ()), (c21, i14, ()), ()))
 else
 (bif i13 == 1 then
 (cl fu d fn_synoptickeep_Src_Range [V.ptr 1000000 0, I 0, I (if i2 < 150 then i2 else 150)] [.ob ty_synoptickeep_Src 0 ([c18, C.v (.int .i64 i12)])]).bind fun out7 =>
 uncO out7.objs fun o7 os7 =>
 rO o7 ty_synoptickeep_Src 0 fun cs9 =>
 need ((Nat.beq cs9.length 2) && true) <|
 unc cs9 fun c27 r22 =>
 unc r22 fun c28 _ =>
 asI .i64 c28 fun i19 =>
 rC out7.r fun c29 =>
 asI .i64 c29 fun i20 =>
 (cl fu d fn_synopticref02_Normal [V.agg ([C.v (.int .i64 i1), C.v (.int .i64 (IntKind.i64.wrap (i2 - i20))), C.v (.int .i64 i3), C.v (.int .i64 (IntKind.i64.wrap (i4 + i20)))])] []).bind fun out8 =>
 rT out8.r fun xs =>
 uncV xs fun x ys =>
 rA x fun cs10 =>
 need (Nat.beq cs10.length 4) <|
 unc cs10 fun c30 r24 =>
 asI .i64 c30 fun i21 =>
 unc r24 fun c31 r25 =>
 asI .i64 c31 fun i22 =>
 unc r25 fun c32 r26 =>
 asI .i64 c32 fun i23 =>
 unc r26 fun c33 _ =>
 asI .i64 c33 fun i24 =>
 uncV ys fun x1 ys1 =>
 rC x1 fun c34 =>
 asI .i64 c34 fun i25 =>
 nilV ys1 <|
 need (((Nat.beq ((y.1.length / 8) * 8) y.1.length) && true) && true) <|
 some (0, (y.1, (i8, s, IntKind.i64.wrap (a2 + i11), i21, i22, i23, i24, [], ()), (c27, i19, ()), ()))
 else
 need (((Nat.beq ((y.1.length / 8) * 8) y.1.length) && true) && true) <|
 some (0, (y.1, (i8, s, IntKind.i64.wrap (a2 + i11), i1, i2, i3, i4, [], ()), (c18, i12, ()), ())) : Option (Nat × List C × (Int × ByteArray × Int × Int × Int × Int × Int × List C × Unit) × (C × Int × Unit) × Unit)).bind fun p =>
 need (((Nat.beq ((p.2.1.length / 8) * 8) p.2.1.length) && true) && true) <|
 need (((Nat.beq ((p.2.2.1.2.2.2.2.2.2.2.1.length / 2) * 2) p.2.2.1.2.2.2.2.2.2.2.1.length) && true) && true) <|
 some (0, (p.2.1, (p.2.2.1.1, p.2.2.1.2.1, p.2.2.1.2.2.1, p.2.2.1.2.2.2.1, p.2.2.1.2.2.2.2.1, p.2.2.1.2.2.2.2.2.1, p.2.2.1.2.2.2.2.2.2.1, p.2.2.1.2.2.2.2.2.2.2.1, ()), (p.2.2.2.1.1, p.2.2.2.1.2.1, ()), ())) : Option (Nat × List C × (Int × ByteArray × Int × Int × Int × Int × Int × List C × Unit) × (C × Int × Unit) × Unit)).bind fun p1 =>
 need (((Nat.beq ((p1.2.1.length / 8) * 8) p1.2.1.length) && true) && true) <|
 need (((Nat.beq ((p1.2.2.1.2.2.2.2.2.2.2.1.length / 2) * 2) p1.2.2.1.2.2.2.2.2.2.2.1.length) && true) && true) <|
 (iter (fun (y1 : List C × Int × (Int × ByteArray × Int × Int × Int × Int × Int × List C × Unit) × (C × Int × Unit) × Unit) =>
 bif decide (y1.2.1 ≤ 11) then
 (cl fu d fn_synoptickeep_Src_N [V.ptr 1000000 0, I 3] [.ob ty_synoptickeep_Src 0 ([y1.2.2.2.1.1, C.v (.int .i64 y1.2.2.2.1.2.1)])]).bind fun out9 =>
 uncO out9.objs fun o8 os8 =>
 rO o8 ty_synoptickeep_Src 0 fun cs11 =>
 need ((Nat.beq cs11.length 2) && true) <|
 unc cs11 fun c35 r28 =>
 unc r28 fun c36 _ =>
 asI .i64 c36 fun i26 =>
 rC out9.r fun c37 =>
 asI .i64 c37 fun i27 =>
 bif decide (i27 > 0) then
 need (((Nat.beq ((y1.1.length / 8) * 8) y1.1.length) && true) && true) <|
 need (((Nat.beq ((y1.2.2.1.2.2.2.2.2.2.2.1.length / 2) * 2) y1.2.2.1.2.2.2.2.2.2.2.1.length) && true) && true) <|
 some (0, (y1.1, IntKind.i64.wrap (y1.2.1 + 1), (y1.2.2.1.1, y1.2.2.1.2.1, y1.2.2.1.2.2.1, y1.2.2.1.2.2.2.1, y1.2.2.1.2.2.2.2.1, y1.2.2.1.2.2.2.2.2.1, y1.2.2.1.2.2.2.2.2.2.1, y1.2.2.1.2.2.2.2.2.2.2.1, ()), (c35, i26, ()), ()))
 else
 need (inR y1.2.1 12) <|
 unc (List.drop (y1.2.1.toNat * 1) ([C.v (.int .i64 0), C.v (.int .i64 10100), C.v (.int .i64 2850), C.v (.int .i64 2800), C.v (.int .i64 0), C.v (.int .i64 50), C.v (.int .i64 1460), C.v (.int .i64 2780), C.v (.int .i64 3010), C.v (.int .i64 2680), C.v (.int .i64 5570), C.v (.int .i64 2520)])) fun c38 _ =>
 asI .i64 c38 fun i28 =>
 (cl fu d fn_synoptickeep_Src_Range [V.ptr 1000000 0, I (-8), I 8] [.ob ty_synoptickeep_Src 0 ([c35, C.v (.int .i64 i26)])]).bind fun out10 =>
 uncO out10.objs fun o9 os9 =>
 rO o9 ty_synoptickeep_Src 0 fun cs12 =>
 need ((Nat.beq cs12.length 2) && true) <|
 unc cs12 fun c39 r31 =>
 unc r31 fun c40 _ =>
 asI .i64 c40 fun i29 =>
 rC out10.r fun c41 =>
 asI .i64 c41 fun i30 =>
 (cl fu d fn_synoptickeep_Src_Range [V.ptr 1000000 0, I (-60), I 60] [.ob ty_synoptickeep_Src 0 ([c39, C.v (.int .i64 i29)])]).bind fun out11 =>
 uncO out11.objs fun o10 os10 =>
 rO o10 ty_synoptickeep_Src 0 fun cs13 =>
 need ((Nat.beq cs13.length 2) && true) <|
 unc cs13 fun c42 r33 =>
 unc r33 fun c43 _ =>
 asI .i64 c43 fun i31 =>
 rC out11.r fun c44 =>
 asI .i64 c44 fun i32 =>
 (cl fu d fn_synoptickeep_Src_Pick [V.ptr 1000000 0, V.c (C.sl 7 ([C.v (.int .i64 0), C.v (.int .i64 1), C.v (.int .i64 3), C.v (.int .i64 i30), C.v (.int .i64 i32), C.v (.int .i64 100), C.v (.int .i64 103)]))] [.ob ty_synoptickeep_Src 0 ([c42, C.v (.int .i64 i31)])]).bind fun out12 =>
 uncO out12.objs fun o11 os11 =>
 rO o11 ty_synoptickeep_Src 0 fun cs14 =>
 need ((Nat.beq cs14.length 2) && true) <|
 unc cs14 fun c45 r35 =>
 unc r35 fun c46 _ =>
 asI .i64 c46 fun i33 =>
 rC out12.r fun c47 =>
 asI .i64 c47 fun i34 =>
 (cl fu d fn_synopticdata_clamp [I y1.2.1, I (IntKind.i64.wrap (i28 + i34))] []).bind fun out13 =>
 rC out13.r fun c48 =>
 asI .i64 c48 fun i35 =>
 need ((((Nat.beq ((y1.2.2.1.2.2.2.2.2.2.2.1.length / 2) * 2) y1.2.2.1.2.2.2.2.2.2.2.1.length) && true) && (Nat.ble (((y1.2.2.1.2.2.2.2.2.2.2.1.length / 2) + 1) * 16) 140737488355328)) && (Nat.ble ((y1.2.2.1.2.2.2.2.2.2.2.1.length / 2) + 1) 140737488355328)) <|
 need (((Nat.beq ((y1.1.length / 8) * 8) y1.1.length) && true) && true) <|
 need (((Nat.beq (((y1.2.2.1.2.2.2.2.2.2.2.1.length / 2) + 1) * 2) ((y1.2.2.1.2.2.2.2.2.2.2.1 ++ ([C.v (.int .i64 y1.2.1), C.v (.int .i64 i35)])).length)) && true) && true) <|
 some (0, (y1.1, IntKind.i64.wrap (y1.2.1 + 1), (y1.2.2.1.1, y1.2.2.1.2.1, y1.2.2.1.2.2.1, y1.2.2.1.2.2.2.1, y1.2.2.1.2.2.2.2.1, y1.2.2.1.2.2.2.2.2.1, y1.2.2.1.2.2.2.2.2.2.1, y1.2.2.1.2.2.2.2.2.2.2.1 ++ ([C.v (.int .i64 y1.2.1), C.v (.int .i64 i35)]), ()), (c45, i33, ()), ()))
 else
 need (((Nat.beq ((y1.1.length / 8) * 8) y1.1.length) && true) && true) <|
 need (((Nat.beq ((y1.2.2.1.2.2.2.2.2.2.2.1.length / 2) * 2) y1.2.2.1.2.2.2.2.2.2.2.1.length) && true) && true) <|
 some (1, (y1.1, y1.2.1, (y1.2.2.1.1, y1.2.2.1.2.1, y1.2.2.1.2.2.1, y1.2.2.1.2.2.2.1, y1.2.2.1.2.2.2.2.1, y1.2.2.1.2.2.2.2.2.1, y1.2.2.1.2.2.2.2.2.2.1, y1.2.2.1.2.2.2.2.2.2.2.1, ()), (y1.2.2.2.1.1, y1.2.2.2.1.2.1, ()), ()))) fu (p1.2.1, 1, (p1.2.2.1.1, p1.2.2.1.2.1, p1.2.2.1.2.2.1, p1.2.2.1.2.2.2.1, p1.2.2.1.2.2.2.2.1, p1.2.2.1.2.2.2.2.2.1, p1.2.2.1.2.2.2.2.2.2.1, p1.2.2.1.2.2.2.2.2.2.2.1, ()), (p1.2.2.2.1.1, p1.2.2.2.1.2.1, ()), ())).bind fun p2 =>
 need (Nat.ble (0 + ((p2.2.2.2.1.2.2.2.2.2.2.2.1.length / 2) * 2)) p2.2.2.2.1.2.2.2.2.2.2.2.1.length) <|
 need ((((Nat.beq ((p2.2.1.length / 8) * 8) p2.2.1.length) && true) && (Nat.ble (((p2.2.1.length / 8) + 1) * 88) 140737488355328)) && (Nat.ble ((p2.2.1.length / 8) + 1) 140737488355328)) <|
 bd (p2.2.1 ++ ([C.v (.int .i64 p2.2.2.2.1.1), C.v (.string p2.2.2.2.1.2.1), C.v (.int .i64 p2.2.2.2.1.2.2.1), C.v (.int .i64 p2.2.2.2.1.2.2.2.1), C.v (.int .i64 p2.2.2.2.1.2.2.2.2.1), C.v (.int .i64 p2.2.2.2.1.2.2.2.2.2.1), C.v (.int .i64 p2.2.2.2.1.2.2.2.2.2.2.1), C.sl (p2.2.2.2.1.2.2.2.2.2.2.2.1.length / 2) (List.take ((p2.2.2.2.1.2.2.2.2.2.2.2.1.length / 2) * 2) p2.2.2.2.1.2.2.2.2.2.2.2.1)])) fun cs15 =>
 need (((Nat.beq (((p2.2.1.length / 8) + 1) * 8) cs15.length) && true) && true) <|
 some (0, (cs15, IntKind.i64.wrap (y.2.1 - 1), (p2.2.2.2.2.1.1, p2.2.2.2.2.1.2.1, ()), ()))
 else
 need (((Nat.beq ((y.1.length / 8) * 8) y.1.length) && true) && true) <|
 some (1, (y.1, y.2.1, (y.2.2.1.1, y.2.2.1.2.1, ()), ()))) fu ([], i6, (c6, i5, ()), ())).bind fun p3 =>
 need (Nat.ble (0 + ((p3.2.1.length / 8) * 8)) p3.2.1.length) <|
 some ⟨V.c (C.sl (p3.2.1.length / 8) (List.take ((p3.2.1.length / 8) * 8) p3.2.1)), [.ob ty_synoptickeep_Src 0 ([p3.2.2.2.1.1, C.v (.int .i64 p3.2.2.2.1.2.1)])], none⟩) := by kernel_rfl
/- synoptic/synopticref03.Count -/
theorem eq_synopticref03_Count (fu d : Nat) (a0 : Int) :
 cl fu (d + 1) fn_synopticref03_Count [I a0] [] = (
 bif decide (a0 < 1) then
 some ⟨I 0, [], none⟩
 else
 bif decide (a0 > 8) then
 some ⟨I 0, [], none⟩
 else
 some ⟨I (IntKind.i64.wrap ((IntKind.i64.wrap ((IntKind.i64.wrap (10 * a0)) * a0)) + 2)), [], none⟩) := by kernel_rfl
/- synoptic/synoptickeep.Sum -/
theorem eq_synoptickeep_Sum (fu d : Nat) (n0 : Nat) (a0 : List C) :
 cl fu (d + 1) fn_synoptickeep_Sum [V.c (C.sl n0 a0)] [] = (
 (iter (fun (y : Int × Int × Unit) =>
 bif decide (y.2.1 < ((n0 : Nat) : Int)) then
 need (inR y.2.1 n0) <|
 unc (List.drop (y.2.1.toNat * 1) a0) fun c _ =>
 asI .i64 c fun i =>
 some (0, (IntKind.i64.wrap (y.1 + i), IntKind.i64.wrap (y.2.1 + 1), ()))
 else
 some (1, (y.1, y.2.1, ()))) fu (0, 0, ())).bind fun p =>
 some ⟨I p.2.1, [], none⟩) := by kernel_rfl
/- synoptic/synopticdata.Place -/
theorem eq_synopticdata_Place (fu d : Nat) (a0_0 : C) (a0_1 : Int) :
 cl fu (d + 1) fn_synopticdata_Place [V.ptr 1000000 0] [.ob ty_synoptickeep_Src 0 ([a0_0, C.v (.int .i64 a0_1)])] = (
 (cl fu d fn_synoptickeep_Src_N [V.ptr 1000000 0, I 20] [.ob ty_synoptickeep_Src 0 ([a0_0, C.v (.int .i64 a0_1)])]).bind fun out =>
 uncO out.objs fun o os =>
 rO o ty_synoptickeep_Src 0 fun cs =>
 need ((Nat.beq cs.length 2) && true) <|
 unc cs fun c r =>
 unc r fun c1 _ =>
 asI .i64 c1 fun i =>
 rC out.r fun c2 =>
 asI .i64 c2 fun i1 =>
 (cl fu d fn_synoptickeep_Src_N [V.ptr 1000000 0, I 841] [.ob ty_synoptickeep_Src 0 ([c, C.v (.int .i64 i)])]).bind fun out1 =>
 uncO out1.objs fun o1 os1 =>
 rO o1 ty_synoptickeep_Src 0 fun cs1 =>
 need ((Nat.beq cs1.length 2) && true) <|
 unc cs1 fun c3 r2 =>
 unc r2 fun c4 _ =>
 asI .i64 c4 fun i2 =>
 rC out1.r fun c5 =>
 asI .i64 c5 fun i3 =>
 (cl fu d fn_synoptickeep_Src_N [V.ptr 1000000 0, I 4] [.ob ty_synoptickeep_Src 0 ([c3, C.v (.int .i64 i2)])]).bind fun out2 =>
 uncO out2.objs fun o2 os2 =>
 rO o2 ty_synoptickeep_Src 0 fun cs2 =>
 need ((Nat.beq cs2.length 2) && true) <|
 unc cs2 fun c6 r4 =>
 unc r4 fun c7 _ =>
 asI .i64 c7 fun i4 =>
 rC out2.r fun c8 =>
 asI .i64 c8 fun i5 =>
 (bif i5 == 0 then
 (cl fu d fn_synoptickeep_Src_N [V.ptr 1000000 0, I 9] [.ob ty_synoptickeep_Src 0 ([c6, C.v (.int .i64 i4)])]).bind fun out3 =>
 uncO out3.objs fun o3 os3 =>
 rO o3 ty_synoptickeep_Src 0 fun cs3 =>
 need ((Nat.beq cs3.length 2) && true) <|
 unc cs3 fun c9 r6 =>
 unc r6 fun c10 _ =>
 asI .i64 c10 fun i6 =>
 rC out3.r fun c11 =>
 asI .i64 c11 fun i7 =>
 some (0, ((0, 0, 0, 0, ()), (i1, IntKind.i64.wrap (105 * i7), 0, 0, ()), (c9, i6, ()), ()))
 else
 (bif i5 == 1 then
 (cl fu d fn_synoptickeep_Src_N [V.ptr 1000000 0, I 5] [.ob ty_synoptickeep_Src 0 ([c6, C.v (.int .i64 i4)])]).bind fun out4 =>
 uncO out4.objs fun o4 os4 =>
 rO o4 ty_synoptickeep_Src 0 fun cs4 =>
 need ((Nat.beq cs4.length 2) && true) <|
 unc cs4 fun c12 r8 =>
 unc r8 fun c13 _ =>
 asI .i64 c13 fun i8 =>
 rC out4.r fun c14 =>
 asI .i64 c14 fun i9 =>
 some (0, ((0, 0, 0, 0, ()), (i1, IntKind.i64.wrap (210 * i9), 0, 0, ()), (c12, i8, ()), ()))
 else
 some (0, ((0, 0, 0, 0, ()), (i1, i3, 0, 0, ()), (c6, i4, ()), ())) : Option (Nat × (Int × Int × Int × Int × Unit) × (Int × Int × Int × Int × Unit) × (C × Int × Unit) × Unit)).bind fun p =>
 some (0, ((p.2.1.1, p.2.1.2.1, p.2.1.2.2.1, p.2.1.2.2.2.1, ()), (p.2.2.1.1, p.2.2.1.2.1, p.2.2.1.2.2.1, p.2.2.1.2.2.2.1, ()), (p.2.2.2.1.1, p.2.2.2.1.2.1, ()), ())) : Option (Nat × (Int × Int × Int × Int × Unit) × (Int × Int × Int × Int × Unit) × (C × Int × Unit) × Unit)).bind fun p1 =>
 (cl fu d fn_synoptickeep_Src_N [V.ptr 1000000 0, I (IntKind.i64.wrap ((IntKind.i64.wrap (840 - p1.2.2.1.2.1)) + 1))] [.ob ty_synoptickeep_Src 0 ([p1.2.2.2.1.1, C.v (.int .i64 p1.2.2.2.1.2.1)])]).bind fun out5 =>
 uncO out5.objs fun o5 os5 =>
 rO o5 ty_synoptickeep_Src 0 fun cs5 =>
 need ((Nat.beq cs5.length 2) && true) <|
 unc cs5 fun c15 r10 =>
 unc r10 fun c16 _ =>
 asI .i64 c16 fun i10 =>
 rC out5.r fun c17 =>
 asI .i64 c17 fun i11 =>
 (cl fu d fn_synoptickeep_Src_N [V.ptr 1000000 0, I 3] [.ob ty_synoptickeep_Src 0 ([c15, C.v (.int .i64 i10)])]).bind fun out6 =>
 uncO out6.objs fun o6 os6 =>
 rO o6 ty_synoptickeep_Src 0 fun cs6 =>
 need ((Nat.beq cs6.length 2) && true) <|
 unc cs6 fun c18 r12 =>
 unc r12 fun c19 _ =>
 asI .i64 c19 fun i12 =>
 rC out6.r fun c20 =>
 asI .i64 c20 fun i13 =>
 (bif i13 == 0 then
 some (0, ((p1.2.1.1, p1.2.1.2.1, p1.2.1.2.2.1, p1.2.1.2.2.2.1, ()), (p1.2.2.1.1, p1.2.2.1.2.1, IntKind.i64.wrap (i11 - (Int.tmod i11 105)), p1.2.2.1.2.2.2.1, ()), (c18, i12, ()), ()))
 else
 some (0, ((p1.2.1.1, p1.2.1.2.1, p1.2.1.2.2.1, p1.2.1.2.2.2.1, ()), (p1.2.2.1.1, p1.2.2.1.2.1, i11, p1.2.2.1.2.2.2.1, ()), (c18, i12, ()), ())) : Option (Nat × (Int × Int × Int × Int × Unit) × (Int × Int × Int × Int × Unit) × (C × Int × Unit) × Unit)).bind fun p2 =>
 (cl fu d fn_synopticref02_Normal [V.agg ([C.v (.int .i64 p2.2.2.1.1), C.v (.int .i64 p2.2.2.1.2.1), C.v (.int .i64 p2.2.2.1.2.2.1), C.v (.int .i64 (IntKind.i64.wrap ((IntKind.i64.wrap (840 - p2.2.2.1.2.1)) - p2.2.2.1.2.2.1)))])] []).bind fun out7 =>
 rT out7.r fun xs =>
 uncV xs fun x ys =>
 rA x fun cs7 =>
 need (Nat.beq cs7.length 4) <|
 unc cs7 fun c21 r14 =>
 asI .i64 c21 fun i14 =>
 unc r14 fun c22 r15 =>
 asI .i64 c22 fun i15 =>
 unc r15 fun c23 r16 =>
 asI .i64 c23 fun i16 =>
 unc r16 fun c24 _ =>
 asI .i64 c24 fun i17 =>
 uncV ys fun x1 ys1 =>
 rC x1 fun c25 =>
 asI .i64 c25 fun i18 =>
 nilV ys1 <|
 some ⟨V.agg ([C.v (.int .i64 i14), C.v (.int .i64 i15), C.v (.int .i64 i16), C.v (.int .i64 i17)]), [.ob ty_synoptickeep_Src 0 ([p2.2.2.2.1.1, C.v (.int .i64 p2.2.2.2.1.2.1)])], none⟩) := by kernel_rfl
/- synoptic/operator.invalid -/
theorem eq_operator_invalid (fu d : Nat) (n0 : Nat) (a0 : List C) (a1 : Int) :
 cl fu (d + 1) fn_operator_invalid [V.c (C.sl n0 a0), I a1] [] = (
 (cl fu d fn_slices_ContainsFunc_sapi_Row_api_Row [V.c (C.sl n0 a0), V.c (C.fn fn_operator_invalid_1 ([C.cp ([C.v (.int .i64 a1)])]))] []).bind fun out =>
 rC out.r fun c =>
 asB c fun b =>
 some ⟨B b, [], none⟩) := by kernel_rfl
/- synoptic/operator.small -/
theorem eq_operator_small (fu d : Nat) (n0 : Nat) (a0 : List C) :
 cl fu (d + 1) fn_operator_small [V.c (C.sl n0 a0)] [] = (
 (cl fu d fn_slices_ContainsFunc_sint_int [V.c (C.sl n0 a0), V.c (C.fn fn_operator_small_1 ([]))] []).bind fun out =>
 rC out.r fun c =>
 asB c fun b =>
 some ⟨B (!b), [], none⟩) := by kernel_rfl
/- synoptic/operator.value -/
theorem eq_operator_value (fu d : Nat) (a0_0 : C) (a0_1 : Int) (a0_2 : Int) (a0_3 : Int) (n1 : Nat) (a1 : List C) :
 cl fu (d + 1) fn_operator_value [V.agg ([a0_0, C.v (.int .i64 a0_1), C.v (.int .i64 a0_2), C.v (.int .i64 a0_3)]), V.c (C.sl n1 a1)] [] = (
 asSl a0_0 fun n cs =>
 (iter (fun (y : Int × Int × Unit) =>
 bif decide (y.2.1 < ((n : Nat) : Int)) then
 asSl a0_0 fun n2 cs1 =>
 need (inR y.2.1 n2) <|
 unc (List.drop (y.2.1.toNat * 2) cs1) fun c r =>
 asI .i64 c fun i =>
 unc r fun c1 _ =>
 asI .i64 c1 fun i1 =>
 need (inR i n1) <|
 unc (List.drop (i.toNat * 1) a1) fun c2 _ =>
 asI .i64 c2 fun i2 =>
 some (0, (IntKind.i64.wrap (y.1 + (IntKind.i64.wrap (i1 * i2))), IntKind.i64.wrap (y.2.1 + 1), ()))
 else
 some (1, (y.1, y.2.1, ()))) fu (0, 0, ())).bind fun p =>
 some ⟨I p.2.1, [], none⟩) := by kernel_rfl
/- (*synoptic/synoptickeep.Src).Raw -/
theorem eq_synoptickeep_Src_Raw (fu d : Nat) (a0_0 : C) (a0_1 : Int) :
 cl fu (d + 1) fn_synoptickeep_Src_Raw [V.ptr 1000000 0] [.ob ty_synoptickeep_Src 0 ([a0_0, C.v (.int .i64 a0_1)])] = (
 asSl a0_0 fun n cs =>
 bif decide (a0_1 ≥ ((n : Nat) : Int)) then
 some ⟨I 0, [.ob ty_synoptickeep_Src 0 ([a0_0, C.v (.int .i64 a0_1)])], none⟩
 else
 asSl a0_0 fun n1 cs1 =>
 need (inR (IntKind.i64.wrap ((IntKind.i64.wrap (a0_1 + 1)) - 1)) n1) <|
 unc (List.drop (((IntKind.i64.wrap ((IntKind.i64.wrap (a0_1 + 1)) - 1)).toNat) * 1) cs1) fun c _ =>
 asI .i64 c fun i =>
 some ⟨I i, [.ob ty_synoptickeep_Src 0 ([a0_0, C.v (.int .i64 (IntKind.i64.wrap (a0_1 + 1)))])], none⟩) := by kernel_rfl
/- synoptic/mesh.Frequency -/
theorem eq_mesh_Frequency (fu d : Nat) (a0 : Int) :
 cl fu (d + 1) fn_mesh_Frequency [I a0] [] = (
 bif decide (a0 ≥ 1) then
 some ⟨B (decide (a0 ≤ 8)), [], none⟩
 else
 some ⟨B false, [], none⟩) := by kernel_rfl
/- synoptic/element.Describe -/
theorem eq_element_Describe (fu d : Nat) (a0 : Int) :
 cl fu (d + 1) fn_element_Describe [I a0] [] = (
 bif decide (a0 < 1) then
 some ⟨V.tup [V.agg ([C.v (.string (⟨#[]⟩)), C.v (.int .i64 0), C.v (.int .i64 0), C.v (.int .i64 0)]), I 4], [], none⟩
 else
 bif decide (a0 > 11) then
 some ⟨V.tup [V.agg ([C.v (.string (⟨#[]⟩)), C.v (.int .i64 0), C.v (.int .i64 0), C.v (.int .i64 0)]), I 4], [], none⟩
 else
 need (inR (IntKind.i64.wrap (a0 - 1)) 11) <|
 need (Nat.ble 2 ((List.drop (((IntKind.i64.wrap (a0 - 1)).toNat) * 2) gl_element_bounds).length)) <|
 need ((((Nat.beq ((List.take 2 (List.drop (((IntKind.i64.wrap (a0 - 1)).toNat) * 2) gl_element_bounds)).length) 2) && true) && (Nat.ble (0 + ((List.take 2 (List.drop (((IntKind.i64.wrap (a0 - 1)).toNat) * 2) gl_element_bounds)).length)) 2)) && true) <|
 need (inR (IntKind.i64.wrap (a0 - 1)) (⟨#[80, 84, 68, 69, 78, 65, 66, 70, 71, 74, 75]⟩ : ByteArray).size) <|
 bd (((⟨#[80, 84, 68, 69, 78, 65, 66, 70, 71, 74, 75]⟩ : ByteArray).data.getD ((IntKind.i64.wrap (a0 - 1)).toNat) 0).toNat : Int) fun z =>
 unc (putAt ([C.v (.int .i64 0), C.v (.int .i64 0)]) 0 (List.take 2 (List.drop (((IntKind.i64.wrap (a0 - 1)).toNat) * 2) gl_element_bounds))) fun c _ =>
 asI .i64 c fun i =>
 unc (List.drop 1 (putAt ([C.v (.int .i64 0), C.v (.int .i64 0)]) 0 (List.take 2 (List.drop (((IntKind.i64.wrap (a0 - 1)).toNat) * 2) gl_element_bounds)))) fun c1 _ =>
 asI .i64 c1 fun i1 =>
 bif a0 == 1 then
 some ⟨V.tup [V.agg ([C.v (.string (Utf8.encode z)), C.v (.int .i64 i), C.v (.int .i64 i1), C.v (.int .i64 5)]), I 0], [], none⟩
 else
 some ⟨V.tup [V.agg ([C.v (.string (Utf8.encode z)), C.v (.int .i64 i), C.v (.int .i64 i1), C.v (.int .i64 4)]), I 0], [], none⟩) := by kernel_rfl
/- synoptic/operator.weighted -/
theorem eq_operator_weighted (fu d : Nat) (a0 : Int) :
 cl fu (d + 1) fn_operator_weighted [I a0] [] = (
 bif decide (a0 ≥ 1) then
 some ⟨B (decide (a0 ≤ 1000)), [], none⟩
 else
 some ⟨B false, [], none⟩) := by kernel_rfl
/- synoptic/element.Validate -/
theorem eq_element_Validate (fu d : Nat) (n0 : Nat) (a0 : List C) :
 cl fu (d + 1) fn_element_Validate [V.c (C.sl n0 a0)] [] = (
 (cl fu d fn_element_Validate_1 [I 4, V.c (C.cp ([C.sl n0 a0]))] []).bind fun out =>
 rC out.r fun c =>
 asB c fun b =>
 bif b then
 some ⟨I 4, [], none⟩
 else
 (cl fu d fn_element_Validate_1 [I 1, V.c (C.cp ([C.sl n0 a0]))] []).bind fun out1 =>
 rC out1.r fun c1 =>
 asB c1 fun b1 =>
 bif b1 then
 some ⟨I 1, [], none⟩
 else
 (iter (fun (y : Int × Int × Unit) =>
 bif decide (y.2.1 < ((n0 : Nat) : Int)) then
 need (inR (IntKind.i64.wrap (y.2.1 - 1)) n0) <|
 unc (List.drop (((IntKind.i64.wrap (y.2.1 - 1)).toNat) * 2) a0) fun c2 _ =>
 asI .i64 c2 fun i =>
 need (inR y.2.1 n0) <|
 unc (List.drop (y.2.1.toNat * 2) a0) fun c3 _ =>
 asI .i64 c3 fun i1 =>
 bif decide (i ≥ i1) then
 some (2, (8, y.2.1, ()))
 else
 some (0, (y.1, IntKind.i64.wrap (y.2.1 + 1), ()))
 else
 some (1, (y.1, y.2.1, ()))) fu (0, 1, ())).bind fun p =>
 natD p.1 (
 some ⟨I 0, [], none⟩) fun m =>
 some ⟨I p.2.1, [], none⟩) := by kernel_rfl
/- synoptic/mesh.Points -/
theorem eq_mesh_Points (fu d : Nat) (a0 : Int) :
 cl fu (d + 1) fn_mesh_Points [I a0] [] = (
 need (!(a0 == 0)) <|
 (iter (fun (y : Int × (Int × Int × List C × (List (List C × List C)) × C × C × C × Unit) × Unit) =>
 bif decide (y.1 < 20) then
 need (((Nat.beq ((y.2.1.2.2.1.length / 4) * 4) y.2.1.2.2.1.length) && true) && true) <|
 (iter (fun (y1 : Int × (Int × Int × List C × (List (List C × List C)) × C × C × C × Unit) × Unit) =>
 bif decide (y1.1 ≤ a0) then
 need (((Nat.beq ((y1.2.1.2.2.1.length / 4) * 4) y1.2.1.2.2.1.length) && true) && true) <|
 (iter (fun (y2 : Int × (Int × Int × List C × (List (List C × List C)) × C × C × C × Unit) × Unit) =>
 bif decide (IntKind.i64.wrap (y1.1 + y2.1) ≤ a0) then
 (cl fu d fn_place_Normal [V.agg ([C.v (.int .i64 y.1), C.v (.int .i64 (IntKind.i64.wrap (y1.1 * y2.2.1.2.1))), C.v (.int .i64 (IntKind.i64.wrap (y2.1 * y2.2.1.2.1))), C.v (.int .i64 (IntKind.i64.wrap ((IntKind.i64.wrap ((IntKind.i64.wrap (a0 - y1.1)) - y2.1)) * y2.2.1.2.1)))])] []).bind fun out =>
 rT out.r fun xs =>
 uncV xs fun x ys =>
 rA x fun cs =>
 need (Nat.beq cs.length 4) <|
 unc cs fun c r =>
 asI .i64 c fun i =>
 unc r fun c1 r1 =>
 asI .i64 c1 fun i1 =>
 unc r1 fun c2 r2 =>
 asI .i64 c2 fun i2 =>
 unc r2 fun c3 _ =>
 asI .i64 c3 fun i3 =>
 uncV ys fun x1 ys1 =>
 rC x1 fun c4 =>
 asI .i64 c4 fun i4 =>
 nilV ys1 <|
 bd ((i == y.1) && ((i1 == (IntKind.i64.wrap (y1.1 * y2.2.1.2.1))) && ((i2 == (IntKind.i64.wrap (y2.1 * y2.2.1.2.1))) && ((i3 == (IntKind.i64.wrap ((IntKind.i64.wrap ((IntKind.i64.wrap (a0 - y1.1)) - y2.1)) * y2.2.1.2.1))) && true)))) fun z =>
 bif z then
 (mfd ty_api_Place ([C.v (.int .i64 y.1), C.v (.int .i64 (IntKind.i64.wrap (y1.1 * y2.2.1.2.1))), C.v (.int .i64 (IntKind.i64.wrap (y2.1 * y2.2.1.2.1))), C.v (.int .i64 (IntKind.i64.wrap ((IntKind.i64.wrap ((IntKind.i64.wrap (a0 - y1.1)) - y2.1)) * y2.2.1.2.1)))]) y2.2.1.2.2.2.1).bind fun q =>
 need ((((Nat.beq ((y2.2.1.2.2.1.length / 4) * 4) y2.2.1.2.2.1.length) && true) && (Nat.ble (((y2.2.1.2.2.1.length / 4) + 1) * 32) 140737488355328)) && (Nat.ble ((y2.2.1.2.2.1.length / 4) + 1) 140737488355328)) <|
 bd (y2.2.1.2.2.1 ++ ([C.v (.int .i64 y.1), C.v (.int .i64 (IntKind.i64.wrap (y1.1 * y2.2.1.2.1))), C.v (.int .i64 (IntKind.i64.wrap (y2.1 * y2.2.1.2.1))), C.v (.int .i64 (IntKind.i64.wrap ((IntKind.i64.wrap ((IntKind.i64.wrap (a0 - y1.1)) - y2.1)) * y2.2.1.2.1)))])) fun cs1 =>
 need (((Nat.beq (((y2.2.1.2.2.1.length / 4) + 1) * 4) cs1.length) && true) && true) <|
 some (0, (IntKind.i64.wrap (y2.1 + 1), (y2.2.1.1, y2.2.1.2.1, cs1, mput y2.2.1.2.2.2.1 q ([C.v (.int .i64 y.1), C.v (.int .i64 (IntKind.i64.wrap (y1.1 * y2.2.1.2.1))), C.v (.int .i64 (IntKind.i64.wrap (y2.1 * y2.2.1.2.1))), C.v (.int .i64 (IntKind.i64.wrap ((IntKind.i64.wrap ((IntKind.i64.wrap (a0 - y1.1)) - y2.1)) * y2.2.1.2.1)))]) ([C.v (.int .i64 ((y2.2.1.2.2.1.length / 4 : Nat) : Int))]), y2.2.1.2.2.2.2.1, y2.2.1.2.2.2.2.2.1, y2.2.1.2.2.2.2.2.2.1, ()), ()))
 else
 need (((Nat.beq ((y2.2.1.2.2.1.length / 4) * 4) y2.2.1.2.2.1.length) && true) && true) <|
 some (0, (IntKind.i64.wrap (y2.1 + 1), (y2.2.1.1, y2.2.1.2.1, y2.2.1.2.2.1, y2.2.1.2.2.2.1, y2.2.1.2.2.2.2.1, y2.2.1.2.2.2.2.2.1, y2.2.1.2.2.2.2.2.2.1, ()), ()))
 else
 need (((Nat.beq ((y2.2.1.2.2.1.length / 4) * 4) y2.2.1.2.2.1.length) && true) && true) <|
 some (1, (y2.1, (y2.2.1.1, y2.2.1.2.1, y2.2.1.2.2.1, y2.2.1.2.2.2.1, y2.2.1.2.2.2.2.1, y2.2.1.2.2.2.2.2.1, y2.2.1.2.2.2.2.2.2.1, ()), ()))) fu (0, (y1.2.1.1, y1.2.1.2.1, y1.2.1.2.2.1, y1.2.1.2.2.2.1, y1.2.1.2.2.2.2.1, y1.2.1.2.2.2.2.2.1, y1.2.1.2.2.2.2.2.2.1, ()), ())).bind fun p =>
 need (((Nat.beq ((p.2.2.1.2.2.1.length / 4) * 4) p.2.2.1.2.2.1.length) && true) && true) <|
 some (0, (IntKind.i64.wrap (y1.1 + 1), (p.2.2.1.1, p.2.2.1.2.1, p.2.2.1.2.2.1, p.2.2.1.2.2.2.1, p.2.2.1.2.2.2.2.1, p.2.2.1.2.2.2.2.2.1, p.2.2.1.2.2.2.2.2.2.1, ()), ()))
 else
 need (((Nat.beq ((y1.2.1.2.2.1.length / 4) * 4) y1.2.1.2.2.1.length) && true) && true) <|
 some (1, (y1.1, (y1.2.1.1, y1.2.1.2.1, y1.2.1.2.2.1, y1.2.1.2.2.2.1, y1.2.1.2.2.2.2.1, y1.2.1.2.2.2.2.2.1, y1.2.1.2.2.2.2.2.2.1, ()), ()))) fu (0, (y.2.1.1, y.2.1.2.1, y.2.1.2.2.1, y.2.1.2.2.2.1, y.2.1.2.2.2.2.1, y.2.1.2.2.2.2.2.1, y.2.1.2.2.2.2.2.2.1, ()), ())).bind fun p1 =>
 need (((Nat.beq ((p1.2.2.1.2.2.1.length / 4) * 4) p1.2.2.1.2.2.1.length) && true) && true) <|
 some (0, (IntKind.i64.wrap (y.1 + 1), (p1.2.2.1.1, p1.2.2.1.2.1, p1.2.2.1.2.2.1, p1.2.2.1.2.2.2.1, p1.2.2.1.2.2.2.2.1, p1.2.2.1.2.2.2.2.2.1, p1.2.2.1.2.2.2.2.2.2.1, ()), ()))
 else
 need (((Nat.beq ((y.2.1.2.2.1.length / 4) * 4) y.2.1.2.2.1.length) && true) && true) <|
 some (1, (y.1, (y.2.1.1, y.2.1.2.1, y.2.1.2.2.1, y.2.1.2.2.2.1, y.2.1.2.2.2.2.1, y.2.1.2.2.2.2.2.1, y.2.1.2.2.2.2.2.2.1, ()), ()))) fu (0, (a0, IntKind.i64.wrap (Int.tdiv 840 a0), [], [], C.nl, C.nl, C.nl, ()), ())).bind fun p2 =>
 need (Nat.ble (0 + ((p2.2.2.1.2.2.1.length / 4) * 4)) p2.2.2.1.2.2.1.length) <|
 some ⟨V.c (C.cp ([C.v (.int .i64 p2.2.2.1.1), C.v (.int .i64 p2.2.2.1.2.1), C.sl (p2.2.2.1.2.2.1.length / 4) (List.take ((p2.2.2.1.2.2.1.length / 4) * 4) p2.2.2.1.2.2.1), C.mp ty_api_Place ty_int (some 4) none p2.2.2.1.2.2.2.1, p2.2.2.1.2.2.2.2.1, p2.2.2.1.2.2.2.2.2.1, p2.2.2.1.2.2.2.2.2.2.1])), [], none⟩) := by kernel_rfl
/- synoptic/element.Find -/
theorem eq_element_Find (fu d : Nat) (n0 : Nat) (a0 : List C) (a1 : Int) :
 cl fu (d + 1) fn_element_Find [V.c (C.sl n0 a0), I a1] [] = (
 (cl fu d fn_slices_IndexFunc_sapi_Reading_api_Reading [V.c (C.sl n0 a0), V.c (C.fn fn_element_Find_1 ([C.cp ([C.v (.int .i64 a1)])]))] []).bind fun out =>
 rC out.r fun c =>
 asI .i64 c fun i =>
 bif decide (i < 0) then
 some ⟨V.tup [I 0, B false], [], none⟩
 else
 need (inR i n0) <|
 unc (List.drop 1 (List.drop (i.toNat * 2) a0)) fun c1 _ =>
 asI .i64 c1 fun i1 =>
 some ⟨V.tup [I i1, B true], [], none⟩) := by kernel_rfl
/- synoptic/place.Valid -/
theorem eq_place_Valid (fu d : Nat) (a0_0 : Int) (a0_1 : Int) (a0_2 : Int) (a0_3 : Int) :
 cl fu (d + 1) fn_place_Valid [V.agg ([C.v (.int .i64 a0_0), C.v (.int .i64 a0_1), C.v (.int .i64 a0_2), C.v (.int .i64 a0_3)])] [] = (
 (iter (fun (y : Bool × Int × Unit) =>
 bif decide (y.2.1 < 3) then
 need (inR y.2.1 3) <|
 unc (List.drop (y.2.1.toNat * 1) ([C.v (.int .i64 a0_1), C.v (.int .i64 a0_2), C.v (.int .i64 a0_3)])) fun c _ =>
 asI .i64 c fun i =>
 bif decide (i < 0) then
 some (2, (false, y.2.1, ()))
 else
 bif decide (i > 840) then
 some (2, (false, y.2.1, ()))
 else
 some (0, (y.1, IntKind.i64.wrap (y.2.1 + 1), ()))
 else
 some (1, (y.1, y.2.1, ()))) fu (false, 0, ())).bind fun p =>
 natD p.1 (
 (cl fu d fn_place_face [I a0_0] []).bind fun out =>
 rC out.r fun c1 =>
 asB c1 fun b =>
 bif b then
 some ⟨B ((IntKind.i64.wrap ((IntKind.i64.wrap (a0_1 + a0_2)) + a0_3)) == 840), [], none⟩
 else
 some ⟨B false, [], none⟩) fun m =>
 some ⟨B p.2.1, [], none⟩) := by kernel_rfl
/- (*synoptic/mesh.Net).Locate -/
theorem eq_mesh_Net_Locate (fu d : Nat) (a0_0 : Int) (a0_1 : Int) (a0_2 : C) (a0_3 : List (List C × List C)) (a0_4 : C) (a0_5 : C) (a0_6 : C) (a1_0 : Int) (a1_1 : Int) (a1_2 : Int) (a1_3 : Int) :
 cl fu (d + 1) fn_mesh_Net_Locate [V.c (C.cp ([C.v (.int .i64 a0_0), C.v (.int .i64 a0_1), a0_2, C.mp ty_api_Place ty_int (some 4) none a0_3, a0_4, a0_5, a0_6])), V.agg ([C.v (.int .i64 a1_0), C.v (.int .i64 a1_1), C.v (.int .i64 a1_2), C.v (.int .i64 a1_3)])] [] = (
 need (!(a0_1 == 0)) <|
 need (!(a0_1 == 0)) <|
 need (!(a0_1 == 0)) <|
 need (!(a0_1 == 0)) <|
 need (!(a0_1 == 0)) <|
 need (!(a0_1 == 0)) <|
 (cl fu d fn_mesh_moved [V.agg ([C.v (.int .i64 a1_0), C.v (.int .i64 a1_1), C.v (.int .i64 a1_2), C.v (.int .i64 a1_3)]), I (IntKind.i64.wrap (0 - (Int.tmod a1_1 a0_1))), I (IntKind.i64.wrap (0 - (Int.tmod a1_2 a0_1))), I (IntKind.i64.wrap (0 - (Int.tmod a1_3 a0_1)))] []).bind fun out =>
 rA out.r fun cs =>
 need (Nat.beq cs.length 4) <|
 unc cs fun c r =>
 asI .i64 c fun i =>
 unc r fun c1 r1 =>
 asI .i64 c1 fun i1 =>
 unc r1 fun c2 r2 =>
 asI .i64 c2 fun i2 =>
 unc r2 fun c3 _ =>
 asI .i64 c3 fun i3 =>
 bd (IntKind.i64.wrap ((IntKind.i64.wrap ((IntKind.i64.wrap ((Int.tmod a1_1 a0_1) * a0_0)) + (IntKind.i64.wrap ((Int.tmod a1_2 a0_1) * a0_0)))) + (IntKind.i64.wrap ((Int.tmod a1_3 a0_1) * a0_0)))) fun z =>
 (bif z == 0 then
 (cl fu d fn_mesh_Net_at [V.c (C.cp ([C.v (.int .i64 a0_0), C.v (.int .i64 a0_1), a0_2, C.mp ty_api_Place ty_int (some 4) none a0_3, a0_4, a0_5, a0_6])), V.agg ([C.v (.int .i64 a1_0), C.v (.int .i64 a1_1), C.v (.int .i64 a1_2), C.v (.int .i64 a1_3)])] []).bind fun out1 =>
 rC out1.r fun c4 =>
 asI .i64 c4 fun i4 =>
 some (0, ([C.v (.int .i64 i4), C.v (.int .i64 840)], [C.v (.int .i64 0), C.v (.int .i64 0), C.v (.int .i64 0), C.v (.int .i64 0), C.v (.int .i64 0), C.v (.int .i64 0), C.v (.int .i64 0), C.v (.int .i64 0), C.v (.int .i64 0), C.v (.int .i64 0), C.v (.int .i64 0), C.v (.int .i64 0)], [C.v (.int .i64 0), C.v (.int .i64 0), C.v (.int .i64 0)], ()))
 else
 (bif z == 840 then
 (cl fu d fn_mesh_Net_upward [V.c (C.cp ([C.v (.int .i64 a0_0), C.v (.int .i64 a0_1), a0_2, C.mp ty_api_Place ty_int (some 4) none a0_3, a0_4, a0_5, a0_6])), V.agg ([C.v (.int .i64 i), C.v (.int .i64 i1), C.v (.int .i64 i2), C.v (.int .i64 i3)])] []).bind fun out2 =>
 rA out2.r fun cs1 =>
 need ((((Nat.beq cs1.length 12) && true) && (Nat.ble (0 + cs1.length) 12)) && true) <|
 bd (putAt ([C.v (.int .i64 0), C.v (.int .i64 0), C.v (.int .i64 0), C.v (.int .i64 0), C.v (.int .i64 0), C.v (.int .i64 0), C.v (.int .i64 0), C.v (.int .i64 0), C.v (.int .i64 0), C.v (.int .i64 0), C.v (.int .i64 0), C.v (.int .i64 0)]) 0 cs1) fun cs2 =>
 some (0, (cs2, [C.v (.int .i64 (IntKind.i64.wrap ((Int.tmod a1_1 a0_1) * a0_0))), C.v (.int .i64 (IntKind.i64.wrap ((Int.tmod a1_2 a0_1) * a0_0))), C.v (.int .i64 (IntKind.i64.wrap ((Int.tmod a1_3 a0_1) * a0_0)))], ()))
 else
 (cl fu d fn_mesh_Net_downward [V.c (C.cp ([C.v (.int .i64 a0_0), C.v (.int .i64 a0_1), a0_2, C.mp ty_api_Place ty_int (some 4) none a0_3, a0_4, a0_5, a0_6])), V.agg ([C.v (.int .i64 i), C.v (.int .i64 i1), C.v (.int .i64 i2), C.v (.int .i64 i3)])] []).bind fun out3 =>
 rA out3.r fun cs3 =>
 need ((((Nat.beq cs3.length 12) && true) && (Nat.ble (0 + cs3.length) 12)) && true) <|
 bd (putAt ([C.v (.int .i64 0), C.v (.int .i64 0), C.v (.int .i64 0), C.v (.int .i64 0), C.v (.int .i64 0), C.v (.int .i64 0), C.v (.int .i64 0), C.v (.int .i64 0), C.v (.int .i64 0), C.v (.int .i64 0), C.v (.int .i64 0), C.v (.int .i64 0)]) 0 cs3) fun cs4 =>
 some (0, (cs4, [C.v (.int .i64 (IntKind.i64.wrap (840 - (IntKind.i64.wrap ((Int.tmod a1_1 a0_1) * a0_0))))), C.v (.int .i64 (IntKind.i64.wrap (840 - (IntKind.i64.wrap ((Int.tmod a1_2 a0_1) * a0_0))))), C.v (.int .i64 (IntKind.i64.wrap (840 - (IntKind.i64.wrap ((Int.tmod a1_3 a0_1) * a0_0)))))], ())) : Option (Nat × List C × List C × Unit)).bind fun p =>
 some (1, ([], p.2.1, p.2.2.1, ())) : Option (Nat × List C × List C × List C × Unit)).bind fun p1 =>
 natD p1.1 (
 need (Nat.ble (0 + ((p1.2.1.length / 2) * 2)) p1.2.1.length) <|
 some ⟨V.c (C.sl (p1.2.1.length / 2) (List.take ((p1.2.1.length / 2) * 2) p1.2.1)), [], none⟩) fun m =>
 need (Nat.ble 12 p1.2.2.1.length) <|
 (iter (fun (y : List C × Int × Unit) =>
 bif decide (y.2.1 < 3) then
 need (inR y.2.1 3) <|
 unc (List.drop (y.2.1.toNat * 4) (List.take 12 p1.2.2.1)) fun c5 r4 =>
 asI .i64 c5 fun i5 =>
 unc r4 fun c6 r5 =>
 asI .i64 c6 fun i6 =>
 unc r5 fun c7 r6 =>
 asI .i64 c7 fun i7 =>
 unc r6 fun c8 _ =>
 asI .i64 c8 fun i8 =>
 need (inR y.2.1 3) <|
 unc (List.drop (y.2.1.toNat * 1) p1.2.2.2.1) fun c9 _ =>
 asI .i64 c9 fun i9 =>
 bif decide (i9 > 0) then
 (cl fu d fn_mesh_Net_at [V.c (C.cp ([C.v (.int .i64 a0_0), C.v (.int .i64 a0_1), a0_2, C.mp ty_api_Place ty_int (some 4) none a0_3, a0_4, a0_5, a0_6])), V.agg ([C.v (.int .i64 i5), C.v (.int .i64 i6), C.v (.int .i64 i7), C.v (.int .i64 i8)])] []).bind fun out4 =>
 rC out4.r fun c10 =>
 asI .i64 c10 fun i10 =>
 need (inR y.2.1 3) <|
 unc (List.drop (y.2.1.toNat * 1) p1.2.2.2.1) fun c11 _ =>
 asI .i64 c11 fun i11 =>
 need ((((Nat.beq ((y.1.length / 2) * 2) y.1.length) && true) && (Nat.ble (((y.1.length / 2) + 1) * 16) 140737488355328)) && (Nat.ble ((y.1.length / 2) + 1) 140737488355328)) <|
 need (((Nat.beq (((y.1.length / 2) + 1) * 2) ((y.1 ++ ([C.v (.int .i64 i10), C.v (.int .i64 i11)])).length)) && true) && true) <|
 some (0, (y.1 ++ ([C.v (.int .i64 i10), C.v (.int .i64 i11)]), IntKind.i64.wrap (y.2.1 + 1), ()))
 else
 need (((Nat.beq ((y.1.length / 2) * 2) y.1.length) && true) && true) <|
 some (0, (y.1, IntKind.i64.wrap (y.2.1 + 1), ()))
 else
 need (((Nat.beq ((y.1.length / 2) * 2) y.1.length) && true) && true) <|
 some (1, (y.1, y.2.1, ()))) fu ([], 0, ())).bind fun p2 =>
 (cl fu d fn_slices_SortFunc_sapi_Share_api_Share [V.own 1000000 0 (p2.2.1.length / 2), V.c (C.fn fn_mesh_Net_Locate_1 ([]))] [.sb ty_api_Share 0 p2.2.1]).bind fun out5 =>
 uncO out5.objs fun o os =>
 rS o ty_api_Share 0 fun cs5 =>
 need (Nat.beq cs5.length p2.2.1.length) <|
 need (Nat.ble (0 + ((p2.2.1.length / 2) * 2)) cs5.length) <|
 some ⟨V.c (C.sl (p2.2.1.length / 2) (List.take ((p2.2.1.length / 2) * 2) cs5)), [], none⟩) := by kernel_rfl
/- synoptic/synopticref02.Valid -/
theorem eq_synopticref02_Valid (fu d : Nat) (a0_0 : Int) (a0_1 : Int) (a0_2 : Int) (a0_3 : Int) :
 cl fu (d + 1) fn_synopticref02_Valid [V.agg ([C.v (.int .i64 a0_0), C.v (.int .i64 a0_1), C.v (.int .i64 a0_2), C.v (.int .i64 a0_3)])] [] = (
 bif decide (a0_0 ≥ 0) then
 bif decide (a0_0 < 20) then
 bif decide (a0_1 ≥ 0) then
 bif decide (a0_1 ≤ 840) then
 bif decide (a0_2 ≥ 0) then
 bif decide (a0_2 ≤ 840) then
 bif decide (a0_3 ≥ 0) then
 bif decide (a0_3 ≤ 840) then
 some ⟨B ((IntKind.i64.wrap ((IntKind.i64.wrap (a0_1 + a0_2)) + a0_3)) == 840), [], none⟩
 else
 some ⟨B false, [], none⟩
 else
 some ⟨B false, [], none⟩
 else
 some ⟨B false, [], none⟩
 else
 some ⟨B false, [], none⟩
 else
 some ⟨B false, [], none⟩
 else
 some ⟨B false, [], none⟩
 else
 some ⟨B false, [], none⟩
 else
 some ⟨B false, [], none⟩) := by kernel_rfl
/- synoptic/synopticref02.On -/
theorem eq_synopticref02_On (fu d : Nat) (a0 : Int) (a1 : List C) :
 cl fu (d + 1) fn_synopticref02_On [I a0, V.agg a1] [] = (
 (cl fu d fn_synopticref02_Corners [I a0] []).bind fun out =>
 rT out.r fun xs =>
 uncV xs fun x ys =>
 rA x fun cs =>
 uncV ys fun x1 ys1 =>
 rC x1 fun c =>
 asI .i64 c fun i =>
 nilV ys1 <|
 need ((((Nat.beq cs.length 3) && true) && (Nat.ble (0 + cs.length) 3)) && true) <|
 unc (putAt ([C.v (.int .i64 0), C.v (.int .i64 0), C.v (.int .i64 0)]) 0 cs) fun c1 _ =>
 asI .i64 c1 fun i1 =>
 need (inR i1 12) <|
 unc (List.drop (i1.toNat * 1) a1) fun c2 _ =>
 asI .i64 c2 fun i2 =>
 unc (List.drop 1 (putAt ([C.v (.int .i64 0), C.v (.int .i64 0), C.v (.int .i64 0)]) 0 cs)) fun c3 _ =>
 asI .i64 c3 fun i3 =>
 need (inR i3 12) <|
 unc (List.drop (i3.toNat * 1) a1) fun c4 _ =>
 asI .i64 c4 fun i4 =>
 unc (List.drop 2 (putAt ([C.v (.int .i64 0), C.v (.int .i64 0), C.v (.int .i64 0)]) 0 cs)) fun c5 _ =>
 asI .i64 c5 fun i5 =>
 need (inR i5 12) <|
 unc (List.drop (i5.toNat * 1) a1) fun c6 _ =>
 asI .i64 c6 fun i6 =>
 some ⟨V.tup [V.agg ([C.v (.int .i64 a0), C.v (.int .i64 i2), C.v (.int .i64 i4), C.v (.int .i64 i6)]), B ((IntKind.i64.wrap ((IntKind.i64.wrap (i2 + i4)) + i6)) == 840)], [], none⟩) := by kernel_rfl
/- synoptic/synopticref03.Shares -/
theorem eq_synopticref03_Shares (fu d : Nat) (n0 : Nat) (a0 : List C) (n1 : Nat) (a1 : List C) :
 cl fu (d + 1) fn_synopticref03_Shares [V.c (C.sl n0 a0), V.c (C.sl n1 a1)] [] = (
 bif ((n0 : Nat) : Int) != ((n1 : Nat) : Int) then
 some ⟨B false, [], none⟩
 else
 (iter (fun (y : Bool × Int × Unit) =>
 bif decide (y.2.1 < ((n0 : Nat) : Int)) then
 need (inR y.2.1 n0) <|
 unc (List.drop (y.2.1.toNat * 2) a0) fun c r =>
 asI .i64 c fun i =>
 unc r fun c1 _ =>
 asI .i64 c1 fun i1 =>
 need (inR y.2.1 n1) <|
 unc (List.drop (y.2.1.toNat * 2) a1) fun c2 r2 =>
 asI .i64 c2 fun i2 =>
 unc r2 fun c3 _ =>
 asI .i64 c3 fun i3 =>
 bif !((i == i2) && ((i1 == i3) && true)) then
 some (2, (false, y.2.1, ()))
 else
 some (0, (y.1, IntKind.i64.wrap (y.2.1 + 1), ()))
 else
 some (1, (y.1, y.2.1, ()))) fu (false, 0, ())).bind fun p =>
 natD p.1 (
 some ⟨B true, [], none⟩) fun m =>
 some ⟨B p.2.1, [], none⟩) := by kernel_rfl
/- synoptic/synopticref02.Corners -/
theorem eq_synopticref02_Corners (fu d : Nat) (a0 : Int) :
 cl fu (d + 1) fn_synopticref02_Corners [I a0] [] = (
 bif decide (a0 < 0) then
 some ⟨V.tup [V.agg ([C.v (.int .i64 0), C.v (.int .i64 0), C.v (.int .i64 0)]), I 1], [], none⟩
 else
 bif decide (a0 ≥ 20) then
 some ⟨V.tup [V.agg ([C.v (.int .i64 0), C.v (.int .i64 0), C.v (.int .i64 0)]), I 1], [], none⟩
 else
 bif (IntKind.i64.wrap (Int.tdiv a0 5)) == 0 then
 some ⟨V.tup [V.agg ([C.v (.int .i64 0), C.v (.int .i64 (IntKind.i64.wrap (1 + (Int.tmod a0 5)))), C.v (.int .i64 (IntKind.i64.wrap (1 + (Int.tmod (IntKind.i64.wrap ((Int.tmod a0 5) + 1)) 5))))]), I 0], [], none⟩
 else
 bif (IntKind.i64.wrap (Int.tdiv a0 5)) == 1 then
 some ⟨V.tup [V.agg ([C.v (.int .i64 (IntKind.i64.wrap (1 + (Int.tmod a0 5)))), C.v (.int .i64 (IntKind.i64.wrap (6 + (Int.tmod a0 5)))), C.v (.int .i64 (IntKind.i64.wrap (1 + (Int.tmod (IntKind.i64.wrap ((Int.tmod a0 5) + 1)) 5))))]), I 0], [], none⟩
 else
 bif (IntKind.i64.wrap (Int.tdiv a0 5)) == 2 then
 some ⟨V.tup [V.agg ([C.v (.int .i64 (IntKind.i64.wrap (6 + (Int.tmod a0 5)))), C.v (.int .i64 (IntKind.i64.wrap (6 + (Int.tmod (IntKind.i64.wrap ((Int.tmod a0 5) + 1)) 5)))), C.v (.int .i64 (IntKind.i64.wrap (1 + (Int.tmod (IntKind.i64.wrap ((Int.tmod a0 5) + 1)) 5))))]), I 0], [], none⟩
 else
 some ⟨V.tup [V.agg ([C.v (.int .i64 11), C.v (.int .i64 (IntKind.i64.wrap (6 + (Int.tmod (IntKind.i64.wrap ((Int.tmod a0 5) + 1)) 5)))), C.v (.int .i64 (IntKind.i64.wrap (6 + (Int.tmod a0 5))))]), I 0], [], none⟩) := by kernel_rfl
/- (*synoptic/synoptickeep.Src).Text -/
theorem eq_synoptickeep_Src_Text (fu d : Nat) (a0_0 : C) (a0_1 : Int) (n1 : Nat) (a1 : List C) :
 cl fu (d + 1) fn_synoptickeep_Src_Text [V.ptr 1000000 0, V.c (C.sl n1 a1)] [.ob ty_synoptickeep_Src 0 ([a0_0, C.v (.int .i64 a0_1)])] = (
 (cl fu d fn_synoptickeep_Src_N [V.ptr 1000000 0, I ((n1 : Nat) : Int)] [.ob ty_synoptickeep_Src 0 ([a0_0, C.v (.int .i64 a0_1)])]).bind fun out =>
 uncO out.objs fun o os =>
 rO o ty_synoptickeep_Src 0 fun cs =>
 need ((Nat.beq cs.length 2) && true) <|
 unc cs fun c r =>
 unc r fun c1 _ =>
 asI .i64 c1 fun i =>
 rC out.r fun c2 =>
 asI .i64 c2 fun i1 =>
 need (inR i1 n1) <|
 unc (List.drop (i1.toNat * 1) a1) fun c3 _ =>
 asS c3 fun s =>
 some ⟨V.c (C.v (.string s)), [.ob ty_synoptickeep_Src 0 ([c, C.v (.int .i64 i)])], none⟩) := by kernel_rfl
/- synoptic/synopticref02.Normal -/
theorem eq_synopticref02_Normal (fu d : Nat) (a0_0 : Int) (a0_1 : Int) (a0_2 : Int) (a0_3 : Int) :
 cl fu (d + 1) fn_synopticref02_Normal [V.agg ([C.v (.int .i64 a0_0), C.v (.int .i64 a0_1), C.v (.int .i64 a0_2), C.v (.int .i64 a0_3)])] [] = (
 (cl fu d fn_synopticref02_Addresses [V.agg ([C.v (.int .i64 a0_0), C.v (.int .i64 a0_1), C.v (.int .i64 a0_2), C.v (.int .i64 a0_3)])] []).bind fun out =>
 rT out.r fun xs =>
 uncV xs fun x ys =>
 rC x fun c =>
 uncV ys fun x1 ys1 =>
 rC x1 fun c1 =>
 asI .i64 c1 fun i =>
 nilV ys1 <|
 bif i != 0 then
 some ⟨V.tup [V.agg ([C.v (.int .i64 0), C.v (.int .i64 0), C.v (.int .i64 0), C.v (.int .i64 0)]), I i], [], none⟩
 else
 asSl c fun n cs =>
 need (inR 0 n) <|
 unc cs fun c2 r =>
 asI .i64 c2 fun i1 =>
 unc r fun c3 r1 =>
 asI .i64 c3 fun i2 =>
 unc r1 fun c4 r2 =>
 asI .i64 c4 fun i3 =>
 unc r2 fun c5 _ =>
 asI .i64 c5 fun i4 =>
 some ⟨V.tup [V.agg ([C.v (.int .i64 i1), C.v (.int .i64 i2), C.v (.int .i64 i3), C.v (.int .i64 i4)]), I 0], [], none⟩) := by kernel_rfl
/- synoptic/synopticdata.clamp -/
theorem eq_synopticdata_clamp (fu d : Nat) (a0 : Int) (a1 : Int) :
 cl fu (d + 1) fn_synopticdata_clamp [I a0, I a1] [] = (
 need (inR a0 12) <|
 need (Nat.ble 2 ((List.drop (a0.toNat * 2) ([C.v (.int .i64 0), C.v (.int .i64 0), C.v (.int .i64 8000), C.v (.int .i64 11000), C.v (.int .i64 1800), C.v (.int .i64 3300), C.v (.int .i64 1800), C.v (.int .i64 3300), C.v (.int .i64 (-1000)), C.v (.int .i64 1000), C.v (.int .i64 (-1000)), C.v (.int .i64 1000), C.v (.int .i64 900), C.v (.int .i64 1700), C.v (.int .i64 2000), C.v (.int .i64 3200), C.v (.int .i64 2400), C.v (.int .i64 3400), C.v (.int .i64 2000), C.v (.int .i64 3000), C.v (.int .i64 4400), C.v (.int .i64 6200), C.v (.int .i64 2000), C.v (.int .i64 2900)])).length)) <|
 bd (List.take 2 (List.drop (a0.toNat * 2) ([C.v (.int .i64 0), C.v (.int .i64 0), C.v (.int .i64 8000), C.v (.int .i64 11000), C.v (.int .i64 1800), C.v (.int .i64 3300), C.v (.int .i64 1800), C.v (.int .i64 3300), C.v (.int .i64 (-1000)), C.v (.int .i64 1000), C.v (.int .i64 (-1000)), C.v (.int .i64 1000), C.v (.int .i64 900), C.v (.int .i64 1700), C.v (.int .i64 2000), C.v (.int .i64 3200), C.v (.int .i64 2400), C.v (.int .i64 3400), C.v (.int .i64 2000), C.v (.int .i64 3000), C.v (.int .i64 4400), C.v (.int .i64 6200), C.v (.int .i64 2000), C.v (.int .i64 2900)]))) fun cs =>
 need ((((Nat.beq cs.length 2) && true) && (Nat.ble (0 + cs.length) 2)) && true) <|
 unc (putAt ([C.v (.int .i64 0), C.v (.int .i64 0)]) 0 cs) fun c _ =>
 asI .i64 c fun i =>
 unc (List.drop 1 (putAt ([C.v (.int .i64 0), C.v (.int .i64 0)]) 0 cs)) fun c1 _ =>
 asI .i64 c1 fun i1 =>
 some ⟨I (if (if a1 < i1 then a1 else i1) > i then (if a1 < i1 then a1 else i1) else i), [], none⟩) := by kernel_rfl
/- slices.ContainsFunc[[]synoptic/api.Row,synoptic/api.Row] -/
theorem eq1_slices_ContainsFunc_sapi_Row_api_Row (fu d : Nat) (n0 : Nat) (a0 : List C) (k1 : Nat) (a1_0 : C) :
 cl fu (d + 1) fn_slices_ContainsFunc_sapi_Row_api_Row [V.c (C.sl n0 a0), V.c (C.fn k1 ([a1_0]))] [] = (
 (cl fu d fn_slices_IndexFunc_sapi_Row_api_Row [V.c (C.sl n0 a0), V.c (C.fn k1 ([a1_0]))] []).bind fun out =>
 rC out.r fun c =>
 asI .i64 c fun i =>
 some ⟨B (decide (i ≥ 0)), [], none⟩) := by kernel_rfl
/- synoptic/operator.invalid$1 -/
theorem eq_operator_invalid_1 (fu d : Nat) (a0_0 : C) (a0_1 : Int) (a0_2 : Int) (a0_3 : Int) (e0 : List C) :
 cl fu (d + 1) fn_operator_invalid_1 [V.agg ([a0_0, C.v (.int .i64 a0_1), C.v (.int .i64 a0_2), C.v (.int .i64 a0_3)]), V.c (C.cp e0)] [] = (
 unc e0 fun c r =>
 asI .i64 c fun i =>
 (cl fu d fn_operator_valid [V.agg ([a0_0, C.v (.int .i64 a0_1), C.v (.int .i64 a0_2), C.v (.int .i64 a0_3)]), I i] []).bind fun out =>
 rC out.r fun c1 =>
 asB c1 fun b =>
 some ⟨B (!b), [], none⟩) := by kernel_rfl
/- synoptic/operator.valid -/
theorem eq_operator_valid (fu d : Nat) (a0_0 : C) (a0_1 : Int) (a0_2 : Int) (a0_3 : Int) (a1 : Int) :
 cl fu (d + 1) fn_operator_valid [V.agg ([a0_0, C.v (.int .i64 a0_1), C.v (.int .i64 a0_2), C.v (.int .i64 a0_3)]), I a1] [] = (
 asSl a0_0 fun n cs =>
 (iter (fun (y : Bool × Int × Int × Unit) =>
 bif decide (y.2.2.1 < ((n : Nat) : Int)) then
 asSl a0_0 fun n2 cs1 =>
 need (inR y.2.2.1 n2) <|
 unc (List.drop (y.2.2.1.toNat * 2) cs1) fun c r =>
 asI .i64 c fun i =>
 unc r fun c1 _ =>
 asI .i64 c1 fun i1 =>
 bif decide (i < 0) then
 some (2, (false, y.2.1, y.2.2.1, ()))
 else
 bif decide (i ≥ a1) then
 some (2, (false, y.2.1, y.2.2.1, ()))
 else
 bif decide (i1 < 1) then
 some (2, (false, y.2.1, y.2.2.1, ()))
 else
 bif decide (i1 > 840) then
 some (2, (false, y.2.1, y.2.2.1, ()))
 else
 bif decide (y.2.2.1 > 0) then
 asSl a0_0 fun n3 cs2 =>
 need (inR (IntKind.i64.wrap (y.2.2.1 - 1)) n3) <|
 unc (List.drop (((IntKind.i64.wrap (y.2.2.1 - 1)).toNat) * 2) cs2) fun c2 _ =>
 asI .i64 c2 fun i2 =>
 bif decide (i2 ≥ i) then
 some (2, (false, y.2.1, y.2.2.1, ()))
 else
 some (0, (y.1, IntKind.i64.wrap (y.2.1 + i1), IntKind.i64.wrap (y.2.2.1 + 1), ()))
 else
 some (0, (y.1, IntKind.i64.wrap (y.2.1 + i1), IntKind.i64.wrap (y.2.2.1 + 1), ()))
 else
 some (1, (y.1, y.2.1, y.2.2.1, ()))) fu (false, 0, 0, ())).bind fun p =>
 natD p.1 (
 bif p.2.2.1 == 840 then
 bif decide (a0_1 ≥ (-100000)) then
 bif decide (a0_1 ≤ 100000) then
 (cl fu d fn_operator_weighted [I a0_2] []).bind fun out =>
 rC out.r fun c3 =>
 asB c3 fun b =>
 bif b then
 some ⟨B (decide (a0_3 ≥ 0)), [], none⟩
 else
 some ⟨B false, [], none⟩
 else
 some ⟨B false, [], none⟩
 else
 some ⟨B false, [], none⟩
 else
 some ⟨B false, [], none⟩) fun m =>
 some ⟨B p.2.1, [], none⟩) := by kernel_rfl
/- slices.ContainsFunc[[]int,int] -/
theorem eq_slices_ContainsFunc_sint_int (fu d : Nat) (n0 : Nat) (a0 : List C) (k1 : Nat) :
 cl fu (d + 1) fn_slices_ContainsFunc_sint_int [V.c (C.sl n0 a0), V.c (C.fn k1 ([]))] [] = (
 (cl fu d fn_slices_IndexFunc_sint_int [V.c (C.sl n0 a0), V.c (C.fn k1 ([]))] []).bind fun out =>
 rC out.r fun c =>
 asI .i64 c fun i =>
 some ⟨B (decide (i ≥ 0)), [], none⟩) := by kernel_rfl
/- synoptic/operator.small$1 -/
theorem eq_operator_small_1 (fu d : Nat) (a0 : Int) :
 cl fu (d + 1) fn_operator_small_1 [I a0] [] = (
 bif decide (a0 < (-1099511627776)) then
 some ⟨B true, [], none⟩
 else
 some ⟨B (decide (a0 > 1099511627776)), [], none⟩) := by kernel_rfl
/- synoptic/element.Validate$1 -/
theorem eq_element_Validate_1 (fu d : Nat) (a0 : Int) (e0 : List C) :
 cl fu (d + 1) fn_element_Validate_1 [I a0, V.c (C.cp e0)] [] = (
 unc e0 fun c r =>
 need (noYl [V.c (nrm c)]) <|
 (cl fu d fn_slices_ContainsFunc_sapi_Reading_api_Reading [V.c (nrm c), V.c (C.fn fn_element_Validate_1_1 ([C.cp ([C.v (.int .i64 a0)])]))] []).bind fun out =>
 rC out.r fun c1 =>
 asB c1 fun b =>
 some ⟨B b, [], none⟩) := by kernel_rfl
/- slices.ContainsFunc[[]synoptic/api.Reading,synoptic/api.Reading] -/
theorem eq1_slices_ContainsFunc_sapi_Reading_api_Reading (fu d : Nat) (n0 : Nat) (a0 : List C) (k1 : Nat) (a1_0 : C) :
 cl fu (d + 1) fn_slices_ContainsFunc_sapi_Reading_api_Reading [V.c (C.sl n0 a0), V.c (C.fn k1 ([a1_0]))] [] = (
 (cl fu d fn_slices_IndexFunc_sapi_Reading_api_Reading [V.c (C.sl n0 a0), V.c (C.fn k1 ([a1_0]))] []).bind fun out =>
 rC out.r fun c =>
 asI .i64 c fun i =>
 some ⟨B (decide (i ≥ 0)), [], none⟩) := by kernel_rfl
/- synoptic/element.Validate$1$1 -/
theorem eq_element_Validate_1_1 (fu d : Nat) (a0_0 : Int) (a0_1 : Int) (e0 : List C) :
 cl fu (d + 1) fn_element_Validate_1_1 [V.agg ([C.v (.int .i64 a0_0), C.v (.int .i64 a0_1)]), V.c (C.cp e0)] [] = (
 (cl fu d fn_element_check [V.agg ([C.v (.int .i64 a0_0), C.v (.int .i64 a0_1)])] []).bind fun out =>
 rC out.r fun c =>
 asI .i64 c fun i =>
 unc e0 fun c1 _ =>
 asI .i64 c1 fun i1 =>
 some ⟨B (i == i1), [], none⟩) := by kernel_rfl
/- synoptic/element.check -/
theorem eq_element_check (fu d : Nat) (a0_0 : Int) (a0_1 : Int) :
 cl fu (d + 1) fn_element_check [V.agg ([C.v (.int .i64 a0_0), C.v (.int .i64 a0_1)])] [] = (
 (cl fu d fn_element_Describe [I a0_0] []).bind fun out =>
 rT out.r fun xs =>
 uncV xs fun x ys =>
 rA x fun cs =>
 need (Nat.beq cs.length 4) <|
 unc cs fun c r =>
 asS c fun s =>
 unc r fun c1 r1 =>
 asI .i64 c1 fun i =>
 unc r1 fun c2 r2 =>
 asI .i64 c2 fun i1 =>
 unc r2 fun c3 _ =>
 asI .i64 c3 fun i2 =>
 uncV ys fun x1 ys1 =>
 rC x1 fun c4 =>
 asI .i64 c4 fun i3 =>
 nilV ys1 <|
 bif i3 == 0 then
 bif decide (a0_1 < i) then
 some ⟨I 1, [], none⟩
 else
 bif decide (a0_1 > i1) then
 some ⟨I 1, [], none⟩
 else
 some ⟨I i3, [], none⟩
 else
 some ⟨I i3, [], none⟩) := by kernel_rfl
/- synoptic/place.Normal -/
theorem eq_place_Normal (fu d : Nat) (a0_0 : Int) (a0_1 : Int) (a0_2 : Int) (a0_3 : Int) :
 cl fu (d + 1) fn_place_Normal [V.agg ([C.v (.int .i64 a0_0), C.v (.int .i64 a0_1), C.v (.int .i64 a0_2), C.v (.int .i64 a0_3)])] [] = (
 (cl fu d fn_place_Valid [V.agg ([C.v (.int .i64 a0_0), C.v (.int .i64 a0_1), C.v (.int .i64 a0_2), C.v (.int .i64 a0_3)])] []).bind fun out =>
 rC out.r fun c =>
 asB c fun b =>
 bif !b then
 some ⟨V.tup [V.agg ([C.v (.int .i64 0), C.v (.int .i64 0), C.v (.int .i64 0), C.v (.int .i64 0)]), I 1], [], none⟩
 else
 (cl fu d fn_place_of [V.agg ([C.v (.int .i64 a0_0), C.v (.int .i64 a0_1), C.v (.int .i64 a0_2), C.v (.int .i64 a0_3)])] []).bind fun out1 =>
 rA out1.r fun cs =>
 need ((((Nat.beq cs.length 12) && true) && (Nat.ble (0 + cs.length) 12)) && true) <|
 bd (putAt ([C.v (.int .i64 0), C.v (.int .i64 0), C.v (.int .i64 0), C.v (.int .i64 0), C.v (.int .i64 0), C.v (.int .i64 0), C.v (.int .i64 0), C.v (.int .i64 0), C.v (.int .i64 0), C.v (.int .i64 0), C.v (.int .i64 0), C.v (.int .i64 0)]) 0 cs) fun cs1 =>
 (iter (fun (y : Int × Int × (Int × Int × Int × Int × Unit) × Unit) =>
 bif decide (y.2.1 < 20) then
 need (Nat.ble 12 cs1.length) <|
 (cl fu d fn_place_on [I y.2.1, V.agg (List.take 12 cs1)] []).bind fun out2 =>
 rT out2.r fun xs =>
 uncV xs fun x ys =>
 rA x fun cs2 =>
 need (Nat.beq cs2.length 4) <|
 unc cs2 fun c1 r =>
 asI .i64 c1 fun i =>
 unc r fun c2 r1 =>
 asI .i64 c2 fun i1 =>
 unc r1 fun c3 r2 =>
 asI .i64 c3 fun i2 =>
 unc r2 fun c4 _ =>
 asI .i64 c4 fun i3 =>
 uncV ys fun x1 ys1 =>
 rC x1 fun c5 =>
 asB c5 fun b1 =>
 nilV ys1 <|
 bif b1 then
 some (2, (0, y.2.1, (i, i1, i2, i3, ()), ()))
 else
 some (0, (y.1, IntKind.i64.wrap (y.2.1 + 1), (y.2.2.1.1, y.2.2.1.2.1, y.2.2.1.2.2.1, y.2.2.1.2.2.2.1, ()), ()))
 else
 some (1, (y.1, y.2.1, (y.2.2.1.1, y.2.2.1.2.1, y.2.2.1.2.2.1, y.2.2.1.2.2.2.1, ()), ()))) fu (0, 0, (0, 0, 0, 0, ()), ())).bind fun p =>
 natD p.1 (
 some ⟨V.tup [V.agg ([C.v (.int .i64 a0_0), C.v (.int .i64 a0_1), C.v (.int .i64 a0_2), C.v (.int .i64 a0_3)]), I 0], [], none⟩) fun m =>
 some ⟨V.tup [V.agg ([C.v (.int .i64 p.2.2.2.1.1), C.v (.int .i64 p.2.2.2.1.2.1), C.v (.int .i64 p.2.2.2.1.2.2.1), C.v (.int .i64 p.2.2.2.1.2.2.2.1)]), I p.2.1], [], none⟩) := by kernel_rfl
/- slices.IndexFunc[[]synoptic/api.Reading,synoptic/api.Reading] -/
theorem eq1_slices_IndexFunc_sapi_Reading_api_Reading (fu d : Nat) (n0 : Nat) (a0 : List C) (k1 : Nat) (a1_0 : C) :
 cl fu (d + 1) fn_slices_IndexFunc_sapi_Reading_api_Reading [V.c (C.sl n0 a0), V.c (C.fn k1 ([a1_0]))] [] = (
 (iter (fun (y : Int × Int × Unit) =>
 bif decide (y.2.1 < ((n0 : Nat) : Int)) then
 need (inR y.2.1 n0) <|
 unc (List.drop (y.2.1.toNat * 2) a0) fun c r =>
 asI .i64 c fun i =>
 unc r fun c1 _ =>
 asI .i64 c1 fun i1 =>
 (cl fu d k1 [V.agg ([C.v (.int .i64 i), C.v (.int .i64 i1)]), V.c a1_0] []).bind fun out =>
 rC out.r fun c2 =>
 asB c2 fun b =>
 bif b then
 some (2, (y.2.1, y.2.1, ()))
 else
 some (0, (y.1, IntKind.i64.wrap (y.2.1 + 1), ()))
 else
 some (1, (y.1, y.2.1, ()))) fu (0, 0, ())).bind fun p =>
 natD p.1 (
 some ⟨I (-1), [], none⟩) fun m =>
 some ⟨I p.2.1, [], none⟩) := by kernel_rfl
/- synoptic/element.Find$1 -/
theorem eq_element_Find_1 (fu d : Nat) (a0_0 : Int) (a0_1 : Int) (e0 : List C) :
 cl fu (d + 1) fn_element_Find_1 [V.agg ([C.v (.int .i64 a0_0), C.v (.int .i64 a0_1)]), V.c (C.cp e0)] [] = (
 unc e0 fun c _ =>
 asI .i64 c fun i =>
 some ⟨B (a0_0 == i), [], none⟩) := by kernel_rfl
/- synoptic/place.face -/
theorem eq_place_face (fu d : Nat) (a0 : Int) :
 cl fu (d + 1) fn_place_face [I a0] [] = (
 bif decide (a0 ≥ 0) then
 some ⟨B (decide (a0 < 20)), [], none⟩
 else
 some ⟨B false, [], none⟩) := by kernel_rfl
/- synoptic/mesh.moved -/
theorem eq_mesh_moved (fu d : Nat) (a0_0 : Int) (a0_1 : Int) (a0_2 : Int) (a0_3 : Int) (a1 : Int) (a2 : Int) (a3 : Int) :
 cl fu (d + 1) fn_mesh_moved [V.agg ([C.v (.int .i64 a0_0), C.v (.int .i64 a0_1), C.v (.int .i64 a0_2), C.v (.int .i64 a0_3)]), I a1, I a2, I a3] [] = (
 some ⟨V.agg ([C.v (.int .i64 a0_0), C.v (.int .i64 (IntKind.i64.wrap (a0_1 + a1))), C.v (.int .i64 (IntKind.i64.wrap (a0_2 + a2))), C.v (.int .i64 (IntKind.i64.wrap (a0_3 + a3)))]), [], none⟩) := by kernel_rfl
/- (*synoptic/mesh.Net).at -/
theorem eq_mesh_Net_at (fu d : Nat) (a0_0 : Int) (a0_1 : Int) (a0_2 : C) (a0_3 : List (List C × List C)) (a0_4 : C) (a0_5 : C) (a0_6 : C) (a1_0 : Int) (a1_1 : Int) (a1_2 : Int) (a1_3 : Int) :
 cl fu (d + 1) fn_mesh_Net_at [V.c (C.cp ([C.v (.int .i64 a0_0), C.v (.int .i64 a0_1), a0_2, C.mp ty_api_Place ty_int (some 4) none a0_3, a0_4, a0_5, a0_6])), V.agg ([C.v (.int .i64 a1_0), C.v (.int .i64 a1_1), C.v (.int .i64 a1_2), C.v (.int .i64 a1_3)])] [] = (
 (cl fu d fn_place_Normal [V.agg ([C.v (.int .i64 a1_0), C.v (.int .i64 a1_1), C.v (.int .i64 a1_2), C.v (.int .i64 a1_3)])] []).bind fun out =>
 rT out.r fun xs =>
 uncV xs fun x ys =>
 rA x fun cs =>
 need (Nat.beq cs.length 4) <|
 unc cs fun c r =>
 asI .i64 c fun i =>
 unc r fun c1 r1 =>
 asI .i64 c1 fun i1 =>
 unc r1 fun c2 r2 =>
 asI .i64 c2 fun i2 =>
 unc r2 fun c3 _ =>
 asI .i64 c3 fun i3 =>
 uncV ys fun x1 ys1 =>
 rC x1 fun c4 =>
 asI .i64 c4 fun i4 =>
 nilV ys1 <|
 (mfd ty_api_Place ([C.v (.int .i64 i), C.v (.int .i64 i1), C.v (.int .i64 i2), C.v (.int .i64 i3)]) a0_3).bind fun q =>
 unc (orZ q ([C.v (.int .i64 0)])) fun c5 _ =>
 asI .i64 c5 fun i5 =>
 some ⟨I i5, [], none⟩) := by kernel_rfl
/- (*synoptic/mesh.Net).upward -/
theorem eq_mesh_Net_upward (fu d : Nat) (a0_0 : Int) (a0_1 : Int) (a0_2 : C) (a0_3 : List (List C × List C)) (a0_4 : C) (a0_5 : C) (a0_6 : C) (a1_0 : Int) (a1_1 : Int) (a1_2 : Int) (a1_3 : Int) :
 cl fu (d + 1) fn_mesh_Net_upward [V.c (C.cp ([C.v (.int .i64 a0_0), C.v (.int .i64 a0_1), a0_2, C.mp ty_api_Place ty_int (some 4) none a0_3, a0_4, a0_5, a0_6])), V.agg ([C.v (.int .i64 a1_0), C.v (.int .i64 a1_1), C.v (.int .i64 a1_2), C.v (.int .i64 a1_3)])] [] = (
 (cl fu d fn_mesh_moved [V.agg ([C.v (.int .i64 a1_0), C.v (.int .i64 a1_1), C.v (.int .i64 a1_2), C.v (.int .i64 a1_3)]), I a0_1, I 0, I 0] []).bind fun out =>
 rA out.r fun cs =>
 need (Nat.beq cs.length 4) <|
 unc cs fun c r =>
 asI .i64 c fun i =>
 unc r fun c1 r1 =>
 asI .i64 c1 fun i1 =>
 unc r1 fun c2 r2 =>
 asI .i64 c2 fun i2 =>
 unc r2 fun c3 _ =>
 asI .i64 c3 fun i3 =>
 (cl fu d fn_mesh_moved [V.agg ([C.v (.int .i64 a1_0), C.v (.int .i64 a1_1), C.v (.int .i64 a1_2), C.v (.int .i64 a1_3)]), I 0, I a0_1, I 0] []).bind fun out1 =>
 rA out1.r fun cs1 =>
 need (Nat.beq cs1.length 4) <|
 unc cs1 fun c4 r4 =>
 asI .i64 c4 fun i4 =>
 unc r4 fun c5 r5 =>
 asI .i64 c5 fun i5 =>
 unc r5 fun c6 r6 =>
 asI .i64 c6 fun i6 =>
 unc r6 fun c7 _ =>
 asI .i64 c7 fun i7 =>
 (cl fu d fn_mesh_moved [V.agg ([C.v (.int .i64 a1_0), C.v (.int .i64 a1_1), C.v (.int .i64 a1_2), C.v (.int .i64 a1_3)]), I 0, I 0, I a0_1] []).bind fun out2 =>
 rA out2.r fun cs2 =>
 need (Nat.beq cs2.length 4) <|
 unc cs2 fun c8 r8 =>
 asI .i64 c8 fun i8 =>
 unc r8 fun c9 r9 =>
 asI .i64 c9 fun i9 =>
 unc r9 fun c10 r10 =>
 asI .i64 c10 fun i10 =>
 unc r10 fun c11 _ =>
 asI .i64 c11 fun i11 =>
 some ⟨V.agg ([C.v (.int .i64 i), C.v (.int .i64 i1), C.v (.int .i64 i2), C.v (.int .i64 i3), C.v (.int .i64 i4), C.v (.int .i64 i5), C.v (.int .i64 i6), C.v (.int .i64 i7), C.v (.int .i64 i8), C.v (.int .i64 i9), C.v (.int .i64 i10), C.v (.int .i64 i11)]), [], none⟩) := by kernel_rfl
/- (*synoptic/mesh.Net).downward -/
theorem eq_mesh_Net_downward (fu d : Nat) (a0_0 : Int) (a0_1 : Int) (a0_2 : C) (a0_3 : List (List C × List C)) (a0_4 : C) (a0_5 : C) (a0_6 : C) (a1_0 : Int) (a1_1 : Int) (a1_2 : Int) (a1_3 : Int) :
 cl fu (d + 1) fn_mesh_Net_downward [V.c (C.cp ([C.v (.int .i64 a0_0), C.v (.int .i64 a0_1), a0_2, C.mp ty_api_Place ty_int (some 4) none a0_3, a0_4, a0_5, a0_6])), V.agg ([C.v (.int .i64 a1_0), C.v (.int .i64 a1_1), C.v (.int .i64 a1_2), C.v (.int .i64 a1_3)])] [] = (
 (cl fu d fn_mesh_moved [V.agg ([C.v (.int .i64 a1_0), C.v (.int .i64 a1_1), C.v (.int .i64 a1_2), C.v (.int .i64 a1_3)]), I 0, I a0_1, I a0_1] []).bind fun out =>
 rA out.r fun cs =>
 need (Nat.beq cs.length 4) <|
 unc cs fun c r =>
 asI .i64 c fun i =>
 unc r fun c1 r1 =>
 asI .i64 c1 fun i1 =>
 unc r1 fun c2 r2 =>
 asI .i64 c2 fun i2 =>
 unc r2 fun c3 _ =>
 asI .i64 c3 fun i3 =>
 (cl fu d fn_mesh_moved [V.agg ([C.v (.int .i64 a1_0), C.v (.int .i64 a1_1), C.v (.int .i64 a1_2), C.v (.int .i64 a1_3)]), I a0_1, I 0, I a0_1] []).bind fun out1 =>
 rA out1.r fun cs1 =>
 need (Nat.beq cs1.length 4) <|
 unc cs1 fun c4 r4 =>
 asI .i64 c4 fun i4 =>
 unc r4 fun c5 r5 =>
 asI .i64 c5 fun i5 =>
 unc r5 fun c6 r6 =>
 asI .i64 c6 fun i6 =>
 unc r6 fun c7 _ =>
 asI .i64 c7 fun i7 =>
 (cl fu d fn_mesh_moved [V.agg ([C.v (.int .i64 a1_0), C.v (.int .i64 a1_1), C.v (.int .i64 a1_2), C.v (.int .i64 a1_3)]), I a0_1, I a0_1, I 0] []).bind fun out2 =>
 rA out2.r fun cs2 =>
 need (Nat.beq cs2.length 4) <|
 unc cs2 fun c8 r8 =>
 asI .i64 c8 fun i8 =>
 unc r8 fun c9 r9 =>
 asI .i64 c9 fun i9 =>
 unc r9 fun c10 r10 =>
 asI .i64 c10 fun i10 =>
 unc r10 fun c11 _ =>
 asI .i64 c11 fun i11 =>
 some ⟨V.agg ([C.v (.int .i64 i), C.v (.int .i64 i1), C.v (.int .i64 i2), C.v (.int .i64 i3), C.v (.int .i64 i4), C.v (.int .i64 i5), C.v (.int .i64 i6), C.v (.int .i64 i7), C.v (.int .i64 i8), C.v (.int .i64 i9), C.v (.int .i64 i10), C.v (.int .i64 i11)]), [], none⟩) := by kernel_rfl
/- slices.SortFunc[[]synoptic/api.Share,synoptic/api.Share] -/
theorem eq_slices_SortFunc_sapi_Share_api_Share (fu d : Nat) (n0 : Nat) (a0 : List C) (k1 : Nat) :
 cl fu (d + 1) fn_slices_SortFunc_sapi_Share_api_Share [V.own 1000000 0 n0, V.c (C.fn k1 ([]))] [.sb ty_api_Share 0 a0] = (
 (cl fu d fn_bits_Len [V.c (C.v (.int .u64 (IntKind.u64.wrap ((n0 : Nat) : Int))))] []).bind fun out =>
 rC out.r fun c =>
 asI .i64 c fun i =>
 (cl fu d fn_slices_pdqsortCmpFunc_api_Share [V.own 1000000 0 n0, I 0, I ((n0 : Nat) : Int), I i, V.c (C.fn k1 ([]))] [.sb ty_api_Share 0 a0]).bind fun out1 =>
 uncO out1.objs fun o os =>
 rS o ty_api_Share 0 fun cs =>
 need (Nat.beq cs.length a0.length) <|
 some ⟨V.tup [], [.sb ty_api_Share 0 cs], none⟩) := by kernel_rfl
/- (*synoptic/mesh.Net).Locate$1 -/
theorem eq_mesh_Net_Locate_1 (fu d : Nat) (a0_0 : Int) (a0_1 : Int) (a1_0 : Int) (a1_1 : Int) :
 cl fu (d + 1) fn_mesh_Net_Locate_1 [V.agg ([C.v (.int .i64 a0_0), C.v (.int .i64 a0_1)]), V.agg ([C.v (.int .i64 a1_0), C.v (.int .i64 a1_1)])] [] = (
 some ⟨I (IntKind.i64.wrap (a0_0 - a1_0)), [], none⟩) := by kernel_rfl
/- slices.IndexFunc[[]synoptic/api.Row,synoptic/api.Row] -/
theorem eq1_slices_IndexFunc_sapi_Row_api_Row (fu d : Nat) (n0 : Nat) (a0 : List C) (k1 : Nat) (a1_0 : C) :
 cl fu (d + 1) fn_slices_IndexFunc_sapi_Row_api_Row [V.c (C.sl n0 a0), V.c (C.fn k1 ([a1_0]))] [] = (
 (iter (fun (y : Int × Int × Unit) =>
 bif decide (y.2.1 < ((n0 : Nat) : Int)) then
 need (inR y.2.1 n0) <|
 unc (List.drop (y.2.1.toNat * 4) a0) fun c r =>
 unc r fun c1 r1 =>
 asI .i64 c1 fun i =>
 unc r1 fun c2 r2 =>
 asI .i64 c2 fun i1 =>
 unc r2 fun c3 _ =>
 asI .i64 c3 fun i2 =>
 (cl fu d k1 [V.agg ([c, C.v (.int .i64 i), C.v (.int .i64 i1), C.v (.int .i64 i2)]), V.c a1_0] []).bind fun out =>
 rC out.r fun c4 =>
 asB c4 fun b =>
 bif b then
 some (2, (y.2.1, y.2.1, ()))
 else
 some (0, (y.1, IntKind.i64.wrap (y.2.1 + 1), ()))
 else
 some (1, (y.1, y.2.1, ()))) fu (0, 0, ())).bind fun p =>
 natD p.1 (
 some ⟨I (-1), [], none⟩) fun m =>
 some ⟨I p.2.1, [], none⟩) := by kernel_rfl
/- slices.IndexFunc[[]int,int] -/
theorem eq_slices_IndexFunc_sint_int (fu d : Nat) (n0 : Nat) (a0 : List C) (k1 : Nat) :
 cl fu (d + 1) fn_slices_IndexFunc_sint_int [V.c (C.sl n0 a0), V.c (C.fn k1 ([]))] [] = (
 (iter (fun (y : Int × Int × Unit) =>
 bif decide (y.2.1 < ((n0 : Nat) : Int)) then
 need (inR y.2.1 n0) <|
 unc (List.drop (y.2.1.toNat * 1) a0) fun c r =>
 asI .i64 c fun i =>
 (cl fu d k1 [I i] []).bind fun out =>
 rC out.r fun c1 =>
 asB c1 fun b =>
 bif b then
 some (2, (y.2.1, y.2.1, ()))
 else
 some (0, (y.1, IntKind.i64.wrap (y.2.1 + 1), ()))
 else
 some (1, (y.1, y.2.1, ()))) fu (0, 0, ())).bind fun p =>
 natD p.1 (
 some ⟨I (-1), [], none⟩) fun m =>
 some ⟨I p.2.1, [], none⟩) := by kernel_rfl
/- synoptic/place.of -/
theorem eq_place_of (fu d : Nat) (a0_0 : Int) (a0_1 : Int) (a0_2 : Int) (a0_3 : Int) :
 cl fu (d + 1) fn_place_of [V.agg ([C.v (.int .i64 a0_0), C.v (.int .i64 a0_1), C.v (.int .i64 a0_2), C.v (.int .i64 a0_3)])] [] = (
 need (inR a0_0 20) <|
 need (Nat.ble 3 ((List.drop (a0_0.toNat * 3) gl_place_corners).length)) <|
 need ((((Nat.beq ((List.take 3 (List.drop (a0_0.toNat * 3) gl_place_corners)).length) 3) && true) && (Nat.ble (0 + ((List.take 3 (List.drop (a0_0.toNat * 3) gl_place_corners)).length)) 3)) && true) <|
 unc (putAt ([C.v (.int .i64 0), C.v (.int .i64 0), C.v (.int .i64 0)]) 0 (List.take 3 (List.drop (a0_0.toNat * 3) gl_place_corners))) fun c _ =>
 asI .i64 c fun i =>
 unc (List.drop 1 (putAt ([C.v (.int .i64 0), C.v (.int .i64 0), C.v (.int .i64 0)]) 0 (List.take 3 (List.drop (a0_0.toNat * 3) gl_place_corners)))) fun c1 _ =>
 asI .i64 c1 fun i1 =>
 unc (List.drop 2 (putAt ([C.v (.int .i64 0), C.v (.int .i64 0), C.v (.int .i64 0)]) 0 (List.take 3 (List.drop (a0_0.toNat * 3) gl_place_corners)))) fun c2 _ =>
 asI .i64 c2 fun i2 =>
 need (inR i 12) <|
 need (((Nat.ble 0 (0 + (i.toNat * 1))) && (Nat.ble ((0 + (i.toNat * 1)) + 1) 12)) && true) <|
 bd (putAt ([C.v (.int .i64 0), C.v (.int .i64 0), C.v (.int .i64 0), C.v (.int .i64 0), C.v (.int .i64 0), C.v (.int .i64 0), C.v (.int .i64 0), C.v (.int .i64 0), C.v (.int .i64 0), C.v (.int .i64 0), C.v (.int .i64 0), C.v (.int .i64 0)]) (0 + (i.toNat * 1)) ([C.v (.int .i64 a0_1)])) fun cs =>
 need (inR i1 12) <|
 need (((Nat.ble 0 (0 + (i1.toNat * 1))) && (Nat.ble ((0 + (i1.toNat * 1)) + 1) cs.length)) && true) <|
 need (inR i2 12) <|
 need (((Nat.ble 0 (0 + (i2.toNat * 1))) && (Nat.ble ((0 + (i2.toNat * 1)) + 1) ((putAt cs (0 + (i1.toNat * 1)) ([C.v (.int .i64 a0_2)])).length))) && true) <|
 need (Nat.ble 12 ((putAt (putAt cs (0 + (i1.toNat * 1)) ([C.v (.int .i64 a0_2)])) (0 + (i2.toNat * 1)) ([C.v (.int .i64 a0_3)])).length)) <|
 need ((((Nat.beq ((List.take 12 (putAt (putAt cs (0 + (i1.toNat * 1)) ([C.v (.int .i64 a0_2)])) (0 + (i2.toNat * 1)) ([C.v (.int .i64 a0_3)]))).length) 12) && true) && (Nat.ble (0 + ((List.take 12 (putAt (putAt cs (0 + (i1.toNat * 1)) ([C.v (.int .i64 a0_2)])) (0 + (i2.toNat * 1)) ([C.v (.int .i64 a0_3)]))).length)) 12)) && true) <|
 bd (putAt ([C.v (.int .i64 0), C.v (.int .i64 0), C.v (.int .i64 0), C.v (.int .i64 0), C.v (.int .i64 0), C.v (.int .i64 0), C.v (.int .i64 0), C.v (.int .i64 0), C.v (.int .i64 0), C.v (.int .i64 0), C.v (.int .i64 0), C.v (.int .i64 0)]) 0 (List.take 12 (putAt (putAt cs (0 + (i1.toNat * 1)) ([C.v (.int .i64 a0_2)])) (0 + (i2.toNat * 1)) ([C.v (.int .i64 a0_3)])))) fun cs1 =>
 need (Nat.ble 12 cs1.length) <|
 some ⟨V.agg (List.take 12 cs1), [], none⟩) := by kernel_rfl
/- synoptic/place.on -/
theorem eq_place_on (fu d : Nat) (a0 : Int) (a1 : List C) :
 cl fu (d + 1) fn_place_on [I a0, V.agg a1] [] = (
 need (inR a0 20) <|
 need (Nat.ble 3 ((List.drop (a0.toNat * 3) gl_place_corners).length)) <|
 need ((((Nat.beq ((List.take 3 (List.drop (a0.toNat * 3) gl_place_corners)).length) 3) && true) && (Nat.ble (0 + ((List.take 3 (List.drop (a0.toNat * 3) gl_place_corners)).length)) 3)) && true) <|
 unc (putAt ([C.v (.int .i64 0), C.v (.int .i64 0), C.v (.int .i64 0)]) 0 (List.take 3 (List.drop (a0.toNat * 3) gl_place_corners))) fun c r =>
 asI .i64 c fun i =>
 need (inR i 12) <|
 unc (List.drop (i.toNat * 1) a1) fun c1 _ =>
 asI .i64 c1 fun i1 =>
 unc (List.drop 1 (putAt ([C.v (.int .i64 0), C.v (.int .i64 0), C.v (.int .i64 0)]) 0 (List.take 3 (List.drop (a0.toNat * 3) gl_place_corners)))) fun c2 _ =>
 asI .i64 c2 fun i2 =>
 need (inR i2 12) <|
 unc (List.drop (i2.toNat * 1) a1) fun c3 _ =>
 asI .i64 c3 fun i3 =>
 unc (List.drop 2 (putAt ([C.v (.int .i64 0), C.v (.int .i64 0), C.v (.int .i64 0)]) 0 (List.take 3 (List.drop (a0.toNat * 3) gl_place_corners)))) fun c4 _ =>
 asI .i64 c4 fun i4 =>
 need (inR i4 12) <|
 unc (List.drop (i4.toNat * 1) a1) fun c5 _ =>
 asI .i64 c5 fun i5 =>
 (cl fu d fn_place_Valid [V.agg ([C.v (.int .i64 a0), C.v (.int .i64 i1), C.v (.int .i64 i3), C.v (.int .i64 i5)])] []).bind fun out =>
 rC out.r fun c6 =>
 asB c6 fun b =>
 some ⟨V.tup [V.agg ([C.v (.int .i64 a0), C.v (.int .i64 i1), C.v (.int .i64 i3), C.v (.int .i64 i5)]), B b], [], none⟩) := by kernel_rfl
/- slices.pdqsortCmpFunc[synoptic/api.Share] -/
theorem eq_slices_pdqsortCmpFunc_api_Share (fu d : Nat) (n0 : Nat) (a0 : List C) (a1 : Int) (a2 : Int) (a3 : Int) (k4 : Nat) :
 cl fu (d + 1) fn_slices_pdqsortCmpFunc_api_Share [V.own 1000000 0 n0, I a1, I a2, I a3, V.c (C.fn k4 ([]))] [.sb ty_api_Share 0 a0] = (
 (iter (fun (y : (Nat × List C) × Int × Int × Int × Bool × Bool × Unit) =>
 bif decide (IntKind.i64.wrap (y.2.2.1 - y.2.1) ≤ 12) then
 (cl fu d fn_slices_insertionSortCmpFunc_api_Share [V.own 1000000 0 y.1.1, I y.2.1, I y.2.2.1, V.c (C.fn k4 ([]))] [.sb ty_api_Share 0 y.1.2]).bind fun out =>
 uncO out.objs fun o os =>
 rS o ty_api_Share 0 fun cs =>
 need (Nat.beq cs.length y.1.2.length) <|
 some (1, ((y.1.1, cs), y.2.1, y.2.2.1, y.2.2.2.1, y.2.2.2.2.1, y.2.2.2.2.2.1, ()))
 else
 bif y.2.2.2.1 == 0 then
 (cl fu d fn_slices_heapSortCmpFunc_api_Share [V.own 1000000 0 y.1.1, I y.2.1, I y.2.2.1, V.c (C.fn k4 ([]))] [.sb ty_api_Share 0 y.1.2]).bind fun out1 =>
 uncO out1.objs fun o1 os1 =>
 rS o1 ty_api_Share 0 fun cs1 =>
 need (Nat.beq cs1.length y.1.2.length) <|
 some (1, ((y.1.1, cs1), y.2.1, y.2.2.1, y.2.2.2.1, y.2.2.2.2.1, y.2.2.2.2.2.1, ()))
 else
 (bif !y.2.2.2.2.1 then
 (cl fu d fn_slices_breakPatternsCmpFunc_api_Share [V.own 1000000 0 y.1.1, I y.2.1, I y.2.2.1, V.c (C.fn k4 ([]))] [.sb ty_api_Share 0 y.1.2]).bind fun out2 =>
 uncO out2.objs fun o2 os2 =>
 rS o2 ty_api_Share 0 fun cs2 =>
 need (Nat.beq cs2.length y.1.2.length) <|
 some (0, ((y.1.1, cs2), IntKind.i64.wrap (y.2.2.2.1 - 1), ()))
 else
 some (0, ((y.1.1, y.1.2), y.2.2.2.1, ())) : Option (Nat × (Nat × List C) × Int × Unit)).bind fun p =>
 need (Nat.ble (0 + (p.2.1.1 * 2)) p.2.1.2.length) <|
 (cl fu d fn_slices_choosePivotCmpFunc_api_Share [V.c (C.sl p.2.1.1 (List.take (p.2.1.1 * 2) p.2.1.2)), I y.2.1, I y.2.2.1, V.c (C.fn k4 ([]))] []).bind fun out3 =>
 rT out3.r fun xs =>
 uncV xs fun x ys =>
 rC x fun c =>
 asI .i64 c fun i =>
 uncV ys fun x1 ys1 =>
 rC x1 fun c1 =>
 asI .i64 c1 fun i1 =>
 nilV ys1 <|
 (bif i1 == 2 then
 (cl fu d fn_slices_reverseRangeCmpFunc_api_Share [V.own 1000000 0 p.2.1.1, I y.2.1, I y.2.2.1, V.c (C.fn k4 ([]))] [.sb ty_api_Share 0 p.2.1.2]).bind fun out4 =>
 uncO out4.objs fun o3 os3 =>
 rS o3 ty_api_Share 0 fun cs3 =>
 need (Nat.beq cs3.length p.2.1.2.length) <|
 some (0, ((p.2.1.1, cs3), IntKind.i64.wrap ((IntKind.i64.wrap (y.2.2.1 - 1)) - (IntKind.i64.wrap (i - y.2.1))), 1, ()))
 else
 some (0, ((p.2.1.1, p.2.1.2), i, i1, ())) : Option (Nat × (Nat × List C) × Int × Int × Unit)).bind fun p1 =>
 bif y.2.2.2.2.1 then
 bif y.2.2.2.2.2.1 then
 (bif p1.2.2.2.1 == 1 then
 (cl fu d fn_slices_partialInsertionSortCmpFunc_api_Share [V.own 1000000 0 p1.2.1.1, I y.2.1, I y.2.2.1, V.c (C.fn k4 ([]))] [.sb ty_api_Share 0 p1.2.1.2]).bind fun out5 =>
 uncO out5.objs fun o4 os4 =>
 rS o4 ty_api_Share 0 fun cs4 =>
 need (Nat.beq cs4.length p1.2.1.2.length) <|
 rC out5.r fun c2 =>
 asB c2 fun b =>
 bif b then
 some (0, ((p1.2.1.1, cs4), ()))
 else
 some (1, ((p1.2.1.1, cs4), ()))
 else
 some (1, ((p1.2.1.1, p1.2.1.2), ())) : Option (Nat × (Nat × List C) × Unit)).bind fun p2 =>
 natD p2.1 (
 some (1, ((p2.2.1.1, p2.2.1.2), y.2.1, y.2.2.1, p.2.2.1, y.2.2.2.2.1, y.2.2.2.2.2.1, ()))) fun m =>
 bif decide (y.2.1 > 0) then
 need (inR (IntKind.i64.wrap (y.2.1 - 1)) p2.2.1.1) <|
 unc (List.drop (0 + (((IntKind.i64.wrap (y.2.1 - 1)).toNat) * 2)) p2.2.1.2) fun c3 r =>
 asI .i64 c3 fun i2 =>
 unc r fun c4 _ =>
 asI .i64 c4 fun i3 =>
 need (inR p1.2.2.1 p2.2.1.1) <|
 unc (List.drop (0 + (p1.2.2.1.toNat * 2)) p2.2.1.2) fun c5 r2 =>
 asI .i64 c5 fun i4 =>
 unc r2 fun c6 _ =>
 asI .i64 c6 fun i5 =>
 (cl fu d k4 [V.agg ([C.v (.int .i64 i2), C.v (.int .i64 i3)]), V.agg ([C.v (.int .i64 i4), C.v (.int .i64 i5)])] []).bind fun out6 =>
 rC out6.r fun c7 =>
 asI .i64 c7 fun i6 =>
 bif !(decide (i6 < 0)) then
 (cl fu d fn_slices_partitionEqualCmpFunc_api_Share [V.own 1000000 0 p2.2.1.1, I y.2.1, I y.2.2.1, I p1.2.2.1, V.c (C.fn k4 ([]))] [.sb ty_api_Share 0 p2.2.1.2]).bind fun out7 =>
 uncO out7.objs fun o5 os5 =>
 rS o5 ty_api_Share 0 fun cs5 =>
 need (Nat.beq cs5.length p2.2.1.2.length) <|
 rC out7.r fun c8 =>
 asI .i64 c8 fun i7 =>
 some (0, ((p2.2.1.1, cs5), i7, y.2.2.1, p.2.2.1, y.2.2.2.2.1, y.2.2.2.2.2.1, ()))
 else
 (cl fu d fn_slices_partitionCmpFunc_api_Share [V.own 1000000 0 p2.2.1.1, I y.2.1, I y.2.2.1, I p1.2.2.1, V.c (C.fn k4 ([]))] [.sb ty_api_Share 0 p2.2.1.2]).bind fun out8 =>
 uncO out8.objs fun o6 os6 =>
 rS o6 ty_api_Share 0 fun cs6 =>
 need (Nat.beq cs6.length p2.2.1.2.length) <|
 rT out8.r fun xs1 =>
 uncV xs1 fun x2 ys2 =>
 rC x2 fun c9 =>
 asI .i64 c9 fun i8 =>
 uncV ys2 fun x3 ys3 =>
 rC x3 fun c10 =>
 asB c10 fun b1 =>
 nilV ys3 <|
 bif decide (IntKind.i64.wrap (i8 - y.2.1) < IntKind.i64.wrap (y.2.2.1 - i8)) then
 (cl fu d fn_slices_pdqsortCmpFunc_api_Share [V.own 1000000 0 p2.2.1.1, I y.2.1, I i8, I p.2.2.1, V.c (C.fn k4 ([]))] [.sb ty_api_Share 0 cs6]).bind fun out9 =>
 uncO out9.objs fun o7 os7 =>
 rS o7 ty_api_Share 0 fun cs7 =>
 need (Nat.beq cs7.length cs6.length) <|
 some (0, ((p2.2.1.1, cs7), IntKind.i64.wrap (i8 + 1), y.2.2.1, p.2.2.1, decide (IntKind.i64.wrap (i8 - y.2.1) ≥ IntKind.i64.wrap (Int.tdiv (IntKind.i64.wrap (y.2.2.1 - y.2.1)) 8)), b1, ()))
 else
 (cl fu d fn_slices_pdqsortCmpFunc_api_Share [V.own 1000000 0 p2.2.1.1, I (IntKind.i64.wrap (i8 + 1)), I y.2.2.1, I p.2.2.1, V.c (C.fn k4 ([]))] [.sb ty_api_Share 0 cs6]).bind fun out10 =>
 uncO out10.objs fun o8 os8 =>
 rS o8 ty_api_Share 0 fun cs8 =>
 need (Nat.beq cs8.length cs6.length) <|
 some (0, ((p2.2.1.1, cs8), y.2.1, i8, p.2.2.1, decide (IntKind.i64.wrap (y.2.2.1 - i8) ≥ IntKind.i64.wrap (Int.tdiv (IntKind.i64.wrap (y.2.2.1 - y.2.1)) 8)), b1, ()))
 else
 (cl fu d fn_slices_partitionCmpFunc_api_Share [V.own 1000000 0 p2.2.1.1, I y.2.1, I y.2.2.1, I p1.2.2.1, V.c (C.fn k4 ([]))] [.sb ty_api_Share 0 p2.2.1.2]).bind fun out11 =>
 uncO out11.objs fun o9 os9 =>
 rS o9 ty_api_Share 0 fun cs9 =>
 need (Nat.beq cs9.length p2.2.1.2.length) <|
 rT out11.r fun xs2 =>
 uncV xs2 fun x4 ys4 =>
 rC x4 fun c11 =>
 asI .i64 c11 fun i9 =>
 uncV ys4 fun x5 ys5 =>
 rC x5 fun c12 =>
 asB c12 fun b2 =>
 nilV ys5 <|
 bif decide (IntKind.i64.wrap (i9 - y.2.1) < IntKind.i64.wrap (y.2.2.1 - i9)) then
 (cl fu d fn_slices_pdqsortCmpFunc_api_Share [V.own 1000000 0 p2.2.1.1, I y.2.1, I i9, I p.2.2.1, V.c (C.fn k4 ([]))] [.sb ty_api_Share 0 cs9]).bind fun out12 =>
 uncO out12.objs fun o10 os10 =>
 rS o10 ty_api_Share 0 fun cs10 =>
 need (Nat.beq cs10.length cs9.length) <|
 some (0, ((p2.2.1.1, cs10), IntKind.i64.wrap (i9 + 1), y.2.2.1, p.2.2.1, decide (IntKind.i64.wrap (i9 - y.2.1) ≥ IntKind.i64.wrap (Int.tdiv (IntKind.i64.wrap (y.2.2.1 - y.2.1)) 8)), b2, ()))
 else
 (cl fu d fn_slices_pdqsortCmpFunc_api_Share [V.own 1000000 0 p2.2.1.1, I (IntKind.i64.wrap (i9 + 1)), I y.2.2.1, I p.2.2.1, V.c (C.fn k4 ([]))] [.sb ty_api_Share 0 cs9]).bind fun out13 =>
 uncO out13.objs fun o11 os11 =>
 rS o11 ty_api_Share 0 fun cs11 =>
 need (Nat.beq cs11.length cs9.length) <|
 some (0, ((p2.2.1.1, cs11), y.2.1, i9, p.2.2.1, decide (IntKind.i64.wrap (y.2.2.1 - i9) ≥ IntKind.i64.wrap (Int.tdiv (IntKind.i64.wrap (y.2.2.1 - y.2.1)) 8)), b2, ()))
 else
 (some (1, ((p1.2.1.1, p1.2.1.2), ())) : Option (Nat × (Nat × List C) × Unit)).bind fun p3 =>
 natD p3.1 (
 some (1, ((p3.2.1.1, p3.2.1.2), y.2.1, y.2.2.1, p.2.2.1, y.2.2.2.2.1, y.2.2.2.2.2.1, ()))) fun m1 =>
 bif decide (y.2.1 > 0) then
 need (inR (IntKind.i64.wrap (y.2.1 - 1)) p3.2.1.1) <|
 unc (List.drop (0 + (((IntKind.i64.wrap (y.2.1 - 1)).toNat) * 2)) p3.2.1.2) fun c13 r4 =>
 asI .i64 c13 fun i10 =>
 unc r4 fun c14 _ =>
 asI .i64 c14 fun i11 =>
 need (inR p1.2.2.1 p3.2.1.1) <|
 unc (List.drop (0 + (p1.2.2.1.toNat * 2)) p3.2.1.2) fun c15 r6 =>
 asI .i64 c15 fun i12 =>
 unc r6 fun c16 _ =>
 asI .i64 c16 fun i13 =>
 (cl fu d k4 [V.agg ([C.v (.int .i64 i10), C.v (.int .i64 i11)]), V.agg ([C.v (.int .i64 i12), C.v (.int .i64 i13)])] []).bind fun out14 =>
 rC out14.r fun c17 =>
 asI .i64 c17 fun i14 =>
 bif !(decide (i14 < 0)) then
 (cl fu d fn_slices_partitionEqualCmpFunc_api_Share [V.own 1000000 0 p3.2.1.1, I y.2.1, I y.2.2.1, I p1.2.2.1, V.c (C.fn k4 ([]))] [.sb ty_api_Share 0 p3.2.1.2]).bind fun out15 =>
 uncO out15.objs fun o12 os12 =>
 rS o12 ty_api_Share 0 fun cs12 =>
 need (Nat.beq cs12.length p3.2.1.2.length) <|
 rC out15.r fun c18 =>
 asI .i64 c18 fun i15 =>
 some (0, ((p3.2.1.1, cs12), i15, y.2.2.1, p.2.2.1, y.2.2.2.2.1, y.2.2.2.2.2.1, ()))
 else
 (cl fu d fn_slices_partitionCmpFunc_api_Share [V.own 1000000 0 p3.2.1.1, I y.2.1, I y.2.2.1, I p1.2.2.1, V.c (C.fn k4 ([]))] [.sb ty_api_Share 0 p3.2.1.2]).bind fun out16 =>
 uncO out16.objs fun o13 os13 =>
 rS o13 ty_api_Share 0 fun cs13 =>
 need (Nat.beq cs13.length p3.2.1.2.length) <|
 rT out16.r fun xs3 =>
 uncV xs3 fun x6 ys6 =>
 rC x6 fun c19 =>
 asI .i64 c19 fun i16 =>
 uncV ys6 fun x7 ys7 =>
 rC x7 fun c20 =>
 asB c20 fun b3 =>
 nilV ys7 <|
 bif decide (IntKind.i64.wrap (i16 - y.2.1) < IntKind.i64.wrap (y.2.2.1 - i16)) then
 (cl fu d fn_slices_pdqsortCmpFunc_api_Share [V.own 1000000 0 p3.2.1.1, I y.2.1, I i16, I p.2.2.1, V.c (C.fn k4 ([]))] [.sb ty_api_Share 0 cs13]).bind fun out17 =>
 uncO out17.objs fun o14 os14 =>
 rS o14 ty_api_Share 0 fun cs14 =>
 need (Nat.beq cs14.length cs13.length) <|
 some (0, ((p3.2.1.1, cs14), IntKind.i64.wrap (i16 + 1), y.2.2.1, p.2.2.1, decide (IntKind.i64.wrap (i16 - y.2.1) ≥ IntKind.i64.wrap (Int.tdiv (IntKind.i64.wrap (y.2.2.1 - y.2.1)) 8)), b3, ()))
 else
 (cl fu d fn_slices_pdqsortCmpFunc_api_Share [V.own 1000000 0 p3.2.1.1, I (IntKind.i64.wrap (i16 + 1)), I y.2.2.1, I p.2.2.1, V.c (C.fn k4 ([]))] [.sb ty_api_Share 0 cs13]).bind fun out18 =>
 uncO out18.objs fun o15 os15 =>
 rS o15 ty_api_Share 0 fun cs15 =>
 need (Nat.beq cs15.length cs13.length) <|
 some (0, ((p3.2.1.1, cs15), y.2.1, i16, p.2.2.1, decide (IntKind.i64.wrap (y.2.2.1 - i16) ≥ IntKind.i64.wrap (Int.tdiv (IntKind.i64.wrap (y.2.2.1 - y.2.1)) 8)), b3, ()))
 else
 (cl fu d fn_slices_partitionCmpFunc_api_Share [V.own 1000000 0 p3.2.1.1, I y.2.1, I y.2.2.1, I p1.2.2.1, V.c (C.fn k4 ([]))] [.sb ty_api_Share 0 p3.2.1.2]).bind fun out19 =>
 uncO out19.objs fun o16 os16 =>
 rS o16 ty_api_Share 0 fun cs16 =>
 need (Nat.beq cs16.length p3.2.1.2.length) <|
 rT out19.r fun xs4 =>
 uncV xs4 fun x8 ys8 =>
 rC x8 fun c21 =>
 asI .i64 c21 fun i17 =>
 uncV ys8 fun x9 ys9 =>
 rC x9 fun c22 =>
 asB c22 fun b4 =>
 nilV ys9 <|
 bif decide (IntKind.i64.wrap (i17 - y.2.1) < IntKind.i64.wrap (y.2.2.1 - i17)) then
 (cl fu d fn_slices_pdqsortCmpFunc_api_Share [V.own 1000000 0 p3.2.1.1, I y.2.1, I i17, I p.2.2.1, V.c (C.fn k4 ([]))] [.sb ty_api_Share 0 cs16]).bind fun out20 =>
 uncO out20.objs fun o17 os17 =>
 rS o17 ty_api_Share 0 fun cs17 =>
 need (Nat.beq cs17.length cs16.length) <|
 some (0, ((p3.2.1.1, cs17), IntKind.i64.wrap (i17 + 1), y.2.2.1, p.2.2.1, decide (IntKind.i64.wrap (i17 - y.2.1) ≥ IntKind.i64.wrap (Int.tdiv (IntKind.i64.wrap (y.2.2.1 - y.2.1)) 8)), b4, ()))
 else
 (cl fu d fn_slices_pdqsortCmpFunc_api_Share [V.own 1000000 0 p3.2.1.1, I (IntKind.i64.wrap (i17 + 1)), I y.2.2.1, I p.2.2.1, V.c (C.fn k4 ([]))] [.sb ty_api_Share 0 cs16]).bind fun out21 =>
 uncO out21.objs fun o18 os18 =>
 rS o18 ty_api_Share 0 fun cs18 =>
 need (Nat.beq cs18.length cs16.length) <|
 some (0, ((p3.2.1.1, cs18), y.2.1, i17, p.2.2.1, decide (IntKind.i64.wrap (y.2.2.1 - i17) ≥ IntKind.i64.wrap (Int.tdiv (IntKind.i64.wrap (y.2.2.1 - y.2.1)) 8)), b4, ()))
 else
 (some (1, ((p1.2.1.1, p1.2.1.2), ())) : Option (Nat × (Nat × List C) × Unit)).bind fun p4 =>
 natD p4.1 (
 some (1, ((p4.2.1.1, p4.2.1.2), y.2.1, y.2.2.1, p.2.2.1, y.2.2.2.2.1, y.2.2.2.2.2.1, ()))) fun m2 =>
 bif decide (y.2.1 > 0) then
 need (inR (IntKind.i64.wrap (y.2.1 - 1)) p4.2.1.1) <|
 unc (List.drop (0 + (((IntKind.i64.wrap (y.2.1 - 1)).toNat) * 2)) p4.2.1.2) fun c23 r8 =>
 asI .i64 c23 fun i18 =>
 unc r8 fun c24 _ =>
 asI .i64 c24 fun i19 =>
 need (inR p1.2.2.1 p4.2.1.1) <|
 unc (List.drop (0 + (p1.2.2.1.toNat * 2)) p4.2.1.2) fun c25 r10 =>
 asI .i64 c25 fun i20 =>
 unc r10 fun c26 _ =>
 asI .i64 c26 fun i21 =>
 (cl fu d k4 [V.agg ([C.v (.int .i64 i18), C.v (.int .i64 i19)]), V.agg ([C.v (.int .i64 i20), C.v (.int .i64 i21)])] []).bind fun out22 =>
 rC out22.r fun c27 =>
 asI .i64 c27 fun i22 =>
 bif !(decide (i22 < 0)) then
 (cl fu d fn_slices_partitionEqualCmpFunc_api_Share [V.own 1000000 0 p4.2.1.1, I y.2.1, I y.2.2.1, I p1.2.2.1, V.c (C.fn k4 ([]))] [.sb ty_api_Share 0 p4.2.1.2]).bind fun out23 =>
 uncO out23.objs fun o19 os19 =>
 rS o19 ty_api_Share 0 fun cs19 =>
 need (Nat.beq cs19.length p4.2.1.2.length) <|
 rC out23.r fun c28 =>
 asI .i64 c28 fun i23 =>
 some (0, ((p4.2.1.1, cs19), i23, y.2.2.1, p.2.2.1, y.2.2.2.2.1, y.2.2.2.2.2.1, ()))
 else
 (cl fu d fn_slices_partitionCmpFunc_api_Share [V.own 1000000 0 p4.2.1.1, I y.2.1, I y.2.2.1, I p1.2.2.1, V.c (C.fn k4 ([]))] [.sb ty_api_Share 0 p4.2.1.2]).bind fun out24 =>
 uncO out24.objs fun o20 os20 =>
 rS o20 ty_api_Share 0 fun cs20 =>
 need (Nat.beq cs20.length p4.2.1.2.length) <|
 rT out24.r fun xs5 =>
 uncV xs5 fun x10 ys10 =>
 rC x10 fun c29 =>
 asI .i64 c29 fun i24 =>
 uncV ys10 fun x11 ys11 =>
 rC x11 fun c30 =>
 asB c30 fun b5 =>
 nilV ys11 <|
 bif decide (IntKind.i64.wrap (i24 - y.2.1) < IntKind.i64.wrap (y.2.2.1 - i24)) then
 (cl fu d fn_slices_pdqsortCmpFunc_api_Share [V.own 1000000 0 p4.2.1.1, I y.2.1, I i24, I p.2.2.1, V.c (C.fn k4 ([]))] [.sb ty_api_Share 0 cs20]).bind fun out25 =>
 uncO out25.objs fun o21 os21 =>
 rS o21 ty_api_Share 0 fun cs21 =>
 need (Nat.beq cs21.length cs20.length) <|
 some (0, ((p4.2.1.1, cs21), IntKind.i64.wrap (i24 + 1), y.2.2.1, p.2.2.1, decide (IntKind.i64.wrap (i24 - y.2.1) ≥ IntKind.i64.wrap (Int.tdiv (IntKind.i64.wrap (y.2.2.1 - y.2.1)) 8)), b5, ()))
 else
 (cl fu d fn_slices_pdqsortCmpFunc_api_Share [V.own 1000000 0 p4.2.1.1, I (IntKind.i64.wrap (i24 + 1)), I y.2.2.1, I p.2.2.1, V.c (C.fn k4 ([]))] [.sb ty_api_Share 0 cs20]).bind fun out26 =>
 uncO out26.objs fun o22 os22 =>
 rS o22 ty_api_Share 0 fun cs22 =>
 need (Nat.beq cs22.length cs20.length) <|
 some (0, ((p4.2.1.1, cs22), y.2.1, i24, p.2.2.1, decide (IntKind.i64.wrap (y.2.2.1 - i24) ≥ IntKind.i64.wrap (Int.tdiv (IntKind.i64.wrap (y.2.2.1 - y.2.1)) 8)), b5, ()))
 else
 (cl fu d fn_slices_partitionCmpFunc_api_Share [V.own 1000000 0 p4.2.1.1, I y.2.1, I y.2.2.1, I p1.2.2.1, V.c (C.fn k4 ([]))] [.sb ty_api_Share 0 p4.2.1.2]).bind fun out27 =>
 uncO out27.objs fun o23 os23 =>
 rS o23 ty_api_Share 0 fun cs23 =>
 need (Nat.beq cs23.length p4.2.1.2.length) <|
 rT out27.r fun xs6 =>
 uncV xs6 fun x12 ys12 =>
 rC x12 fun c31 =>
 asI .i64 c31 fun i25 =>
 uncV ys12 fun x13 ys13 =>
 rC x13 fun c32 =>
 asB c32 fun b6 =>
 nilV ys13 <|
 bif decide (IntKind.i64.wrap (i25 - y.2.1) < IntKind.i64.wrap (y.2.2.1 - i25)) then
 (cl fu d fn_slices_pdqsortCmpFunc_api_Share [V.own 1000000 0 p4.2.1.1, I y.2.1, I i25, I p.2.2.1, V.c (C.fn k4 ([]))] [.sb ty_api_Share 0 cs23]).bind fun out28 =>
 uncO out28.objs fun o24 os24 =>
 rS o24 ty_api_Share 0 fun cs24 =>
 need (Nat.beq cs24.length cs23.length) <|
 some (0, ((p4.2.1.1, cs24), IntKind.i64.wrap (i25 + 1), y.2.2.1, p.2.2.1, decide (IntKind.i64.wrap (i25 - y.2.1) ≥ IntKind.i64.wrap (Int.tdiv (IntKind.i64.wrap (y.2.2.1 - y.2.1)) 8)), b6, ()))
 else
 (cl fu d fn_slices_pdqsortCmpFunc_api_Share [V.own 1000000 0 p4.2.1.1, I (IntKind.i64.wrap (i25 + 1)), I y.2.2.1, I p.2.2.1, V.c (C.fn k4 ([]))] [.sb ty_api_Share 0 cs23]).bind fun out29 =>
 uncO out29.objs fun o25 os25 =>
 rS o25 ty_api_Share 0 fun cs25 =>
 need (Nat.beq cs25.length cs23.length) <|
 some (0, ((p4.2.1.1, cs25), y.2.1, i25, p.2.2.1, decide (IntKind.i64.wrap (y.2.2.1 - i25) ≥ IntKind.i64.wrap (Int.tdiv (IntKind.i64.wrap (y.2.2.1 - y.2.1)) 8)), b6, ()))) fu ((n0, a0), a1, a2, a3, true, true, ())).bind fun p5 =>
 some ⟨V.tup [], [.sb ty_api_Share 0 p5.2.1.2], none⟩) := by kernel_rfl
/- math/bits.Len -/
theorem eq_bits_Len (fu d : Nat) (a0 : Int) :
 cl fu (d + 1) fn_bits_Len [V.c (C.v (.int .u64 a0))] [] = (
 (cl fu d fn_bits_Len64 [V.c (C.v (.int .u64 a0))] []).bind fun out =>
 rC out.r fun c =>
 asI .i64 c fun i =>
 some ⟨I i, [], none⟩) := by kernel_rfl
/- slices.insertionSortCmpFunc[synoptic/api.Share] -/
theorem eq_slices_insertionSortCmpFunc_api_Share (fu d : Nat) (n0 : Nat) (a0 : List C) (a1 : Int) (a2 : Int) (k3 : Nat) :
 cl fu (d + 1) fn_slices_insertionSortCmpFunc_api_Share [V.own 1000000 0 n0, I a1, I a2, V.c (C.fn k3 ([]))] [.sb ty_api_Share 0 a0] = (
 (iter (fun (y : (Nat × List C) × Int × Unit) =>
 bif decide (y.2.1 < a2) then
 (iter (fun (y1 : (Nat × List C) × Int × Unit) =>
 bif decide (y1.2.1 > a1) then
 need (inR y1.2.1 y1.1.1) <|
 unc (List.drop (0 + (y1.2.1.toNat * 2)) y1.1.2) fun c r =>
 asI .i64 c fun i =>
 unc r fun c1 _ =>
 asI .i64 c1 fun i1 =>
 need (inR (IntKind.i64.wrap (y1.2.1 - 1)) y1.1.1) <|
 unc (List.drop (0 + (((IntKind.i64.wrap (y1.2.1 - 1)).toNat) * 2)) y1.1.2) fun c2 r2 =>
 asI .i64 c2 fun i2 =>
 unc r2 fun c3 _ =>
 asI .i64 c3 fun i3 =>
 (cl fu d k3 [V.agg ([C.v (.int .i64 i), C.v (.int .i64 i1)]), V.agg ([C.v (.int .i64 i2), C.v (.int .i64 i3)])] []).bind fun out =>
 rC out.r fun c4 =>
 asI .i64 c4 fun i4 =>
 bif decide (i4 < 0) then
 need (inR (IntKind.i64.wrap (y1.2.1 - 1)) y1.1.1) <|
 unc (List.drop (0 + (((IntKind.i64.wrap (y1.2.1 - 1)).toNat) * 2)) y1.1.2) fun c5 r4 =>
 asI .i64 c5 fun i5 =>
 unc r4 fun c6 _ =>
 asI .i64 c6 fun i6 =>
 need (inR y1.2.1 y1.1.1) <|
 unc (List.drop (0 + (y1.2.1.toNat * 2)) y1.1.2) fun c7 r6 =>
 asI .i64 c7 fun i7 =>
 unc r6 fun c8 _ =>
 asI .i64 c8 fun i8 =>
 need (inR y1.2.1 y1.1.1) <|
 need (((Nat.ble 0 (0 + (y1.2.1.toNat * 2))) && (Nat.ble ((0 + (y1.2.1.toNat * 2)) + 2) y1.1.2.length)) && true) <|
 need (inR (IntKind.i64.wrap (y1.2.1 - 1)) y1.1.1) <|
 need (((Nat.ble 0 (0 + (((IntKind.i64.wrap (y1.2.1 - 1)).toNat) * 2))) && (Nat.ble ((0 + (((IntKind.i64.wrap (y1.2.1 - 1)).toNat) * 2)) + 2) ((putAt y1.1.2 (0 + (y1.2.1.toNat * 2)) ([C.v (.int .i64 i5), C.v (.int .i64 i6)])).length))) && true) <|
 bd (putAt (putAt y1.1.2 (0 + (y1.2.1.toNat * 2)) ([C.v (.int .i64 i5), C.v (.int .i64 i6)])) (0 + (((IntKind.i64.wrap (y1.2.1 - 1)).toNat) * 2)) ([C.v (.int .i64 i7), C.v (.int .i64 i8)])) fun cs =>
 some (0, ((y1.1.1, cs), IntKind.i64.wrap (y1.2.1 - 1), ()))
 else
 some (1, ((y1.1.1, y1.1.2), y1.2.1, ()))
 else
 some (1, ((y1.1.1, y1.1.2), y1.2.1, ()))) fu ((y.1.1, y.1.2), y.2.1, ())).bind fun p =>
 some (0, ((p.2.1.1, p.2.1.2), IntKind.i64.wrap (y.2.1 + 1), ()))
 else
 some (1, ((y.1.1, y.1.2), y.2.1, ()))) fu ((n0, a0), IntKind.i64.wrap (a1 + 1), ())).bind fun p1 =>
 some ⟨V.tup [], [.sb ty_api_Share 0 p1.2.1.2], none⟩) := by kernel_rfl
/- math/bits.Len64 -/
theorem eq_bits_Len64 (fu d : Nat) (a0 : Int) :
 cl fu (d + 1) fn_bits_Len64 [V.c (C.v (.int .u64 a0))] [] = (
 (bif decide (a0 ≥ 4294967296) then
 some (0, (Int.fdiv a0 (2 ^ 32), 32, ()))
 else
 some (0, (a0, 0, ())) : Option (Nat × Int × Int × Unit)).bind fun p =>
 (bif decide (p.2.1 ≥ 65536) then
 some (0, (Int.fdiv p.2.1 (2 ^ 16), IntKind.i64.wrap (p.2.2.1 + 16), ()))
 else
 some (0, (p.2.1, p.2.2.1, ())) : Option (Nat × Int × Int × Unit)).bind fun p1 =>
 bif decide (p1.2.1 ≥ 256) then
 need (inR (IntKind.u8.wrap (Int.fdiv p1.2.1 (2 ^ 8))) (kb0 : ByteArray).size) <|
 bd (IntKind.i64.wrap ((IntKind.i64.wrap (p1.2.2.1 + 8)) + (IntKind.i64.wrap (((kb0 : ByteArray).data.getD ((IntKind.u8.wrap (Int.fdiv p1.2.1 (2 ^ 8))).toNat) 0).toNat : Int)))) fun z =>
 some ⟨I z, [], none⟩
 else
 need (inR (IntKind.u8.wrap p1.2.1) (kb0 : ByteArray).size) <|
 bd (IntKind.i64.wrap (p1.2.2.1 + (IntKind.i64.wrap (((kb0 : ByteArray).data.getD ((IntKind.u8.wrap p1.2.1).toNat) 0).toNat : Int)))) fun z1 =>
 some ⟨I z1, [], none⟩) := by kernel_rfl
end Go.Proofs.YtobmbacppbkgeaaDoor
