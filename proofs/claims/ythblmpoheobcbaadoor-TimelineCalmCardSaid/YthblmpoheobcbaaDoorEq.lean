/- What the program's functions come to. -/
import Derived.Test.YthblmpoheobcbaaDoorLay
set_option linter.unusedVariables false
set_option linter.unusedSimpArgs false
namespace Go.Proofs.YthblmpoheobcbaaDoor
open Go Go.PM
set_option maxRecDepth 100000
/- synoptic/synopticlaw16.TimelineCalm -/
theorem eq_synopticlaw16_TimelineCalm (fu d : Nat) (n0 : Nat) (a0 : List C) (a1 : Int) :
 cl fu (d + 1) fn_synopticlaw16_TimelineCalm [V.c (C.sl n0 a0), I a1] [] = (
 (cl fu d fn_synoptickeep_New [V.c (C.sl n0 a0)] []).bind fun out =>
 rP out.r 0 <|
 uncO out.objs fun o os =>
 rN o ty_synoptickeep_Src 2 fun cs =>
 unc cs fun c r =>
 unc r fun c1 _ =>
 asI .i64 c1 fun i =>
 (cl fu d fn_synoptickeep_Mod [I a1, I 100] []).bind fun out1 =>
 rC out1.r fun c2 =>
 asI .i64 c2 fun i1 =>
 (iter (fun (y : Int × List C × (C × Int × Unit) × Unit) =>
 bif decide (y.1 ≤ 11) then
 need (inR y.1 12) <|
 need (((Nat.ble 0 (1 + (y.1.toNat * 1))) && (Nat.ble ((1 + (y.1.toNat * 1)) + 1) y.2.1.length)) && true) <|
 some (0, (IntKind.i64.wrap (y.1 + 1), putAt y.2.1 (1 + (y.1.toNat * 1)) ([C.v (.int .i64 (IntKind.i64.wrap (1 + i1)))]), (y.2.2.1.1, y.2.2.1.2.1, ()), ()))
 else
 some (1, (y.1, y.2.1, (y.2.2.1.1, y.2.2.1.2.1, ()), ()))) fu (1, [C.v (.int .i64 0), C.v (.int .i64 0), C.v (.int .i64 0), C.v (.int .i64 0), C.v (.int .i64 0), C.v (.int .i64 0), C.v (.int .i64 0), C.v (.int .i64 0), C.v (.int .i64 0), C.v (.int .i64 0), C.v (.int .i64 0), C.v (.int .i64 0), C.v (.int .i64 0), C.v (.int .i64 0), C.v (.int .i64 0), C.v (.int .i64 0), C.v (.int .i64 0), C.v (.int .i64 0), C.v (.int .i64 0), C.v (.int .i64 0), C.v (.int .i64 0), C.v (.int .i64 0), C.v (.int .i64 0), C.v (.int .i64 0), C.v (.int .i64 0), C.v (.int .i64 0), C.v (.int .i64 0), C.v (.int .i64 0), C.v (.int .i64 0), C.v (.int .i64 0), C.v (.int .i64 0), C.v (.int .i64 0), C.v (.int .i64 0), C.v (.int .i64 0), C.v (.int .i64 0), C.v (.int .i64 0), C.v (.int .i64 0), C.v (.int .i64 0), C.v (.int .i64 0), C.v (.int .i64 0), C.v (.int .i64 0)], (c, i, ()), ())).bind fun p =>
 (cl fu d fn_synopticdata_Minute [V.ptr 1000000 0] [.ob ty_synoptickeep_Src 0 ([p.2.2.2.1.1, C.v (.int .i64 p.2.2.2.1.2.1)])]).bind fun out2 =>
 uncO out2.objs fun o1 os1 =>
 rO o1 ty_synoptickeep_Src 0 fun cs1 =>
 need ((Nat.beq cs1.length 2) && true) <|
 unc cs1 fun c3 r2 =>
 unc r2 fun c4 _ =>
 asI .i64 c4 fun i2 =>
 rC out2.r fun c5 =>
 asI .i64 c5 fun i3 =>
 (cl fu d fn_synoptickeep_Src_Range [V.ptr 1000000 0, I 1, I 12] [.ob ty_synoptickeep_Src 0 ([c3, C.v (.int .i64 i2)])]).bind fun out3 =>
 uncO out3.objs fun o2 os2 =>
 rO o2 ty_synoptickeep_Src 0 fun cs2 =>
 need ((Nat.beq cs2.length 2) && true) <|
 unc cs2 fun c6 r4 =>
 unc r4 fun c7 _ =>
 asI .i64 c7 fun i4 =>
 rC out3.r fun c8 =>
 asI .i64 c8 fun i5 =>
 (iter (fun (y1 : List C × Int × Int × Int × List C × (C × Int × Unit) × Unit) =>
 bif decide (y1.2.2.2.1 > 0) then
 need ((((Nat.beq ((y1.1.length / 8) * 8) y1.1.length) && true) && (Nat.ble (((y1.1.length / 8) + 1) * 88) 140737488355328)) && (Nat.ble ((y1.1.length / 8) + 1) 140737488355328)) <|
 bd (y1.1 ++ ([C.v (.int .i64 1), C.v (.string (⟨#[65, 76, 80, 72, 65]⟩)), C.v (.int .i64 y1.2.2.1), C.v (.int .i64 0), C.v (.int .i64 0), C.v (.int .i64 0), C.v (.int .i64 0), C.sl 2 ([C.v (.int .i64 1), C.v (.int .i64 y1.2.1), C.v (.int .i64 2), C.v (.int .i64 2800)])])) fun cs3 =>
 (cl fu d fn_synoptickeep_Src_Range [V.ptr 1000000 0, I 1, I 200] [.ob ty_synoptickeep_Src 0 ([y1.2.2.2.2.2.1.1, C.v (.int .i64 y1.2.2.2.2.2.1.2.1)])]).bind fun out4 =>
 uncO out4.objs fun o3 os3 =>
 rO o3 ty_synoptickeep_Src 0 fun cs4 =>
 need ((Nat.beq cs4.length 2) && true) <|
 unc cs4 fun c9 r6 =>
 unc r6 fun c10 _ =>
 asI .i64 c10 fun i6 =>
 rC out4.r fun c11 =>
 asI .i64 c11 fun i7 =>
 (cl fu d fn_synoptickeep_Src_Range [V.ptr 1000000 0, I (IntKind.i64.wrap (0 - (IntKind.i64.wrap (1 + i1)))), I (IntKind.i64.wrap (1 + i1))] [.ob ty_synoptickeep_Src 0 ([c9, C.v (.int .i64 i6)])]).bind fun out5 =>
 uncO out5.objs fun o4 os4 =>
 rO o4 ty_synoptickeep_Src 0 fun cs5 =>
 need ((Nat.beq cs5.length 2) && true) <|
 unc cs5 fun c12 r8 =>
 unc r8 fun c13 _ =>
 asI .i64 c13 fun i8 =>
 rC out5.r fun c14 =>
 asI .i64 c14 fun i9 =>
 bd (if IntKind.i64.wrap (y1.2.1 + (IntKind.i64.wrap (i9 * (IntKind.i64.wrap (Int.tdiv (IntKind.i64.wrap (i7 + 59)) 60))))) < 10900 then IntKind.i64.wrap (y1.2.1 + (IntKind.i64.wrap (i9 * (IntKind.i64.wrap (Int.tdiv (IntKind.i64.wrap (i7 + 59)) 60))))) else 10900) fun z =>
 need (((Nat.beq (((y1.1.length / 8) + 1) * 8) cs3.length) && true) && true) <|
 some (0, (cs3, (if z > 9000 then z else 9000), IntKind.i64.wrap (y1.2.2.1 + i7), IntKind.i64.wrap (y1.2.2.2.1 - 1), y1.2.2.2.2.1, (c12, i8, ()), ()))
 else
 need (((Nat.beq ((y1.1.length / 8) * 8) y1.1.length) && true) && true) <|
 some (1, (y1.1, y1.2.1, y1.2.2.1, y1.2.2.2.1, y1.2.2.2.2.1, (y1.2.2.2.2.2.1.1, y1.2.2.2.2.2.1.2.1, ()), ()))) fu ([], 10000, IntKind.i64.wrap (Int.tdiv i3 2), i5, p.2.2.1, (c6, i4, ()), ())).bind fun p1 =>
 need (Nat.ble 41 p1.2.2.2.2.2.1.length) <|
 need (Nat.ble (0 + ((p1.2.1.length / 8) * 8)) p1.2.1.length) <|
 (cl fu d fn_timeline_Check [V.c (C.sl (p1.2.1.length / 8) (List.take ((p1.2.1.length / 8) * 8) p1.2.1)), V.agg (List.take 41 p1.2.2.2.2.2.1)] []).bind fun out6 =>
 rT out6.r fun xs =>
 uncV xs fun x ys =>
 rC x fun c15 =>
 uncV ys fun x1 ys1 =>
 rC x1 fun c16 =>
 asI .i64 c16 fun i10 =>
 nilV ys1 <|
 need (Nat.ble (0 + ((p1.2.1.length / 8) * 8)) p1.2.1.length) <|
 (cl fu d fn_timeline_Check [V.c (C.sl (p1.2.1.length / 8) (List.take ((p1.2.1.length / 8) * 8) p1.2.1)), V.agg ([C.v (.int .i64 0), C.v (.int .i64 0), C.v (.int .i64 0), C.v (.int .i64 0), C.v (.int .i64 0), C.v (.int .i64 0), C.v (.int .i64 0), C.v (.int .i64 0), C.v (.int .i64 0), C.v (.int .i64 0), C.v (.int .i64 0), C.v (.int .i64 0), C.v (.int .i64 0), C.v (.int .i64 0), C.v (.int .i64 0), C.v (.int .i64 0), C.v (.int .i64 0), C.v (.int .i64 0), C.v (.int .i64 0), C.v (.int .i64 0), C.v (.int .i64 0), C.v (.int .i64 0), C.v (.int .i64 0), C.v (.int .i64 0), C.v (.int .i64 0), C.v (.int .i64 0), C.v (.int .i64 0), C.v (.int .i64 0), C.v (.int .i64 0), C.v (.int .i64 0), C.v (.int .i64 0), C.v (.int .i64 0), C.v (.int .i64 0), C.v (.int .i64 0), C.v (.int .i64 0), C.v (.int .i64 0), C.v (.int .i64 0), C.v (.int .i64 0), C.v (.int .i64 0), C.v (.int .i64 0), C.v (.int .i64 0)])] []).bind fun out7 =>
 rT out7.r fun xs1 =>
 uncV xs1 fun x2 ys2 =>
 rC x2 fun c17 =>
 uncV ys2 fun x3 ys3 =>
 rC x3 fun c18 =>
 asI .i64 c18 fun i11 =>
 nilV ys3 <|
 bif i10 != 0 then
 some ⟨B false, [], none⟩
 else
 bif i11 != 0 then
 some ⟨B false, [], none⟩
 else
 asSl c15 fun n cs6 =>
 bif decide (((n : Nat) : Int) > 0) then
 some ⟨B false, [], none⟩
 else
 asSl c17 fun n2 cs7 =>
 bif decide (((n2 : Nat) : Int) > 0) then
 some ⟨B false, [], none⟩
 else
 need (Nat.ble (0 + ((p1.2.1.length / 8) * 8)) p1.2.1.length) <|
 (iter (fun (y2 : Int × List C × (C × Int × Unit) × Unit) =>
 bif decide (y2.1 ≤ 11) then
 (cl fu d fn_synoptickeep_Src_Range [V.ptr 1000000 0, I 1, I 50] [.ob ty_synoptickeep_Src 0 ([y2.2.2.1.1, C.v (.int .i64 y2.2.2.1.2.1)])]).bind fun out8 =>
 uncO out8.objs fun o5 os5 =>
 rO o5 ty_synoptickeep_Src 0 fun cs8 =>
 need ((Nat.beq cs8.length 2) && true) <|
 unc cs8 fun c19 r10 =>
 unc r10 fun c20 _ =>
 asI .i64 c20 fun i12 =>
 rC out8.r fun c21 =>
 asI .i64 c21 fun i13 =>
 need (inR y2.1 12) <|
 need (((Nat.ble 0 (13 + (y2.1.toNat * 1))) && (Nat.ble ((13 + (y2.1.toNat * 1)) + 1) y2.2.1.length)) && true) <|
 some (0, (IntKind.i64.wrap (y2.1 + 1), putAt y2.2.1 (13 + (y2.1.toNat * 1)) ([C.v (.int .i64 i13)]), (c19, i12, ()), ()))
 else
 some (1, (y2.1, y2.2.1, (y2.2.2.1.1, y2.2.2.1.2.1, ()), ()))) fu (1, p1.2.2.2.2.2.1, (p1.2.2.2.2.2.2.1.1, p1.2.2.2.2.2.2.1.2.1, ()), ())).bind fun p2 =>
 need (Nat.ble 41 p2.2.2.1.length) <|
 (cl fu d fn_timeline_Check [V.c (C.sl (p1.2.1.length / 8) (List.take ((p1.2.1.length / 8) * 8) p1.2.1)), V.agg (List.take 41 p2.2.2.1)] []).bind fun out9 =>
 rT out9.r fun xs2 =>
 uncV xs2 fun x4 ys4 =>
 rC x4 fun c22 =>
 uncV ys4 fun x5 ys5 =>
 rC x5 fun c23 =>
 asI .i64 c23 fun i14 =>
 nilV ys5 <|
 asSl c22 fun n3 cs9 =>
 (iter (fun (y3 : Bool × Int × Unit) =>
 bif decide (y3.2.1 < ((n3 : Nat) : Int)) then
 asSl c22 fun n4 cs10 =>
 need (inR y3.2.1 n4) <|
 unc (List.drop (y3.2.1.toNat * 3) cs10) fun c24 r12 =>
 asI .i64 c24 fun i15 =>
 unc r12 fun c25 r13 =>
 asI .i64 c25 fun i16 =>
 unc r13 fun c26 _ =>
 asI .i64 c26 fun i17 =>
 bif i16 != 1 then
 some (2, (false, y3.2.1, ()))
 else
 some (0, (y3.1, IntKind.i64.wrap (y3.2.1 + 1), ()))
 else
 some (1, (y3.1, y3.2.1, ()))) fu (false, 0, ())).bind fun p3 =>
 natD p3.1 (
 bif i14 == 0 then
 (cl fu d fn_synopticlaw16_awake [] []).bind fun out10 =>
 rC out10.r fun c27 =>
 asB c27 fun b =>
 some ⟨B b, [], none⟩
 else
 some ⟨B false, [], none⟩) fun m =>
 some ⟨B p3.2.1, [], none⟩) := by kernel_rfl
/- synoptic/synopticlaw16.awake -/
theorem eq_synopticlaw16_awake (fu d : Nat)  :
 cl fu (d + 1) fn_synopticlaw16_awake [] [] = (
 (cl fu d fn_synopticlaw16_three [I 10000, I 10100, I 10001] []).bind fun out =>
 rC out.r fun c =>
 need (noYl [V.c (nrm c)]) <|
 (cl fu d fn_timeline_Check [V.c (nrm c), V.agg ([C.v (.int .i64 0), C.v (.int .i64 0), C.v (.int .i64 10), C.v (.int .i64 0), C.v (.int .i64 0), C.v (.int .i64 0), C.v (.int .i64 0), C.v (.int .i64 0), C.v (.int .i64 0), C.v (.int .i64 0), C.v (.int .i64 0), C.v (.int .i64 0), C.v (.int .i64 0), C.v (.int .i64 0), C.v (.int .i64 0), C.v (.int .i64 0), C.v (.int .i64 0), C.v (.int .i64 0), C.v (.int .i64 0), C.v (.int .i64 0), C.v (.int .i64 0), C.v (.int .i64 0), C.v (.int .i64 0), C.v (.int .i64 0), C.v (.int .i64 0), C.v (.int .i64 0), C.v (.int .i64 0), C.v (.int .i64 0), C.v (.int .i64 0), C.v (.int .i64 0), C.v (.int .i64 0), C.v (.int .i64 0), C.v (.int .i64 0), C.v (.int .i64 0), C.v (.int .i64 0), C.v (.int .i64 0), C.v (.int .i64 0), C.v (.int .i64 0), C.v (.int .i64 0), C.v (.int .i64 0), C.v (.int .i64 0)])] []).bind fun out1 =>
 rT out1.r fun xs =>
 uncV xs fun x ys =>
 rC x fun c1 =>
 uncV ys fun x1 ys1 =>
 rC x1 fun c2 =>
 asI .i64 c2 fun i =>
 nilV ys1 <|
 (cl fu d fn_synopticlaw16_three [I 10000, I 10100, I 10101] []).bind fun out2 =>
 rC out2.r fun c3 =>
 need (noYl [V.c (nrm c3)]) <|
 (cl fu d fn_timeline_Check [V.c (nrm c3), V.agg ([C.v (.int .i64 0), C.v (.int .i64 0), C.v (.int .i64 10), C.v (.int .i64 0), C.v (.int .i64 0), C.v (.int .i64 0), C.v (.int .i64 0), C.v (.int .i64 0), C.v (.int .i64 0), C.v (.int .i64 0), C.v (.int .i64 0), C.v (.int .i64 0), C.v (.int .i64 0), C.v (.int .i64 0), C.v (.int .i64 0), C.v (.int .i64 0), C.v (.int .i64 0), C.v (.int .i64 0), C.v (.int .i64 0), C.v (.int .i64 0), C.v (.int .i64 0), C.v (.int .i64 0), C.v (.int .i64 0), C.v (.int .i64 0), C.v (.int .i64 0), C.v (.int .i64 0), C.v (.int .i64 0), C.v (.int .i64 0), C.v (.int .i64 0), C.v (.int .i64 0), C.v (.int .i64 0), C.v (.int .i64 0), C.v (.int .i64 0), C.v (.int .i64 0), C.v (.int .i64 0), C.v (.int .i64 0), C.v (.int .i64 0), C.v (.int .i64 0), C.v (.int .i64 0), C.v (.int .i64 0), C.v (.int .i64 0)])] []).bind fun out3 =>
 rT out3.r fun xs1 =>
 uncV xs1 fun x2 ys2 =>
 rC x2 fun c4 =>
 uncV ys2 fun x3 ys3 =>
 rC x3 fun c5 =>
 asI .i64 c5 fun i1 =>
 nilV ys3 <|
 bif i == 0 then
 bif i1 == 0 then
 need (noYl [V.c (nrm c1)]) <|
 (cl fu d fn_synopticref16_Flags [V.c (nrm c1), V.c (C.sl 1 ([C.v (.int .i64 1), C.v (.int .i64 1), C.v (.int .i64 4)]))] []).bind fun out4 =>
 rC out4.r fun c6 =>
 asB c6 fun b =>
 bif b then
 asSl c4 fun n cs =>
 some ⟨B (((n : Nat) : Int) == 0), [], none⟩
 else
 some ⟨B false, [], none⟩
 else
 some ⟨B false, [], none⟩
 else
 some ⟨B false, [], none⟩) := by kernel_rfl
/- synoptic/synoptickeep.New -/
theorem eq_synoptickeep_New (fu d : Nat) (n0 : Nat) (a0 : List C) :
 cl fu (d + 1) fn_synoptickeep_New [V.c (C.sl n0 a0)] [] = (
 need ((decide (0 ≤ (if 2000 < ((n0 : Nat) : Int) then 2000 else ((n0 : Nat) : Int)))) && (decide ((if 2000 < ((n0 : Nat) : Int) then 2000 else ((n0 : Nat) : Int)) ≤ ((n0 : Nat) : Int)))) <|
 some ⟨V.ptr 1000000 0, [.ob ty_synoptickeep_Src 0 ([C.sl ((if 2000 < ((n0 : Nat) : Int) then 2000 else ((n0 : Nat) : Int)).toNat) (List.take (((if 2000 < ((n0 : Nat) : Int) then 2000 else ((n0 : Nat) : Int)).toNat) * 1) a0), C.v (.int .i64 0)])], none⟩) := by kernel_rfl
/- synoptic/synopticdata.Minute -/
theorem eq_synopticdata_Minute (fu d : Nat) (a0_0 : C) (a0_1 : Int) :
 cl fu (d + 1) fn_synopticdata_Minute [V.ptr 1000000 0] [.ob ty_synoptickeep_Src 0 ([a0_0, C.v (.int .i64 a0_1)])] = (
 (cl fu d fn_synoptickeep_Src_N [V.ptr 1000000 0, I 6] [.ob ty_synoptickeep_Src 0 ([a0_0, C.v (.int .i64 a0_1)])]).bind fun out =>
 uncO out.objs fun o os =>
 rO o ty_synoptickeep_Src 0 fun cs =>
 need ((Nat.beq cs.length 2) && true) <|
 unc cs fun c r =>
 unc r fun c1 _ =>
 asI .i64 c1 fun i =>
 rC out.r fun c2 =>
 asI .i64 c2 fun i1 =>
 bif i1 == 0 then
 (cl fu d fn_synoptickeep_Src_Raw [V.ptr 1000000 0] [.ob ty_synoptickeep_Src 0 ([c, C.v (.int .i64 i)])]).bind fun out1 =>
 uncO out1.objs fun o1 os1 =>
 rO o1 ty_synoptickeep_Src 0 fun cs1 =>
 need ((Nat.beq cs1.length 2) && true) <|
 unc cs1 fun c3 r2 =>
 unc r2 fun c4 _ =>
 asI .i64 c4 fun i2 =>
 rC out1.r fun c5 =>
 asI .i64 c5 fun i3 =>
 (cl fu d fn_synoptickeep_Src_Raw [V.ptr 1000000 0] [.ob ty_synoptickeep_Src 0 ([c3, C.v (.int .i64 i2)])]).bind fun out2 =>
 uncO out2.objs fun o2 os2 =>
 rO o2 ty_synoptickeep_Src 0 fun cs2 =>
 need ((Nat.beq cs2.length 2) && true) <|
 unc cs2 fun c6 r4 =>
 unc r4 fun c7 _ =>
 asI .i64 c7 fun i4 =>
 rC out2.r fun c8 =>
 asI .i64 c8 fun i5 =>
 (cl fu d fn_synoptickeep_Mod [I (IntKind.i64.wrap ((IntKind.i64.wrap (i3 * 7919)) + i5)), I 52596000] []).bind fun out3 =>
 rC out3.r fun c9 =>
 asI .i64 c9 fun i6 =>
 some ⟨I i6, [.ob ty_synoptickeep_Src 0 ([c6, C.v (.int .i64 i4)])], none⟩
 else
 bif i1 == 1 then
 (cl fu d fn_synoptickeep_Src_Pick [V.ptr 1000000 0, V.c (C.sl 4 ([C.v (.int .i64 0), C.v (.int .i64 52595999), C.v (.int .i64 20160), C.v (.int .i64 52575839)]))] [.ob ty_synoptickeep_Src 0 ([c, C.v (.int .i64 i)])]).bind fun out4 =>
 uncO out4.objs fun o3 os3 =>
 rO o3 ty_synoptickeep_Src 0 fun cs3 =>
 need ((Nat.beq cs3.length 2) && true) <|
 unc cs3 fun c10 r6 =>
 unc r6 fun c11 _ =>
 asI .i64 c11 fun i7 =>
 rC out4.r fun c12 =>
 asI .i64 c12 fun i8 =>
 some ⟨I i8, [.ob ty_synoptickeep_Src 0 ([c10, C.v (.int .i64 i7)])], none⟩
 else
 (cl fu d fn_synoptickeep_Src_N [V.ptr 1000000 0, I 2000] [.ob ty_synoptickeep_Src 0 ([c, C.v (.int .i64 i)])]).bind fun out5 =>
 uncO out5.objs fun o4 os4 =>
 rO o4 ty_synoptickeep_Src 0 fun cs4 =>
 need ((Nat.beq cs4.length 2) && true) <|
 unc cs4 fun c13 r8 =>
 unc r8 fun c14 _ =>
 asI .i64 c14 fun i9 =>
 rC out5.r fun c15 =>
 asI .i64 c15 fun i10 =>
 some ⟨I (IntKind.i64.wrap (14000000 + (IntKind.i64.wrap (i10 * 60)))), [.ob ty_synoptickeep_Src 0 ([c13, C.v (.int .i64 i9)])], none⟩) := by kernel_rfl
/- (*synoptic/synoptickeep.Src).N -/
theorem eq_synoptickeep_Src_N (fu d : Nat) (a0_0 : C) (a0_1 : Int) (a1 : Int) :
 cl fu (d + 1) fn_synoptickeep_Src_N [V.ptr 1000000 0, I a1] [.ob ty_synoptickeep_Src 0 ([a0_0, C.v (.int .i64 a0_1)])] = (
 (cl fu d fn_synoptickeep_Src_Raw [V.ptr 1000000 0] [.ob ty_synoptickeep_Src 0 ([a0_0, C.v (.int .i64 a0_1)])]).bind fun out =>
 uncO out.objs fun o os =>
 rO o ty_synoptickeep_Src 0 fun cs =>
 need ((Nat.beq cs.length 2) && true) <|
 unc cs fun c r =>
 unc r fun c1 _ =>
 asI .i64 c1 fun i =>
 rC out.r fun c2 =>
 asI .i64 c2 fun i1 =>
 (cl fu d fn_synoptickeep_Mod [I i1, I a1] []).bind fun out1 =>
 rC out1.r fun c3 =>
 asI .i64 c3 fun i2 =>
 some ⟨I i2, [.ob ty_synoptickeep_Src 0 ([c, C.v (.int .i64 i)])], none⟩) := by kernel_rfl
/- synoptic/timeline.Check -/
theorem eq_timeline_Check (fu d : Nat) (n0 : Nat) (a0 : List C) (a1 : List C) :
 cl fu (d + 1) fn_timeline_Check [V.c (C.sl n0 a0), V.agg a1] [] = (
 need (Nat.ble 41 a1.length) <|
 (cl fu d fn_timeline_examine [V.c (C.sl n0 a0), V.agg (List.take 41 a1)] []).bind fun out =>
 rC out.r fun c =>
 asI .i64 c fun i =>
 bif i != 0 then
 some ⟨V.tup [V.c C.nl, I i], [], none⟩
 else
 (cl fu d fn_timeline_lines [V.c (C.sl n0 a0)] []).bind fun out1 =>
 rC out1.r fun c1 =>
 asMp c1 ty_timeline_subject ty_stimeline_point (some 2) none fun es =>
 perms es fun es1 =>
 (overK (fun (e : List C × List C) (y : List C × Unit) =>
 need (Nat.beq e.1.length 2) <|
 unc e.1 fun c2 r =>
 asS c2 fun s =>
 unc r fun c3 _ =>
 asI .i64 c3 fun i1 =>
 need (Nat.beq e.2.length 1) <|
 unc e.2 fun c4 _ =>
 asSl c4 fun n cs =>
 need (((((decide (0 ≤ ((n : Nat) : Int))) && (decide (((n : Nat) : Int) ≤ ((n : Nat) : Int)))) && (decide ((1 : Int) * ((n : Nat) : Int) ≤ 140737488355328))) && (decide (((n : Nat) : Int) ≤ 140737488355328))) && true) <|
 need (inR i1 12) <|
 unc (List.drop (i1.toNat * 1) (List.drop 1 a1)) fun c5 _ =>
 asI .i64 c5 fun i2 =>
 need (Nat.ble (0 + ((((n : Nat) : Int).toNat) * 1)) ((reps (((n : Nat) : Int).toNat) ([C.v (.bool false)])).length)) <|
 (bif decide (i2 > 0) then
 need (noYl [V.c (nrm c4)]) <|
 (cl fu d fn_timeline_steps [V.c (nrm c4), I i2] []).bind fun out2 =>
 rC out2.r fun c6 =>
 need (((Nat.beq ((y.1.length / 3) * 3) y.1.length) && true) && true) <|
 some (0, (y.1, c6, (s, i1, ()), ()))
 else
 need (((Nat.beq ((y.1.length / 3) * 3) y.1.length) && true) && true) <|
 some (0, (y.1, C.sl (((n : Nat) : Int).toNat) (List.take ((((n : Nat) : Int).toNat) * 1) (reps (((n : Nat) : Int).toNat) ([C.v (.bool false)]))), (s, i1, ()), ())) : Option (Nat × List C × C × (ByteArray × Int × Unit) × Unit)).bind fun p =>
 need (inR p.2.2.2.1.2.1 12) <|
 unc (List.drop (p.2.2.2.1.2.1.toNat * 1) (List.drop 13 a1)) fun c7 _ =>
 asI .i64 c7 fun i3 =>
 asSl c4 fun n2 cs1 =>
 need (((Nat.beq ((p.2.1.length / 3) * 3) p.2.1.length) && true) && true) <|
 (iter (fun (y1 : List C × Int × (ByteArray × Int × Unit) × Unit) =>
 bif decide (y1.2.1 < ((n2 : Nat) : Int)) then
 asSl c4 fun n3 cs2 =>
 need (inR y1.2.1 n3) <|
 unc (List.drop (y1.2.1.toNat * 3) cs2) fun c8 r5 =>
 asI .i64 c8 fun i4 =>
 unc r5 fun c9 r6 =>
 asI .i64 c9 fun i5 =>
 unc r6 fun c10 _ =>
 asI .i64 c10 fun i6 =>
 asSl p.2.2.1 fun n4 cs3 =>
 need (inR y1.2.1 n4) <|
 unc (List.drop (y1.2.1.toNat * 1) cs3) fun c11 _ =>
 asB c11 fun b =>
 bif b then
 need ((((Nat.beq ((y1.1.length / 3) * 3) y1.1.length) && true) && (Nat.ble (((y1.1.length / 3) + 1) * 24) 140737488355328)) && (Nat.ble ((y1.1.length / 3) + 1) 140737488355328)) <|
 need (((Nat.beq (((y1.1.length / 3) + 1) * 3) ((y1.1 ++ ([C.v (.int .i64 i4), C.v (.int .i64 y1.2.2.1.2.1), C.v (.int .i64 4)])).length)) && true) && true) <|
 some (0, (y1.1 ++ ([C.v (.int .i64 i4), C.v (.int .i64 y1.2.2.1.2.1), C.v (.int .i64 4)]), IntKind.i64.wrap (y1.2.1 + 1), (y1.2.2.1.1, y1.2.2.1.2.1, ()), ()))
 else
 bif decide (i3 > 0) then
 bif decide (y1.2.1 > 0) then
 asSl c4 fun n5 cs4 =>
 bif decide (IntKind.i64.wrap (y1.2.1 + 1) < ((n5 : Nat) : Int)) then
 asSl c4 fun n6 cs5 =>
 need (inR (IntKind.i64.wrap (y1.2.1 - 1)) n6) <|
 unc (List.drop (((IntKind.i64.wrap (y1.2.1 - 1)).toNat) * 3) cs5) fun c12 r9 =>
 asI .i64 c12 fun i7 =>
 unc r9 fun c13 r10 =>
 asI .i64 c13 fun i8 =>
 unc r10 fun c14 _ =>
 asI .i64 c14 fun i9 =>
 asSl c4 fun n7 cs6 =>
 need (inR (IntKind.i64.wrap (y1.2.1 + 1)) n7) <|
 unc (List.drop (((IntKind.i64.wrap (y1.2.1 + 1)).toNat) * 3) cs6) fun c15 r12 =>
 asI .i64 c15 fun i10 =>
 unc r12 fun c16 r13 =>
 asI .i64 c16 fun i11 =>
 unc r13 fun c17 _ =>
 asI .i64 c17 fun i12 =>
 (cl fu d fn_timeline_spike [V.agg ([C.v (.int .i64 i7), C.v (.int .i64 i8), C.v (.int .i64 i9)]), V.agg ([C.v (.int .i64 i4), C.v (.int .i64 i5), C.v (.int .i64 i6)]), V.agg ([C.v (.int .i64 i10), C.v (.int .i64 i11), C.v (.int .i64 i12)]), I i3] []).bind fun out3 =>
 rC out3.r fun c18 =>
 asB c18 fun b1 =>
 bif b1 then
 need ((((Nat.beq ((y1.1.length / 3) * 3) y1.1.length) && true) && (Nat.ble (((y1.1.length / 3) + 1) * 24) 140737488355328)) && (Nat.ble ((y1.1.length / 3) + 1) 140737488355328)) <|
 need (((Nat.beq (((y1.1.length / 3) + 1) * 3) ((y1.1 ++ ([C.v (.int .i64 i4), C.v (.int .i64 y1.2.2.1.2.1), C.v (.int .i64 4)])).length)) && true) && true) <|
 some (0, (y1.1 ++ ([C.v (.int .i64 i4), C.v (.int .i64 y1.2.2.1.2.1), C.v (.int .i64 4)]), IntKind.i64.wrap (y1.2.1 + 1), (y1.2.2.1.1, y1.2.2.1.2.1, ()), ()))
 else
 need (((Nat.beq ((y1.1.length / 3) * 3) y1.1.length) && true) && true) <|
 some (0, (y1.1, IntKind.i64.wrap (y1.2.1 + 1), (y1.2.2.1.1, y1.2.2.1.2.1, ()), ()))
 else
 need (((Nat.beq ((y1.1.length / 3) * 3) y1.1.length) && true) && true) <|
 some (0, (y1.1, IntKind.i64.wrap (y1.2.1 + 1), (y1.2.2.1.1, y1.2.2.1.2.1, ()), ()))
 else
 need (((Nat.beq ((y1.1.length / 3) * 3) y1.1.length) && true) && true) <|
 some (0, (y1.1, IntKind.i64.wrap (y1.2.1 + 1), (y1.2.2.1.1, y1.2.2.1.2.1, ()), ()))
 else
 need (((Nat.beq ((y1.1.length / 3) * 3) y1.1.length) && true) && true) <|
 some (0, (y1.1, IntKind.i64.wrap (y1.2.1 + 1), (y1.2.2.1.1, y1.2.2.1.2.1, ()), ()))
 else
 need (((Nat.beq ((y1.1.length / 3) * 3) y1.1.length) && true) && true) <|
 some (1, (y1.1, y1.2.1, (y1.2.2.1.1, y1.2.2.1.2.1, ()), ()))) fu (p.2.1, 0, (p.2.2.2.1.1, p.2.2.2.1.2.1, ()), ())).bind fun p1 =>
 need (((Nat.beq ((p1.2.1.length / 3) * 3) p1.2.1.length) && true) && true) <|
 some (0, (p1.2.1, ()))) es1 ([], ())).bind fun p2 =>
 natD p2.1 (
 (cl fu d fn_slices_SortFunc_sapi_Flag_api_Flag [V.own 1000000 0 (p2.2.1.length / 3), V.c (C.fn fn_timeline_Check_1 ([]))] [.sb ty_api_Flag 0 p2.2.1]).bind fun out4 =>
 uncO out4.objs fun o os =>
 rS o ty_api_Flag 0 fun cs7 =>
 need (Nat.beq cs7.length p2.2.1.length) <|
 need (Nat.ble (0 + ((p2.2.1.length / 3) * 3)) cs7.length) <|
 some ⟨V.tup [V.c (C.sl (p2.2.1.length / 3) (List.take ((p2.2.1.length / 3) * 3) cs7)), I 0], [], none⟩) fun m =>
 (cl fu d fn_slices_SortFunc_sapi_Flag_api_Flag [V.own 1000000 0 (p2.2.1.length / 3), V.c (C.fn fn_timeline_Check_1 ([]))] [.sb ty_api_Flag 0 p2.2.1]).bind fun out5 =>
 uncO out5.objs fun o1 os1 =>
 rS o1 ty_api_Flag 0 fun cs8 =>
 need (Nat.beq cs8.length p2.2.1.length) <|
 need (Nat.ble (0 + ((p2.2.1.length / 3) * 3)) cs8.length) <|
 some ⟨V.tup [V.c (C.sl (p2.2.1.length / 3) (List.take ((p2.2.1.length / 3) * 3) cs8)), I 0], [], none⟩) := by kernel_rfl
/- synoptic/synopticref16.Flags -/
theorem eq_synopticref16_Flags (fu d : Nat) (n0 : Nat) (a0 : List C) (n1 : Nat) (a1 : List C) :
 cl fu (d + 1) fn_synopticref16_Flags [V.c (C.sl n0 a0), V.c (C.sl n1 a1)] [] = (
 bif ((n0 : Nat) : Int) != ((n1 : Nat) : Int) then
 some ⟨B false, [], none⟩
 else
 (iter (fun (y : Bool × Int × Unit) =>
 bif decide (y.2.1 < ((n0 : Nat) : Int)) then
 need (inR y.2.1 n0) <|
 unc (List.drop (y.2.1.toNat * 3) a0) fun c r =>
 asI .i64 c fun i =>
 unc r fun c1 r1 =>
 asI .i64 c1 fun i1 =>
 unc r1 fun c2 _ =>
 asI .i64 c2 fun i2 =>
 need (inR y.2.1 n1) <|
 unc (List.drop (y.2.1.toNat * 3) a1) fun c3 r3 =>
 asI .i64 c3 fun i3 =>
 unc r3 fun c4 r4 =>
 asI .i64 c4 fun i4 =>
 unc r4 fun c5 _ =>
 asI .i64 c5 fun i5 =>
 bif !((i == i3) && ((i1 == i4) && ((i2 == i5) && true))) then
 some (2, (false, y.2.1, ()))
 else
 some (0, (y.1, IntKind.i64.wrap (y.2.1 + 1), ()))
 else
 some (1, (y.1, y.2.1, ()))) fu (false, 0, ())).bind fun p =>
 natD p.1 (
 some ⟨B true, [], none⟩) fun m =>
 some ⟨B p.2.1, [], none⟩) := by kernel_rfl
/- synoptic/synoptickeep.Mod -/
theorem eq_synoptickeep_Mod (fu d : Nat) (a0 : Int) (a1 : Int) :
 cl fu (d + 1) fn_synoptickeep_Mod [I a0, I a1] [] = (
 bif decide (a1 < 1) then
 some ⟨I 0, [], none⟩
 else
 need (!(a1 == 0)) <|
 bif decide (Int.tmod a0 a1 < 0) then
 some ⟨I (IntKind.i64.wrap ((Int.tmod a0 a1) + a1)), [], none⟩
 else
 some ⟨I (Int.tmod a0 a1), [], none⟩) := by kernel_rfl
/- (*synoptic/synoptickeep.Src).Range -/
theorem eq_synoptickeep_Src_Range (fu d : Nat) (a0_0 : C) (a0_1 : Int) (a1 : Int) (a2 : Int) :
 cl fu (d + 1) fn_synoptickeep_Src_Range [V.ptr 1000000 0, I a1, I a2] [.ob ty_synoptickeep_Src 0 ([a0_0, C.v (.int .i64 a0_1)])] = (
 (cl fu d fn_synoptickeep_Src_N [V.ptr 1000000 0, I (IntKind.i64.wrap ((IntKind.i64.wrap (a2 - a1)) + 1))] [.ob ty_synoptickeep_Src 0 ([a0_0, C.v (.int .i64 a0_1)])]).bind fun out =>
 uncO out.objs fun o os =>
 rO o ty_synoptickeep_Src 0 fun cs =>
 need ((Nat.beq cs.length 2) && true) <|
 unc cs fun c r =>
 unc r fun c1 _ =>
 asI .i64 c1 fun i =>
 rC out.r fun c2 =>
 asI .i64 c2 fun i1 =>
 some ⟨I (IntKind.i64.wrap (a1 + i1)), [.ob ty_synoptickeep_Src 0 ([c, C.v (.int .i64 i)])], none⟩) := by kernel_rfl
/- synoptic/synopticlaw16.three -/
theorem eq_synopticlaw16_three (fu d : Nat) (a0 : Int) (a1 : Int) (a2 : Int) :
 cl fu (d + 1) fn_synopticlaw16_three [I a0, I a1, I a2] [] = (
 (iter (fun (y : List C × Int × Unit) =>
 bif decide (y.2.1 < 3) then
 need (inR y.2.1 3) <|
 unc (List.drop (y.2.1.toNat * 1) ([C.v (.int .i64 a0), C.v (.int .i64 a1), C.v (.int .i64 a2)])) fun c _ =>
 asI .i64 c fun i =>
 need ((((Nat.beq ((y.1.length / 8) * 8) y.1.length) && true) && (Nat.ble (((y.1.length / 8) + 1) * 88) 140737488355328)) && (Nat.ble ((y.1.length / 8) + 1) 140737488355328)) <|
 bd (y.1 ++ ([C.v (.int .i64 1), C.v (.string (⟨#[65, 76, 80, 72, 65]⟩)), C.v (.int .i64 (IntKind.i64.wrap (60 * y.2.1))), C.v (.int .i64 0), C.v (.int .i64 0), C.v (.int .i64 0), C.v (.int .i64 0), C.sl 1 ([C.v (.int .i64 1), C.v (.int .i64 i)])])) fun cs =>
 need (((Nat.beq (((y.1.length / 8) + 1) * 8) cs.length) && true) && true) <|
 some (0, (cs, IntKind.i64.wrap (y.2.1 + 1), ()))
 else
 need (((Nat.beq ((y.1.length / 8) * 8) y.1.length) && true) && true) <|
 some (1, (y.1, y.2.1, ()))) fu ([], 0, ())).bind fun p =>
 need (Nat.ble (0 + ((p.2.1.length / 8) * 8)) p.2.1.length) <|
 some ⟨V.c (C.sl (p.2.1.length / 8) (List.take ((p.2.1.length / 8) * 8) p.2.1)), [], none⟩) := by kernel_rfl
/- (*synoptic/synoptickeep.Src).Pick -/
theorem eq_synoptickeep_Src_Pick (fu d : Nat) (a0_0 : C) (a0_1 : Int) (n1 : Nat) (a1 : List C) :
 cl fu (d + 1) fn_synoptickeep_Src_Pick [V.ptr 1000000 0, V.c (C.sl n1 a1)] [.ob ty_synoptickeep_Src 0 ([a0_0, C.v (.int .i64 a0_1)])] = (
 (cl fu d fn_synoptickeep_Src_N [V.ptr 1000000 0, I ((n1 : Nat) : Int)] [.ob ty_synoptickeep_Src 0 ([a0_0, C.v (.int .i64 a0_1)])]).bind fun out =>
 uncO out.objs fun o os =>
 rO o ty_synoptickeep_Src 0 fun cs =>
 need ((Nat.beq cs.length 2) && true) <|
 unc cs fun c r =>
 unc r fun c1 _ =>
 asI .i64 c1 fun i =>
 rC out.r fun c2 =>
 asI .i64 c2 fun i1 =>
 need (inR i1 n1) <|
 unc (List.drop (i1.toNat * 1) a1) fun c3 _ =>
 asI .i64 c3 fun i2 =>
 some ⟨I i2, [.ob ty_synoptickeep_Src 0 ([c, C.v (.int .i64 i)])], none⟩) := by kernel_rfl
/- (*synoptic/synoptickeep.Src).Raw -/
theorem eq_synoptickeep_Src_Raw (fu d : Nat) (a0_0 : C) (a0_1 : Int) :
 cl fu (d + 1) fn_synoptickeep_Src_Raw [V.ptr 1000000 0] [.ob ty_synoptickeep_Src 0 ([a0_0, C.v (.int .i64 a0_1)])] = (
 asSl a0_0 fun n cs =>
 bif decide (a0_1 ≥ ((n : Nat) : Int)) then
 some ⟨I 0, [.ob ty_synoptickeep_Src 0 ([a0_0, C.v (.int .i64 a0_1)])], none⟩
 else
 asSl a0_0 fun n1 cs1 =>
 need (inR (IntKind.i64.wrap ((IntKind.i64.wrap (a0_1 + 1)) - 1)) n1) <|
 unc (List.drop (((IntKind.i64.wrap ((IntKind.i64.wrap (a0_1 + 1)) - 1)).toNat) * 1) cs1) fun c _ =>
 asI .i64 c fun i =>
 some ⟨I i, [.ob ty_synoptickeep_Src 0 ([a0_0, C.v (.int .i64 (IntKind.i64.wrap (a0_1 + 1)))])], none⟩) := by kernel_rfl
/- synoptic/timeline.examine -/
theorem eq_timeline_examine (fu d : Nat) (n0 : Nat) (a0 : List C) (a1 : List C) :
 cl fu (d + 1) fn_timeline_examine [V.c (C.sl n0 a0), V.agg a1] [] = (
 need (Nat.ble 12 ((List.drop 1 a1).length)) <|
 (cl fu d fn_timeline_possible [V.agg (List.take 12 (List.drop 1 a1))] []).bind fun out =>
 rC out.r fun c =>
 asB c fun b =>
 bif !b then
 some ⟨I 1, [], none⟩
 else
 need (Nat.ble 12 ((List.drop 13 a1).length)) <|
 (cl fu d fn_timeline_possible [V.agg (List.take 12 (List.drop 13 a1))] []).bind fun out1 =>
 rC out1.r fun c1 =>
 asB c1 fun b1 =>
 bif !b1 then
 some ⟨I 1, [], none⟩
 else
 (iter (fun (y : Int × Int × Unit) =>
 bif decide (y.2.1 < ((n0 : Nat) : Int)) then
 need (inR y.2.1 n0) <|
 unc (List.drop (y.2.1.toNat * 8) a0) fun c2 r =>
 asI .i64 c2 fun i =>
 unc r fun c3 r1 =>
 asS c3 fun s =>
 unc r1 fun c4 r2 =>
 asI .i64 c4 fun i1 =>
 unc r2 fun c5 r3 =>
 asI .i64 c5 fun i2 =>
 unc r3 fun c6 r4 =>
 asI .i64 c6 fun i3 =>
 unc r4 fun c7 r5 =>
 asI .i64 c7 fun i4 =>
 unc r5 fun c8 r6 =>
 asI .i64 c8 fun i5 =>
 unc r6 fun c9 _ =>
 need (noYl [V.c (nrm c9)]) <|
 (cl fu d fn_element_Validate [V.c (nrm c9)] []).bind fun out2 =>
 rC out2.r fun c10 =>
 asI .i64 c10 fun i6 =>
 bif i6 != 0 then
 some (2, (i6, y.2.1, ()))
 else
 some (0, (y.1, IntKind.i64.wrap (y.2.1 + 1), ()))
 else
 some (1, (y.1, y.2.1, ()))) fu (0, 0, ())).bind fun p =>
 natD p.1 (
 (cl fu d fn_slices_ContainsFunc_sapi_Report_api_Report [V.c (C.sl n0 a0), V.c (C.fn fn_timeline_examine_1 ([]))] []).bind fun out3 =>
 rC out3.r fun c11 =>
 asB c11 fun b2 =>
 bif b2 then
 some ⟨I 1, [], none⟩
 else
 (iter (fun (y1 : Int × (List (List C × List C)) × Unit) =>
 bif decide (y1.1 < ((n0 : Nat) : Int)) then
 need (inR y1.1 n0) <|
 unc (List.drop (y1.1.toNat * 8) a0) fun c12 r8 =>
 asI .i64 c12 fun i7 =>
 unc r8 fun c13 r9 =>
 asS c13 fun s1 =>
 unc r9 fun c14 r10 =>
 asI .i64 c14 fun i8 =>
 unc r10 fun c15 r11 =>
 asI .i64 c15 fun i9 =>
 unc r11 fun c16 r12 =>
 asI .i64 c16 fun i10 =>
 unc r12 fun c17 r13 =>
 asI .i64 c17 fun i11 =>
 unc r13 fun c18 r14 =>
 asI .i64 c18 fun i12 =>
 unc r14 fun c19 _ =>
 (mfd ty_timeline_moment ([C.v (.string s1), C.v (.int .i64 i8)]) y1.2.1).bind fun q =>
 some (0, (IntKind.i64.wrap (y1.1 + 1), mput y1.2.1 q ([C.v (.string s1), C.v (.int .i64 i8)]) ([C.v (.bool true)]), ()))
 else
 some (1, (y1.1, y1.2.1, ()))) fu (0, [], ())).bind fun p1 =>
 bif decide (((p1.2.2.1.length : Nat) : Int) < ((n0 : Nat) : Int)) then
 some ⟨I 5, [], none⟩
 else
 some ⟨I 0, [], none⟩) fun m =>
 some ⟨I p.2.1, [], none⟩) := by kernel_rfl
/- synoptic/timeline.lines -/
theorem eq_timeline_lines (fu d : Nat) (n0 : Nat) (a0 : List C) :
 cl fu (d + 1) fn_timeline_lines [V.c (C.sl n0 a0)] [] = (
 (iter (fun (y : Int × (List (List C × List C)) × Unit) =>
 bif decide (y.1 < ((n0 : Nat) : Int)) then
 need (inR y.1 n0) <|
 unc (List.drop (y.1.toNat * 8) a0) fun c r =>
 asI .i64 c fun i =>
 unc r fun c1 r1 =>
 asS c1 fun s =>
 unc r1 fun c2 r2 =>
 asI .i64 c2 fun i1 =>
 unc r2 fun c3 r3 =>
 asI .i64 c3 fun i2 =>
 unc r3 fun c4 r4 =>
 asI .i64 c4 fun i3 =>
 unc r4 fun c5 r5 =>
 asI .i64 c5 fun i4 =>
 unc r5 fun c6 r6 =>
 asI .i64 c6 fun i5 =>
 unc r6 fun c7 _ =>
 asSl c7 fun n cs =>
 (iter (fun (y1 : Int × (Int × ByteArray × Int × Int × Int × Int × Int × C × Unit) × (List (List C × List C)) × Unit) =>
 bif decide (y1.1 < ((n : Nat) : Int)) then
 asSl c7 fun n1 cs1 =>
 need (inR y1.1 n1) <|
 unc (List.drop (y1.1.toNat * 2) cs1) fun c8 r8 =>
 asI .i64 c8 fun i6 =>
 unc r8 fun c9 _ =>
 asI .i64 c9 fun i7 =>
 (mfd ty_timeline_subject ([C.v (.string y1.2.1.2.1), C.v (.int .i64 i6)]) y1.2.2.1).bind fun q =>
 need ((((Nat.beq ((((orZ q []).length) / 3) * 3) ((orZ q []).length)) && true) && (Nat.ble (((((orZ q []).length) / 3) + 1) * 24) 140737488355328)) && (Nat.ble ((((orZ q []).length) / 3) + 1) 140737488355328)) <|
 need ((((((decide (((entAt q y1.2.2.1 : Nat) : Int) = ((entAt q y1.2.2.1 : Nat) : Int))) && true) && true) && true) && (Nat.beq (((((orZ q []).length) / 3) + 1) * 3) (((orZ q []) ++ ([C.v (.int .i64 y.1), C.v (.int .i64 y1.2.1.2.2.1), C.v (.int .i64 i7)])).length))) && true) <|
 some (0, (IntKind.i64.wrap (y1.1 + 1), (y1.2.1.1, y1.2.1.2.1, y1.2.1.2.2.1, y1.2.1.2.2.2.1, y1.2.1.2.2.2.2.1, y1.2.1.2.2.2.2.2.1, y1.2.1.2.2.2.2.2.2.1, y1.2.1.2.2.2.2.2.2.2.1, ()), mput y1.2.2.1 q ([C.v (.string y1.2.1.2.1), C.v (.int .i64 i6)]) ((orZ q []) ++ ([C.v (.int .i64 y.1), C.v (.int .i64 y1.2.1.2.2.1), C.v (.int .i64 i7)])), ()))
 else
 some (1, (y1.1, (y1.2.1.1, y1.2.1.2.1, y1.2.1.2.2.1, y1.2.1.2.2.2.1, y1.2.1.2.2.2.2.1, y1.2.1.2.2.2.2.2.1, y1.2.1.2.2.2.2.2.2.1, y1.2.1.2.2.2.2.2.2.2.1, ()), y1.2.2.1, ()))) fu (0, (i, s, i1, i2, i3, i4, i5, c7, ()), y.2.1, ())).bind fun p =>
 some (0, (IntKind.i64.wrap (y.1 + 1), p.2.2.2.1, ()))
 else
 some (1, (y.1, y.2.1, ()))) fu (0, [], ())).bind fun p1 =>
 need (((((Nat.beq p1.2.2.1.length p1.2.2.1.length) && true) && true) && true) && true) <|
 (rowsM (fun (e : List C × List C) =>
 need ((Nat.ble 1 e.2.length) && (Nat.beq ((e.2.length / 3) * 3) e.2.length)) <|
 need (Nat.beq e.1.length 2) <|
 unc e.1 fun c10 r10 =>
 asS c10 fun s1 =>
 unc r10 fun c11 _ =>
 asI .i64 c11 fun i8 =>
 (cl fu d fn_slices_SortFunc_stimeline_point_timeline_point [V.own 1000000 0 (e.2.length / 3), V.c (C.fn fn_timeline_lines_1 ([]))] [.sb ty_timeline_point 0 e.2]).bind fun out =>
 uncO out.objs fun o os =>
 rS o ty_timeline_point 0 fun cs2 =>
 need (Nat.beq cs2.length e.2.length) <|
 need (Nat.beq cs2.length e.2.length) <|
 some cs2) p1.2.2.1).bind fun es =>
 some ⟨V.c (C.mp ty_timeline_subject ty_stimeline_point (some 2) none (List.map (fun (q : List C × List C) => (q.1, [C.sl (q.2.length / 3) q.2])) es)), [], none⟩) := by kernel_rfl
/- synoptic/timeline.steps -/
theorem eq_timeline_steps (fu d : Nat) (n0 : Nat) (a0 : List C) (a1 : Int) :
 cl fu (d + 1) fn_timeline_steps [V.c (C.sl n0 a0), I a1] [] = (
 need (((((decide (0 ≤ ((n0 : Nat) : Int))) && (decide (((n0 : Nat) : Int) ≤ ((n0 : Nat) : Int)))) && (decide ((1 : Int) * ((n0 : Nat) : Int) ≤ 140737488355328))) && (decide (((n0 : Nat) : Int) ≤ 140737488355328))) && true) <|
 need (((Nat.beq ((((n0 : Nat) : Int).toNat) * 1) ((reps (((n0 : Nat) : Int).toNat) ([C.v (.bool false)])).length)) && true) && true) <|
 (iter (fun (y : List C × Int × Int × Unit) =>
 bif decide (y.2.2.1 < ((n0 : Nat) : Int)) then
 need (inR y.2.1 n0) <|
 unc (List.drop (y.2.1.toNat * 3) a0) fun c r =>
 asI .i64 c fun i =>
 unc r fun c1 r1 =>
 asI .i64 c1 fun i1 =>
 unc r1 fun c2 _ =>
 asI .i64 c2 fun i2 =>
 need (inR y.2.2.1 n0) <|
 unc (List.drop (y.2.2.1.toNat * 3) a0) fun c3 r3 =>
 asI .i64 c3 fun i3 =>
 unc r3 fun c4 r4 =>
 asI .i64 c4 fun i4 =>
 unc r4 fun c5 _ =>
 asI .i64 c5 fun i5 =>
 (cl fu d fn_timeline_slow [V.agg ([C.v (.int .i64 i), C.v (.int .i64 i1), C.v (.int .i64 i2)]), V.agg ([C.v (.int .i64 i3), C.v (.int .i64 i4), C.v (.int .i64 i5)]), I a1] []).bind fun out =>
 rC out.r fun c6 =>
 asB c6 fun b =>
 bif b then
 need (((Nat.beq ((y.1.length / 1) * 1) y.1.length) && true) && true) <|
 some (0, (y.1, y.2.2.1, IntKind.i64.wrap (y.2.2.1 + 1), ()))
 else
 bif decide (IntKind.i64.wrap (y.2.2.1 + 1) < ((n0 : Nat) : Int)) then
 need (inR y.2.2.1 n0) <|
 unc (List.drop (y.2.2.1.toNat * 3) a0) fun c7 r6 =>
 asI .i64 c7 fun i6 =>
 unc r6 fun c8 r7 =>
 asI .i64 c8 fun i7 =>
 unc r7 fun c9 _ =>
 asI .i64 c9 fun i8 =>
 need (inR (IntKind.i64.wrap (y.2.2.1 + 1)) n0) <|
 unc (List.drop (((IntKind.i64.wrap (y.2.2.1 + 1)).toNat) * 3) a0) fun c10 r9 =>
 asI .i64 c10 fun i9 =>
 unc r9 fun c11 r10 =>
 asI .i64 c11 fun i10 =>
 unc r10 fun c12 _ =>
 asI .i64 c12 fun i11 =>
 (cl fu d fn_timeline_slow [V.agg ([C.v (.int .i64 i6), C.v (.int .i64 i7), C.v (.int .i64 i8)]), V.agg ([C.v (.int .i64 i9), C.v (.int .i64 i10), C.v (.int .i64 i11)]), I a1] []).bind fun out1 =>
 rC out1.r fun c13 =>
 asB c13 fun b1 =>
 bif b1 then
 need (((Nat.beq ((y.1.length / 1) * 1) y.1.length) && true) && true) <|
 some (0, (y.1, y.2.2.1, IntKind.i64.wrap (y.2.2.1 + 1), ()))
 else
 need (inR y.2.2.1 (y.1.length / 1)) <|
 need (((Nat.ble 0 (0 + (y.2.2.1.toNat * 1))) && (Nat.ble ((0 + (y.2.2.1.toNat * 1)) + 1) y.1.length)) && true) <|
 need (((Nat.beq ((y.1.length / 1) * 1) ((putAt y.1 (0 + (y.2.2.1.toNat * 1)) ([C.v (.bool true)])).length)) && true) && true) <|
 some (0, (putAt y.1 (0 + (y.2.2.1.toNat * 1)) ([C.v (.bool true)]), y.2.1, IntKind.i64.wrap (y.2.2.1 + 1), ()))
 else
 need (inR y.2.2.1 (y.1.length / 1)) <|
 need (((Nat.ble 0 (0 + (y.2.2.1.toNat * 1))) && (Nat.ble ((0 + (y.2.2.1.toNat * 1)) + 1) y.1.length)) && true) <|
 need (((Nat.beq ((y.1.length / 1) * 1) ((putAt y.1 (0 + (y.2.2.1.toNat * 1)) ([C.v (.bool true)])).length)) && true) && true) <|
 some (0, (putAt y.1 (0 + (y.2.2.1.toNat * 1)) ([C.v (.bool true)]), y.2.1, IntKind.i64.wrap (y.2.2.1 + 1), ()))
 else
 need (((Nat.beq ((y.1.length / 1) * 1) y.1.length) && true) && true) <|
 some (1, (y.1, y.2.1, y.2.2.1, ()))) fu (reps (((n0 : Nat) : Int).toNat) ([C.v (.bool false)]), 0, 1, ())).bind fun p =>
 need (Nat.ble (0 + ((p.2.1.length / 1) * 1)) p.2.1.length) <|
 some ⟨V.c (C.sl (p.2.1.length / 1) (List.take ((p.2.1.length / 1) * 1) p.2.1)), [], none⟩) := by kernel_rfl
/- synoptic/timeline.spike -/
theorem eq_timeline_spike (fu d : Nat) (a0_0 : Int) (a0_1 : Int) (a0_2 : Int) (a1_0 : Int) (a1_1 : Int) (a1_2 : Int) (a2_0 : Int) (a2_1 : Int) (a2_2 : Int) (a3 : Int) :
 cl fu (d + 1) fn_timeline_spike [V.agg ([C.v (.int .i64 a0_0), C.v (.int .i64 a0_1), C.v (.int .i64 a0_2)]), V.agg ([C.v (.int .i64 a1_0), C.v (.int .i64 a1_1), C.v (.int .i64 a1_2)]), V.agg ([C.v (.int .i64 a2_0), C.v (.int .i64 a2_1), C.v (.int .i64 a2_2)]), I a3] [] = (
 bif decide (IntKind.i64.wrap (a1_2 - a0_2) > a3) then
 bif decide (IntKind.i64.wrap (a0_2 - a1_2) > a3) then
 bif decide (IntKind.i64.wrap (a1_2 - a2_2) > a3) then
 (cl fu d fn_timeline_size [V.agg ([C.v (.int .i64 a0_0), C.v (.int .i64 a0_1), C.v (.int .i64 a0_2)]), V.agg ([C.v (.int .i64 a2_0), C.v (.int .i64 a2_1), C.v (.int .i64 a2_2)])] []).bind fun out =>
 rC out.r fun c =>
 asI .i64 c fun i =>
 some ⟨B (decide (i ≤ a3)), [], none⟩
 else
 bif decide (IntKind.i64.wrap (a2_2 - a1_2) > a3) then
 (cl fu d fn_timeline_size [V.agg ([C.v (.int .i64 a0_0), C.v (.int .i64 a0_1), C.v (.int .i64 a0_2)]), V.agg ([C.v (.int .i64 a2_0), C.v (.int .i64 a2_1), C.v (.int .i64 a2_2)])] []).bind fun out1 =>
 rC out1.r fun c1 =>
 asI .i64 c1 fun i1 =>
 some ⟨B (decide (i1 ≤ a3)), [], none⟩
 else
 some ⟨B false, [], none⟩
 else
 bif decide (IntKind.i64.wrap (a1_2 - a2_2) > a3) then
 (cl fu d fn_timeline_size [V.agg ([C.v (.int .i64 a0_0), C.v (.int .i64 a0_1), C.v (.int .i64 a0_2)]), V.agg ([C.v (.int .i64 a2_0), C.v (.int .i64 a2_1), C.v (.int .i64 a2_2)])] []).bind fun out2 =>
 rC out2.r fun c2 =>
 asI .i64 c2 fun i2 =>
 some ⟨B (decide (i2 ≤ a3)), [], none⟩
 else
 some ⟨B false, [], none⟩
 else
 bif decide (IntKind.i64.wrap (a0_2 - a1_2) > a3) then
 bif decide (IntKind.i64.wrap (a2_2 - a1_2) > a3) then
 (cl fu d fn_timeline_size [V.agg ([C.v (.int .i64 a0_0), C.v (.int .i64 a0_1), C.v (.int .i64 a0_2)]), V.agg ([C.v (.int .i64 a2_0), C.v (.int .i64 a2_1), C.v (.int .i64 a2_2)])] []).bind fun out3 =>
 rC out3.r fun c3 =>
 asI .i64 c3 fun i3 =>
 some ⟨B (decide (i3 ≤ a3)), [], none⟩
 else
 some ⟨B false, [], none⟩
 else
 some ⟨B false, [], none⟩) := by kernel_rfl
/- synoptic/timeline.possible -/
theorem eq_timeline_possible (fu d : Nat) (a0 : List C) :
 cl fu (d + 1) fn_timeline_possible [V.agg a0] [] = (
 need ((((Nat.beq 12 a0.length) && true) && true) && true) <|
 (cl fu d fn_slices_ContainsFunc_sint_int [V.c (C.sl 12 a0), V.c (C.fn fn_timeline_possible_1 ([]))] []).bind fun out =>
 rC out.r fun c =>
 asB c fun b =>
 some ⟨B (!b), [], none⟩) := by kernel_rfl
/- synoptic/element.Validate -/
theorem eq_element_Validate (fu d : Nat) (n0 : Nat) (a0 : List C) :
 cl fu (d + 1) fn_element_Validate [V.c (C.sl n0 a0)] [] = (
 (cl fu d fn_element_Validate_1 [I 4, V.c (C.cp ([C.sl n0 a0]))] []).bind fun out =>
 rC out.r fun c =>
 asB c fun b =>
 bif b then
 some ⟨I 4, [], none⟩
 else
 (cl fu d fn_element_Validate_1 [I 1, V.c (C.cp ([C.sl n0 a0]))] []).bind fun out1 =>
 rC out1.r fun c1 =>
 asB c1 fun b1 =>
 bif b1 then
 some ⟨I 1, [], none⟩
 else
 (iter (fun (y : Int × Int × Unit) =>
 bif decide (y.2.1 < ((n0 : Nat) : Int)) then
 need (inR (IntKind.i64.wrap (y.2.1 - 1)) n0) <|
 unc (List.drop (((IntKind.i64.wrap (y.2.1 - 1)).toNat) * 2) a0) fun c2 _ =>
 asI .i64 c2 fun i =>
 need (inR y.2.1 n0) <|
 unc (List.drop (y.2.1.toNat * 2) a0) fun c3 _ =>
 asI .i64 c3 fun i1 =>
 bif decide (i ≥ i1) then
 some (2, (8, y.2.1, ()))
 else
 some (0, (y.1, IntKind.i64.wrap (y.2.1 + 1), ()))
 else
 some (1, (y.1, y.2.1, ()))) fu (0, 1, ())).bind fun p =>
 natD p.1 (
 some ⟨I 0, [], none⟩) fun m =>
 some ⟨I p.2.1, [], none⟩) := by kernel_rfl
/- slices.ContainsFunc[[]synoptic/api.Report,synoptic/api.Report] -/
theorem eq_slices_ContainsFunc_sapi_Report_api_Report (fu d : Nat) (n0 : Nat) (a0 : List C) (k1 : Nat) :
 cl fu (d + 1) fn_slices_ContainsFunc_sapi_Report_api_Report [V.c (C.sl n0 a0), V.c (C.fn k1 ([]))] [] = (
 (cl fu d fn_slices_IndexFunc_sapi_Report_api_Report [V.c (C.sl n0 a0), V.c (C.fn k1 ([]))] []).bind fun out =>
 rC out.r fun c =>
 asI .i64 c fun i =>
 some ⟨B (decide (i ≥ 0)), [], none⟩) := by kernel_rfl
/- synoptic/timeline.examine$1 -/
theorem eq_timeline_examine_1 (fu d : Nat) (a0_0 : Int) (a0_1 : ByteArray) (a0_2 : Int) (a0_3 : Int) (a0_4 : Int) (a0_5 : Int) (a0_6 : Int) (a0_7 : C) :
 cl fu (d + 1) fn_timeline_examine_1 [V.agg ([C.v (.int .i64 a0_0), C.v (.string a0_1), C.v (.int .i64 a0_2), C.v (.int .i64 a0_3), C.v (.int .i64 a0_4), C.v (.int .i64 a0_5), C.v (.int .i64 a0_6), a0_7])] [] = (
 bif decide (a0_2 < 0) then
 some ⟨B true, [], none⟩
 else
 some ⟨B (decide (a0_2 > 52595999)), [], none⟩) := by kernel_rfl
/- synoptic/timeline.slow -/
theorem eq_timeline_slow (fu d : Nat) (a0_0 : Int) (a0_1 : Int) (a0_2 : Int) (a1_0 : Int) (a1_1 : Int) (a1_2 : Int) (a2 : Int) :
 cl fu (d + 1) fn_timeline_slow [V.agg ([C.v (.int .i64 a0_0), C.v (.int .i64 a0_1), C.v (.int .i64 a0_2)]), V.agg ([C.v (.int .i64 a1_0), C.v (.int .i64 a1_1), C.v (.int .i64 a1_2)]), I a2] [] = (
 (cl fu d fn_timeline_size [V.agg ([C.v (.int .i64 a0_0), C.v (.int .i64 a0_1), C.v (.int .i64 a0_2)]), V.agg ([C.v (.int .i64 a1_0), C.v (.int .i64 a1_1), C.v (.int .i64 a1_2)])] []).bind fun out =>
 rC out.r fun c =>
 asI .i64 c fun i =>
 bd (IntKind.i64.wrap (a2 * (IntKind.i64.wrap (Int.tdiv (IntKind.i64.wrap ((IntKind.i64.wrap ((IntKind.i64.wrap (a1_1 - a0_1)) + 60)) - 1)) 60)))) fun z =>
 some ⟨B (decide (i ≤ z)), [], none⟩) := by kernel_rfl
/- synoptic/timeline.size -/
theorem eq_timeline_size (fu d : Nat) (a0_0 : Int) (a0_1 : Int) (a0_2 : Int) (a1_0 : Int) (a1_1 : Int) (a1_2 : Int) :
 cl fu (d + 1) fn_timeline_size [V.agg ([C.v (.int .i64 a0_0), C.v (.int .i64 a0_1), C.v (.int .i64 a0_2)]), V.agg ([C.v (.int .i64 a1_0), C.v (.int .i64 a1_1), C.v (.int .i64 a1_2)])] [] = (
 bd (if IntKind.i64.wrap (a1_2 - a0_2) > IntKind.i64.wrap (a0_2 - a1_2) then IntKind.i64.wrap (a1_2 - a0_2) else IntKind.i64.wrap (a0_2 - a1_2)) fun z =>
 some ⟨I z, [], none⟩) := by kernel_rfl
/- slices.ContainsFunc[[]int,int] -/
theorem eq_slices_ContainsFunc_sint_int (fu d : Nat) (n0 : Nat) (a0 : List C) (k1 : Nat) :
 cl fu (d + 1) fn_slices_ContainsFunc_sint_int [V.c (C.sl n0 a0), V.c (C.fn k1 ([]))] [] = (
 (cl fu d fn_slices_IndexFunc_sint_int [V.c (C.sl n0 a0), V.c (C.fn k1 ([]))] []).bind fun out =>
 rC out.r fun c =>
 asI .i64 c fun i =>
 some ⟨B (decide (i ≥ 0)), [], none⟩) := by kernel_rfl
/- synoptic/timeline.possible$1 -/
theorem eq_timeline_possible_1 (fu d : Nat) (a0 : Int) :
 cl fu (d + 1) fn_timeline_possible_1 [I a0] [] = (
 bif decide (a0 < 0) then
 some ⟨B true, [], none⟩
 else
 some ⟨B (decide (a0 > 10000)), [], none⟩) := by kernel_rfl
/- synoptic/element.Validate$1 -/
theorem eq_element_Validate_1 (fu d : Nat) (a0 : Int) (e0 : List C) :
 cl fu (d + 1) fn_element_Validate_1 [I a0, V.c (C.cp e0)] [] = (
 unc e0 fun c r =>
 need (noYl [V.c (nrm c)]) <|
 (cl fu d fn_slices_ContainsFunc_sapi_Reading_api_Reading [V.c (nrm c), V.c (C.fn fn_element_Validate_1_1 ([C.cp ([C.v (.int .i64 a0)])]))] []).bind fun out =>
 rC out.r fun c1 =>
 asB c1 fun b =>
 some ⟨B b, [], none⟩) := by kernel_rfl
/- slices.ContainsFunc[[]synoptic/api.Reading,synoptic/api.Reading] -/
theorem eq1_slices_ContainsFunc_sapi_Reading_api_Reading (fu d : Nat) (n0 : Nat) (a0 : List C) (k1 : Nat) (a1_0 : C) :
 cl fu (d + 1) fn_slices_ContainsFunc_sapi_Reading_api_Reading [V.c (C.sl n0 a0), V.c (C.fn k1 ([a1_0]))] [] = (
 (cl fu d fn_slices_IndexFunc_sapi_Reading_api_Reading [V.c (C.sl n0 a0), V.c (C.fn k1 ([a1_0]))] []).bind fun out =>
 rC out.r fun c =>
 asI .i64 c fun i =>
 some ⟨B (decide (i ≥ 0)), [], none⟩) := by kernel_rfl
/- synoptic/element.Validate$1$1 -/
theorem eq_element_Validate_1_1 (fu d : Nat) (a0_0 : Int) (a0_1 : Int) (e0 : List C) :
 cl fu (d + 1) fn_element_Validate_1_1 [V.agg ([C.v (.int .i64 a0_0), C.v (.int .i64 a0_1)]), V.c (C.cp e0)] [] = (
 (cl fu d fn_element_check [V.agg ([C.v (.int .i64 a0_0), C.v (.int .i64 a0_1)])] []).bind fun out =>
 rC out.r fun c =>
 asI .i64 c fun i =>
 unc e0 fun c1 _ =>
 asI .i64 c1 fun i1 =>
 some ⟨B (i == i1), [], none⟩) := by kernel_rfl
/- synoptic/element.check -/
theorem eq_element_check (fu d : Nat) (a0_0 : Int) (a0_1 : Int) :
 cl fu (d + 1) fn_element_check [V.agg ([C.v (.int .i64 a0_0), C.v (.int .i64 a0_1)])] [] = (
 (cl fu d fn_element_Describe [I a0_0] []).bind fun out =>
 rT out.r fun xs =>
 uncV xs fun x ys =>
 rA x fun cs =>
 need (Nat.beq cs.length 4) <|
 unc cs fun c r =>
 asS c fun s =>
 unc r fun c1 r1 =>
 asI .i64 c1 fun i =>
 unc r1 fun c2 r2 =>
 asI .i64 c2 fun i1 =>
 unc r2 fun c3 _ =>
 asI .i64 c3 fun i2 =>
 uncV ys fun x1 ys1 =>
 rC x1 fun c4 =>
 asI .i64 c4 fun i3 =>
 nilV ys1 <|
 bif i3 == 0 then
 bif decide (a0_1 < i) then
 some ⟨I 1, [], none⟩
 else
 bif decide (a0_1 > i1) then
 some ⟨I 1, [], none⟩
 else
 some ⟨I i3, [], none⟩
 else
 some ⟨I i3, [], none⟩) := by kernel_rfl
/- slices.IndexFunc[[]synoptic/api.Report,synoptic/api.Report] -/
theorem eq_slices_IndexFunc_sapi_Report_api_Report (fu d : Nat) (n0 : Nat) (a0 : List C) (k1 : Nat) :
 cl fu (d + 1) fn_slices_IndexFunc_sapi_Report_api_Report [V.c (C.sl n0 a0), V.c (C.fn k1 ([]))] [] = (
 (iter (fun (y : Int × Int × Unit) =>
 bif decide (y.2.1 < ((n0 : Nat) : Int)) then
 need (inR y.2.1 n0) <|
 unc (List.drop (y.2.1.toNat * 8) a0) fun c r =>
 asI .i64 c fun i =>
 unc r fun c1 r1 =>
 asS c1 fun s =>
 unc r1 fun c2 r2 =>
 asI .i64 c2 fun i1 =>
 unc r2 fun c3 r3 =>
 asI .i64 c3 fun i2 =>
 unc r3 fun c4 r4 =>
 asI .i64 c4 fun i3 =>
 unc r4 fun c5 r5 =>
 asI .i64 c5 fun i4 =>
 unc r5 fun c6 r6 =>
 asI .i64 c6 fun i5 =>
 unc r6 fun c7 _ =>
 (cl fu d k1 [V.agg ([C.v (.int .i64 i), C.v (.string s), C.v (.int .i64 i1), C.v (.int .i64 i2), C.v (.int .i64 i3), C.v (.int .i64 i4), C.v (.int .i64 i5), c7])] []).bind fun out =>
 rC out.r fun c8 =>
 asB c8 fun b =>
 bif b then
 some (2, (y.2.1, y.2.1, ()))
 else
 some (0, (y.1, IntKind.i64.wrap (y.2.1 + 1), ()))
 else
 some (1, (y.1, y.2.1, ()))) fu (0, 0, ())).bind fun p =>
 natD p.1 (
 some ⟨I (-1), [], none⟩) fun m =>
 some ⟨I p.2.1, [], none⟩) := by kernel_rfl
/- slices.IndexFunc[[]int,int] -/
theorem eq_slices_IndexFunc_sint_int (fu d : Nat) (n0 : Nat) (a0 : List C) (k1 : Nat) :
 cl fu (d + 1) fn_slices_IndexFunc_sint_int [V.c (C.sl n0 a0), V.c (C.fn k1 ([]))] [] = (
 (iter (fun (y : Int × Int × Unit) =>
 bif decide (y.2.1 < ((n0 : Nat) : Int)) then
 need (inR y.2.1 n0) <|
 unc (List.drop (y.2.1.toNat * 1) a0) fun c r =>
 asI .i64 c fun i =>
 (cl fu d k1 [I i] []).bind fun out =>
 rC out.r fun c1 =>
 asB c1 fun b =>
 bif b then
 some (2, (y.2.1, y.2.1, ()))
 else
 some (0, (y.1, IntKind.i64.wrap (y.2.1 + 1), ()))
 else
 some (1, (y.1, y.2.1, ()))) fu (0, 0, ())).bind fun p =>
 natD p.1 (
 some ⟨I (-1), [], none⟩) fun m =>
 some ⟨I p.2.1, [], none⟩) := by kernel_rfl
/- slices.IndexFunc[[]synoptic/api.Reading,synoptic/api.Reading] -/
theorem eq1_slices_IndexFunc_sapi_Reading_api_Reading (fu d : Nat) (n0 : Nat) (a0 : List C) (k1 : Nat) (a1_0 : C) :
 cl fu (d + 1) fn_slices_IndexFunc_sapi_Reading_api_Reading [V.c (C.sl n0 a0), V.c (C.fn k1 ([a1_0]))] [] = (
 (iter (fun (y : Int × Int × Unit) =>
 bif decide (y.2.1 < ((n0 : Nat) : Int)) then
 need (inR y.2.1 n0) <|
 unc (List.drop (y.2.1.toNat * 2) a0) fun c r =>
 asI .i64 c fun i =>
 unc r fun c1 _ =>
 asI .i64 c1 fun i1 =>
 (cl fu d k1 [V.agg ([C.v (.int .i64 i), C.v (.int .i64 i1)]), V.c a1_0] []).bind fun out =>
 rC out.r fun c2 =>
 asB c2 fun b =>
 bif b then
 some (2, (y.2.1, y.2.1, ()))
 else
 some (0, (y.1, IntKind.i64.wrap (y.2.1 + 1), ()))
 else
 some (1, (y.1, y.2.1, ()))) fu (0, 0, ())).bind fun p =>
 natD p.1 (
 some ⟨I (-1), [], none⟩) fun m =>
 some ⟨I p.2.1, [], none⟩) := by kernel_rfl
/- synoptic/element.Describe -/
theorem eq_element_Describe (fu d : Nat) (a0 : Int) :
 cl fu (d + 1) fn_element_Describe [I a0] [] = (
 bif decide (a0 < 1) then
 some ⟨V.tup [V.agg ([C.v (.string (⟨#[]⟩)), C.v (.int .i64 0), C.v (.int .i64 0), C.v (.int .i64 0)]), I 4], [], none⟩
 else
 bif decide (a0 > 11) then
 some ⟨V.tup [V.agg ([C.v (.string (⟨#[]⟩)), C.v (.int .i64 0), C.v (.int .i64 0), C.v (.int .i64 0)]), I 4], [], none⟩
 else
 need (inR (IntKind.i64.wrap (a0 - 1)) 11) <|
 need (Nat.ble 2 ((List.drop (((IntKind.i64.wrap (a0 - 1)).toNat) * 2) gl_element_bounds).length)) <|
 need ((((Nat.beq ((List.take 2 (List.drop (((IntKind.i64.wrap (a0 - 1)).toNat) * 2) gl_element_bounds)).length) 2) && true) && (Nat.ble (0 + ((List.take 2 (List.drop (((IntKind.i64.wrap (a0 - 1)).toNat) * 2) gl_element_bounds)).length)) 2)) && true) <|
 need (inR (IntKind.i64.wrap (a0 - 1)) (⟨#[80, 84, 68, 69, 78, 65, 66, 70, 71, 74, 75]⟩ : ByteArray).size) <|
 bd (((⟨#[80, 84, 68, 69, 78, 65, 66, 70, 71, 74, 75]⟩ : ByteArray).data.getD ((IntKind.i64.wrap (a0 - 1)).toNat) 0).toNat : Int) fun z =>
 unc (putAt ([C.v (.int .i64 0), C.v (.int .i64 0)]) 0 (List.take 2 (List.drop (((IntKind.i64.wrap (a0 - 1)).toNat) * 2) gl_element_bounds))) fun c _ =>
 asI .i64 c fun i =>
 unc (List.drop 1 (putAt ([C.v (.int .i64 0), C.v (.int .i64 0)]) 0 (List.take 2 (List.drop (((IntKind.i64.wrap (a0 - 1)).toNat) * 2) gl_element_bounds)))) fun c1 _ =>
 asI .i64 c1 fun i1 =>
 bif a0 == 1 then
 some ⟨V.tup [V.agg ([C.v (.string (Utf8.encode z)), C.v (.int .i64 i), C.v (.int .i64 i1), C.v (.int .i64 5)]), I 0], [], none⟩
 else
 some ⟨V.tup [V.agg ([C.v (.string (Utf8.encode z)), C.v (.int .i64 i), C.v (.int .i64 i1), C.v (.int .i64 4)]), I 0], [], none⟩) := by kernel_rfl
end Go.Proofs.YthblmpoheobcbaaDoor
