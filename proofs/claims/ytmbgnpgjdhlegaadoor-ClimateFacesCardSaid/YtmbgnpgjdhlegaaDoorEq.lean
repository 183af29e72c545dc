/- What the program's functions come to. -/
import Derived.Test.YtmbgnpgjdhlegaaDoorLay
set_option linter.unusedVariables false
set_option linter.unusedSimpArgs false
namespace Go.Proofs.YtmbgnpgjdhlegaaDoor
open Go Go.PM
set_option maxRecDepth 100000
/- synoptic/synopticlaw13.ClimateFaces -/
theorem eq_synopticlaw13_ClimateFaces (fu d : Nat) (n0 : Nat) (a0 : List C) :
 cl fu (d + 1) fn_synopticlaw13_ClimateFaces [V.c (C.sl n0 a0)] [] = (
 (cl fu d fn_synoptickeep_New [V.c (C.sl n0 a0)] []).bind fun out =>
 rP out.r 0 <|
 uncO out.objs fun o os =>
 rN o ty_synoptickeep_Src 2 fun cs =>
 unc cs fun c r =>
 unc r fun c1 _ =>
 asI .i64 c1 fun i =>
 (cl fu d fn_synopticdata_Minute [V.ptr 1000000 0] [.ob ty_synoptickeep_Src 0 ([c, C.v (.int .i64 i)])]).bind fun out1 =>
 uncO out1.objs fun o1 os1 =>
 rO o1 ty_synoptickeep_Src 0 fun cs1 =>
 need ((Nat.beq cs1.length 2) && true) <|
 unc cs1 fun c2 r2 =>
 unc r2 fun c3 _ =>
 asI .i64 c3 fun i1 =>
 rC out1.r fun c4 =>
 asI .i64 c4 fun i2 =>
 (cl fu d fn_synopticdata_Placed [V.ptr 1000000 0, I 4, I i2] [.ob ty_synoptickeep_Src 0 ([c2, C.v (.int .i64 i1)])]).bind fun out2 =>
 uncO out2.objs fun o2 os2 =>
 rO o2 ty_synoptickeep_Src 0 fun cs2 =>
 need ((Nat.beq cs2.length 2) && true) <|
 unc cs2 fun c5 r4 =>
 unc r4 fun c6 _ =>
 asI .i64 c6 fun i3 =>
 rW out2.r 1 fun n =>
 uncO os2 fun o3 os3 =>
 rS o3 ty_api_Report 0 fun cs3 =>
 need ((Nat.beq (n * 8) cs3.length) && true) <|
 (cl fu d fn_synopticdata_Placed [V.ptr 1000000 0, I 4, I i2] [.ob ty_synoptickeep_Src 0 ([c5, C.v (.int .i64 i3)])]).bind fun out3 =>
 uncO out3.objs fun o4 os4 =>
 rO o4 ty_synoptickeep_Src 0 fun cs4 =>
 need ((Nat.beq cs4.length 2) && true) <|
 unc cs4 fun c7 r6 =>
 unc r6 fun c8 _ =>
 asI .i64 c8 fun i4 =>
 rW out3.r 1 fun n1 =>
 uncO os4 fun o5 os5 =>
 rS o5 ty_api_Report 0 fun cs5 =>
 need ((Nat.beq (n1 * 8) cs5.length) && true) <|
 need (((Nat.beq (n * 8) cs3.length) && true) && true) <|
 need (((Nat.beq (n1 * 8) cs5.length) && true) && true) <|
 (iter (fun (y : List C × List C × Int × (C × Int × Unit) × Unit) =>
 bif decide (y.2.2.1 < ((n : Nat) : Int)) then
 (cl fu d fn_synoptickeep_Src_N [V.ptr 1000000 0, I 10] [.ob ty_synoptickeep_Src 0 ([y.2.2.2.1.1, C.v (.int .i64 y.2.2.2.1.2.1)])]).bind fun out4 =>
 uncO out4.objs fun o6 os6 =>
 rO o6 ty_synoptickeep_Src 0 fun cs6 =>
 need ((Nat.beq cs6.length 2) && true) <|
 unc cs6 fun c9 r8 =>
 unc r8 fun c10 _ =>
 asI .i64 c10 fun i5 =>
 rC out4.r fun c11 =>
 asI .i64 c11 fun i6 =>
 need (inR y.2.2.1 (y.1.length / 8)) <|
 need (((Nat.ble 0 ((0 + (y.2.2.1.toNat * 8)) + 3)) && (Nat.ble (((0 + (y.2.2.1.toNat * 8)) + 3) + 4) y.1.length)) && true) <|
 bd (putAt y.1 ((0 + (y.2.2.1.toNat * 8)) + 3) ([C.v (.int .i64 (IntKind.i64.wrap (2 * i6))), C.v (.int .i64 280), C.v (.int .i64 280), C.v (.int .i64 280)])) fun cs7 =>
 need (((Nat.beq ((y.1.length / 8) * 8) cs7.length) && true) && true) <|
 need (((Nat.beq ((y.2.1.length / 8) * 8) y.2.1.length) && true) && true) <|
 some (0, (cs7, y.2.1, IntKind.i64.wrap (y.2.2.1 + 1), (c9, i5, ()), ()))
 else
 need (((Nat.beq ((y.1.length / 8) * 8) y.1.length) && true) && true) <|
 need (((Nat.beq ((y.2.1.length / 8) * 8) y.2.1.length) && true) && true) <|
 some (1, (y.1, y.2.1, y.2.2.1, (y.2.2.2.1.1, y.2.2.2.1.2.1, ()), ()))) fu (cs3, cs5, 0, (c7, i4, ()), ())).bind fun p =>
 need (Nat.ble (0 + ((p.2.1.length / 8) * 8)) p.2.1.length) <|
 need (((Nat.beq ((p.2.2.1.length / 8) * 8) p.2.2.1.length) && true) && true) <|
 (iter (fun (y1 : List C × Int × (C × Int × Unit) × Unit) =>
 bif decide (y1.2.1 < ((p.2.2.1.length / 8 : Nat) : Int)) then
 (cl fu d fn_synoptickeep_Src_N [V.ptr 1000000 0, I 10] [.ob ty_synoptickeep_Src 0 ([y1.2.2.1.1, C.v (.int .i64 y1.2.2.1.2.1)])]).bind fun out5 =>
 uncO out5.objs fun o7 os7 =>
 rO o7 ty_synoptickeep_Src 0 fun cs8 =>
 need ((Nat.beq cs8.length 2) && true) <|
 unc cs8 fun c12 r10 =>
 unc r10 fun c13 _ =>
 asI .i64 c13 fun i7 =>
 rC out5.r fun c14 =>
 asI .i64 c14 fun i8 =>
 need (inR y1.2.1 (y1.1.length / 8)) <|
 need (((Nat.ble 0 ((0 + (y1.2.1.toNat * 8)) + 3)) && (Nat.ble (((0 + (y1.2.1.toNat * 8)) + 3) + 4) y1.1.length)) && true) <|
 bd (putAt y1.1 ((0 + (y1.2.1.toNat * 8)) + 3) ([C.v (.int .i64 (IntKind.i64.wrap (1 + (IntKind.i64.wrap (2 * i8))))), C.v (.int .i64 280), C.v (.int .i64 280), C.v (.int .i64 280)])) fun cs9 =>
 need (((Nat.beq ((y1.1.length / 8) * 8) cs9.length) && true) && true) <|
 some (0, (cs9, IntKind.i64.wrap (y1.2.1 + 1), (c12, i7, ()), ()))
 else
 need (((Nat.beq ((y1.1.length / 8) * 8) y1.1.length) && true) && true) <|
 some (1, (y1.1, y1.2.1, (y1.2.2.1.1, y1.2.2.1.2.1, ()), ()))) fu (p.2.2.1, 0, (p.2.2.2.2.1.1, p.2.2.2.2.1.2.1, ()), ())).bind fun p1 =>
 (cl fu d fn_climate_Learn [V.c (C.sl (p.2.1.length / 8) (List.take ((p.2.1.length / 8) * 8) p.2.1))] []).bind fun out6 =>
 rT out6.r fun xs =>
 uncV xs fun x ys =>
 rA x fun cs10 =>
 need (Nat.beq cs10.length 1) <|
 unc cs10 fun c15 _ =>
 uncV ys fun x1 ys1 =>
 rC x1 fun c16 =>
 asI .i64 c16 fun i9 =>
 nilV ys1 <|
 need (Nat.ble (0 + ((p1.2.1.length / 8) * 8)) p1.2.1.length) <|
 (cl fu d fn_climate_Learn [V.c (C.sl (p1.2.1.length / 8) (List.take ((p1.2.1.length / 8) * 8) p1.2.1))] []).bind fun out7 =>
 rT out7.r fun xs1 =>
 uncV xs1 fun x2 ys2 =>
 rA x2 fun cs11 =>
 need (Nat.beq cs11.length 1) <|
 unc cs11 fun c17 _ =>
 uncV ys2 fun x3 ys3 =>
 rC x3 fun c18 =>
 asI .i64 c18 fun i10 =>
 nilV ys3 <|
 need (Nat.beq ((p.2.1.length / 8) * 8) ((List.take ((p.2.1.length / 8) * 8) p.2.1).length)) <|
 need ((Nat.ble ((0 + (p.2.1.length / 8)) * 88) 140737488355328) && (Nat.ble (0 + (p.2.1.length / 8)) 140737488355328)) <|
 need (Nat.ble (0 + ((p1.2.1.length / 8) * 8)) p1.2.1.length) <|
 need ((((Nat.beq ((0 + (p.2.1.length / 8)) * 8) ((List.take ((p.2.1.length / 8) * 8) p.2.1).length)) && true) && (Nat.ble (((0 + (p.2.1.length / 8)) + (p1.2.1.length / 8)) * 88) 140737488355328)) && (Nat.ble ((0 + (p.2.1.length / 8)) + (p1.2.1.length / 8)) 140737488355328)) <|
 need (Nat.ble (0 + (((0 + (p.2.1.length / 8)) + (p1.2.1.length / 8)) * 8)) (((List.take ((p.2.1.length / 8) * 8) p.2.1) ++ (List.take ((p1.2.1.length / 8) * 8) p1.2.1)).length)) <|
 (cl fu d fn_climate_Learn [V.c (C.sl ((0 + (p.2.1.length / 8)) + (p1.2.1.length / 8)) (List.take (((0 + (p.2.1.length / 8)) + (p1.2.1.length / 8)) * 8) ((List.take ((p.2.1.length / 8) * 8) p.2.1) ++ (List.take ((p1.2.1.length / 8) * 8) p1.2.1))))] []).bind fun out8 =>
 rT out8.r fun xs2 =>
 uncV xs2 fun x4 ys4 =>
 rA x4 fun cs12 =>
 need (Nat.beq cs12.length 1) <|
 unc cs12 fun c19 _ =>
 uncV ys4 fun x5 ys5 =>
 rC x5 fun c20 =>
 asI .i64 c20 fun i11 =>
 nilV ys5 <|
 bif i9 != 0 then
 some ⟨B false, [], none⟩
 else
 bif i10 != 0 then
 some ⟨B false, [], none⟩
 else
 bif i11 != 0 then
 some ⟨B false, [], none⟩
 else
 asSl c19 fun n2 cs13 =>
 asSl c15 fun n3 cs14 =>
 asSl c17 fun n4 cs15 =>
 bif ((n2 : Nat) : Int) != (IntKind.i64.wrap (((n3 : Nat) : Int) + ((n4 : Nat) : Int))) then
 some ⟨B false, [], none⟩
 else
 asSl c19 fun n5 cs16 =>
 (iter (fun (y2 : Bool × Int × Unit) =>
 bif decide (y2.2.1 < ((n5 : Nat) : Int)) then
 asSl c19 fun n6 cs17 =>
 need (inR y2.2.1 n6) <|
 unc (List.drop (y2.2.1.toNat * 5) cs17) fun c21 r15 =>
 asI .i64 c21 fun i12 =>
 unc r15 fun c22 r16 =>
 asI .i64 c22 fun i13 =>
 unc r16 fun c23 r17 =>
 asI .i64 c23 fun i14 =>
 unc r17 fun c24 r18 =>
 asI .i64 c24 fun i15 =>
 unc r18 fun c25 _ =>
 asI .i64 c25 fun i16 =>
 asSl c15 fun n7 cs18 =>
 need (Nat.beq (n7 * 5) cs18.length) <|
 need ((Nat.ble ((0 + n7) * 40) 140737488355328) && (Nat.ble (0 + n7) 140737488355328)) <|
 asSl c17 fun n8 cs19 =>
 need (Nat.beq (n8 * 5) cs19.length) <|
 need ((((Nat.beq ((0 + n7) * 5) cs18.length) && true) && (Nat.ble (((0 + n7) + n8) * 40) 140737488355328)) && (Nat.ble ((0 + n7) + n8) 140737488355328)) <|
 need (((Nat.beq (((0 + n7) + n8) * 5) ((cs18 ++ cs19).length)) && true) && true) <|
 (iter (fun (y3 : Bool × List C × Int × (Int × Int × Int × Int × Int × Unit) × Unit) =>
 bif decide (y3.2.2.1 < (((0 + n7) + n8 : Nat) : Int)) then
 need (inR y3.2.2.1 (y3.2.1.length / 5)) <|
 unc (List.drop (0 + (y3.2.2.1.toNat * 5)) y3.2.1) fun c26 r20 =>
 asI .i64 c26 fun i17 =>
 unc r20 fun c27 r21 =>
 asI .i64 c27 fun i18 =>
 unc r21 fun c28 r22 =>
 asI .i64 c28 fun i19 =>
 unc r22 fun c29 r23 =>
 asI .i64 c29 fun i20 =>
 unc r23 fun c30 _ =>
 asI .i64 c30 fun i21 =>
 bif y3.1 then
 need (((Nat.beq ((y3.2.1.length / 5) * 5) y3.2.1.length) && true) && true) <|
 some (0, (true, y3.2.1, IntKind.i64.wrap (y3.2.2.1 + 1), (y3.2.2.2.1.1, y3.2.2.2.1.2.1, y3.2.2.2.1.2.2.1, y3.2.2.2.1.2.2.2.1, y3.2.2.2.1.2.2.2.2.1, ()), ()))
 else
 bd ((i17 == y3.2.2.2.1.1) && ((i18 == y3.2.2.2.1.2.1) && ((i19 == y3.2.2.2.1.2.2.1) && ((i20 == y3.2.2.2.1.2.2.2.1) && ((i21 == y3.2.2.2.1.2.2.2.2.1) && true))))) fun z =>
 need (((Nat.beq ((y3.2.1.length / 5) * 5) y3.2.1.length) && true) && true) <|
 some (0, (z, y3.2.1, IntKind.i64.wrap (y3.2.2.1 + 1), (y3.2.2.2.1.1, y3.2.2.2.1.2.1, y3.2.2.2.1.2.2.1, y3.2.2.2.1.2.2.2.1, y3.2.2.2.1.2.2.2.2.1, ()), ()))
 else
 need (((Nat.beq ((y3.2.1.length / 5) * 5) y3.2.1.length) && true) && true) <|
 some (1, (y3.1, y3.2.1, y3.2.2.1, (y3.2.2.2.1.1, y3.2.2.2.1.2.1, y3.2.2.2.1.2.2.1, y3.2.2.2.1.2.2.2.1, y3.2.2.2.1.2.2.2.2.1, ()), ()))) fu (false, cs18 ++ cs19, 0, (i12, i13, i14, i15, i16, ()), ())).bind fun p2 =>
 bif !p2.2.1 then
 some (2, (false, y2.2.1, ()))
 else
 some (0, (y2.1, IntKind.i64.wrap (y2.2.1 + 1), ()))
 else
 some (1, (y2.1, y2.2.1, ()))) fu (false, 0, ())).bind fun p3 =>
 natD p3.1 (
 (cl fu d fn_synopticlaw13_awake [] []).bind fun out9 =>
 rC out9.r fun c31 =>
 asB c31 fun b =>
 some ⟨B b, [], none⟩) fun m =>
 some ⟨B p3.2.1, [], none⟩) := by kernel_rfl
/- synoptic/synoptickeep.New -/
theorem eq_synoptickeep_New (fu d : Nat) (n0 : Nat) (a0 : List C) :
 cl fu (d + 1) fn_synoptickeep_New [V.c (C.sl n0 a0)] [] = (
 need ((decide (0 ≤ (if 2000 < ((n0 : Nat) : Int) then 2000 else ((n0 : Nat) : Int)))) && (decide ((if 2000 < ((n0 : Nat) : Int) then 2000 else ((n0 : Nat) : Int)) ≤ ((n0 : Nat) : Int)))) <|
 some ⟨V.ptr 1000000 0, [.ob ty_synoptickeep_Src 0 ([C.sl ((if 2000 < ((n0 : Nat) : Int) then 2000 else ((n0 : Nat) : Int)).toNat) (List.take (((if 2000 < ((n0 : Nat) : Int) then 2000 else ((n0 : Nat) : Int)).toNat) * 1) a0), C.v (.int .i64 0)])], none⟩) := by kernel_rfl
/- synoptic/synopticdata.Minute -/
theorem eq_synopticdata_Minute (fu d : Nat) (a0_0 : C) (a0_1 : Int) :
 cl fu (d + 1) fn_synopticdata_Minute [V.ptr 1000000 0] [.ob ty_synoptickeep_Src 0 ([a0_0, C.v (.int .i64 a0_1)])] = (
 (cl fu d fn_synoptickeep_Src_N [V.ptr 1000000 0, I 6] [.ob ty_synoptickeep_Src 0 ([a0_0, C.v (.int .i64 a0_1)])]).bind fun out =>
 uncO out.objs fun o os =>
 rO o ty_synoptickeep_Src 0 fun cs =>
 need ((Nat.beq cs.length 2) && true) <|
 unc cs fun c r =>
 unc r fun c1 _ =>
 asI .i64 c1 fun i =>
 rC out.r fun c2 =>
 asI .i64 c2 fun i1 =>
 bif i1 == 0 then
 (cl fu d fn_synoptickeep_Src_Raw [V.ptr 1000000 0] [.ob ty_synoptickeep_Src 0 ([c, C.v (.int .i64 i)])]).bind fun out1 =>
 uncO out1.objs fun o1 os1 =>
 rO o1 ty_synoptickeep_Src 0 fun cs1 =>
 need ((Nat.beq cs1.length 2) && true) <|
 unc cs1 fun c3 r2 =>
 unc r2 fun c4 _ =>
 asI .i64 c4 fun i2 =>
 rC out1.r fun c5 =>
 asI .i64 c5 fun i3 =>
 (cl fu d fn_synoptickeep_Src_Raw [V.ptr 1000000 0] [.ob ty_synoptickeep_Src 0 ([c3, C.v (.int .i64 i2)])]).bind fun out2 =>
 uncO out2.objs fun o2 os2 =>
 rO o2 ty_synoptickeep_Src 0 fun cs2 =>
 need ((Nat.beq cs2.length 2) && true) <|
 unc cs2 fun c6 r4 =>
 unc r4 fun c7 _ =>
 asI .i64 c7 fun i4 =>
 rC out2.r fun c8 =>
 asI .i64 c8 fun i5 =>
 (cl fu d fn_synoptickeep_Mod [I (IntKind.i64.wrap ((IntKind.i64.wrap (i3 * 7919)) + i5)), I 52596000] []).bind fun out3 =>
 rC out3.r fun c9 =>
 asI .i64 c9 fun i6 =>
 some ⟨I i6, [.ob ty_synoptickeep_Src 0 ([c6, C.v (.int .i64 i4)])], none⟩
 else
 bif i1 == 1 then
 (cl fu d fn_synoptickeep_Src_Pick [V.ptr 1000000 0, V.c (C.sl 4 ([C.v (.int .i64 0), C.v (.int .i64 52595999), C.v (.int .i64 20160), C.v (.int .i64 52575839)]))] [.ob ty_synoptickeep_Src 0 ([c, C.v (.int .i64 i)])]).bind fun out4 =>
 uncO out4.objs fun o3 os3 =>
 rO o3 ty_synoptickeep_Src 0 fun cs3 =>
 need ((Nat.beq cs3.length 2) && true) <|
 unc cs3 fun c10 r6 =>
 unc r6 fun c11 _ =>
 asI .i64 c11 fun i7 =>
 rC out4.r fun c12 =>
 asI .i64 c12 fun i8 =>
 some ⟨I i8, [.ob ty_synoptickeep_Src 0 ([c10, C.v (.int .i64 i7)])], none⟩
 else
 (cl fu d fn_synoptickeep_Src_N [V.ptr 1000000 0, I 2000] [.ob ty_synoptickeep_Src 0 ([c, C.v (.int .i64 i)])]).bind fun out5 =>
 uncO out5.objs fun o4 os4 =>
 rO o4 ty_synoptickeep_Src 0 fun cs4 =>
 need ((Nat.beq cs4.length 2) && true) <|
 unc cs4 fun c13 r8 =>
 unc r8 fun c14 _ =>
 asI .i64 c14 fun i9 =>
 rC out5.r fun c15 =>
 asI .i64 c15 fun i10 =>
 some ⟨I (IntKind.i64.wrap (14000000 + (IntKind.i64.wrap (i10 * 60)))), [.ob ty_synoptickeep_Src 0 ([c13, C.v (.int .i64 i9)])], none⟩) := by kernel_rfl
/- synoptic/synopticdata.Placed -/
theorem eq_synopticdata_Placed (fu d : Nat) (a0_0 : C) (a0_1 : Int) (a1 : Int) (a2 : Int) :
 cl fu (d + 1) fn_synopticdata_Placed [V.ptr 1000000 0, I a1, I a2] [.ob ty_synoptickeep_Src 0 ([a0_0, C.v (.int .i64 a0_1)])] = (
 (cl fu d fn_synopticdata_Place [V.ptr 1000000 0] [.ob ty_synoptickeep_Src 0 ([a0_0, C.v (.int .i64 a0_1)])]).bind fun out =>
 uncO out.objs fun o os =>
 rO o ty_synoptickeep_Src 0 fun cs =>
 need ((Nat.beq cs.length 2) && true) <|
 unc cs fun c r =>
 unc r fun c1 _ =>
 asI .i64 c1 fun i =>
 rA out.r fun cs1 =>
 need (Nat.beq cs1.length 4) <|
 unc cs1 fun c2 r2 =>
 asI .i64 c2 fun i1 =>
 unc r2 fun c3 r3 =>
 asI .i64 c3 fun i2 =>
 unc r3 fun c4 r4 =>
 asI .i64 c4 fun i3 =>
 unc r4 fun c5 _ =>
 asI .i64 c5 fun i4 =>
 (cl fu d fn_synoptickeep_Src_N [V.ptr 1000000 0, I (IntKind.i64.wrap (a1 + 1))] [.ob ty_synoptickeep_Src 0 ([c, C.v (.int .i64 i)])]).bind fun out1 =>
 uncO out1.objs fun o1 os1 =>
 rO o1 ty_synoptickeep_Src 0 fun cs2 =>
 need ((Nat.beq cs2.length 2) && true) <|
 unc cs2 fun c6 r6 =>
 unc r6 fun c7 _ =>
 asI .i64 c7 fun i5 =>
 rC out1.r fun c8 =>
 asI .i64 c8 fun i6 =>
 (iter (fun (y : List C × Int × (C × Int × Unit) × Unit) =>
 bif decide (y.2.1 > 0) then
 (cl fu d fn_synopticdata_Report [V.ptr 1000000 0, I a2] [.ob ty_synoptickeep_Src 0 ([y.2.2.1.1, C.v (.int .i64 y.2.2.1.2.1)])]).bind fun out2 =>
 uncO out2.objs fun o2 os2 =>
 rO o2 ty_synoptickeep_Src 0 fun cs3 =>
 need ((Nat.beq cs3.length 2) && true) <|
 unc cs3 fun c9 r8 =>
 unc r8 fun c10 _ =>
 asI .i64 c10 fun i7 =>
 rA out2.r fun cs4 =>
 need (Nat.beq cs4.length 8) <|
 unc cs4 fun c11 r10 =>
 asI .i64 c11 fun i8 =>
 unc r10 fun c12 r11 =>
 asS c12 fun s =>
 unc r11 fun c13 r12 =>
 asI .i64 c13 fun i9 =>
 unc r12 fun c14 r13 =>
 asI .i64 c14 fun i10 =>
 unc r13 fun c15 r14 =>
 asI .i64 c15 fun i11 =>
 unc r14 fun c16 r15 =>
 asI .i64 c16 fun i12 =>
 unc r15 fun c17 r16 =>
 asI .i64 c17 fun i13 =>
 unc r16 fun c18 _ =>
 (cl fu d fn_synopticdata_Place [V.ptr 1000000 0] [.ob ty_synoptickeep_Src 0 ([c9, C.v (.int .i64 i7)])]).bind fun out3 =>
 uncO out3.objs fun o3 os3 =>
 rO o3 ty_synoptickeep_Src 0 fun cs5 =>
 need ((Nat.beq cs5.length 2) && true) <|
 unc cs5 fun c19 r18 =>
 unc r18 fun c20 _ =>
 asI .i64 c20 fun i14 =>
 rA out3.r fun cs6 =>
 need (Nat.beq cs6.length 4) <|
 unc cs6 fun c21 r20 =>
 asI .i64 c21 fun i15 =>
 unc r20 fun c22 r21 =>
 asI .i64 c22 fun i16 =>
 unc r21 fun c23 r22 =>
 asI .i64 c23 fun i17 =>
 unc r22 fun c24 _ =>
 asI .i64 c24 fun i18 =>
 (cl fu d fn_synoptickeep_Src_N [V.ptr 1000000 0, I 2] [.ob ty_synoptickeep_Src 0 ([c19, C.v (.int .i64 i14)])]).bind fun out4 =>
 uncO out4.objs fun o4 os4 =>
 rO o4 ty_synoptickeep_Src 0 fun cs7 =>
 need ((Nat.beq cs7.length 2) && true) <|
 unc cs7 fun c25 r24 =>
 unc r24 fun c26 _ =>
 asI .i64 c26 fun i19 =>
 rC out4.r fun c27 =>
 asI .i64 c27 fun i20 =>
 bif i20 == 0 then
 need ((((Nat.beq ((y.1.length / 8) * 8) y.1.length) && true) && (Nat.ble (((y.1.length / 8) + 1) * 88) 140737488355328)) && (Nat.ble ((y.1.length / 8) + 1) 140737488355328)) <|
 bd (y.1 ++ ([C.v (.int .i64 i8), C.v (.string s), C.v (.int .i64 i9), C.v (.int .i64 i1), C.v (.int .i64 i2), C.v (.int .i64 i3), C.v (.int .i64 i4), c18])) fun cs8 =>
 need (((Nat.beq (((y.1.length / 8) + 1) * 8) cs8.length) && true) && true) <|
 some (0, (cs8, IntKind.i64.wrap (y.2.1 - 1), (c25, i19, ()), ()))
 else
 need ((((Nat.beq ((y.1.length / 8) * 8) y.1.length) && true) && (Nat.ble (((y.1.length / 8) + 1) * 88) 140737488355328)) && (Nat.ble ((y.1.length / 8) + 1) 140737488355328)) <|
 bd (y.1 ++ ([C.v (.int .i64 i8), C.v (.string s), C.v (.int .i64 i9), C.v (.int .i64 i15), C.v (.int .i64 i16), C.v (.int .i64 i17), C.v (.int .i64 i18), c18])) fun cs9 =>
 need (((Nat.beq (((y.1.length / 8) + 1) * 8) cs9.length) && true) && true) <|
 some (0, (cs9, IntKind.i64.wrap (y.2.1 - 1), (c25, i19, ()), ()))
 else
 need (((Nat.beq ((y.1.length / 8) * 8) y.1.length) && true) && true) <|
 some (1, (y.1, y.2.1, (y.2.2.1.1, y.2.2.1.2.1, ()), ()))) fu ([], i6, (c6, i5, ()), ())).bind fun p =>
 need (((Nat.ble ((p.2.1.length / 8) * 8) p.2.1.length) && true) && true) <|
 some ⟨V.own 1000001 0 (p.2.1.length / 8), [.ob ty_synoptickeep_Src 0 ([p.2.2.2.1.1, C.v (.int .i64 p.2.2.2.1.2.1)]), .sb ty_api_Report 0 (List.take ((p.2.1.length / 8) * 8) p.2.1)], none⟩) := by kernel_rfl
/- synoptic/climate.Learn -/
theorem eq_climate_Learn (fu d : Nat) (n0 : Nat) (a0 : List C) :
 cl fu (d + 1) fn_climate_Learn [V.c (C.sl n0 a0)] [] = (
 (iter (fun (y : Int × Int × (C × Unit) × (List (List C × List C)) × Unit) =>
 bif decide (y.2.1 < ((n0 : Nat) : Int)) then
 need (inR y.2.1 n0) <|
 unc (List.drop (y.2.1.toNat * 8) a0) fun c r =>
 asI .i64 c fun i =>
 unc r fun c1 r1 =>
 asS c1 fun s =>
 unc r1 fun c2 r2 =>
 asI .i64 c2 fun i1 =>
 unc r2 fun c3 r3 =>
 asI .i64 c3 fun i2 =>
 unc r3 fun c4 r4 =>
 asI .i64 c4 fun i3 =>
 unc r4 fun c5 r5 =>
 asI .i64 c5 fun i4 =>
 unc r5 fun c6 r6 =>
 asI .i64 c6 fun i5 =>
 unc r6 fun c7 _ =>
 (cl fu d fn_place_Normal [V.agg ([C.v (.int .i64 i2), C.v (.int .i64 i3), C.v (.int .i64 i4), C.v (.int .i64 i5)])] []).bind fun out =>
 rT out.r fun xs =>
 uncV xs fun x ys =>
 rA x fun cs =>
 need (Nat.beq cs.length 4) <|
 unc cs fun c8 r8 =>
 asI .i64 c8 fun i6 =>
 unc r8 fun c9 r9 =>
 asI .i64 c9 fun i7 =>
 unc r9 fun c10 r10 =>
 asI .i64 c10 fun i8 =>
 unc r10 fun c11 _ =>
 asI .i64 c11 fun i9 =>
 uncV ys fun x1 ys1 =>
 rC x1 fun c12 =>
 asI .i64 c12 fun i10 =>
 nilV ys1 <|
 (cl fu d fn_clock_Date [I i1] []).bind fun out1 =>
 rT out1.r fun xs1 =>
 uncV xs1 fun x2 ys2 =>
 rA x2 fun cs1 =>
 need (Nat.beq cs1.length 5) <|
 unc cs1 fun c13 r12 =>
 asI .i64 c13 fun i11 =>
 unc r12 fun c14 r13 =>
 asI .i64 c14 fun i12 =>
 unc r13 fun c15 r14 =>
 asI .i64 c15 fun i13 =>
 unc r14 fun c16 r15 =>
 asI .i64 c16 fun i14 =>
 unc r15 fun c17 _ =>
 asI .i64 c17 fun i15 =>
 uncV ys2 fun x3 ys3 =>
 rC x3 fun c18 =>
 asI .i64 c18 fun i16 =>
 nilV ys3 <|
 bif i10 != 0 then
 some (2, (1, y.2.1, (C.nl, ()), y.2.2.2.1, ()))
 else
 bif i16 != 0 then
 some (2, (1, y.2.1, (C.nl, ()), y.2.2.2.1, ()))
 else
 bif !((i6 == i2) && ((i7 == i3) && ((i8 == i4) && ((i9 == i5) && true)))) then
 some (2, (1, y.2.1, (C.nl, ()), y.2.2.2.1, ()))
 else
 need (noYl [V.c (nrm c7)]) <|
 (cl fu d fn_element_Validate [V.c (nrm c7)] []).bind fun out2 =>
 rC out2.r fun c19 =>
 asI .i64 c19 fun i17 =>
 bif i17 != 0 then
 some (2, (i17, y.2.1, (C.nl, ()), y.2.2.2.1, ()))
 else
 asSl c7 fun n cs2 =>
 (iter (fun (y1 : Int × (C × Unit) × (Int × Int × Int × Int × Unit) × (Int × Int × Int × Int × Int × Unit) × (List (List C × List C)) × Unit) =>
 bif decide (y1.1 < ((n : Nat) : Int)) then
 asSl c7 fun n1 cs3 =>
 need (inR y1.1 n1) <|
 unc (List.drop (y1.1.toNat * 2) cs3) fun c20 r17 =>
 asI .i64 c20 fun i18 =>
 unc r17 fun c21 _ =>
 asI .i64 c21 fun i19 =>
 (mfd ty_api_Normal ([C.v (.int .i64 i18), C.v (.int .i64 y1.2.2.1.1), C.v (.int .i64 y1.2.2.2.1.2.1), C.v (.int .i64 0), C.v (.int .i64 0)]) y1.2.2.2.2.1).bind fun q =>
 need ((((Nat.beq ((((orZ q []).length) / 1) * 1) ((orZ q []).length)) && true) && (Nat.ble (((((orZ q []).length) / 1) + 1) * 8) 140737488355328)) && (Nat.ble ((((orZ q []).length) / 1) + 1) 140737488355328)) <|
 need ((((((decide (((entAt q y1.2.2.2.2.1 : Nat) : Int) = ((entAt q y1.2.2.2.2.1 : Nat) : Int))) && true) && true) && true) && (Nat.beq (((((orZ q []).length) / 1) + 1) * 1) (((orZ q []) ++ ([C.v (.int .i64 i19)])).length))) && true) <|
 some (0, (IntKind.i64.wrap (y1.1 + 1), (y1.2.1.1, ()), (y1.2.2.1.1, y1.2.2.1.2.1, y1.2.2.1.2.2.1, y1.2.2.1.2.2.2.1, ()), (y1.2.2.2.1.1, y1.2.2.2.1.2.1, y1.2.2.2.1.2.2.1, y1.2.2.2.1.2.2.2.1, y1.2.2.2.1.2.2.2.2.1, ()), mput y1.2.2.2.2.1 q ([C.v (.int .i64 i18), C.v (.int .i64 y1.2.2.1.1), C.v (.int .i64 y1.2.2.2.1.2.1), C.v (.int .i64 0), C.v (.int .i64 0)]) ((orZ q []) ++ ([C.v (.int .i64 i19)])), ()))
 else
 some (1, (y1.1, (y1.2.1.1, ()), (y1.2.2.1.1, y1.2.2.1.2.1, y1.2.2.1.2.2.1, y1.2.2.1.2.2.2.1, ()), (y1.2.2.2.1.1, y1.2.2.2.1.2.1, y1.2.2.2.1.2.2.1, y1.2.2.2.1.2.2.2.1, y1.2.2.2.1.2.2.2.2.1, ()), y1.2.2.2.2.1, ()))) fu (0, (y.2.2.1.1, ()), (i6, i7, i8, i9, ()), (i11, i12, i13, i14, i15, ()), y.2.2.2.1, ())).bind fun p =>
 some (0, (y.1, IntKind.i64.wrap (y.2.1 + 1), (p.2.2.1.1, ()), p.2.2.2.2.2.1, ()))
 else
 some (1, (y.1, y.2.1, (y.2.2.1.1, ()), y.2.2.2.1, ()))) fu (0, 0, (C.nl, ()), [], ())).bind fun p1 =>
 natD p1.1 (
 bif decide (((p1.2.2.2.2.1.length : Nat) : Int) > 200) then
 some ⟨V.tup [V.agg ([C.nl]), I 2], [], none⟩
 else
 perms (List.map (fun (q : List C × List C) => (q.1, [C.sl (q.2.length / 1) q.2])) p1.2.2.2.2.1) fun es =>
 (overK (fun (e : List C × List C) (y2 : (C × Unit) × (List C × Unit) × Unit) =>
 need (Nat.beq e.1.length 5) <|
 unc e.1 fun c22 r19 =>
 asI .i64 c22 fun i20 =>
 unc r19 fun c23 r20 =>
 asI .i64 c23 fun i21 =>
 unc r20 fun c24 r21 =>
 asI .i64 c24 fun i22 =>
 unc r21 fun c25 r22 =>
 asI .i64 c25 fun i23 =>
 unc r22 fun c26 _ =>
 asI .i64 c26 fun i24 =>
 need (Nat.beq e.2.length 1) <|
 unc e.2 fun c27 _ =>
 (cl fu d fn_climate_learned [V.agg ([C.v (.int .i64 i20), C.v (.int .i64 i21), C.v (.int .i64 i22), C.v (.int .i64 i23), C.v (.int .i64 i24)]), V.c (nrm c27)] []).bind fun out3 =>
 rA out3.r fun cs4 =>
 need (Nat.beq cs4.length 5) <|
 unc cs4 fun c28 r25 =>
 asI .i64 c28 fun i25 =>
 unc r25 fun c29 r26 =>
 asI .i64 c29 fun i26 =>
 unc r26 fun c30 r27 =>
 asI .i64 c30 fun i27 =>
 unc r27 fun c31 r28 =>
 asI .i64 c31 fun i28 =>
 unc r28 fun c32 _ =>
 asI .i64 c32 fun i29 =>
 need ((((Nat.beq ((y2.2.1.1.length / 5) * 5) y2.2.1.1.length) && true) && (Nat.ble (((y2.2.1.1.length / 5) + 1) * 40) 140737488355328)) && (Nat.ble ((y2.2.1.1.length / 5) + 1) 140737488355328)) <|
 need (((Nat.beq (((y2.2.1.1.length / 5) + 1) * 5) ((y2.2.1.1 ++ ([C.v (.int .i64 i25), C.v (.int .i64 i26), C.v (.int .i64 i27), C.v (.int .i64 i28), C.v (.int .i64 i29)])).length)) && true) && true) <|
 some (0, ((y2.1.1, ()), (y2.2.1.1 ++ ([C.v (.int .i64 i25), C.v (.int .i64 i26), C.v (.int .i64 i27), C.v (.int .i64 i28), C.v (.int .i64 i29)]), ()), ()))) es ((p1.2.2.2.1.1, ()), ([], ()), ())).bind fun p2 =>
 natD p2.1 (
 (cl fu d fn_slices_SortFunc_sapi_Normal_api_Normal [V.own 1000000 0 (p2.2.2.1.1.length / 5), V.c (C.fn fn_climate_compare ([]))] [.sb ty_api_Normal 0 p2.2.2.1.1]).bind fun out4 =>
 uncO out4.objs fun o os =>
 rS o ty_api_Normal 0 fun cs5 =>
 need (Nat.beq cs5.length p2.2.2.1.1.length) <|
 need (Nat.ble (0 + ((p2.2.2.1.1.length / 5) * 5)) cs5.length) <|
 some ⟨V.tup [V.agg ([C.sl (p2.2.2.1.1.length / 5) (List.take ((p2.2.2.1.1.length / 5) * 5) cs5)]), I 0], [], none⟩) fun m1 =>
 (cl fu d fn_slices_SortFunc_sapi_Normal_api_Normal [V.own 1000000 0 (p2.2.2.1.1.length / 5), V.c (C.fn fn_climate_compare ([]))] [.sb ty_api_Normal 0 p2.2.2.1.1]).bind fun out5 =>
 uncO out5.objs fun o1 os1 =>
 rS o1 ty_api_Normal 0 fun cs6 =>
 need (Nat.beq cs6.length p2.2.2.1.1.length) <|
 need (Nat.ble (0 + ((p2.2.2.1.1.length / 5) * 5)) cs6.length) <|
 some ⟨V.tup [V.agg ([C.sl (p2.2.2.1.1.length / 5) (List.take ((p2.2.2.1.1.length / 5) * 5) cs6)]), I 0], [], none⟩) fun m =>
 some ⟨V.tup [V.agg ([p1.2.2.2.1.1]), I p1.2.1], [], none⟩) := by kernel_rfl
/- synoptic/climate.Validate -/
theorem eq_climate_Validate (fu d : Nat) (a0_0 : C) :
 cl fu (d + 1) fn_climate_Validate [V.agg ([a0_0])] [] = (
 asSl a0_0 fun n cs =>
 bif decide (((n : Nat) : Int) > 200) then
 some ⟨I 2, [], none⟩
 else
 need (noYl [V.c (nrm a0_0)]) <|
 (cl fu d fn_slices_ContainsFunc_sapi_Normal_api_Normal [V.c (nrm a0_0), V.c (C.fn fn_climate_Validate_1 ([]))] []).bind fun out =>
 rC out.r fun c =>
 asB c fun b =>
 bif b then
 some ⟨I 4, [], none⟩
 else
 need (noYl [V.c (nrm a0_0)]) <|
 (cl fu d fn_slices_ContainsFunc_sapi_Normal_api_Normal [V.c (nrm a0_0), V.c (C.fn fn_climate_Validate_2 ([]))] []).bind fun out1 =>
 rC out1.r fun c1 =>
 asB c1 fun b1 =>
 bif b1 then
 some ⟨I 1, [], none⟩
 else
 (iter (fun (y : Int × Int × Unit) =>
 asSl a0_0 fun n1 cs1 =>
 bif decide (y.2.1 < ((n1 : Nat) : Int)) then
 asSl a0_0 fun n2 cs2 =>
 need (inR (IntKind.i64.wrap (y.2.1 - 1)) n2) <|
 unc (List.drop (((IntKind.i64.wrap (y.2.1 - 1)).toNat) * 5) cs2) fun c2 r =>
 asI .i64 c2 fun i =>
 unc r fun c3 r1 =>
 asI .i64 c3 fun i1 =>
 unc r1 fun c4 r2 =>
 asI .i64 c4 fun i2 =>
 unc r2 fun c5 r3 =>
 asI .i64 c5 fun i3 =>
 unc r3 fun c6 _ =>
 asI .i64 c6 fun i4 =>
 asSl a0_0 fun n3 cs3 =>
 need (inR y.2.1 n3) <|
 unc (List.drop (y.2.1.toNat * 5) cs3) fun c7 r5 =>
 asI .i64 c7 fun i5 =>
 unc r5 fun c8 r6 =>
 asI .i64 c8 fun i6 =>
 unc r6 fun c9 r7 =>
 asI .i64 c9 fun i7 =>
 unc r7 fun c10 r8 =>
 asI .i64 c10 fun i8 =>
 unc r8 fun c11 _ =>
 asI .i64 c11 fun i9 =>
 (cl fu d fn_climate_compare [V.agg ([C.v (.int .i64 i), C.v (.int .i64 i1), C.v (.int .i64 i2), C.v (.int .i64 i3), C.v (.int .i64 i4)]), V.agg ([C.v (.int .i64 i5), C.v (.int .i64 i6), C.v (.int .i64 i7), C.v (.int .i64 i8), C.v (.int .i64 i9)])] []).bind fun out2 =>
 rC out2.r fun c12 =>
 asI .i64 c12 fun i10 =>
 bif decide (i10 ≥ 0) then
 some (2, (8, y.2.1, ()))
 else
 some (0, (y.1, IntKind.i64.wrap (y.2.1 + 1), ()))
 else
 some (1, (y.1, y.2.1, ()))) fu (0, 1, ())).bind fun p =>
 natD p.1 (
 some ⟨I 0, [], none⟩) fun m =>
 some ⟨I p.2.1, [], none⟩) := by kernel_rfl
/- synoptic/climate.Lookup -/
theorem eq_climate_Lookup (fu d : Nat) (a0_0 : C) (a1 : Int) (a2_0 : Int) (a2_1 : Int) (a2_2 : Int) (a2_3 : Int) (a3 : Int) :
 cl fu (d + 1) fn_climate_Lookup [V.agg ([a0_0]), I a1, V.agg ([C.v (.int .i64 a2_0), C.v (.int .i64 a2_1), C.v (.int .i64 a2_2), C.v (.int .i64 a2_3)]), I a3] [] = (
 (cl fu d fn_climate_Validate [V.agg ([a0_0])] []).bind fun out =>
 rC out.r fun c =>
 asI .i64 c fun i =>
 bif i != 0 then
 some ⟨V.tup [V.agg ([C.v (.int .i64 0), C.v (.int .i64 0), C.v (.int .i64 0), C.v (.int .i64 0), C.v (.int .i64 0)]), I i], [], none⟩
 else
 (cl fu d fn_place_Normal [V.agg ([C.v (.int .i64 a2_0), C.v (.int .i64 a2_1), C.v (.int .i64 a2_2), C.v (.int .i64 a2_3)])] []).bind fun out1 =>
 rT out1.r fun xs =>
 uncV xs fun x ys =>
 rA x fun cs =>
 need (Nat.beq cs.length 4) <|
 unc cs fun c1 r =>
 asI .i64 c1 fun i1 =>
 unc r fun c2 r1 =>
 asI .i64 c2 fun i2 =>
 unc r1 fun c3 r2 =>
 asI .i64 c3 fun i3 =>
 unc r2 fun c4 _ =>
 asI .i64 c4 fun i4 =>
 uncV ys fun x1 ys1 =>
 rC x1 fun c5 =>
 asI .i64 c5 fun i5 =>
 nilV ys1 <|
 (cl fu d fn_clock_Date [I a3] []).bind fun out2 =>
 rT out2.r fun xs1 =>
 uncV xs1 fun x2 ys2 =>
 rA x2 fun cs1 =>
 need (Nat.beq cs1.length 5) <|
 unc cs1 fun c6 r4 =>
 asI .i64 c6 fun i6 =>
 unc r4 fun c7 r5 =>
 asI .i64 c7 fun i7 =>
 unc r5 fun c8 r6 =>
 asI .i64 c8 fun i8 =>
 unc r6 fun c9 r7 =>
 asI .i64 c9 fun i9 =>
 unc r7 fun c10 _ =>
 asI .i64 c10 fun i10 =>
 uncV ys2 fun x3 ys3 =>
 rC x3 fun c11 =>
 asI .i64 c11 fun i11 =>
 nilV ys3 <|
 bif i5 != 0 then
 some ⟨V.tup [V.agg ([C.v (.int .i64 0), C.v (.int .i64 0), C.v (.int .i64 0), C.v (.int .i64 0), C.v (.int .i64 0)]), I 1], [], none⟩
 else
 bif i11 != 0 then
 some ⟨V.tup [V.agg ([C.v (.int .i64 0), C.v (.int .i64 0), C.v (.int .i64 0), C.v (.int .i64 0), C.v (.int .i64 0)]), I 1], [], none⟩
 else
 need (noYl [V.c (nrm a0_0)]) <|
 (cl fu d fn_slices_BinarySearchFunc_sapi_Normal_api_Normal_api_Normal [V.c (nrm a0_0), V.agg ([C.v (.int .i64 a1), C.v (.int .i64 i1), C.v (.int .i64 i7), C.v (.int .i64 0), C.v (.int .i64 0)]), V.c (C.fn fn_climate_compare ([]))] []).bind fun out3 =>
 rT out3.r fun xs2 =>
 uncV xs2 fun x4 ys4 =>
 rC x4 fun c12 =>
 asI .i64 c12 fun i12 =>
 uncV ys4 fun x5 ys5 =>
 rC x5 fun c13 =>
 asB c13 fun b =>
 nilV ys5 <|
 bif !b then
 some ⟨V.tup [V.agg ([C.v (.int .i64 0), C.v (.int .i64 0), C.v (.int .i64 0), C.v (.int .i64 0), C.v (.int .i64 0)]), I 9], [], none⟩
 else
 asSl a0_0 fun n cs2 =>
 need (inR i12 n) <|
 unc (List.drop (i12.toNat * 5) cs2) fun c14 r9 =>
 asI .i64 c14 fun i13 =>
 unc r9 fun c15 r10 =>
 asI .i64 c15 fun i14 =>
 unc r10 fun c16 r11 =>
 asI .i64 c16 fun i15 =>
 unc r11 fun c17 r12 =>
 asI .i64 c17 fun i16 =>
 unc r12 fun c18 _ =>
 asI .i64 c18 fun i17 =>
 some ⟨V.tup [V.agg ([C.v (.int .i64 i13), C.v (.int .i64 i14), C.v (.int .i64 i15), C.v (.int .i64 i16), C.v (.int .i64 i17)]), I 0], [], none⟩) := by kernel_rfl
/- synoptic/synopticlaw13.awake -/
theorem eq_synopticlaw13_awake (fu d : Nat)  :
 cl fu (d + 1) fn_synopticlaw13_awake [] [] = (
 (cl fu d fn_climate_Learn [V.c (C.sl 2 ([C.v (.int .i64 0), C.v (.string (⟨#[]⟩)), C.v (.int .i64 0), C.v (.int .i64 0), C.v (.int .i64 840), C.v (.int .i64 0), C.v (.int .i64 0), C.sl 1 ([C.v (.int .i64 1), C.v (.int .i64 10130)]), C.v (.int .i64 0), C.v (.string (⟨#[]⟩)), C.v (.int .i64 60), C.v (.int .i64 0), C.v (.int .i64 840), C.v (.int .i64 0), C.v (.int .i64 0), C.sl 1 ([C.v (.int .i64 1), C.v (.int .i64 10141)])]))] []).bind fun out =>
 rT out.r fun xs =>
 uncV xs fun x ys =>
 rA x fun cs =>
 need (Nat.beq cs.length 1) <|
 unc cs fun c r =>
 uncV ys fun x1 ys1 =>
 rC x1 fun c1 =>
 asI .i64 c1 fun i =>
 nilV ys1 <|
 (cl fu d fn_climate_Lookup [V.agg ([c]), I 1, V.agg ([C.v (.int .i64 1), C.v (.int .i64 840), C.v (.int .i64 0), C.v (.int .i64 0)]), I 100] []).bind fun out1 =>
 rT out1.r fun xs1 =>
 uncV xs1 fun x2 ys2 =>
 rA x2 fun cs1 =>
 need (Nat.beq cs1.length 5) <|
 unc cs1 fun c2 r1 =>
 asI .i64 c2 fun i1 =>
 unc r1 fun c3 r2 =>
 asI .i64 c3 fun i2 =>
 unc r2 fun c4 r3 =>
 asI .i64 c4 fun i3 =>
 unc r3 fun c5 r4 =>
 asI .i64 c5 fun i4 =>
 unc r4 fun c6 _ =>
 asI .i64 c6 fun i5 =>
 uncV ys2 fun x3 ys3 =>
 rC x3 fun c7 =>
 asI .i64 c7 fun i6 =>
 nilV ys3 <|
 bif i == 0 then
 bif i6 == 0 then
 asSl c fun n cs2 =>
 bif ((n : Nat) : Int) == 1 then
 bif i4 == 10135 then
 some ⟨B (i5 == 6), [], none⟩
 else
 some ⟨B false, [], none⟩
 else
 some ⟨B false, [], none⟩
 else
 some ⟨B false, [], none⟩
 else
 some ⟨B false, [], none⟩) := by kernel_rfl
/- synoptic/synopticdata.Place -/
theorem eq_synopticdata_Place (fu d : Nat) (a0_0 : C) (a0_1 : Int) :
 cl fu (d + 1) fn_synopticdata_Place [V.ptr 1000000 0] [.ob ty_synoptickeep_Src 0 ([a0_0, C.v (.int .i64 a0_1)])] = (
 (cl fu d fn_synoptickeep_Src_N [V.ptr 1000000 0, I 20] [.ob ty_synoptickeep_Src 0 ([a0_0, C.v (.int .i64 a0_1)])]).bind fun out =>
 uncO out.objs fun o os =>
 rO o ty_synoptickeep_Src 0 fun cs =>
 need ((Nat.beq cs.length 2) && true) <|
 unc cs fun c r =>
 unc r fun c1 _ =>
 asI .i64 c1 fun i =>
 rC out.r fun c2 =>
 asI .i64 c2 fun i1 =>
 (cl fu d fn_synoptickeep_Src_N [V.ptr 1000000 0, I 841] [.ob ty_synoptickeep_Src 0 ([c, C.v (.int .i64 i)])]).bind fun out1 =>
 uncO out1.objs fun o1 os1 =>
 rO o1 ty_synoptickeep_Src 0 fun cs1 =>
 need ((Nat.beq cs1.length 2) && true) <|
 unc cs1 fun c3 r2 =>
 unc r2 fun c4 _ =>
 asI .i64 c4 fun i2 =>
 rC out1.r fun c5 =>
 asI .i64 c5 fun i3 =>
 (cl fu d fn_synoptickeep_Src_N [V.ptr 1000000 0, I 4] [.ob ty_synoptickeep_Src 0 ([c3, C.v (.int .i64 i2)])]).bind fun out2 =>
 uncO out2.objs fun o2 os2 =>
 rO o2 ty_synoptickeep_Src 0 fun cs2 =>
 need ((Nat.beq cs2.length 2) && true) <|
 unc cs2 fun c6 r4 =>
 unc r4 fun c7 _ =>
 asI .i64 c7 fun i4 =>
 rC out2.r fun c8 =>
 asI .i64 c8 fun i5 =>
 (bif i5 == 0 then
 (cl fu d fn_synoptickeep_Src_N [V.ptr 1000000 0, I 9] [.ob ty_synoptickeep_Src 0 ([c6, C.v (.int .i64 i4)])]).bind fun out3 =>
 uncO out3.objs fun o3 os3 =>
 rO o3 ty_synoptickeep_Src 0 fun cs3 =>
 need ((Nat.beq cs3.length 2) && true) <|
 unc cs3 fun c9 r6 =>
 unc r6 fun c10 _ =>
 asI .i64 c10 fun i6 =>
 rC out3.r fun c11 =>
 asI .i64 c11 fun i7 =>
 some (0, ((0, 0, 0, 0, ()), (i1, IntKind.i64.wrap (105 * i7), 0, 0, ()), (c9, i6, ()), ()))
 else
 (bif i5 == 1 then
 (cl fu d fn_synoptickeep_Src_N [V.ptr 1000000 0, I 5] [.ob ty_synoptickeep_Src 0 ([c6, C.v (.int .i64 i4)])]).bind fun out4 =>
 uncO out4.objs fun o4 os4 =>
 rO o4 ty_synoptickeep_Src 0 fun cs4 =>
 need ((Nat.beq cs4.length 2) && true) <|
 unc cs4 fun c12 r8 =>
 unc r8 fun c13 _ =>
 asI .i64 c13 fun i8 =>
 rC out4.r fun c14 =>
 asI .i64 c14 fun i9 =>
 some (0, ((0, 0, 0, 0, ()), (i1, IntKind.i64.wrap (210 * i9), 0, 0, ()), (c12, i8, ()), ()))
 else
 some (0, ((0, 0, 0, 0, ()), (i1, i3, 0, 0, ()), (c6, i4, ()), ())) : Option (Nat × (Int × Int × Int × Int × Unit) × (Int × Int × Int × Int × Unit) × (C × Int × Unit) × Unit)).bind fun p =>
 some (0, ((p.2.1.1, p.2.1.2.1, p.2.1.2.2.1, p.2.1.2.2.2.1, ()), (p.2.2.1.1, p.2.2.1.2.1, p.2.2.1.2.2.1, p.2.2.1.2.2.2.1, ()), (p.2.2.2.1.1, p.2.2.2.1.2.1, ()), ())) : Option (Nat × (Int × Int × Int × Int × Unit) × (Int × Int × Int × Int × Unit) × (C × Int × Unit) × Unit)).bind fun p1 =>
 (cl fu d fn_synoptickeep_Src_N [V.ptr 1000000 0, I (IntKind.i64.wrap ((IntKind.i64.wrap (840 - p1.2.2.1.2.1)) + 1))] [.ob ty_synoptickeep_Src 0 ([p1.2.2.2.1.1, C.v (.int .i64 p1.2.2.2.1.2.1)])]).bind fun out5 =>
 uncO out5.objs fun o5 os5 =>
 rO o5 ty_synoptickeep_Src 0 fun cs5 =>
 need ((Nat.beq cs5.length 2) && true) <|
 unc cs5 fun c15 r10 =>
 unc r10 fun c16 _ =>
 asI .i64 c16 fun i10 =>
 rC out5.r fun c17 =>
 asI .i64 c17 fun i11 =>
 (cl fu d fn_synoptickeep_Src_N [V.ptr 1000000 0, I 3] [.ob ty_synoptickeep_Src 0 ([c15, C.v (.int .i64 i10)])]).bind fun out6 =>
 uncO out6.objs fun o6 os6 =>
 rO o6 ty_synoptickeep_Src 0 fun cs6 =>
 need ((Nat.beq cs6.length 2) && true) <|
 unc cs6 fun c18 r12 =>
 unc r12 fun c19 _ =>
 asI .i64 c19 fun i12 =>
 rC out6.r fun c20 =>
 asI .i64 c20 fun i13 =>
 (bif i13 == 0 then
 some (0, ((p1.2.1.1, p1.2.1.2.1, p1.2.1.2.2.1, p1.2.1.2.2.2.1, ()), (p1.2.2.1.1, p1.2.2.1.2.1, IntKind.i64.wrap (i11 - (Int.tmod i11 105)), p1.2.2.1.2.2.2.1, ()), (c18, i12, ()), ()))
 else
 some (0, ((p1.2.1.1, p1.2.1.2.1, p1.2.1.2.2.1, p1.2.1.2.2.2.1, ()), (p1.2.2.1.1, p1.2.2.1.2.1, i11, p1.2.2.1.2.2.2.1, ()), (c18, i12, ()), ())) : Option (Nat × (Int × Int × Int × Int × Unit) × (Int × Int × Int × Int × Unit) × (C × Int × Unit) × Unit)).bind fun p2 =>
 (cl fu d fn_synopticref02_Normal [V.agg ([C.v (.int .i64 p2.2.2.1.1), C.v (.int .i64 p2.2.2.1.2.1), C.v (.int .i64 p2.2.2.1.2.2.1), C.v (.int .i64 (IntKind.i64.wrap ((IntKind.i64.wrap (840 - p2.2.2.1.2.1)) - p2.2.2.1.2.2.1)))])] []).bind fun out7 =>
 rT out7.r fun xs =>
 uncV xs fun x ys =>
 rA x fun cs7 =>
 need (Nat.beq cs7.length 4) <|
 unc cs7 fun c21 r14 =>
 asI .i64 c21 fun i14 =>
 unc r14 fun c22 r15 =>
 asI .i64 c22 fun i15 =>
 unc r15 fun c23 r16 =>
 asI .i64 c23 fun i16 =>
 unc r16 fun c24 _ =>
 asI .i64 c24 fun i17 =>
 uncV ys fun x1 ys1 =>
 rC x1 fun c25 =>
 asI .i64 c25 fun i18 =>
 nilV ys1 <|
 some ⟨V.agg ([C.v (.int .i64 i14), C.v (.int .i64 i15), C.v (.int .i64 i16), C.v (.int .i64 i17)]), [.ob ty_synoptickeep_Src 0 ([p2.2.2.2.1.1, C.v (.int .i64 p2.2.2.2.1.2.1)])], none⟩) := by kernel_rfl
/- (*synoptic/synoptickeep.Src).N -/
theorem eq_synoptickeep_Src_N (fu d : Nat) (a0_0 : C) (a0_1 : Int) (a1 : Int) :
 cl fu (d + 1) fn_synoptickeep_Src_N [V.ptr 1000000 0, I a1] [.ob ty_synoptickeep_Src 0 ([a0_0, C.v (.int .i64 a0_1)])] = (
 (cl fu d fn_synoptickeep_Src_Raw [V.ptr 1000000 0] [.ob ty_synoptickeep_Src 0 ([a0_0, C.v (.int .i64 a0_1)])]).bind fun out =>
 uncO out.objs fun o os =>
 rO o ty_synoptickeep_Src 0 fun cs =>
 need ((Nat.beq cs.length 2) && true) <|
 unc cs fun c r =>
 unc r fun c1 _ =>
 asI .i64 c1 fun i =>
 rC out.r fun c2 =>
 asI .i64 c2 fun i1 =>
 (cl fu d fn_synoptickeep_Mod [I i1, I a1] []).bind fun out1 =>
 rC out1.r fun c3 =>
 asI .i64 c3 fun i2 =>
 some ⟨I i2, [.ob ty_synoptickeep_Src 0 ([c, C.v (.int .i64 i)])], none⟩) := by kernel_rfl
/- synoptic/synopticref02.Normal -/
theorem eq_synopticref02_Normal (fu d : Nat) (a0_0 : Int) (a0_1 : Int) (a0_2 : Int) (a0_3 : Int) :
 cl fu (d + 1) fn_synopticref02_Normal [V.agg ([C.v (.int .i64 a0_0), C.v (.int .i64 a0_1), C.v (.int .i64 a0_2), C.v (.int .i64 a0_3)])] [] = (
 (cl fu d fn_synopticref02_Addresses [V.agg ([C.v (.int .i64 a0_0), C.v (.int .i64 a0_1), C.v (.int .i64 a0_2), C.v (.int .i64 a0_3)])] []).bind fun out =>
 rT out.r fun xs =>
 uncV xs fun x ys =>
 rC x fun c =>
 uncV ys fun x1 ys1 =>
 rC x1 fun c1 =>
 asI .i64 c1 fun i =>
 nilV ys1 <|
 bif i != 0 then
 some ⟨V.tup [V.agg ([C.v (.int .i64 0), C.v (.int .i64 0), C.v (.int .i64 0), C.v (.int .i64 0)]), I i], [], none⟩
 else
 asSl c fun n cs =>
 need (inR 0 n) <|
 unc cs fun c2 r =>
 asI .i64 c2 fun i1 =>
 unc r fun c3 r1 =>
 asI .i64 c3 fun i2 =>
 unc r1 fun c4 r2 =>
 asI .i64 c4 fun i3 =>
 unc r2 fun c5 _ =>
 asI .i64 c5 fun i4 =>
 some ⟨V.tup [V.agg ([C.v (.int .i64 i1), C.v (.int .i64 i2), C.v (.int .i64 i3), C.v (.int .i64 i4)]), I 0], [], none⟩) := by kernel_rfl
/- (*synoptic/synoptickeep.Src).Range -/
theorem eq_synoptickeep_Src_Range (fu d : Nat) (a0_0 : C) (a0_1 : Int) (a1 : Int) (a2 : Int) :
 cl fu (d + 1) fn_synoptickeep_Src_Range [V.ptr 1000000 0, I a1, I a2] [.ob ty_synoptickeep_Src 0 ([a0_0, C.v (.int .i64 a0_1)])] = (
 (cl fu d fn_synoptickeep_Src_N [V.ptr 1000000 0, I (IntKind.i64.wrap ((IntKind.i64.wrap (a2 - a1)) + 1))] [.ob ty_synoptickeep_Src 0 ([a0_0, C.v (.int .i64 a0_1)])]).bind fun out =>
 uncO out.objs fun o os =>
 rO o ty_synoptickeep_Src 0 fun cs =>
 need ((Nat.beq cs.length 2) && true) <|
 unc cs fun c r =>
 unc r fun c1 _ =>
 asI .i64 c1 fun i =>
 rC out.r fun c2 =>
 asI .i64 c2 fun i1 =>
 some ⟨I (IntKind.i64.wrap (a1 + i1)), [.ob ty_synoptickeep_Src 0 ([c, C.v (.int .i64 i)])], none⟩) := by kernel_rfl
/- synoptic/synopticref02.Addresses -/
theorem eq_synopticref02_Addresses (fu d : Nat) (a0_0 : Int) (a0_1 : Int) (a0_2 : Int) (a0_3 : Int) :
 cl fu (d + 1) fn_synopticref02_Addresses [V.agg ([C.v (.int .i64 a0_0), C.v (.int .i64 a0_1), C.v (.int .i64 a0_2), C.v (.int .i64 a0_3)])] [] = (
 (cl fu d fn_synopticref02_Valid [V.agg ([C.v (.int .i64 a0_0), C.v (.int .i64 a0_1), C.v (.int .i64 a0_2), C.v (.int .i64 a0_3)])] []).bind fun out =>
 rC out.r fun c =>
 asB c fun b =>
 bif !b then
 some ⟨V.tup [V.c C.nl, I 1], [], none⟩
 else
 (cl fu d fn_synopticref02_Weights [V.agg ([C.v (.int .i64 a0_0), C.v (.int .i64 a0_1), C.v (.int .i64 a0_2), C.v (.int .i64 a0_3)])] []).bind fun out1 =>
 rA out1.r fun cs =>
 need ((((Nat.beq cs.length 12) && true) && (Nat.ble (0 + cs.length) 12)) && true) <|
 bd (putAt ([C.v (.int .i64 0), C.v (.int .i64 0), C.v (.int .i64 0), C.v (.int .i64 0), C.v (.int .i64 0), C.v (.int .i64 0), C.v (.int .i64 0), C.v (.int .i64 0), C.v (.int .i64 0), C.v (.int .i64 0), C.v (.int .i64 0), C.v (.int .i64 0)]) 0 cs) fun cs1 =>
 (iter (fun (y : List C × Int × Unit) =>
 bif decide (y.2.1 < 20) then
 need (Nat.ble 12 cs1.length) <|
 (cl fu d fn_synopticref02_On [I y.2.1, V.agg (List.take 12 cs1)] []).bind fun out2 =>
 rT out2.r fun xs =>
 uncV xs fun x ys =>
 rA x fun cs2 =>
 need (Nat.beq cs2.length 4) <|
 unc cs2 fun c1 r =>
 asI .i64 c1 fun i =>
 unc r fun c2 r1 =>
 asI .i64 c2 fun i1 =>
 unc r1 fun c3 r2 =>
 asI .i64 c3 fun i2 =>
 unc r2 fun c4 _ =>
 asI .i64 c4 fun i3 =>
 uncV ys fun x1 ys1 =>
 rC x1 fun c5 =>
 asB c5 fun b1 =>
 nilV ys1 <|
 bif b1 then
 need ((((Nat.beq ((y.1.length / 4) * 4) y.1.length) && true) && (Nat.ble (((y.1.length / 4) + 1) * 32) 140737488355328)) && (Nat.ble ((y.1.length / 4) + 1) 140737488355328)) <|
 need (((Nat.beq (((y.1.length / 4) + 1) * 4) ((y.1 ++ ([C.v (.int .i64 i), C.v (.int .i64 i1), C.v (.int .i64 i2), C.v (.int .i64 i3)])).length)) && true) && true) <|
 some (0, (y.1 ++ ([C.v (.int .i64 i), C.v (.int .i64 i1), C.v (.int .i64 i2), C.v (.int .i64 i3)]), IntKind.i64.wrap (y.2.1 + 1), ()))
 else
 need (((Nat.beq ((y.1.length / 4) * 4) y.1.length) && true) && true) <|
 some (0, (y.1, IntKind.i64.wrap (y.2.1 + 1), ()))
 else
 need (((Nat.beq ((y.1.length / 4) * 4) y.1.length) && true) && true) <|
 some (1, (y.1, y.2.1, ()))) fu ([], 0, ())).bind fun p =>
 need (Nat.ble (0 + ((p.2.1.length / 4) * 4)) p.2.1.length) <|
 some ⟨V.tup [V.c (C.sl (p.2.1.length / 4) (List.take ((p.2.1.length / 4) * 4) p.2.1)), I 0], [], none⟩) := by kernel_rfl
/- synoptic/synopticdata.Report -/
theorem eq_synopticdata_Report (fu d : Nat) (a0_0 : C) (a0_1 : Int) (a1 : Int) :
 cl fu (d + 1) fn_synopticdata_Report [V.ptr 1000000 0, I a1] [.ob ty_synoptickeep_Src 0 ([a0_0, C.v (.int .i64 a0_1)])] = (
 (cl fu d fn_synoptickeep_Src_Range [V.ptr 1000000 0, I 1, I 3] [.ob ty_synoptickeep_Src 0 ([a0_0, C.v (.int .i64 a0_1)])]).bind fun out =>
 uncO out.objs fun o os =>
 rO o ty_synoptickeep_Src 0 fun cs =>
 need ((Nat.beq cs.length 2) && true) <|
 unc cs fun c r =>
 unc r fun c1 _ =>
 asI .i64 c1 fun i =>
 rC out.r fun c2 =>
 asI .i64 c2 fun i1 =>
 (cl fu d fn_synopticdata_Name [V.ptr 1000000 0] [.ob ty_synoptickeep_Src 0 ([c, C.v (.int .i64 i)])]).bind fun out1 =>
 uncO out1.objs fun o1 os1 =>
 rO o1 ty_synoptickeep_Src 0 fun cs1 =>
 need ((Nat.beq cs1.length 2) && true) <|
 unc cs1 fun c3 r2 =>
 unc r2 fun c4 _ =>
 asI .i64 c4 fun i2 =>
 rC out1.r fun c5 =>
 asS c5 fun s =>
 (cl fu d fn_synopticdata_Near [V.ptr 1000000 0, I a1] [.ob ty_synoptickeep_Src 0 ([c3, C.v (.int .i64 i2)])]).bind fun out2 =>
 uncO out2.objs fun o2 os2 =>
 rO o2 ty_synoptickeep_Src 0 fun cs2 =>
 need ((Nat.beq cs2.length 2) && true) <|
 unc cs2 fun c6 r4 =>
 unc r4 fun c7 _ =>
 asI .i64 c7 fun i3 =>
 rC out2.r fun c8 =>
 asI .i64 c8 fun i4 =>
 (cl fu d fn_synopticref04_List [V.ptr 1000000 0] [.ob ty_synoptickeep_Src 0 ([c6, C.v (.int .i64 i3)])]).bind fun out3 =>
 uncO out3.objs fun o3 os3 =>
 rO o3 ty_synoptickeep_Src 0 fun cs3 =>
 need ((Nat.beq cs3.length 2) && true) <|
 unc cs3 fun c9 r6 =>
 unc r6 fun c10 _ =>
 asI .i64 c10 fun i5 =>
 rC out3.r fun c11 =>
 bif i1 != 1 then
 (cl fu d fn_synopticdata_Place [V.ptr 1000000 0] [.ob ty_synoptickeep_Src 0 ([c9, C.v (.int .i64 i5)])]).bind fun out4 =>
 uncO out4.objs fun o4 os4 =>
 rO o4 ty_synoptickeep_Src 0 fun cs4 =>
 need ((Nat.beq cs4.length 2) && true) <|
 unc cs4 fun c12 r8 =>
 unc r8 fun c13 _ =>
 asI .i64 c13 fun i6 =>
 rA out4.r fun cs5 =>
 need (Nat.beq cs5.length 4) <|
 unc cs5 fun c14 r10 =>
 asI .i64 c14 fun i7 =>
 unc r10 fun c15 r11 =>
 asI .i64 c15 fun i8 =>
 unc r11 fun c16 r12 =>
 asI .i64 c16 fun i9 =>
 unc r12 fun c17 _ =>
 asI .i64 c17 fun i10 =>
 some ⟨V.agg ([C.v (.int .i64 i1), C.v (.string s), C.v (.int .i64 i4), C.v (.int .i64 i7), C.v (.int .i64 i8), C.v (.int .i64 i9), C.v (.int .i64 i10), c11]), [.ob ty_synoptickeep_Src 0 ([c12, C.v (.int .i64 i6)])], none⟩
 else
 some ⟨V.agg ([C.v (.int .i64 i1), C.v (.string s), C.v (.int .i64 i4), C.v (.int .i64 0), C.v (.int .i64 0), C.v (.int .i64 0), C.v (.int .i64 0), c11]), [.ob ty_synoptickeep_Src 0 ([c9, C.v (.int .i64 i5)])], none⟩) := by kernel_rfl
/- synoptic/synoptickeep.Mod -/
theorem eq_synoptickeep_Mod (fu d : Nat) (a0 : Int) (a1 : Int) :
 cl fu (d + 1) fn_synoptickeep_Mod [I a0, I a1] [] = (
 bif decide (a1 < 1) then
 some ⟨I 0, [], none⟩
 else
 need (!(a1 == 0)) <|
 bif decide (Int.tmod a0 a1 < 0) then
 some ⟨I (IntKind.i64.wrap ((Int.tmod a0 a1) + a1)), [], none⟩
 else
 some ⟨I (Int.tmod a0 a1), [], none⟩) := by kernel_rfl
/- (*synoptic/synoptickeep.Src).Raw -/
theorem eq_synoptickeep_Src_Raw (fu d : Nat) (a0_0 : C) (a0_1 : Int) :
 cl fu (d + 1) fn_synoptickeep_Src_Raw [V.ptr 1000000 0] [.ob ty_synoptickeep_Src 0 ([a0_0, C.v (.int .i64 a0_1)])] = (
 asSl a0_0 fun n cs =>
 bif decide (a0_1 ≥ ((n : Nat) : Int)) then
 some ⟨I 0, [.ob ty_synoptickeep_Src 0 ([a0_0, C.v (.int .i64 a0_1)])], none⟩
 else
 asSl a0_0 fun n1 cs1 =>
 need (inR (IntKind.i64.wrap ((IntKind.i64.wrap (a0_1 + 1)) - 1)) n1) <|
 unc (List.drop (((IntKind.i64.wrap ((IntKind.i64.wrap (a0_1 + 1)) - 1)).toNat) * 1) cs1) fun c _ =>
 asI .i64 c fun i =>
 some ⟨I i, [.ob ty_synoptickeep_Src 0 ([a0_0, C.v (.int .i64 (IntKind.i64.wrap (a0_1 + 1)))])], none⟩) := by kernel_rfl
/- (*synoptic/synoptickeep.Src).Pick -/
theorem eq_synoptickeep_Src_Pick (fu d : Nat) (a0_0 : C) (a0_1 : Int) (n1 : Nat) (a1 : List C) :
 cl fu (d + 1) fn_synoptickeep_Src_Pick [V.ptr 1000000 0, V.c (C.sl n1 a1)] [.ob ty_synoptickeep_Src 0 ([a0_0, C.v (.int .i64 a0_1)])] = (
 (cl fu d fn_synoptickeep_Src_N [V.ptr 1000000 0, I ((n1 : Nat) : Int)] [.ob ty_synoptickeep_Src 0 ([a0_0, C.v (.int .i64 a0_1)])]).bind fun out =>
 uncO out.objs fun o os =>
 rO o ty_synoptickeep_Src 0 fun cs =>
 need ((Nat.beq cs.length 2) && true) <|
 unc cs fun c r =>
 unc r fun c1 _ =>
 asI .i64 c1 fun i =>
 rC out.r fun c2 =>
 asI .i64 c2 fun i1 =>
 need (inR i1 n1) <|
 unc (List.drop (i1.toNat * 1) a1) fun c3 _ =>
 asI .i64 c3 fun i2 =>
 some ⟨I i2, [.ob ty_synoptickeep_Src 0 ([c, C.v (.int .i64 i)])], none⟩) := by kernel_rfl
/- synoptic/place.Normal -/
theorem eq_place_Normal (fu d : Nat) (a0_0 : Int) (a0_1 : Int) (a0_2 : Int) (a0_3 : Int) :
 cl fu (d + 1) fn_place_Normal [V.agg ([C.v (.int .i64 a0_0), C.v (.int .i64 a0_1), C.v (.int .i64 a0_2), C.v (.int .i64 a0_3)])] [] = (
 (cl fu d fn_place_Valid [V.agg ([C.v (.int .i64 a0_0), C.v (.int .i64 a0_1), C.v (.int .i64 a0_2), C.v (.int .i64 a0_3)])] []).bind fun out =>
 rC out.r fun c =>
 asB c fun b =>
 bif !b then
 some ⟨V.tup [V.agg ([C.v (.int .i64 0), C.v (.int .i64 0), C.v (.int .i64 0), C.v (.int .i64 0)]), I 1], [], none⟩
 else
 (cl fu d fn_place_of [V.agg ([C.v (.int .i64 a0_0), C.v (.int .i64 a0_1), C.v (.int .i64 a0_2), C.v (.int .i64 a0_3)])] []).bind fun out1 =>
 rA out1.r fun cs =>
 need ((((Nat.beq cs.length 12) && true) && (Nat.ble (0 + cs.length) 12)) && true) <|
 bd (putAt ([C.v (.int .i64 0), C.v (.int .i64 0), C.v (.int .i64 0), C.v (.int .i64 0), C.v (.int .i64 0), C.v (.int .i64 0), C.v (.int .i64 0), C.v (.int .i64 0), C.v (.int .i64 0), C.v (.int .i64 0), C.v (.int .i64 0), C.v (.int .i64 0)]) 0 cs) fun cs1 =>
 (iter (fun (y : Int × Int × (Int × Int × Int × Int × Unit) × Unit) =>
 bif decide (y.2.1 < 20) then
 need (Nat.ble 12 cs1.length) <|
 (cl fu d fn_place_on [I y.2.1, V.agg (List.take 12 cs1)] []).bind fun out2 =>
 rT out2.r fun xs =>
 uncV xs fun x ys =>
 rA x fun cs2 =>
 need (Nat.beq cs2.length 4) <|
 unc cs2 fun c1 r =>
 asI .i64 c1 fun i =>
 unc r fun c2 r1 =>
 asI .i64 c2 fun i1 =>
 unc r1 fun c3 r2 =>
 asI .i64 c3 fun i2 =>
 unc r2 fun c4 _ =>
 asI .i64 c4 fun i3 =>
 uncV ys fun x1 ys1 =>
 rC x1 fun c5 =>
 asB c5 fun b1 =>
 nilV ys1 <|
 bif b1 then
 some (2, (0, y.2.1, (i, i1, i2, i3, ()), ()))
 else
 some (0, (y.1, IntKind.i64.wrap (y.2.1 + 1), (y.2.2.1.1, y.2.2.1.2.1, y.2.2.1.2.2.1, y.2.2.1.2.2.2.1, ()), ()))
 else
 some (1, (y.1, y.2.1, (y.2.2.1.1, y.2.2.1.2.1, y.2.2.1.2.2.1, y.2.2.1.2.2.2.1, ()), ()))) fu (0, 0, (0, 0, 0, 0, ()), ())).bind fun p =>
 natD p.1 (
 some ⟨V.tup [V.agg ([C.v (.int .i64 a0_0), C.v (.int .i64 a0_1), C.v (.int .i64 a0_2), C.v (.int .i64 a0_3)]), I 0], [], none⟩) fun m =>
 some ⟨V.tup [V.agg ([C.v (.int .i64 p.2.2.2.1.1), C.v (.int .i64 p.2.2.2.1.2.1), C.v (.int .i64 p.2.2.2.1.2.2.1), C.v (.int .i64 p.2.2.2.1.2.2.2.1)]), I p.2.1], [], none⟩) := by kernel_rfl
/- synoptic/clock.Date -/
theorem eq_clock_Date (fu d : Nat) (a0 : Int) :
 cl fu (d + 1) fn_clock_Date [I a0] [] = (
 (cl fu d fn_clock_in [I a0] []).bind fun out =>
 rC out.r fun c =>
 asB c fun b =>
 bif !b then
 some ⟨V.tup [V.agg ([C.v (.int .i64 0), C.v (.int .i64 0), C.v (.int .i64 0), C.v (.int .i64 0), C.v (.int .i64 0)]), I 1], [], none⟩
 else
 (iter (fun (y : (Int × Int × Int × Int × Int × Unit) × (Int × Int × Int × Int × Int × Unit) × Unit) =>
 (cl fu d fn_clock_first [I (IntKind.i64.wrap (y.2.1.1 + 1))] []).bind fun out1 =>
 rC out1.r fun c1 =>
 asI .i64 c1 fun i =>
 bif decide (i ≤ a0) then
 some (0, ((y.1.1, y.1.2.1, y.1.2.2.1, y.1.2.2.2.1, y.1.2.2.2.2.1, ()), (IntKind.i64.wrap (y.2.1.1 + 1), y.2.1.2.1, y.2.1.2.2.1, y.2.1.2.2.2.1, y.2.1.2.2.2.2.1, ()), ()))
 else
 some (1, ((y.1.1, y.1.2.1, y.1.2.2.1, y.1.2.2.2.1, y.1.2.2.2.2.1, ()), (y.2.1.1, y.2.1.2.1, y.2.1.2.2.1, y.2.1.2.2.2.1, y.2.1.2.2.2.2.1, ()), ()))) fu ((0, 0, 0, 0, 0, ()), (2000, 1, 0, 0, 0, ()), ())).bind fun p =>
 (cl fu d fn_clock_first [I p.2.2.1.1] []).bind fun out2 =>
 rC out2.r fun c2 =>
 asI .i64 c2 fun i1 =>
 (cl fu d fn_clock_lengths [I p.2.2.1.1] []).bind fun out3 =>
 rA out3.r fun cs =>
 (iter (fun (y1 : Int × Int × (Int × Int × Int × Int × Int × Unit) × (Int × Int × Int × Int × Int × Unit) × Unit) =>
 bif decide (y1.2.1 < 12) then
 need (inR y1.2.1 12) <|
 unc (List.drop (y1.2.1.toNat * 1) cs) fun c3 _ =>
 asI .i64 c3 fun i2 =>
 bif decide (y1.1 < i2) then
 some (1, (y1.1, y1.2.1, (y1.2.2.1.1, y1.2.2.1.2.1, y1.2.2.1.2.2.1, y1.2.2.1.2.2.2.1, y1.2.2.1.2.2.2.2.1, ()), (y1.2.2.2.1.1, y1.2.2.2.1.2.1, y1.2.2.2.1.2.2.1, y1.2.2.2.1.2.2.2.1, y1.2.2.2.1.2.2.2.2.1, ()), ()))
 else
 some (0, (IntKind.i64.wrap (y1.1 - i2), IntKind.i64.wrap (y1.2.1 + 1), (y1.2.2.1.1, y1.2.2.1.2.1, y1.2.2.1.2.2.1, y1.2.2.1.2.2.2.1, y1.2.2.1.2.2.2.2.1, ()), (y1.2.2.2.1.1, IntKind.i64.wrap (y1.2.2.2.1.2.1 + 1), y1.2.2.2.1.2.2.1, y1.2.2.2.1.2.2.2.1, y1.2.2.2.1.2.2.2.2.1, ()), ()))
 else
 some (1, (y1.1, y1.2.1, (y1.2.2.1.1, y1.2.2.1.2.1, y1.2.2.1.2.2.1, y1.2.2.1.2.2.2.1, y1.2.2.1.2.2.2.2.1, ()), (y1.2.2.2.1.1, y1.2.2.2.1.2.1, y1.2.2.2.1.2.2.1, y1.2.2.2.1.2.2.2.1, y1.2.2.2.1.2.2.2.2.1, ()), ()))) fu (IntKind.i64.wrap (Int.tdiv (IntKind.i64.wrap (a0 - i1)) 1440), 0, (p.2.1.1, p.2.1.2.1, p.2.1.2.2.1, p.2.1.2.2.2.1, p.2.1.2.2.2.2.1, ()), (p.2.2.1.1, p.2.2.1.2.1, p.2.2.1.2.2.1, p.2.2.1.2.2.2.1, p.2.2.1.2.2.2.2.1, ()), ())).bind fun p1 =>
 some ⟨V.tup [V.agg ([C.v (.int .i64 p1.2.2.2.2.1.1), C.v (.int .i64 p1.2.2.2.2.1.2.1), C.v (.int .i64 (IntKind.i64.wrap (p1.2.1 + 1))), C.v (.int .i64 (IntKind.i64.wrap (Int.tdiv (Int.tmod (IntKind.i64.wrap (a0 - i1)) 1440) 60))), C.v (.int .i64 (Int.tmod (IntKind.i64.wrap (a0 - i1)) 60))]), I 0], [], none⟩) := by kernel_rfl
/- synoptic/element.Validate -/
theorem eq_element_Validate (fu d : Nat) (n0 : Nat) (a0 : List C) :
 cl fu (d + 1) fn_element_Validate [V.c (C.sl n0 a0)] [] = (
 (cl fu d fn_element_Validate_1 [I 4, V.c (C.cp ([C.sl n0 a0]))] []).bind fun out =>
 rC out.r fun c =>
 asB c fun b =>
 bif b then
 some ⟨I 4, [], none⟩
 else
 (cl fu d fn_element_Validate_1 [I 1, V.c (C.cp ([C.sl n0 a0]))] []).bind fun out1 =>
 rC out1.r fun c1 =>
 asB c1 fun b1 =>
 bif b1 then
 some ⟨I 1, [], none⟩
 else
 (iter (fun (y : Int × Int × Unit) =>
 bif decide (y.2.1 < ((n0 : Nat) : Int)) then
 need (inR (IntKind.i64.wrap (y.2.1 - 1)) n0) <|
 unc (List.drop (((IntKind.i64.wrap (y.2.1 - 1)).toNat) * 2) a0) fun c2 _ =>
 asI .i64 c2 fun i =>
 need (inR y.2.1 n0) <|
 unc (List.drop (y.2.1.toNat * 2) a0) fun c3 _ =>
 asI .i64 c3 fun i1 =>
 bif decide (i ≥ i1) then
 some (2, (8, y.2.1, ()))
 else
 some (0, (y.1, IntKind.i64.wrap (y.2.1 + 1), ()))
 else
 some (1, (y.1, y.2.1, ()))) fu (0, 1, ())).bind fun p =>
 natD p.1 (
 some ⟨I 0, [], none⟩) fun m =>
 some ⟨I p.2.1, [], none⟩) := by kernel_rfl
/- synoptic/climate.learned -/
theorem eq_climate_learned (fu d : Nat) (a0_0 : Int) (a0_1 : Int) (a0_2 : Int) (a0_3 : Int) (a0_4 : Int) (n1 : Nat) (a1 : List C) :
 cl fu (d + 1) fn_climate_learned [V.agg ([C.v (.int .i64 a0_0), C.v (.int .i64 a0_1), C.v (.int .i64 a0_2), C.v (.int .i64 a0_3), C.v (.int .i64 a0_4)]), V.c (C.sl n1 a1)] [] = (
 (iter (fun (y : Int × Int × (Int × Int × Int × Int × Int × Unit) × (Int × Int × Int × Int × Int × Unit) × Unit) =>
 bif decide (y.2.1 < ((n1 : Nat) : Int)) then
 need (inR y.2.1 n1) <|
 unc (List.drop (y.2.1.toNat * 1) a1) fun c _ =>
 asI .i64 c fun i =>
 some (0, (IntKind.i64.wrap (y.1 + i), IntKind.i64.wrap (y.2.1 + 1), (y.2.2.1.1, y.2.2.1.2.1, y.2.2.1.2.2.1, y.2.2.1.2.2.2.1, y.2.2.1.2.2.2.2.1, ()), (y.2.2.2.1.1, y.2.2.2.1.2.1, y.2.2.2.1.2.2.1, y.2.2.2.1.2.2.2.1, y.2.2.2.1.2.2.2.2.1, ()), ()))
 else
 some (1, (y.1, y.2.1, (y.2.2.1.1, y.2.2.1.2.1, y.2.2.1.2.2.1, y.2.2.1.2.2.2.1, y.2.2.1.2.2.2.2.1, ()), (y.2.2.2.1.1, y.2.2.2.1.2.1, y.2.2.2.1.2.2.1, y.2.2.2.1.2.2.2.1, y.2.2.2.1.2.2.2.2.1, ()), ()))) fu (0, 0, (a0_0, a0_1, a0_2, a0_3, a0_4, ()), (0, 0, 0, 0, 0, ()), ())).bind fun p =>
 (cl fu d fn_climate_floor [I p.2.1, I ((n1 : Nat) : Int)] []).bind fun out =>
 rC out.r fun c1 =>
 asI .i64 c1 fun i1 =>
 (cl fu d fn_slices_Max_sint_int [V.c (C.sl n1 a1)] []).bind fun out1 =>
 rC out1.r fun c2 =>
 asI .i64 c2 fun i2 =>
 (cl fu d fn_slices_Min_sint_int [V.c (C.sl n1 a1)] []).bind fun out2 =>
 rC out2.r fun c3 =>
 asI .i64 c3 fun i3 =>
 bd (if IntKind.i64.wrap (i1 - i3) > IntKind.i64.wrap (i2 - i1) then IntKind.i64.wrap (i1 - i3) else IntKind.i64.wrap (i2 - i1)) fun z =>
 some ⟨V.agg ([C.v (.int .i64 p.2.2.2.1.1), C.v (.int .i64 p.2.2.2.1.2.1), C.v (.int .i64 p.2.2.2.1.2.2.1), C.v (.int .i64 i1), C.v (.int .i64 z)]), [], none⟩) := by kernel_rfl
/- synoptic/climate.compare -/
theorem eq_climate_compare (fu d : Nat) (a0_0 : Int) (a0_1 : Int) (a0_2 : Int) (a0_3 : Int) (a0_4 : Int) (a1_0 : Int) (a1_1 : Int) (a1_2 : Int) (a1_3 : Int) (a1_4 : Int) :
 cl fu (d + 1) fn_climate_compare [V.agg ([C.v (.int .i64 a0_0), C.v (.int .i64 a0_1), C.v (.int .i64 a0_2), C.v (.int .i64 a0_3), C.v (.int .i64 a0_4)]), V.agg ([C.v (.int .i64 a1_0), C.v (.int .i64 a1_1), C.v (.int .i64 a1_2), C.v (.int .i64 a1_3), C.v (.int .i64 a1_4)])] [] = (
 (cl fu d fn_cmp_Compare_int [I a0_0, I a1_0] []).bind fun out =>
 rC out.r fun c =>
 asI .i64 c fun i =>
 (cl fu d fn_cmp_Compare_int [I a0_1, I a1_1] []).bind fun out1 =>
 rC out1.r fun c1 =>
 asI .i64 c1 fun i1 =>
 (cl fu d fn_cmp_Compare_int [I a0_2, I a1_2] []).bind fun out2 =>
 rC out2.r fun c2 =>
 asI .i64 c2 fun i2 =>
 (cl fu d fn_cmp_Or_int [V.c (C.sl 3 ([C.v (.int .i64 i), C.v (.int .i64 i1), C.v (.int .i64 i2)]))] []).bind fun out3 =>
 rC out3.r fun c3 =>
 asI .i64 c3 fun i3 =>
 some ⟨I i3, [], none⟩) := by kernel_rfl
/- slices.ContainsFunc[[]synoptic/api.Normal,synoptic/api.Normal] -/
theorem eq_slices_ContainsFunc_sapi_Normal_api_Normal (fu d : Nat) (n0 : Nat) (a0 : List C) (k1 : Nat) :
 cl fu (d + 1) fn_slices_ContainsFunc_sapi_Normal_api_Normal [V.c (C.sl n0 a0), V.c (C.fn k1 ([]))] [] = (
 (cl fu d fn_slices_IndexFunc_sapi_Normal_api_Normal [V.c (C.sl n0 a0), V.c (C.fn k1 ([]))] []).bind fun out =>
 rC out.r fun c =>
 asI .i64 c fun i =>
 some ⟨B (decide (i ≥ 0)), [], none⟩) := by kernel_rfl
/- synoptic/climate.Validate$1 -/
theorem eq_climate_Validate_1 (fu d : Nat) (a0_0 : Int) (a0_1 : Int) (a0_2 : Int) (a0_3 : Int) (a0_4 : Int) :
 cl fu (d + 1) fn_climate_Validate_1 [V.agg ([C.v (.int .i64 a0_0), C.v (.int .i64 a0_1), C.v (.int .i64 a0_2), C.v (.int .i64 a0_3), C.v (.int .i64 a0_4)])] [] = (
 (cl fu d fn_climate_exists [I a0_0] []).bind fun out =>
 rC out.r fun c =>
 asB c fun b =>
 some ⟨B (!b), [], none⟩) := by kernel_rfl
/- synoptic/climate.exists -/
theorem eq_climate_exists (fu d : Nat) (a0 : Int) :
 cl fu (d + 1) fn_climate_exists [I a0] [] = (
 (cl fu d fn_element_Describe [I a0] []).bind fun out =>
 rT out.r fun xs =>
 uncV xs fun x ys =>
 rA x fun cs =>
 need (Nat.beq cs.length 4) <|
 unc cs fun c r =>
 asS c fun s =>
 unc r fun c1 r1 =>
 asI .i64 c1 fun i =>
 unc r1 fun c2 r2 =>
 asI .i64 c2 fun i1 =>
 unc r2 fun c3 _ =>
 asI .i64 c3 fun i2 =>
 uncV ys fun x1 ys1 =>
 rC x1 fun c4 =>
 asI .i64 c4 fun i3 =>
 nilV ys1 <|
 some ⟨B (i3 == 0), [], none⟩) := by kernel_rfl
/- synoptic/climate.Validate$2 -/
theorem eq_climate_Validate_2 (fu d : Nat) (a0_0 : Int) (a0_1 : Int) (a0_2 : Int) (a0_3 : Int) (a0_4 : Int) :
 cl fu (d + 1) fn_climate_Validate_2 [V.agg ([C.v (.int .i64 a0_0), C.v (.int .i64 a0_1), C.v (.int .i64 a0_2), C.v (.int .i64 a0_3), C.v (.int .i64 a0_4)])] [] = (
 (cl fu d fn_climate_valid [V.agg ([C.v (.int .i64 a0_0), C.v (.int .i64 a0_1), C.v (.int .i64 a0_2), C.v (.int .i64 a0_3), C.v (.int .i64 a0_4)])] []).bind fun out =>
 rC out.r fun c =>
 asB c fun b =>
 some ⟨B (!b), [], none⟩) := by kernel_rfl
/- synoptic/climate.valid -/
theorem eq_climate_valid (fu d : Nat) (a0_0 : Int) (a0_1 : Int) (a0_2 : Int) (a0_3 : Int) (a0_4 : Int) :
 cl fu (d + 1) fn_climate_valid [V.agg ([C.v (.int .i64 a0_0), C.v (.int .i64 a0_1), C.v (.int .i64 a0_2), C.v (.int .i64 a0_3), C.v (.int .i64 a0_4)])] [] = (
 bif decide (a0_1 ≥ 0) then
 bif decide (a0_1 < 20) then
 bif decide (a0_2 ≥ 1) then
 bif decide (a0_2 ≤ 12) then
 bif decide (a0_3 ≥ (-10000)) then
 bif decide (a0_3 ≤ 20000) then
 bif decide (a0_4 ≥ 0) then
 some ⟨B (decide (a0_4 ≤ 20000)), [], none⟩
 else
 some ⟨B false, [], none⟩
 else
 some ⟨B false, [], none⟩
 else
 some ⟨B false, [], none⟩
 else
 some ⟨B false, [], none⟩
 else
 some ⟨B false, [], none⟩
 else
 some ⟨B false, [], none⟩
 else
 some ⟨B false, [], none⟩) := by kernel_rfl
/- slices.BinarySearchFunc[[]synoptic/api.Normal,synoptic/api.Normal,synoptic/api.Normal] -/
theorem eq_slices_BinarySearchFunc_sapi_Normal_api_Normal_api_Normal (fu d : Nat) (n0 : Nat) (a0 : List C) (a1_0 : Int) (a1_1 : Int) (a1_2 : Int) (a1_3 : Int) (a1_4 : Int) (k2 : Nat) :
 cl fu (d + 1) fn_slices_BinarySearchFunc_sapi_Normal_api_Normal_api_Normal [V.c (C.sl n0 a0), V.agg ([C.v (.int .i64 a1_0), C.v (.int .i64 a1_1), C.v (.int .i64 a1_2), C.v (.int .i64 a1_3), C.v (.int .i64 a1_4)]), V.c (C.fn k2 ([]))] [] = (
 (iter (fun (y : Int × Int × Unit) =>
 bif decide (y.1 < y.2.1) then
 need (inR (IntKind.i64.wrap (Int.fdiv (IntKind.u64.wrap (IntKind.i64.wrap (y.1 + y.2.1))) (2 ^ 1))) n0) <|
 unc (List.drop (((IntKind.i64.wrap (Int.fdiv (IntKind.u64.wrap (IntKind.i64.wrap (y.1 + y.2.1))) (2 ^ 1))).toNat) * 5) a0) fun c r =>
 asI .i64 c fun i =>
 unc r fun c1 r1 =>
 asI .i64 c1 fun i1 =>
 unc r1 fun c2 r2 =>
 asI .i64 c2 fun i2 =>
 unc r2 fun c3 r3 =>
 asI .i64 c3 fun i3 =>
 unc r3 fun c4 _ =>
 asI .i64 c4 fun i4 =>
 (cl fu d k2 [V.agg ([C.v (.int .i64 i), C.v (.int .i64 i1), C.v (.int .i64 i2), C.v (.int .i64 i3), C.v (.int .i64 i4)]), V.agg ([C.v (.int .i64 a1_0), C.v (.int .i64 a1_1), C.v (.int .i64 a1_2), C.v (.int .i64 a1_3), C.v (.int .i64 a1_4)])] []).bind fun out =>
 rC out.r fun c5 =>
 asI .i64 c5 fun i5 =>
 bif decide (i5 < 0) then
 some (0, (IntKind.i64.wrap ((IntKind.i64.wrap (Int.fdiv (IntKind.u64.wrap (IntKind.i64.wrap (y.1 + y.2.1))) (2 ^ 1))) + 1), y.2.1, ()))
 else
 some (0, (y.1, IntKind.i64.wrap (Int.fdiv (IntKind.u64.wrap (IntKind.i64.wrap (y.1 + y.2.1))) (2 ^ 1)), ()))
 else
 some (1, (y.1, y.2.1, ()))) fu (0, ((n0 : Nat) : Int), ())).bind fun p =>
 bif decide (p.2.1 < ((n0 : Nat) : Int)) then
 need (inR p.2.1 n0) <|
 unc (List.drop (p.2.1.toNat * 5) a0) fun c6 r5 =>
 asI .i64 c6 fun i6 =>
 unc r5 fun c7 r6 =>
 asI .i64 c7 fun i7 =>
 unc r6 fun c8 r7 =>
 asI .i64 c8 fun i8 =>
 unc r7 fun c9 r8 =>
 asI .i64 c9 fun i9 =>
 unc r8 fun c10 _ =>
 asI .i64 c10 fun i10 =>
 (cl fu d k2 [V.agg ([C.v (.int .i64 i6), C.v (.int .i64 i7), C.v (.int .i64 i8), C.v (.int .i64 i9), C.v (.int .i64 i10)]), V.agg ([C.v (.int .i64 a1_0), C.v (.int .i64 a1_1), C.v (.int .i64 a1_2), C.v (.int .i64 a1_3), C.v (.int .i64 a1_4)])] []).bind fun out1 =>
 rC out1.r fun c11 =>
 asI .i64 c11 fun i11 =>
 some ⟨V.tup [I p.2.1, B (i11 == 0)], [], none⟩
 else
 some ⟨V.tup [I p.2.1, B false], [], none⟩) := by kernel_rfl
/- synoptic/synopticref02.Valid -/
theorem eq_synopticref02_Valid (fu d : Nat) (a0_0 : Int) (a0_1 : Int) (a0_2 : Int) (a0_3 : Int) :
 cl fu (d + 1) fn_synopticref02_Valid [V.agg ([C.v (.int .i64 a0_0), C.v (.int .i64 a0_1), C.v (.int .i64 a0_2), C.v (.int .i64 a0_3)])] [] = (
 bif decide (a0_0 ≥ 0) then
 bif decide (a0_0 < 20) then
 bif decide (a0_1 ≥ 0) then
 bif decide (a0_1 ≤ 840) then
 bif decide (a0_2 ≥ 0) then
 bif decide (a0_2 ≤ 840) then
 bif decide (a0_3 ≥ 0) then
 bif decide (a0_3 ≤ 840) then
 some ⟨B ((IntKind.i64.wrap ((IntKind.i64.wrap (a0_1 + a0_2)) + a0_3)) == 840), [], none⟩
 else
 some ⟨B false, [], none⟩
 else
 some ⟨B false, [], none⟩
 else
 some ⟨B false, [], none⟩
 else
 some ⟨B false, [], none⟩
 else
 some ⟨B false, [], none⟩
 else
 some ⟨B false, [], none⟩
 else
 some ⟨B false, [], none⟩
 else
 some ⟨B false, [], none⟩) := by kernel_rfl
/- synoptic/synopticref02.Weights -/
theorem eq_synopticref02_Weights (fu d : Nat) (a0_0 : Int) (a0_1 : Int) (a0_2 : Int) (a0_3 : Int) :
 cl fu (d + 1) fn_synopticref02_Weights [V.agg ([C.v (.int .i64 a0_0), C.v (.int .i64 a0_1), C.v (.int .i64 a0_2), C.v (.int .i64 a0_3)])] [] = (
 (cl fu d fn_synopticref02_Corners [I a0_0] []).bind fun out =>
 rT out.r fun xs =>
 uncV xs fun x ys =>
 rA x fun cs =>
 uncV ys fun x1 ys1 =>
 rC x1 fun c =>
 asI .i64 c fun i =>
 nilV ys1 <|
 need ((((Nat.beq cs.length 3) && true) && (Nat.ble (0 + cs.length) 3)) && true) <|
 unc (putAt ([C.v (.int .i64 0), C.v (.int .i64 0), C.v (.int .i64 0)]) 0 cs) fun c1 _ =>
 asI .i64 c1 fun i1 =>
 unc (List.drop 1 (putAt ([C.v (.int .i64 0), C.v (.int .i64 0), C.v (.int .i64 0)]) 0 cs)) fun c2 _ =>
 asI .i64 c2 fun i2 =>
 unc (List.drop 2 (putAt ([C.v (.int .i64 0), C.v (.int .i64 0), C.v (.int .i64 0)]) 0 cs)) fun c3 _ =>
 asI .i64 c3 fun i3 =>
 need (inR i1 12) <|
 need (((Nat.ble 0 (0 + (i1.toNat * 1))) && (Nat.ble ((0 + (i1.toNat * 1)) + 1) 12)) && true) <|
 bd (putAt ([C.v (.int .i64 0), C.v (.int .i64 0), C.v (.int .i64 0), C.v (.int .i64 0), C.v (.int .i64 0), C.v (.int .i64 0), C.v (.int .i64 0), C.v (.int .i64 0), C.v (.int .i64 0), C.v (.int .i64 0), C.v (.int .i64 0), C.v (.int .i64 0)]) (0 + (i1.toNat * 1)) ([C.v (.int .i64 a0_1)])) fun cs1 =>
 need (inR i2 12) <|
 need (((Nat.ble 0 (0 + (i2.toNat * 1))) && (Nat.ble ((0 + (i2.toNat * 1)) + 1) cs1.length)) && true) <|
 need (inR i3 12) <|
 need (((Nat.ble 0 (0 + (i3.toNat * 1))) && (Nat.ble ((0 + (i3.toNat * 1)) + 1) ((putAt cs1 (0 + (i2.toNat * 1)) ([C.v (.int .i64 a0_2)])).length))) && true) <|
 need (Nat.ble 12 ((putAt (putAt cs1 (0 + (i2.toNat * 1)) ([C.v (.int .i64 a0_2)])) (0 + (i3.toNat * 1)) ([C.v (.int .i64 a0_3)])).length)) <|
 need ((((Nat.beq ((List.take 12 (putAt (putAt cs1 (0 + (i2.toNat * 1)) ([C.v (.int .i64 a0_2)])) (0 + (i3.toNat * 1)) ([C.v (.int .i64 a0_3)]))).length) 12) && true) && (Nat.ble (0 + ((List.take 12 (putAt (putAt cs1 (0 + (i2.toNat * 1)) ([C.v (.int .i64 a0_2)])) (0 + (i3.toNat * 1)) ([C.v (.int .i64 a0_3)]))).length)) 12)) && true) <|
 bd (putAt ([C.v (.int .i64 0), C.v (.int .i64 0), C.v (.int .i64 0), C.v (.int .i64 0), C.v (.int .i64 0), C.v (.int .i64 0), C.v (.int .i64 0), C.v (.int .i64 0), C.v (.int .i64 0), C.v (.int .i64 0), C.v (.int .i64 0), C.v (.int .i64 0)]) 0 (List.take 12 (putAt (putAt cs1 (0 + (i2.toNat * 1)) ([C.v (.int .i64 a0_2)])) (0 + (i3.toNat * 1)) ([C.v (.int .i64 a0_3)])))) fun cs2 =>
 need (Nat.ble 12 cs2.length) <|
 some ⟨V.agg (List.take 12 cs2), [], none⟩) := by kernel_rfl
/- synoptic/synopticref02.On -/
theorem eq_synopticref02_On (fu d : Nat) (a0 : Int) (a1 : List C) :
 cl fu (d + 1) fn_synopticref02_On [I a0, V.agg a1] [] = (
 (cl fu d fn_synopticref02_Corners [I a0] []).bind fun out =>
 rT out.r fun xs =>
 uncV xs fun x ys =>
 rA x fun cs =>
 uncV ys fun x1 ys1 =>
 rC x1 fun c =>
 asI .i64 c fun i =>
 nilV ys1 <|
 need ((((Nat.beq cs.length 3) && true) && (Nat.ble (0 + cs.length) 3)) && true) <|
 unc (putAt ([C.v (.int .i64 0), C.v (.int .i64 0), C.v (.int .i64 0)]) 0 cs) fun c1 _ =>
 asI .i64 c1 fun i1 =>
 need (inR i1 12) <|
 unc (List.drop (i1.toNat * 1) a1) fun c2 _ =>
 asI .i64 c2 fun i2 =>
 unc (List.drop 1 (putAt ([C.v (.int .i64 0), C.v (.int .i64 0), C.v (.int .i64 0)]) 0 cs)) fun c3 _ =>
 asI .i64 c3 fun i3 =>
 need (inR i3 12) <|
 unc (List.drop (i3.toNat * 1) a1) fun c4 _ =>
 asI .i64 c4 fun i4 =>
 unc (List.drop 2 (putAt ([C.v (.int .i64 0), C.v (.int .i64 0), C.v (.int .i64 0)]) 0 cs)) fun c5 _ =>
 asI .i64 c5 fun i5 =>
 need (inR i5 12) <|
 unc (List.drop (i5.toNat * 1) a1) fun c6 _ =>
 asI .i64 c6 fun i6 =>
 some ⟨V.tup [V.agg ([C.v (.int .i64 a0), C.v (.int .i64 i2), C.v (.int .i64 i4), C.v (.int .i64 i6)]), B ((IntKind.i64.wrap ((IntKind.i64.wrap (i2 + i4)) + i6)) == 840)], [], none⟩) := by kernel_rfl
/- (*synoptic/synoptickeep.Src).Text -/
theorem eq_synoptickeep_Src_Text (fu d : Nat) (a0_0 : C) (a0_1 : Int) (n1 : Nat) (a1 : List C) :
 cl fu (d + 1) fn_synoptickeep_Src_Text [V.ptr 1000000 0, V.c (C.sl n1 a1)] [.ob ty_synoptickeep_Src 0 ([a0_0, C.v (.int .i64 a0_1)])] = (
 (cl fu d fn_synoptickeep_Src_N [V.ptr 1000000 0, I ((n1 : Nat) : Int)] [.ob ty_synoptickeep_Src 0 ([a0_0, C.v (.int .i64 a0_1)])]).bind fun out =>
 uncO out.objs fun o os =>
 rO o ty_synoptickeep_Src 0 fun cs =>
 need ((Nat.beq cs.length 2) && true) <|
 unc cs fun c r =>
 unc r fun c1 _ =>
 asI .i64 c1 fun i =>
 rC out.r fun c2 =>
 asI .i64 c2 fun i1 =>
 need (inR i1 n1) <|
 unc (List.drop (i1.toNat * 1) a1) fun c3 _ =>
 asS c3 fun s =>
 some ⟨V.c (C.v (.string s)), [.ob ty_synoptickeep_Src 0 ([c, C.v (.int .i64 i)])], none⟩) := by kernel_rfl
/- synoptic/synopticdata.Name -/
theorem eq_synopticdata_Name (fu d : Nat) (a0_0 : C) (a0_1 : Int) :
 cl fu (d + 1) fn_synopticdata_Name [V.ptr 1000000 0] [.ob ty_synoptickeep_Src 0 ([a0_0, C.v (.int .i64 a0_1)])] = (
 (cl fu d fn_synoptickeep_Src_Text [V.ptr 1000000 0, V.c (C.sl 6 ([C.v (.string (⟨#[65, 76, 80, 72, 65]⟩)), C.v (.string (⟨#[66, 82, 65, 86, 79]⟩)), C.v (.string (⟨#[48, 49, 50, 51, 52]⟩)), C.v (.string (⟨#[68, 69, 76, 84, 65]⟩)), C.v (.string (⟨#[69, 67, 72, 79, 55]⟩)), C.v (.string (⟨#[55, 55, 55, 55, 55]⟩))]))] [.ob ty_synoptickeep_Src 0 ([a0_0, C.v (.int .i64 a0_1)])]).bind fun out =>
 uncO out.objs fun o os =>
 rO o ty_synoptickeep_Src 0 fun cs =>
 need ((Nat.beq cs.length 2) && true) <|
 unc cs fun c r =>
 unc r fun c1 _ =>
 asI .i64 c1 fun i =>
 rC out.r fun c2 =>
 asS c2 fun s =>
 some ⟨V.c (C.v (.string s)), [.ob ty_synoptickeep_Src 0 ([c, C.v (.int .i64 i)])], none⟩) := by kernel_rfl
/- synoptic/synopticdata.Near -/
theorem eq_synopticdata_Near (fu d : Nat) (a0_0 : C) (a0_1 : Int) (a1 : Int) :
 cl fu (d + 1) fn_synopticdata_Near [V.ptr 1000000 0, I a1] [.ob ty_synoptickeep_Src 0 ([a0_0, C.v (.int .i64 a0_1)])] = (
 (cl fu d fn_synoptickeep_Src_Range [V.ptr 1000000 0, I (-600), I 600] [.ob ty_synoptickeep_Src 0 ([a0_0, C.v (.int .i64 a0_1)])]).bind fun out =>
 uncO out.objs fun o os =>
 rO o ty_synoptickeep_Src 0 fun cs =>
 need ((Nat.beq cs.length 2) && true) <|
 unc cs fun c r =>
 unc r fun c1 _ =>
 asI .i64 c1 fun i =>
 rC out.r fun c2 =>
 asI .i64 c2 fun i1 =>
 (cl fu d fn_synoptickeep_Src_Range [V.ptr 1000000 0, I (-20159), I 20159] [.ob ty_synoptickeep_Src 0 ([c, C.v (.int .i64 i)])]).bind fun out1 =>
 uncO out1.objs fun o1 os1 =>
 rO o1 ty_synoptickeep_Src 0 fun cs1 =>
 need ((Nat.beq cs1.length 2) && true) <|
 unc cs1 fun c3 r2 =>
 unc r2 fun c4 _ =>
 asI .i64 c4 fun i2 =>
 rC out1.r fun c5 =>
 asI .i64 c5 fun i3 =>
 (cl fu d fn_synoptickeep_Src_Pick [V.ptr 1000000 0, V.c (C.sl 3 ([C.v (.int .i64 0), C.v (.int .i64 i1), C.v (.int .i64 i3)]))] [.ob ty_synoptickeep_Src 0 ([c3, C.v (.int .i64 i2)])]).bind fun out2 =>
 uncO out2.objs fun o2 os2 =>
 rO o2 ty_synoptickeep_Src 0 fun cs2 =>
 need ((Nat.beq cs2.length 2) && true) <|
 unc cs2 fun c6 r4 =>
 unc r4 fun c7 _ =>
 asI .i64 c7 fun i4 =>
 rC out2.r fun c8 =>
 asI .i64 c8 fun i5 =>
 bd (if (if IntKind.i64.wrap (a1 + i5) < 52595999 then IntKind.i64.wrap (a1 + i5) else 52595999) > 0 then (if IntKind.i64.wrap (a1 + i5) < 52595999 then IntKind.i64.wrap (a1 + i5) else 52595999) else 0) fun z =>
 some ⟨I z, [.ob ty_synoptickeep_Src 0 ([c6, C.v (.int .i64 i4)])], none⟩) := by kernel_rfl
/- synoptic/synopticref04.List -/
theorem eq_synopticref04_List (fu d : Nat) (a0_0 : C) (a0_1 : Int) :
 cl fu (d + 1) fn_synopticref04_List [V.ptr 1000000 0] [.ob ty_synoptickeep_Src 0 ([a0_0, C.v (.int .i64 a0_1)])] = (
 (iter (fun (y : List C × Int × (C × Int × Unit) × Unit) =>
 bif decide (y.2.1 ≤ 11) then
 (cl fu d fn_synoptickeep_Src_N [V.ptr 1000000 0, I 3] [.ob ty_synoptickeep_Src 0 ([y.2.2.1.1, C.v (.int .i64 y.2.2.1.2.1)])]).bind fun out =>
 uncO out.objs fun o os =>
 rO o ty_synoptickeep_Src 0 fun cs =>
 need ((Nat.beq cs.length 2) && true) <|
 unc cs fun c r =>
 unc r fun c1 _ =>
 asI .i64 c1 fun i =>
 rC out.r fun c2 =>
 asI .i64 c2 fun i1 =>
 bif i1 == 0 then
 (cl fu d fn_synopticref04_Some [V.ptr 1000000 0, I y.2.1] [.ob ty_synoptickeep_Src 0 ([c, C.v (.int .i64 i)])]).bind fun out1 =>
 uncO out1.objs fun o1 os1 =>
 rO o1 ty_synoptickeep_Src 0 fun cs1 =>
 need ((Nat.beq cs1.length 2) && true) <|
 unc cs1 fun c3 r2 =>
 unc r2 fun c4 _ =>
 asI .i64 c4 fun i2 =>
 rA out1.r fun cs2 =>
 need (Nat.beq cs2.length 2) <|
 unc cs2 fun c5 r4 =>
 asI .i64 c5 fun i3 =>
 unc r4 fun c6 _ =>
 asI .i64 c6 fun i4 =>
 need ((((Nat.beq ((y.1.length / 2) * 2) y.1.length) && true) && (Nat.ble (((y.1.length / 2) + 1) * 16) 140737488355328)) && (Nat.ble ((y.1.length / 2) + 1) 140737488355328)) <|
 need (((Nat.beq (((y.1.length / 2) + 1) * 2) ((y.1 ++ ([C.v (.int .i64 i3), C.v (.int .i64 i4)])).length)) && true) && true) <|
 some (0, (y.1 ++ ([C.v (.int .i64 i3), C.v (.int .i64 i4)]), IntKind.i64.wrap (y.2.1 + 1), (c3, i2, ()), ()))
 else
 need (((Nat.beq ((y.1.length / 2) * 2) y.1.length) && true) && true) <|
 some (0, (y.1, IntKind.i64.wrap (y.2.1 + 1), (c, i, ()), ()))
 else
 need (((Nat.beq ((y.1.length / 2) * 2) y.1.length) && true) && true) <|
 some (1, (y.1, y.2.1, (y.2.2.1.1, y.2.2.1.2.1, ()), ()))) fu ([], 1, (a0_0, a0_1, ()), ())).bind fun p =>
 need (Nat.ble (0 + ((p.2.1.length / 2) * 2)) p.2.1.length) <|
 some ⟨V.c (C.sl (p.2.1.length / 2) (List.take ((p.2.1.length / 2) * 2) p.2.1)), [.ob ty_synoptickeep_Src 0 ([p.2.2.2.1.1, C.v (.int .i64 p.2.2.2.1.2.1)])], none⟩) := by kernel_rfl
/- synoptic/synopticref04.Describe -/
theorem eq_synopticref04_Describe (fu d : Nat) (a0 : Int) :
 cl fu (d + 1) fn_synopticref04_Describe [I a0] [] = (
 bif decide (a0 < 1) then
 some ⟨V.tup [V.agg ([C.v (.string (⟨#[]⟩)), C.v (.int .i64 0), C.v (.int .i64 0), C.v (.int .i64 0)]), I 4], [], none⟩
 else
 bif decide (a0 > 11) then
 some ⟨V.tup [V.agg ([C.v (.string (⟨#[]⟩)), C.v (.int .i64 0), C.v (.int .i64 0), C.v (.int .i64 0)]), I 4], [], none⟩
 else
 need (inR (IntKind.i64.wrap (a0 - 1)) 11) <|
 unc (List.drop (((IntKind.i64.wrap (a0 - 1)).toNat) * 4) ([C.v (.string (⟨#[80]⟩)), C.v (.int .i64 8000), C.v (.int .i64 11000), C.v (.int .i64 5), C.v (.string (⟨#[84]⟩)), C.v (.int .i64 1800), C.v (.int .i64 3300), C.v (.int .i64 4), C.v (.string (⟨#[68]⟩)), C.v (.int .i64 1800), C.v (.int .i64 3300), C.v (.int .i64 4), C.v (.string (⟨#[69]⟩)), C.v (.int .i64 (-1000)), C.v (.int .i64 1000), C.v (.int .i64 4), C.v (.string (⟨#[78]⟩)), C.v (.int .i64 (-1000)), C.v (.int .i64 1000), C.v (.int .i64 4), C.v (.string (⟨#[65]⟩)), C.v (.int .i64 900), C.v (.int .i64 1700), C.v (.int .i64 4), C.v (.string (⟨#[66]⟩)), C.v (.int .i64 2000), C.v (.int .i64 3200), C.v (.int .i64 4), C.v (.string (⟨#[70]⟩)), C.v (.int .i64 2400), C.v (.int .i64 3400), C.v (.int .i64 4), C.v (.string (⟨#[71]⟩)), C.v (.int .i64 2000), C.v (.int .i64 3000), C.v (.int .i64 4), C.v (.string (⟨#[74]⟩)), C.v (.int .i64 4400), C.v (.int .i64 6200), C.v (.int .i64 4), C.v (.string (⟨#[75]⟩)), C.v (.int .i64 2000), C.v (.int .i64 2900), C.v (.int .i64 4)])) fun c r =>
 asS c fun s =>
 unc r fun c1 r1 =>
 asI .i64 c1 fun i =>
 unc r1 fun c2 r2 =>
 asI .i64 c2 fun i1 =>
 unc r2 fun c3 _ =>
 asI .i64 c3 fun i2 =>
 some ⟨V.tup [V.agg ([C.v (.string s), C.v (.int .i64 i), C.v (.int .i64 i1), C.v (.int .i64 i2)]), I 0], [], none⟩) := by kernel_rfl
/- synoptic/place.Valid -/
theorem eq_place_Valid (fu d : Nat) (a0_0 : Int) (a0_1 : Int) (a0_2 : Int) (a0_3 : Int) :
 cl fu (d + 1) fn_place_Valid [V.agg ([C.v (.int .i64 a0_0), C.v (.int .i64 a0_1), C.v (.int .i64 a0_2), C.v (.int .i64 a0_3)])] [] = (
 (iter (fun (y : Bool × Int × Unit) =>
 bif decide (y.2.1 < 3) then
 need (inR y.2.1 3) <|
 unc (List.drop (y.2.1.toNat * 1) ([C.v (.int .i64 a0_1), C.v (.int .i64 a0_2), C.v (.int .i64 a0_3)])) fun c _ =>
 asI .i64 c fun i =>
 bif decide (i < 0) then
 some (2, (false, y.2.1, ()))
 else
 bif decide (i > 840) then
 some (2, (false, y.2.1, ()))
 else
 some (0, (y.1, IntKind.i64.wrap (y.2.1 + 1), ()))
 else
 some (1, (y.1, y.2.1, ()))) fu (false, 0, ())).bind fun p =>
 natD p.1 (
 (cl fu d fn_place_face [I a0_0] []).bind fun out =>
 rC out.r fun c1 =>
 asB c1 fun b =>
 bif b then
 some ⟨B ((IntKind.i64.wrap ((IntKind.i64.wrap (a0_1 + a0_2)) + a0_3)) == 840), [], none⟩
 else
 some ⟨B false, [], none⟩) fun m =>
 some ⟨B p.2.1, [], none⟩) := by kernel_rfl
/- synoptic/place.of -/
theorem eq_place_of (fu d : Nat) (a0_0 : Int) (a0_1 : Int) (a0_2 : Int) (a0_3 : Int) :
 cl fu (d + 1) fn_place_of [V.agg ([C.v (.int .i64 a0_0), C.v (.int .i64 a0_1), C.v (.int .i64 a0_2), C.v (.int .i64 a0_3)])] [] = (
 need (inR a0_0 20) <|
 need (Nat.ble 3 ((List.drop (a0_0.toNat * 3) gl_place_corners).length)) <|
 need ((((Nat.beq ((List.take 3 (List.drop (a0_0.toNat * 3) gl_place_corners)).length) 3) && true) && (Nat.ble (0 + ((List.take 3 (List.drop (a0_0.toNat * 3) gl_place_corners)).length)) 3)) && true) <|
 unc (putAt ([C.v (.int .i64 0), C.v (.int .i64 0), C.v (.int .i64 0)]) 0 (List.take 3 (List.drop (a0_0.toNat * 3) gl_place_corners))) fun c _ =>
 asI .i64 c fun i =>
 unc (List.drop 1 (putAt ([C.v (.int .i64 0), C.v (.int .i64 0), C.v (.int .i64 0)]) 0 (List.take 3 (List.drop (a0_0.toNat * 3) gl_place_corners)))) fun c1 _ =>
 asI .i64 c1 fun i1 =>
 unc (List.drop 2 (putAt ([C.v (.int .i64 0), C.v (.int .i64 0), C.v (.int .i64 0)]) 0 (List.take 3 (List.drop (a0_0.toNat * 3) gl_place_corners)))) fun c2 _ =>
 asI .i64 c2 fun i2 =>
 need (inR i 12) <|
 need (((Nat.ble 0 (0 + (i.toNat * 1))) && (Nat.ble ((0 + (i.toNat * 1)) + 1) 12)) && true) <|
 bd (putAt ([C.v (.int .i64 0), C.v (.int .i64 0), C.v (.int .i64 0), C.v (.int .i64 0), C.v (.int .i64 0), C.v (.int .i64 0), C.v (.int .i64 0), C.v (.int .i64 0), C.v (.int .i64 0), C.v (.int .i64 0), C.v (.int .i64 0), C.v (.int .i64 0)]) (0 + (i.toNat * 1)) ([C.v (.int .i64 a0_1)])) fun cs =>
 need (inR i1 12) <|
 need (((Nat.ble 0 (0 + (i1.toNat * 1))) && (Nat.ble ((0 + (i1.toNat * 1)) + 1) cs.length)) && true) <|
 need (inR i2 12) <|
 need (((Nat.ble 0 (0 + (i2.toNat * 1))) && (Nat.ble ((0 + (i2.toNat * 1)) + 1) ((putAt cs (0 + (i1.toNat * 1)) ([C.v (.int .i64 a0_2)])).length))) && true) <|
 need (Nat.ble 12 ((putAt (putAt cs (0 + (i1.toNat * 1)) ([C.v (.int .i64 a0_2)])) (0 + (i2.toNat * 1)) ([C.v (.int .i64 a0_3)])).length)) <|
 need ((((Nat.beq ((List.take 12 (putAt (putAt cs (0 + (i1.toNat * 1)) ([C.v (.int .i64 a0_2)])) (0 + (i2.toNat * 1)) ([C.v (.int .i64 a0_3)]))).length) 12) && true) && (Nat.ble (0 + ((List.take 12 (putAt (putAt cs (0 + (i1.toNat * 1)) ([C.v (.int .i64 a0_2)])) (0 + (i2.toNat * 1)) ([C.v (.int .i64 a0_3)]))).length)) 12)) && true) <|
 bd (putAt ([C.v (.int .i64 0), C.v (.int .i64 0), C.v (.int .i64 0), C.v (.int .i64 0), C.v (.int .i64 0), C.v (.int .i64 0), C.v (.int .i64 0), C.v (.int .i64 0), C.v (.int .i64 0), C.v (.int .i64 0), C.v (.int .i64 0), C.v (.int .i64 0)]) 0 (List.take 12 (putAt (putAt cs (0 + (i1.toNat * 1)) ([C.v (.int .i64 a0_2)])) (0 + (i2.toNat * 1)) ([C.v (.int .i64 a0_3)])))) fun cs1 =>
 need (Nat.ble 12 cs1.length) <|
 some ⟨V.agg (List.take 12 cs1), [], none⟩) := by kernel_rfl
/- synoptic/place.on -/
theorem eq_place_on (fu d : Nat) (a0 : Int) (a1 : List C) :
 cl fu (d + 1) fn_place_on [I a0, V.agg a1] [] = (
 need (inR a0 20) <|
 need (Nat.ble 3 ((List.drop (a0.toNat * 3) gl_place_corners).length)) <|
 need ((((Nat.beq ((List.take 3 (List.drop (a0.toNat * 3) gl_place_corners)).length) 3) && true) && (Nat.ble (0 + ((List.take 3 (List.drop (a0.toNat * 3) gl_place_corners)).length)) 3)) && true) <|
 unc (putAt ([C.v (.int .i64 0), C.v (.int .i64 0), C.v (.int .i64 0)]) 0 (List.take 3 (List.drop (a0.toNat * 3) gl_place_corners))) fun c r =>
 asI .i64 c fun i =>
 need (inR i 12) <|
 unc (List.drop (i.toNat * 1) a1) fun c1 _ =>
 asI .i64 c1 fun i1 =>
 unc (List.drop 1 (putAt ([C.v (.int .i64 0), C.v (.int .i64 0), C.v (.int .i64 0)]) 0 (List.take 3 (List.drop (a0.toNat * 3) gl_place_corners)))) fun c2 _ =>
 asI .i64 c2 fun i2 =>
 need (inR i2 12) <|
 unc (List.drop (i2.toNat * 1) a1) fun c3 _ =>
 asI .i64 c3 fun i3 =>
 unc (List.drop 2 (putAt ([C.v (.int .i64 0), C.v (.int .i64 0), C.v (.int .i64 0)]) 0 (List.take 3 (List.drop (a0.toNat * 3) gl_place_corners)))) fun c4 _ =>
 asI .i64 c4 fun i4 =>
 need (inR i4 12) <|
 unc (List.drop (i4.toNat * 1) a1) fun c5 _ =>
 asI .i64 c5 fun i5 =>
 (cl fu d fn_place_Valid [V.agg ([C.v (.int .i64 a0), C.v (.int .i64 i1), C.v (.int .i64 i3), C.v (.int .i64 i5)])] []).bind fun out =>
 rC out.r fun c6 =>
 asB c6 fun b =>
 some ⟨V.tup [V.agg ([C.v (.int .i64 a0), C.v (.int .i64 i1), C.v (.int .i64 i3), C.v (.int .i64 i5)]), B b], [], none⟩) := by kernel_rfl
/- synoptic/clock.in -/
theorem eq_clock_in (fu d : Nat) (a0 : Int) :
 cl fu (d + 1) fn_clock_in [I a0] [] = (
 bif decide (a0 ≥ 0) then
 some ⟨B (decide (a0 ≤ 52595999)), [], none⟩
 else
 some ⟨B false, [], none⟩) := by kernel_rfl
/- synoptic/clock.first -/
theorem eq_clock_first (fu d : Nat) (a0 : Int) :
 cl fu (d + 1) fn_clock_first [I a0] [] = (
 bd (IntKind.i64.wrap ((IntKind.i64.wrap (365 * (IntKind.i64.wrap (a0 - 2000)))) + (IntKind.i64.wrap (Int.tdiv (IntKind.i64.wrap ((IntKind.i64.wrap (a0 - 2000)) + 3)) 4)))) fun z =>
 some ⟨I (IntKind.i64.wrap (1440 * z)), [], none⟩) := by kernel_rfl
/- synoptic/clock.lengths -/
theorem eq_clock_lengths (fu d : Nat) (a0 : Int) :
 cl fu (d + 1) fn_clock_lengths [I a0] [] = (
 bif (Int.tmod a0 4) == 0 then
 some ⟨V.agg ([C.v (.int .i64 31), C.v (.int .i64 29), C.v (.int .i64 31), C.v (.int .i64 30), C.v (.int .i64 31), C.v (.int .i64 30), C.v (.int .i64 31), C.v (.int .i64 31), C.v (.int .i64 30), C.v (.int .i64 31), C.v (.int .i64 30), C.v (.int .i64 31)]), [], none⟩
 else
 some ⟨V.agg ([C.v (.int .i64 31), C.v (.int .i64 28), C.v (.int .i64 31), C.v (.int .i64 30), C.v (.int .i64 31), C.v (.int .i64 30), C.v (.int .i64 31), C.v (.int .i64 31), C.v (.int .i64 30), C.v (.int .i64 31), C.v (.int .i64 30), C.v (.int .i64 31)]), [], none⟩) := by kernel_rfl
/- synoptic/element.Validate$1 -/
theorem eq_element_Validate_1 (fu d : Nat) (a0 : Int) (e0 : List C) :
 cl fu (d + 1) fn_element_Validate_1 [I a0, V.c (C.cp e0)] [] = (
 unc e0 fun c r =>
 need (noYl [V.c (nrm c)]) <|
 (cl fu d fn_slices_ContainsFunc_sapi_Reading_api_Reading [V.c (nrm c), V.c (C.fn fn_element_Validate_1_1 ([C.cp ([C.v (.int .i64 a0)])]))] []).bind fun out =>
 rC out.r fun c1 =>
 asB c1 fun b =>
 some ⟨B b, [], none⟩) := by kernel_rfl
/- slices.ContainsFunc[[]synoptic/api.Reading,synoptic/api.Reading] -/
theorem eq1_slices_ContainsFunc_sapi_Reading_api_Reading (fu d : Nat) (n0 : Nat) (a0 : List C) (k1 : Nat) (a1_0 : C) :
 cl fu (d + 1) fn_slices_ContainsFunc_sapi_Reading_api_Reading [V.c (C.sl n0 a0), V.c (C.fn k1 ([a1_0]))] [] = (
 (cl fu d fn_slices_IndexFunc_sapi_Reading_api_Reading [V.c (C.sl n0 a0), V.c (C.fn k1 ([a1_0]))] []).bind fun out =>
 rC out.r fun c =>
 asI .i64 c fun i =>
 some ⟨B (decide (i ≥ 0)), [], none⟩) := by kernel_rfl
/- synoptic/element.Validate$1$1 -/
theorem eq_element_Validate_1_1 (fu d : Nat) (a0_0 : Int) (a0_1 : Int) (e0 : List C) :
 cl fu (d + 1) fn_element_Validate_1_1 [V.agg ([C.v (.int .i64 a0_0), C.v (.int .i64 a0_1)]), V.c (C.cp e0)] [] = (
 (cl fu d fn_element_check [V.agg ([C.v (.int .i64 a0_0), C.v (.int .i64 a0_1)])] []).bind fun out =>
 rC out.r fun c =>
 asI .i64 c fun i =>
 unc e0 fun c1 _ =>
 asI .i64 c1 fun i1 =>
 some ⟨B (i == i1), [], none⟩) := by kernel_rfl
/- synoptic/element.check -/
theorem eq_element_check (fu d : Nat) (a0_0 : Int) (a0_1 : Int) :
 cl fu (d + 1) fn_element_check [V.agg ([C.v (.int .i64 a0_0), C.v (.int .i64 a0_1)])] [] = (
 (cl fu d fn_element_Describe [I a0_0] []).bind fun out =>
 rT out.r fun xs =>
 uncV xs fun x ys =>
 rA x fun cs =>
 need (Nat.beq cs.length 4) <|
 unc cs fun c r =>
 asS c fun s =>
 unc r fun c1 r1 =>
 asI .i64 c1 fun i =>
 unc r1 fun c2 r2 =>
 asI .i64 c2 fun i1 =>
 unc r2 fun c3 _ =>
 asI .i64 c3 fun i2 =>
 uncV ys fun x1 ys1 =>
 rC x1 fun c4 =>
 asI .i64 c4 fun i3 =>
 nilV ys1 <|
 bif i3 == 0 then
 bif decide (a0_1 < i) then
 some ⟨I 1, [], none⟩
 else
 bif decide (a0_1 > i1) then
 some ⟨I 1, [], none⟩
 else
 some ⟨I i3, [], none⟩
 else
 some ⟨I i3, [], none⟩) := by kernel_rfl
/- synoptic/climate.floor -/
theorem eq_climate_floor (fu d : Nat) (a0 : Int) (a1 : Int) :
 cl fu (d + 1) fn_climate_floor [I a0, I a1] [] = (
 need (!(a1 == 0)) <|
 need (!(a1 == 0)) <|
 bif decide (Int.tmod a0 a1 < 0) then
 some ⟨I (IntKind.i64.wrap ((IntKind.i64.wrap (Int.tdiv a0 a1)) - 1)), [], none⟩
 else
 some ⟨I (IntKind.i64.wrap (Int.tdiv a0 a1)), [], none⟩) := by kernel_rfl
/- slices.Max[[]int,int] -/
theorem eq_slices_Max_sint_int (fu d : Nat) (n0 : Nat) (a0 : List C) :
 cl fu (d + 1) fn_slices_Max_sint_int [V.c (C.sl n0 a0)] [] = (
 (bif decide (((n0 : Nat) : Int) < 1) then
 none
 else
 some (0, (())) : Option (Nat × Unit)).bind fun p =>
 need (inR 0 n0) <|
 unc a0 fun c _ =>
 asI .i64 c fun i =>
 (iter (fun (y : Int × Int × Unit) =>
 bif decide (y.2.1 < ((n0 : Nat) : Int)) then
 need (inR y.2.1 n0) <|
 unc (List.drop (y.2.1.toNat * 1) a0) fun c1 _ =>
 asI .i64 c1 fun i1 =>
 some (0, ((if i1 > y.1 then i1 else y.1), IntKind.i64.wrap (y.2.1 + 1), ()))
 else
 some (1, (y.1, y.2.1, ()))) fu (i, 1, ())).bind fun p1 =>
 some ⟨I p1.2.1, [], none⟩) := by kernel_rfl
/- slices.Min[[]int,int] -/
theorem eq_slices_Min_sint_int (fu d : Nat) (n0 : Nat) (a0 : List C) :
 cl fu (d + 1) fn_slices_Min_sint_int [V.c (C.sl n0 a0)] [] = (
 (bif decide (((n0 : Nat) : Int) < 1) then
 none
 else
 some (0, (())) : Option (Nat × Unit)).bind fun p =>
 need (inR 0 n0) <|
 unc a0 fun c _ =>
 asI .i64 c fun i =>
 (iter (fun (y : Int × Int × Unit) =>
 bif decide (y.2.1 < ((n0 : Nat) : Int)) then
 need (inR y.2.1 n0) <|
 unc (List.drop (y.2.1.toNat * 1) a0) fun c1 _ =>
 asI .i64 c1 fun i1 =>
 some (0, ((if i1 < y.1 then i1 else y.1), IntKind.i64.wrap (y.2.1 + 1), ()))
 else
 some (1, (y.1, y.2.1, ()))) fu (i, 1, ())).bind fun p1 =>
 some ⟨I p1.2.1, [], none⟩) := by kernel_rfl
/- cmp.Or[int] -/
theorem eq_cmp_Or_int (fu d : Nat) (n0 : Nat) (a0 : List C) :
 cl fu (d + 1) fn_cmp_Or_int [V.c (C.sl n0 a0)] [] = (
 (iter (fun (y : Int × Int × Unit) =>
 bif decide (y.2.1 < ((n0 : Nat) : Int)) then
 need (inR y.2.1 n0) <|
 unc (List.drop (y.2.1.toNat * 1) a0) fun c _ =>
 asI .i64 c fun i =>
 bif i != 0 then
 some (2, (i, y.2.1, ()))
 else
 some (0, (y.1, IntKind.i64.wrap (y.2.1 + 1), ()))
 else
 some (1, (y.1, y.2.1, ()))) fu (0, 0, ())).bind fun p =>
 natD p.1 (
 some ⟨I 0, [], none⟩) fun m =>
 some ⟨I p.2.1, [], none⟩) := by kernel_rfl
/- cmp.Compare[int] -/
theorem eq_cmp_Compare_int (fu d : Nat) (a0 : Int) (a1 : Int) :
 cl fu (d + 1) fn_cmp_Compare_int [I a0, I a1] [] = (
 (cl fu d fn_cmp_isNaN_int [I a0] []).bind fun out =>
 rC out.r fun c =>
 asB c fun b =>
 (cl fu d fn_cmp_isNaN_int [I a1] []).bind fun out1 =>
 rC out1.r fun c1 =>
 asB c1 fun b1 =>
 bif b then
 bif b1 then
 some ⟨I 0, [], none⟩
 else
 some ⟨I (-1), [], none⟩
 else
 bif b1 then
 some ⟨I 1, [], none⟩
 else
 bif decide (a0 < a1) then
 some ⟨I (-1), [], none⟩
 else
 bif decide (a0 > a1) then
 some ⟨I 1, [], none⟩
 else
 some ⟨I 0, [], none⟩) := by kernel_rfl
/- slices.IndexFunc[[]synoptic/api.Normal,synoptic/api.Normal] -/
theorem eq_slices_IndexFunc_sapi_Normal_api_Normal (fu d : Nat) (n0 : Nat) (a0 : List C) (k1 : Nat) :
 cl fu (d + 1) fn_slices_IndexFunc_sapi_Normal_api_Normal [V.c (C.sl n0 a0), V.c (C.fn k1 ([]))] [] = (
 (iter (fun (y : Int × Int × Unit) =>
 bif decide (y.2.1 < ((n0 : Nat) : Int)) then
 need (inR y.2.1 n0) <|
 unc (List.drop (y.2.1.toNat * 5) a0) fun c r =>
 asI .i64 c fun i =>
 unc r fun c1 r1 =>
 asI .i64 c1 fun i1 =>
 unc r1 fun c2 r2 =>
 asI .i64 c2 fun i2 =>
 unc r2 fun c3 r3 =>
 asI .i64 c3 fun i3 =>
 unc r3 fun c4 _ =>
 asI .i64 c4 fun i4 =>
 (cl fu d k1 [V.agg ([C.v (.int .i64 i), C.v (.int .i64 i1), C.v (.int .i64 i2), C.v (.int .i64 i3), C.v (.int .i64 i4)])] []).bind fun out =>
 rC out.r fun c5 =>
 asB c5 fun b =>
 bif b then
 some (2, (y.2.1, y.2.1, ()))
 else
 some (0, (y.1, IntKind.i64.wrap (y.2.1 + 1), ()))
 else
 some (1, (y.1, y.2.1, ()))) fu (0, 0, ())).bind fun p =>
 natD p.1 (
 some ⟨I (-1), [], none⟩) fun m =>
 some ⟨I p.2.1, [], none⟩) := by kernel_rfl
/- synoptic/element.Describe -/
theorem eq_element_Describe (fu d : Nat) (a0 : Int) :
 cl fu (d + 1) fn_element_Describe [I a0] [] = (
 bif decide (a0 < 1) then
 some ⟨V.tup [V.agg ([C.v (.string (⟨#[]⟩)), C.v (.int .i64 0), C.v (.int .i64 0), C.v (.int .i64 0)]), I 4], [], none⟩
 else
 bif decide (a0 > 11) then
 some ⟨V.tup [V.agg ([C.v (.string (⟨#[]⟩)), C.v (.int .i64 0), C.v (.int .i64 0), C.v (.int .i64 0)]), I 4], [], none⟩
 else
 need (inR (IntKind.i64.wrap (a0 - 1)) 11) <|
 need (Nat.ble 2 ((List.drop (((IntKind.i64.wrap (a0 - 1)).toNat) * 2) gl_element_bounds).length)) <|
 need ((((Nat.beq ((List.take 2 (List.drop (((IntKind.i64.wrap (a0 - 1)).toNat) * 2) gl_element_bounds)).length) 2) && true) && (Nat.ble (0 + ((List.take 2 (List.drop (((IntKind.i64.wrap (a0 - 1)).toNat) * 2) gl_element_bounds)).length)) 2)) && true) <|
 need (inR (IntKind.i64.wrap (a0 - 1)) (⟨#[80, 84, 68, 69, 78, 65, 66, 70, 71, 74, 75]⟩ : ByteArray).size) <|
 bd (((⟨#[80, 84, 68, 69, 78, 65, 66, 70, 71, 74, 75]⟩ : ByteArray).data.getD ((IntKind.i64.wrap (a0 - 1)).toNat) 0).toNat : Int) fun z =>
 unc (putAt ([C.v (.int .i64 0), C.v (.int .i64 0)]) 0 (List.take 2 (List.drop (((IntKind.i64.wrap (a0 - 1)).toNat) * 2) gl_element_bounds))) fun c _ =>
 asI .i64 c fun i =>
 unc (List.drop 1 (putAt ([C.v (.int .i64 0), C.v (.int .i64 0)]) 0 (List.take 2 (List.drop (((IntKind.i64.wrap (a0 - 1)).toNat) * 2) gl_element_bounds)))) fun c1 _ =>
 asI .i64 c1 fun i1 =>
 bif a0 == 1 then
 some ⟨V.tup [V.agg ([C.v (.string (Utf8.encode z)), C.v (.int .i64 i), C.v (.int .i64 i1), C.v (.int .i64 5)]), I 0], [], none⟩
 else
 some ⟨V.tup [V.agg ([C.v (.string (Utf8.encode z)), C.v (.int .i64 i), C.v (.int .i64 i1), C.v (.int .i64 4)]), I 0], [], none⟩) := by kernel_rfl
/- synoptic/synopticref02.Corners -/
theorem eq_synopticref02_Corners (fu d : Nat) (a0 : Int) :
 cl fu (d + 1) fn_synopticref02_Corners [I a0] [] = (
 bif decide (a0 < 0) then
 some ⟨V.tup [V.agg ([C.v (.int .i64 0), C.v (.int .i64 0), C.v (.int .i64 0)]), I 1], [], none⟩
 else
 bif decide (a0 ≥ 20) then
 some ⟨V.tup [V.agg ([C.v (.int .i64 0), C.v (.int .i64 0), C.v (.int .i64 0)]), I 1], [], none⟩
 else
 bif (IntKind.i64.wrap (Int.tdiv a0 5)) == 0 then
 some ⟨V.tup [V.agg ([C.v (.int .i64 0), C.v (.int .i64 (IntKind.i64.wrap (1 + (Int.tmod a0 5)))), C.v (.int .i64 (IntKind.i64.wrap (1 + (Int.tmod (IntKind.i64.wrap ((Int.tmod a0 5) + 1)) 5))))]), I 0], [], none⟩
 else
 bif (IntKind.i64.wrap (Int.tdiv a0 5)) == 1 then
 some ⟨V.tup [V.agg ([C.v (.int .i64 (IntKind.i64.wrap (1 + (Int.tmod a0 5)))), C.v (.int .i64 (IntKind.i64.wrap (6 + (Int.tmod a0 5)))), C.v (.int .i64 (IntKind.i64.wrap (1 + (Int.tmod (IntKind.i64.wrap ((Int.tmod a0 5) + 1)) 5))))]), I 0], [], none⟩
 else
 bif (IntKind.i64.wrap (Int.tdiv a0 5)) == 2 then
 some ⟨V.tup [V.agg ([C.v (.int .i64 (IntKind.i64.wrap (6 + (Int.tmod a0 5)))), C.v (.int .i64 (IntKind.i64.wrap (6 + (Int.tmod (IntKind.i64.wrap ((Int.tmod a0 5) + 1)) 5)))), C.v (.int .i64 (IntKind.i64.wrap (1 + (Int.tmod (IntKind.i64.wrap ((Int.tmod a0 5) + 1)) 5))))]), I 0], [], none⟩
 else
 some ⟨V.tup [V.agg ([C.v (.int .i64 11), C.v (.int .i64 (IntKind.i64.wrap (6 + (Int.tmod (IntKind.i64.wrap ((Int.tmod a0 5) + 1)) 5)))), C.v (.int .i64 (IntKind.i64.wrap (6 + (Int.tmod a0 5))))]), I 0], [], none⟩) := by kernel_rfl
/- synoptic/synopticref04.Some -/
theorem eq_synopticref04_Some (fu d : Nat) (a0_0 : C) (a0_1 : Int) (a1 : Int) :
 cl fu (d + 1) fn_synopticref04_Some [V.ptr 1000000 0, I a1] [.ob ty_synoptickeep_Src 0 ([a0_0, C.v (.int .i64 a0_1)])] = (
 (cl fu d fn_synopticref04_Describe [I a1] []).bind fun out =>
 rT out.r fun xs =>
 uncV xs fun x ys =>
 rA x fun cs =>
 need (Nat.beq cs.length 4) <|
 unc cs fun c r =>
 asS c fun s =>
 unc r fun c1 r1 =>
 asI .i64 c1 fun i =>
 unc r1 fun c2 r2 =>
 asI .i64 c2 fun i1 =>
 unc r2 fun c3 _ =>
 asI .i64 c3 fun i2 =>
 uncV ys fun x1 ys1 =>
 rC x1 fun c4 =>
 asI .i64 c4 fun i3 =>
 nilV ys1 <|
 (cl fu d fn_synoptickeep_Src_Range [V.ptr 1000000 0, I i, I i1] [.ob ty_synoptickeep_Src 0 ([a0_0, C.v (.int .i64 a0_1)])]).bind fun out1 =>
 uncO out1.objs fun o os =>
 rO o ty_synoptickeep_Src 0 fun cs1 =>
 need ((Nat.beq cs1.length 2) && true) <|
 unc cs1 fun c5 r4 =>
 unc r4 fun c6 _ =>
 asI .i64 c6 fun i4 =>
 rC out1.r fun c7 =>
 asI .i64 c7 fun i5 =>
 (cl fu d fn_synoptickeep_Src_N [V.ptr 1000000 0, I 5] [.ob ty_synoptickeep_Src 0 ([c5, C.v (.int .i64 i4)])]).bind fun out2 =>
 uncO out2.objs fun o1 os1 =>
 rO o1 ty_synoptickeep_Src 0 fun cs2 =>
 need ((Nat.beq cs2.length 2) && true) <|
 unc cs2 fun c8 r6 =>
 unc r6 fun c9 _ =>
 asI .i64 c9 fun i6 =>
 rC out2.r fun c10 =>
 asI .i64 c10 fun i7 =>
 bif i7 == 0 then
 (cl fu d fn_synoptickeep_Src_Pick [V.ptr 1000000 0, V.c (C.sl 2 ([C.v (.int .i64 i), C.v (.int .i64 i1)]))] [.ob ty_synoptickeep_Src 0 ([c8, C.v (.int .i64 i6)])]).bind fun out3 =>
 uncO out3.objs fun o2 os2 =>
 rO o2 ty_synoptickeep_Src 0 fun cs3 =>
 need ((Nat.beq cs3.length 2) && true) <|
 unc cs3 fun c11 r8 =>
 unc r8 fun c12 _ =>
 asI .i64 c12 fun i8 =>
 rC out3.r fun c13 =>
 asI .i64 c13 fun i9 =>
 some ⟨V.agg ([C.v (.int .i64 a1), C.v (.int .i64 i9)]), [.ob ty_synoptickeep_Src 0 ([c11, C.v (.int .i64 i8)])], none⟩
 else
 (bif i7 == 1 then
 some (0, (i7 == 1, (0, 0, ()), (s, i, i1, i2, ()), (a1, i5, ()), (c8, i6, ()), ()))
 else
 some (0, (i7 == 2, (0, 0, ()), (s, i, i1, i2, ()), (a1, i5, ()), (c8, i6, ()), ())) : Option (Nat × Bool × (Int × Int × Unit) × (ByteArray × Int × Int × Int × Unit) × (Int × Int × Unit) × (C × Int × Unit) × Unit)).bind fun p =>
 (bif p.2.1 then
 (cl fu d fn_synoptickeep_Src_Range [V.ptr 1000000 0, I (-40), I 40] [.ob ty_synoptickeep_Src 0 ([p.2.2.2.2.2.1.1, C.v (.int .i64 p.2.2.2.2.2.1.2.1)])]).bind fun out4 =>
 uncO out4.objs fun o3 os3 =>
 rO o3 ty_synoptickeep_Src 0 fun cs4 =>
 need ((Nat.beq cs4.length 2) && true) <|
 unc cs4 fun c14 r10 =>
 unc r10 fun c15 _ =>
 asI .i64 c15 fun i10 =>
 rC out4.r fun c16 =>
 asI .i64 c16 fun i11 =>
 some (0, (p.2.1, (p.2.2.1.1, p.2.2.1.2.1, ()), (p.2.2.2.1.1, p.2.2.2.1.2.1, p.2.2.2.1.2.2.1, p.2.2.2.1.2.2.2.1, ()), (p.2.2.2.2.1.1, IntKind.i64.wrap ((IntKind.i64.wrap (Int.tdiv (IntKind.i64.wrap (p.2.2.2.1.2.1 + p.2.2.2.1.2.2.1)) 2)) + i11), ()), (c14, i10, ()), ()))
 else
 some (0, (p.2.1, (p.2.2.1.1, p.2.2.1.2.1, ()), (p.2.2.2.1.1, p.2.2.2.1.2.1, p.2.2.2.1.2.2.1, p.2.2.2.1.2.2.2.1, ()), (p.2.2.2.2.1.1, p.2.2.2.2.1.2.1, ()), (p.2.2.2.2.2.1.1, p.2.2.2.2.2.1.2.1, ()), ())) : Option (Nat × Bool × (Int × Int × Unit) × (ByteArray × Int × Int × Int × Unit) × (Int × Int × Unit) × (C × Int × Unit) × Unit)).bind fun p1 =>
 some ⟨V.agg ([C.v (.int .i64 p1.2.2.2.2.1.1), C.v (.int .i64 p1.2.2.2.2.1.2.1)]), [.ob ty_synoptickeep_Src 0 ([p1.2.2.2.2.2.1.1, C.v (.int .i64 p1.2.2.2.2.2.1.2.1)])], none⟩) := by kernel_rfl
/- synoptic/place.face -/
theorem eq_place_face (fu d : Nat) (a0 : Int) :
 cl fu (d + 1) fn_place_face [I a0] [] = (
 bif decide (a0 ≥ 0) then
 some ⟨B (decide (a0 < 20)), [], none⟩
 else
 some ⟨B false, [], none⟩) := by kernel_rfl
/- slices.IndexFunc[[]synoptic/api.Reading,synoptic/api.Reading] -/
theorem eq1_slices_IndexFunc_sapi_Reading_api_Reading (fu d : Nat) (n0 : Nat) (a0 : List C) (k1 : Nat) (a1_0 : C) :
 cl fu (d + 1) fn_slices_IndexFunc_sapi_Reading_api_Reading [V.c (C.sl n0 a0), V.c (C.fn k1 ([a1_0]))] [] = (
 (iter (fun (y : Int × Int × Unit) =>
 bif decide (y.2.1 < ((n0 : Nat) : Int)) then
 need (inR y.2.1 n0) <|
 unc (List.drop (y.2.1.toNat * 2) a0) fun c r =>
 asI .i64 c fun i =>
 unc r fun c1 _ =>
 asI .i64 c1 fun i1 =>
 (cl fu d k1 [V.agg ([C.v (.int .i64 i), C.v (.int .i64 i1)]), V.c a1_0] []).bind fun out =>
 rC out.r fun c2 =>
 asB c2 fun b =>
 bif b then
 some (2, (y.2.1, y.2.1, ()))
 else
 some (0, (y.1, IntKind.i64.wrap (y.2.1 + 1), ()))
 else
 some (1, (y.1, y.2.1, ()))) fu (0, 0, ())).bind fun p =>
 natD p.1 (
 some ⟨I (-1), [], none⟩) fun m =>
 some ⟨I p.2.1, [], none⟩) := by kernel_rfl
end Go.Proofs.YtmbgnpgjdhlegaaDoor
