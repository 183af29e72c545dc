/- What the program's functions come to. -/
import Derived.Test.YtoaanfjcjbghaaaGreatDoorLay
set_option linter.unusedVariables false
set_option linter.unusedSimpArgs false
namespace Go.Proofs.YtoaanfjcjbghaaaGreatDoor
open Go Go.PM
set_option maxRecDepth 100000
/- synoptic/synopticlaw30.ModelLocal -/
theorem eq_synopticlaw30_ModelLocal (fu d:Nat) (n0:Nat) (a0:List C) (a1:Int):
 cl fu (d+1) fn_synopticlaw30_ModelLocal [V.c (C.sl n0 a0),V.c (C.v (.int .u8 a1))] []=(
 (cl fu d fn_synopticlaw30_awake [] []).bind fun out=>
 rC out.r fun c=>
 asB c fun b=>
 bif !b then
 some ⟨B false,[],none⟩
 else
 (cl fu d fn_synopticfield_New [V.c (C.sl n0 a0),I 240] []).bind fun out1=>
 rP out1.r 0<|
 uncO out1.objs fun o os=>
 rN o ty_synopticfield_Codes 2 fun cs=>
 unc cs fun c1 r=>
 unc r fun c2 _=>
 asI .i64 c2 fun i=>
 (cl fu d fn_synopticfield_Codes_Frequency [V.ptr 1000000 0] [.ob ty_synopticfield_Codes 0 ([c1,C.v (.int .i64 i)])]).bind fun out2=>
 uncO out2.objs fun o1 os1=>
 rO o1 ty_synopticfield_Codes 0 fun cs1=>
 need ((Nat.beq cs1.length 2)&&true)<|
 unc cs1 fun c3 r2=>
 unc r2 fun c4 _=>
 asI .i64 c4 fun i1=>
 rC out2.r fun c5=>
 asI .i64 c5 fun i2=>
 (cl fu d fn_synopticfield_Codes_State [V.ptr 1000000 0,I i2] [.ob ty_synopticfield_Codes 0 ([c3,C.v (.int .i64 i1)])]).bind fun out3=>
 uncO out3.objs fun o2 os2=>
 rO o2 ty_synopticfield_Codes 0 fun cs2=>
 need ((Nat.beq cs2.length 2)&&true)<|
 unc cs2 fun c6 r4=>
 unc r4 fun c7 _=>
 asI .i64 c7 fun i3=>
 rA out3.r fun cs3=>
 need (Nat.beq cs3.length 3)<|
 unc cs3 fun c8 r6=>
 asI .i64 c8 fun i4=>
 unc r6 fun c9 r7=>
 unc r7 fun c10 _=>
 (cl fu d fn_synopticfield_Codes_Scheme [V.ptr 1000000 0] [.ob ty_synopticfield_Codes 0 ([c6,C.v (.int .i64 i3)])]).bind fun out4=>
 uncO out4.objs fun o3 os3=>
 rO o3 ty_synopticfield_Codes 0 fun cs4=>
 need ((Nat.beq cs4.length 2)&&true)<|
 unc cs4 fun c11 r9=>
 unc r9 fun c12 _=>
 asI .i64 c12 fun i5=>
 rA out4.r fun cs5=>
 need (Nat.beq cs5.length 3)<|
 unc cs5 fun c13 r11=>
 asI .i64 c13 fun i6=>
 unc r11 fun c14 r12=>
 asI .i64 c14 fun i7=>
 unc r12 fun c15 _=>
 asI .i64 c15 fun i8=>
 asSl c9 fun n cs6=>
 need (!(((n:Nat):Int)==0))<|
 asSl c9 fun n2 cs7=>
 need (Nat.beq (n2*1) cs7.length)<|
 need ((Nat.ble (n2*8) 140737488355328)&&(Nat.ble n2 140737488355328))<|
 (cl fu d fn_synopticfield_Codes_Next [V.ptr 1000000 0,I 256] [.ob ty_synopticfield_Codes 0 ([c11,C.v (.int .i64 i5)])]).bind fun out5=>
 uncO out5.objs fun o4 os4=>
 rO o4 ty_synopticfield_Codes 0 fun cs8=>
 need ((Nat.beq cs8.length 2)&&true)<|
 unc cs8 fun c16 r14=>
 unc r14 fun c17 _=>
 asI .i64 c17 fun i9=>
 rC out5.r fun c18=>
 asI .i64 c18 fun i10=>
 need (inR (Int.tmod (IntKind.i64.wrap a1) ((n:Nat):Int)) n2)<|
 need (((Nat.ble 0 (0+(((Int.tmod (IntKind.i64.wrap a1) ((n:Nat):Int)).toNat)*1)))&&(Nat.ble ((0+(((Int.tmod (IntKind.i64.wrap a1) ((n:Nat):Int)).toNat)*1))+1) cs7.length))&&true)<|
 (cl fu d fn_model_Step [V.agg ([C.v (.int .i64 i6),C.v (.int .i64 i7),C.v (.int .i64 i8)]),V.agg ([C.v (.int .i64 i4),c9,c10])] []).bind fun out6=>
 rT out6.r fun xs=>
 uncV xs fun x ys=>
 rA x fun cs9=>
 need (Nat.beq cs9.length 3)<|
 unc cs9 fun c19 r16=>
 asI .i64 c19 fun i11=>
 unc r16 fun c20 r17=>
 unc r17 fun c21 _=>
 uncV ys fun x1 ys1=>
 rC x1 fun c22=>
 uncV ys1 fun x2 ys2=>
 rC x2 fun c23=>
 asI .i64 c23 fun i12=>
 nilV ys2<|
 need (Nat.ble (0+(n2*1)) ((putAt cs7 (0+(((Int.tmod (IntKind.i64.wrap a1) ((n:Nat):Int)).toNat)*1)) ([C.v (.int .i64 (IntKind.i64.wrap (i10*9000)))])).length))<|
 (cl fu d fn_model_Step [V.agg ([C.v (.int .i64 i6),C.v (.int .i64 i7),C.v (.int .i64 i8)]),V.agg ([C.v (.int .i64 i4),C.sl n2 (List.take (n2*1) (putAt cs7 (0+(((Int.tmod (IntKind.i64.wrap a1) ((n:Nat):Int)).toNat)*1)) ([C.v (.int .i64 (IntKind.i64.wrap (i10*9000)))]))),c10])] []).bind fun out7=>
 rT out7.r fun xs1=>
 uncV xs1 fun x3 ys3=>
 rA x3 fun cs10=>
 need (Nat.beq cs10.length 3)<|
 unc cs10 fun c24 r19=>
 asI .i64 c24 fun i13=>
 unc r19 fun c25 r20=>
 unc r20 fun c26 _=>
 uncV ys3 fun x4 ys4=>
 rC x4 fun c27=>
 uncV ys4 fun x5 ys5=>
 rC x5 fun c28=>
 asI .i64 c28 fun i14=>
 nilV ys5<|
 (cl fu d fn_grid_Edges [I i2] []).bind fun out8=>
 rT out8.r fun xs2=>
 uncV xs2 fun x6 ys6=>
 rC x6 fun c29=>
 uncV ys6 fun x7 ys7=>
 rC x7 fun c30=>
 asI .i64 c30 fun i15=>
 nilV ys7<|
 (cl fu d fn_grid_Neighbours [I i2,I (Int.tmod (IntKind.i64.wrap a1) ((n:Nat):Int))] []).bind fun out9=>
 rT out9.r fun xs3=>
 uncV xs3 fun x8 ys8=>
 rC x8 fun c31=>
 uncV ys8 fun x9 ys9=>
 rC x9 fun c32=>
 asI .i64 c32 fun i16=>
 nilV ys9<|
 bif i12==7 then
 some ⟨B true,[],none⟩
 else
 bif i14==7 then
 some ⟨B true,[],none⟩
 else
 bif i12 !=0 then
 some ⟨B false,[],none⟩
 else
 bif i14 !=0 then
 some ⟨B false,[],none⟩
 else
 bif i15 !=0 then
 some ⟨B false,[],none⟩
 else
 bif i16 !=0 then
 some ⟨B false,[],none⟩
 else
 asSl c21 fun n3 cs11=>
 asSl c29 fun n4 cs12=>
 bif ((n3:Nat):Int) !=((n4:Nat):Int) then
 some ⟨B false,[],none⟩
 else
 asSl c26 fun n5 cs13=>
 asSl c29 fun n6 cs14=>
 bif ((n5:Nat):Int) !=((n6:Nat):Int) then
 some ⟨B false,[],none⟩
 else
 asSl c20 fun n7 cs15=>
 asSl c9 fun n8 cs16=>
 bif ((n7:Nat):Int) !=((n8:Nat):Int) then
 some ⟨B false,[],none⟩
 else
 asSl c25 fun n9 cs17=>
 asSl c9 fun n10 cs18=>
 bif ((n9:Nat):Int) !=((n10:Nat):Int) then
 some ⟨B false,[],none⟩
 else
 asSl c29 fun n11 cs19=>
 (iter (fun (y:Bool×Int×Unit)=>
 bif decide (y.2.1<((n11:Nat):Int)) then
 asSl c29 fun n12 cs20=>
 need (inR y.2.1 n12)<|
 unc (List.drop (y.2.1.toNat*2) cs20) fun c33 r22=>
 asI .i64 c33 fun i17=>
 unc r22 fun c34 _=>
 asI .i64 c34 fun i18=>
 bif i17 !=(Int.tmod (IntKind.i64.wrap a1) ((n:Nat):Int)) then
 bif i18 !=(Int.tmod (IntKind.i64.wrap a1) ((n:Nat):Int)) then
 asSl c21 fun n13 cs21=>
 need (inR y.2.1 n13)<|
 unc (List.drop (y.2.1.toNat*1) cs21) fun c35 _=>
 asI .i64 c35 fun i19=>
 asSl c26 fun n14 cs22=>
 need (inR y.2.1 n14)<|
 unc (List.drop (y.2.1.toNat*1) cs22) fun c36 _=>
 asI .i64 c36 fun i20=>
 bif i19 !=i20 then
 some (2,(false,y.2.1,()))
 else
 some (0,(y.1,IntKind.i64.wrap (y.2.1+1),()))
 else
 some (0,(y.1,IntKind.i64.wrap (y.2.1+1),()))
 else
 some (0,(y.1,IntKind.i64.wrap (y.2.1+1),()))
 else
 some (1,(y.1,y.2.1,()))) fu (false,0,())).bind fun p=>
 natD p.1 (
 asSl c20 fun n15 cs23=>
 (iter (fun (y1:Bool×Int×Unit)=>
 bif decide (y1.2.1<((n15:Nat):Int)) then
 asSl c31 fun n16 cs24=>
 (iter (fun (y2:Bool×Int×Unit)=>
 bif decide (y2.2.1<((n16:Nat):Int)) then
 asSl c31 fun n17 cs25=>
 need (inR y2.2.1 n17)<|
 unc (List.drop (y2.2.1.toNat*1) cs25) fun c37 _=>
 asI .i64 c37 fun i21=>
 bif y2.1 then
 some (0,(true,IntKind.i64.wrap (y2.2.1+1),()))
 else
 some (0,(i21==y1.2.1,IntKind.i64.wrap (y2.2.1+1),()))
 else
 some (1,(y2.1,y2.2.1,()))) fu (y1.2.1==(Int.tmod (IntKind.i64.wrap a1) ((n:Nat):Int)),0,())).bind fun p1=>
 bif !p1.2.1 then
 asSl c20 fun n18 cs26=>
 need (inR y1.2.1 n18)<|
 unc (List.drop (y1.2.1.toNat*1) cs26) fun c38 _=>
 asI .i64 c38 fun i22=>
 asSl c25 fun n19 cs27=>
 need (inR y1.2.1 n19)<|
 unc (List.drop (y1.2.1.toNat*1) cs27) fun c39 _=>
 asI .i64 c39 fun i23=>
 bif i22 !=i23 then
 some (2,(false,y1.2.1,()))
 else
 some (0,(y1.1,IntKind.i64.wrap (y1.2.1+1),()))
 else
 some (0,(y1.1,IntKind.i64.wrap (y1.2.1+1),()))
 else
 some (1,(y1.1,y1.2.1,()))) fu (p.2.1,0,())).bind fun p2=>
 natD p2.1 (
 some ⟨B true,[],none⟩) fun m1=>
 some ⟨B p2.2.1,[],none⟩) fun m=>
 some ⟨B p.2.1,[],none⟩):=by kernel_rfl
/- synoptic/synopticlaw30.awake -/
theorem eq_synopticlaw30_awake (fu d:Nat):
 cl fu (d+1) fn_synopticlaw30_awake [] []=(
 (cl fu d fn_model_Rest [I 1,I 500] []).bind fun out=>
 rT out.r fun xs=>
 uncV xs fun x ys=>
 rA x fun cs=>
 need (Nat.beq cs.length 3)<|
 unc cs fun c r=>
 asI .i64 c fun i=>
 unc r fun c1 r1=>
 unc r1 fun c2 _=>
 uncV ys fun x1 ys1=>
 rC x1 fun c3=>
 asI .i64 c3 fun i1=>
 nilV ys1<|
 (cl fu d fn_model_Run [V.agg ([C.v (.int .i64 2),C.v (.int .i64 1),C.v (.int .i64 3)]),V.agg ([C.v (.int .i64 i),c1,c2]),I 4] []).bind fun out1=>
 rT out1.r fun xs1=>
 uncV xs1 fun x2 ys2=>
 rA x2 fun cs1=>
 need (Nat.beq cs1.length 3)<|
 unc cs1 fun c4 r3=>
 asI .i64 c4 fun i2=>
 unc r3 fun c5 r4=>
 unc r4 fun c6 _=>
 uncV ys2 fun x3 ys3=>
 rC x3 fun c7=>
 asI .i64 c7 fun i3=>
 nilV ys3<|
 bif i1==0 then
 bif i3==0 then
 asSl c1 fun n cs2=>
 bif ((n:Nat):Int)==12 then
 (cl fu d fn_synopticref29_Same [V.agg ([C.v (.int .i64 i),c1,c2]),V.agg ([C.v (.int .i64 i2),c5,c6])] []).bind fun out2=>
 rC out2.r fun c8=>
 asB c8 fun b=>
 some ⟨B b,[],none⟩
 else
 some ⟨B false,[],none⟩
 else
 some ⟨B false,[],none⟩
 else
 some ⟨B false,[],none⟩):=by kernel_rfl
/- synoptic/synopticfield.New -/
theorem eq_synopticfield_New (fu d:Nat) (n0:Nat) (a0:List C) (a1:Int):
 cl fu (d+1) fn_synopticfield_New [V.c (C.sl n0 a0),I a1] []=(
 bif decide (((n0:Nat):Int)>a1) then
 need ((decide (0≤a1))&&(decide (a1≤((n0:Nat):Int))))<|
 some ⟨V.ptr 1000000 0,[.ob ty_synopticfield_Codes 0 ([C.sl a1.toNat (List.take (a1.toNat*1) a0),C.v (.int .i64 0)])],none⟩
 else
 some ⟨V.ptr 1000000 0,[.ob ty_synopticfield_Codes 0 ([C.sl n0 a0,C.v (.int .i64 0)])],none⟩):=by kernel_rfl
/- (*synoptic/synopticfield.Codes).State -/
theorem eq_synopticfield_Codes_State (fu d:Nat) (a0_0:C) (a0_1:Int) (a1:Int):
 cl fu (d+1) fn_synopticfield_Codes_State [V.ptr 1000000 0,I a1] [.ob ty_synopticfield_Codes 0 ([a0_0,C.v (.int .i64 a0_1)])]=(
 (cl fu d fn_synopticref03_Edges [I a1] []).bind fun out=>
 rT out.r fun xs=>
 uncV xs fun x ys=>
 rC x fun c=>
 uncV ys fun x1 ys1=>
 rC x1 fun c1=>
 asI .i64 c1 fun i=>
 nilV ys1<|
 asSl c fun n cs=>
 (cl fu d fn_synopticfield_Codes_Next [V.ptr 1000000 0,I 4] [.ob ty_synopticfield_Codes 0 ([a0_0,C.v (.int .i64 a0_1)])]).bind fun out1=>
 uncO out1.objs fun o os=>
 rO o ty_synopticfield_Codes 0 fun cs1=>
 need ((Nat.beq cs1.length 2)&&true)<|
 unc cs1 fun c2 r=>
 unc r fun c3 _=>
 asI .i64 c3 fun i1=>
 rC out1.r fun c4=>
 asI .i64 c4 fun i2=>
 need (inR i2 4)<|
 unc (List.drop (i2.toNat*1) ([C.v (.int .i64 0),C.v (.int .i64 30),C.v (.int .i64 5000),C.v (.int .i64 1000000)])) fun c5 _=>
 asI .i64 c5 fun i3=>
 (cl fu d fn_synopticfield_Codes_Vector [V.ptr 1000000 0,I ((n:Nat):Int),I i3] [.ob ty_synopticfield_Codes 0 ([c2,C.v (.int .i64 i1)])]).bind fun out2=>
 uncO out2.objs fun o1 os1=>
 rO o1 ty_synopticfield_Codes 0 fun cs2=>
 need ((Nat.beq cs2.length 2)&&true)<|
 unc cs2 fun c6 r3=>
 unc r3 fun c7 _=>
 asI .i64 c7 fun i4=>
 rC out2.r fun c8=>
 (cl fu d fn_synopticfield_Codes_Next [V.ptr 1000000 0,I 4] [.ob ty_synopticfield_Codes 0 ([c6,C.v (.int .i64 i4)])]).bind fun out3=>
 uncO out3.objs fun o2 os2=>
 rO o2 ty_synopticfield_Codes 0 fun cs3=>
 need ((Nat.beq cs3.length 2)&&true)<|
 unc cs3 fun c9 r5=>
 unc r5 fun c10 _=>
 asI .i64 c10 fun i5=>
 rC out3.r fun c11=>
 asI .i64 c11 fun i6=>
 need (inR i6 4)<|
 unc (List.drop (i6.toNat*1) ([C.v (.int .i64 0),C.v (.int .i64 40),C.v (.int .i64 100000),C.v (.int .i64 2500000)])) fun c12 _=>
 asI .i64 c12 fun i7=>
 (cl fu d fn_synopticfield_Codes_Next [V.ptr 1000000 0,I 3] [.ob ty_synopticfield_Codes 0 ([c9,C.v (.int .i64 i5)])]).bind fun out4=>
 uncO out4.objs fun o3 os3=>
 rO o3 ty_synopticfield_Codes 0 fun cs4=>
 need ((Nat.beq cs4.length 2)&&true)<|
 unc cs4 fun c13 r8=>
 unc r8 fun c14 _=>
 asI .i64 c14 fun i8=>
 rC out4.r fun c15=>
 asI .i64 c15 fun i9=>
 need (inR i9 3)<|
 unc (List.drop (i9.toNat*1) ([C.v (.int .i64 0),C.v (.int .i64 30),C.v (.int .i64 90000)])) fun c16 _=>
 asI .i64 c16 fun i10=>
 (cl fu d fn_synopticref22_Nodes [I a1] []).bind fun out5=>
 rC out5.r fun c17=>
 asI .i64 c17 fun i11=>
 (cl fu d fn_synopticfield_Codes_Vector [V.ptr 1000000 0,I i11,I i10] [.ob ty_synopticfield_Codes 0 ([c13,C.v (.int .i64 i8)])]).bind fun out6=>
 uncO out6.objs fun o4 os4=>
 rO o4 ty_synopticfield_Codes 0 fun cs5=>
 need ((Nat.beq cs5.length 2)&&true)<|
 unc cs5 fun c18 r11=>
 unc r11 fun c19 _=>
 asI .i64 c19 fun i12=>
 rC out6.r fun c20=>
 asSl c20 fun n2 cs6=>
 (iter (fun (y:Int×(Int×C×C×Unit)×(Int×List C×C×Unit)×(C×Int×Unit)×Unit)=>
 bif decide (y.1<((n2:Nat):Int)) then
 asSl c20 fun n3 cs7=>
 need (inR y.1 n3)<|
 unc (List.drop (y.1.toNat*1) cs7) fun c21 _=>
 asI .i64 c21 fun i13=>
 (cl fu d fn_synopticref28_Clip [I (IntKind.i64.wrap (i7+i13)),I 0,I 16777216] []).bind fun out7=>
 rC out7.r fun c22=>
 asI .i64 c22 fun i14=>
 need ((((Nat.beq ((y.2.2.1.2.1.length/1)*1) y.2.2.1.2.1.length)&&true)&&(Nat.ble (((y.2.2.1.2.1.length/1)+1)*8) 140737488355328))&&(Nat.ble ((y.2.2.1.2.1.length/1)+1) 140737488355328))<|
 need (((Nat.beq (((y.2.2.1.2.1.length/1)+1)*1) ((y.2.2.1.2.1++([C.v (.int .i64 i14)])).length))&&true)&&true)<|
 some (0,(IntKind.i64.wrap (y.1+1),(y.2.1.1,y.2.1.2.1,y.2.1.2.2.1,()),(y.2.2.1.1,y.2.2.1.2.1++([C.v (.int .i64 i14)]),y.2.2.1.2.2.1,()),(y.2.2.2.1.1,y.2.2.2.1.2.1,()),()))
 else
 need (((Nat.beq ((y.2.2.1.2.1.length/1)*1) y.2.2.1.2.1.length)&&true)&&true)<|
 some (1,(y.1,(y.2.1.1,y.2.1.2.1,y.2.1.2.2.1,()),(y.2.2.1.1,y.2.2.1.2.1,y.2.2.1.2.2.1,()),(y.2.2.2.1.1,y.2.2.2.1.2.1,()),()))) fu (0,(0,C.nl,C.nl,()),(a1,[],c8,()),(c18,i12,()),())).bind fun p=>
 need (Nat.ble (0+((p.2.2.2.1.2.1.length/1)*1)) p.2.2.2.1.2.1.length)<|
 some ⟨V.agg ([C.v (.int .i64 p.2.2.2.1.1),C.sl (p.2.2.2.1.2.1.length/1) (List.take ((p.2.2.2.1.2.1.length/1)*1) p.2.2.2.1.2.1),p.2.2.2.1.2.2.1]),[.ob ty_synopticfield_Codes 0 ([p.2.2.2.2.1.1,C.v (.int .i64 p.2.2.2.2.1.2.1)])],none⟩):=by kernel_rfl
/- (*synoptic/synopticfield.Codes).Frequency -/
theorem eq_synopticfield_Codes_Frequency (fu d:Nat) (a0_0:C) (a0_1:Int):
 cl fu (d+1) fn_synopticfield_Codes_Frequency [V.ptr 1000000 0] [.ob ty_synopticfield_Codes 0 ([a0_0,C.v (.int .i64 a0_1)])]=(
 (cl fu d fn_synopticfield_Codes_Next [V.ptr 1000000 0,I 5] [.ob ty_synopticfield_Codes 0 ([a0_0,C.v (.int .i64 a0_1)])]).bind fun out=>
 uncO out.objs fun o os=>
 rO o ty_synopticfield_Codes 0 fun cs=>
 need ((Nat.beq cs.length 2)&&true)<|
 unc cs fun c r=>
 unc r fun c1 _=>
 asI .i64 c1 fun i=>
 rC out.r fun c2=>
 asI .i64 c2 fun i1=>
 need (inR i1 5)<|
 unc (List.drop (i1.toNat*1) ([C.v (.int .i64 1),C.v (.int .i64 1),C.v (.int .i64 1),C.v (.int .i64 1),C.v (.int .i64 2)])) fun c3 _=>
 asI .i64 c3 fun i2=>
 some ⟨I i2,[.ob ty_synopticfield_Codes 0 ([c,C.v (.int .i64 i)])],none⟩):=by kernel_rfl
/- (*synoptic/synopticfield.Codes).Scheme -/
theorem eq_synopticfield_Codes_Scheme (fu d:Nat) (a0_0:C) (a0_1:Int):
 cl fu (d+1) fn_synopticfield_Codes_Scheme [V.ptr 1000000 0] [.ob ty_synopticfield_Codes 0 ([a0_0,C.v (.int .i64 a0_1)])]=(
 (cl fu d fn_synopticfield_Codes_Next [V.ptr 1000000 0,I 4] [.ob ty_synopticfield_Codes 0 ([a0_0,C.v (.int .i64 a0_1)])]).bind fun out=>
 uncO out.objs fun o os=>
 rO o ty_synopticfield_Codes 0 fun cs=>
 need ((Nat.beq cs.length 2)&&true)<|
 unc cs fun c r=>
 unc r fun c1 _=>
 asI .i64 c1 fun i=>
 rC out.r fun c2=>
 asI .i64 c2 fun i1=>
 (cl fu d fn_synopticfield_Codes_Next [V.ptr 1000000 0,I 4] [.ob ty_synopticfield_Codes 0 ([c,C.v (.int .i64 i)])]).bind fun out1=>
 uncO out1.objs fun o1 os1=>
 rO o1 ty_synopticfield_Codes 0 fun cs1=>
 need ((Nat.beq cs1.length 2)&&true)<|
 unc cs1 fun c3 r2=>
 unc r2 fun c4 _=>
 asI .i64 c4 fun i2=>
 rC out1.r fun c5=>
 asI .i64 c5 fun i3=>
 (cl fu d fn_synopticfield_Codes_Next [V.ptr 1000000 0,I 4] [.ob ty_synopticfield_Codes 0 ([c3,C.v (.int .i64 i2)])]).bind fun out2=>
 uncO out2.objs fun o2 os2=>
 rO o2 ty_synopticfield_Codes 0 fun cs2=>
 need ((Nat.beq cs2.length 2)&&true)<|
 unc cs2 fun c6 r4=>
 unc r4 fun c7 _=>
 asI .i64 c7 fun i4=>
 rC out2.r fun c8=>
 asI .i64 c8 fun i5=>
 some ⟨V.agg ([C.v (.int .i64 (IntKind.i64.wrap (1+i1))),C.v (.int .i64 (IntKind.i64.wrap (1+i3))),C.v (.int .i64 (IntKind.i64.wrap (1+i5)))]),[.ob ty_synopticfield_Codes 0 ([c6,C.v (.int .i64 i4)])],none⟩):=by kernel_rfl
/- synoptic/model.Slopes -/
theorem eq_model_Slopes (fu d:Nat) (a0_0:Int) (a0_1:C) (a0_2:C):
 cl fu (d+1) fn_model_Slopes [V.agg ([C.v (.int .i64 a0_0),a0_1,a0_2])] []=(
 (cl fu d fn_flux_Check [V.agg ([C.v (.int .i64 a0_0),a0_1,a0_2])] []).bind fun out=>
 rC out.r fun c=>
 asI .i64 c fun i=>
 bif i !=0 then
 some ⟨V.tup [V.c C.nl,I i],[],none⟩
 else
 (cl fu d fn_grid_Edges [I a0_0] []).bind fun out1=>
 rT out1.r fun xs=>
 uncV xs fun x ys=>
 rC x fun c1=>
 uncV ys fun x1 ys1=>
 rC x1 fun c2=>
 asI .i64 c2 fun i1=>
 nilV ys1<|
 bif i1 !=0 then
 some ⟨V.tup [V.c C.nl,I i1],[],none⟩
 else
 asSl c1 fun n cs=>
 (iter (fun (y:List C×Int×Unit)=>
 bif decide (y.2.1<((n:Nat):Int)) then
 asSl c1 fun n1 cs1=>
 need (inR y.2.1 n1)<|
 unc (List.drop (y.2.1.toNat*2) cs1) fun c3 r=>
 asI .i64 c3 fun i2=>
 unc r fun c4 _=>
 asI .i64 c4 fun i3=>
 asSl a0_1 fun n2 cs2=>
 need (inR i2 n2)<|
 unc (List.drop (i2.toNat*1) cs2) fun c5 _=>
 asI .i64 c5 fun i4=>
 asSl a0_1 fun n3 cs3=>
 need (inR i3 n3)<|
 unc (List.drop (i3.toNat*1) cs3) fun c6 _=>
 asI .i64 c6 fun i5=>
 need ((((Nat.beq ((y.1.length/1)*1) y.1.length)&&true)&&(Nat.ble (((y.1.length/1)+1)*8) 140737488355328))&&(Nat.ble ((y.1.length/1)+1) 140737488355328))<|
 need (((Nat.beq (((y.1.length/1)+1)*1) ((y.1++([C.v (.int .i64 (IntKind.i64.wrap (i4-i5)))])).length))&&true)&&true)<|
 some (0,(y.1++([C.v (.int .i64 (IntKind.i64.wrap (i4-i5)))]),IntKind.i64.wrap (y.2.1+1),()))
 else
 need (((Nat.beq ((y.1.length/1)*1) y.1.length)&&true)&&true)<|
 some (1,(y.1,y.2.1,()))) fu ([],0,())).bind fun p=>
 need (Nat.ble (0+((p.2.1.length/1)*1)) p.2.1.length)<|
 some ⟨V.tup [V.c (C.sl (p.2.1.length/1) (List.take ((p.2.1.length/1)*1) p.2.1)),I 0],[],none⟩):=by kernel_rfl
/- synoptic/synopticref25.Ints -/
theorem eq_synopticref25_Ints (fu d:Nat) (n0:Nat) (a0:List C) (n1:Nat) (a1:List C):
 cl fu (d+1) fn_synopticref25_Ints [V.c (C.sl n0 a0),V.c (C.sl n1 a1)] []=(
 bif ((n0:Nat):Int) !=((n1:Nat):Int) then
 some ⟨B false,[],none⟩
 else
 (iter (fun (y:Bool×Int×Unit)=>
 bif decide (y.2.1<((n0:Nat):Int)) then
 need (inR y.2.1 n0)<|
 unc (List.drop (y.2.1.toNat*1) a0) fun c _=>
 asI .i64 c fun i=>
 need (inR y.2.1 n1)<|
 unc (List.drop (y.2.1.toNat*1) a1) fun c1 _=>
 asI .i64 c1 fun i1=>
 bif i !=i1 then
 some (2,(false,y.2.1,()))
 else
 some (0,(y.1,IntKind.i64.wrap (y.2.1+1),()))
 else
 some (1,(y.1,y.2.1,()))) fu (false,0,())).bind fun p=>
 natD p.1 (
 some ⟨B true,[],none⟩) fun m=>
 some ⟨B p.2.1,[],none⟩):=by kernel_rfl
/- synoptic/model.Accelerate -/
theorem eq_model_Accelerate (fu d:Nat) (a0_0:Int) (a0_1:Int) (a0_2:Int) (a1_0:Int) (a1_1:C) (a1_2:C):
 cl fu (d+1) fn_model_Accelerate [V.agg ([C.v (.int .i64 a0_0),C.v (.int .i64 a0_1),C.v (.int .i64 a0_2)]),V.agg ([C.v (.int .i64 a1_0),a1_1,a1_2])] []=(
 (cl fu d fn_flux_CheckScheme [V.agg ([C.v (.int .i64 a0_0),C.v (.int .i64 a0_1),C.v (.int .i64 a0_2)])] []).bind fun out=>
 rC out.r fun c=>
 asI .i64 c fun i=>
 bif i !=0 then
 some ⟨V.tup [V.agg ([C.v (.int .i64 0),C.nl,C.nl]),I i],[],none⟩
 else
 (cl fu d fn_model_Slopes [V.agg ([C.v (.int .i64 a1_0),a1_1,a1_2])] []).bind fun out1=>
 rT out1.r fun xs=>
 uncV xs fun x ys=>
 rC x fun c1=>
 uncV ys fun x1 ys1=>
 rC x1 fun c2=>
 asI .i64 c2 fun i1=>
 nilV ys1<|
 bif i1 !=0 then
 some ⟨V.tup [V.agg ([C.v (.int .i64 0),C.nl,C.nl]),I i1],[],none⟩
 else
 need (noYl [V.c (nrm a1_1)])<|
 (cl fu d fn_slices_Clone_sint_int [V.c (nrm a1_1)] []).bind fun out2=>
 rW out2.r 0 fun n=>
 uncO out2.objs fun o os=>
 rS o ty_int 0 fun cs=>
 need ((Nat.beq (n*1) cs.length)&&true)<|
 asSl a1_2 fun n2 cs1=>
 need (((Nat.beq (n*1) cs.length)&&true)&&true)<|
 (iter (fun (y:Int×(Int×C×C×Unit)×(Int×List C×List C×Unit)×Unit)=>
 bif decide (y.1<((n2:Nat):Int)) then
 asSl a1_2 fun n3 cs2=>
 need (inR y.1 n3)<|
 unc (List.drop (y.1.toNat*1) cs2) fun c3 _=>
 asI .i64 c3 fun i2=>
 asSl c1 fun n4 cs3=>
 need (inR y.1 n4)<|
 unc (List.drop (y.1.toNat*1) cs3) fun c4 _=>
 asI .i64 c4 fun i3=>
 need (!(decide (a0_1<0)))<|
 need (!(decide (a0_0<0)))<|
 bd (IntKind.i64.wrap ((Int.fdiv i3 (2^(min a0_1.toNat (IntKind.bits .i64))))-(Int.fdiv i2 (2^(min a0_0.toNat (IntKind.bits .i64)))))) fun z=>
 bd (if 16777216<(if (-16777216)>IntKind.i64.wrap (i2+z) then (-16777216) else IntKind.i64.wrap (i2+z)) then 16777216 else (if (-16777216)>IntKind.i64.wrap (i2+z) then (-16777216) else IntKind.i64.wrap (i2+z))) fun z1=>
 need ((((Nat.beq ((y.2.2.1.2.2.1.length/1)*1) y.2.2.1.2.2.1.length)&&true)&&(Nat.ble (((y.2.2.1.2.2.1.length/1)+1)*8) 140737488355328))&&(Nat.ble ((y.2.2.1.2.2.1.length/1)+1) 140737488355328))<|
 need (((Nat.beq ((y.2.2.1.2.1.length/1)*1) y.2.2.1.2.1.length)&&true)&&true)<|
 need (((Nat.beq (((y.2.2.1.2.2.1.length/1)+1)*1) ((y.2.2.1.2.2.1++([C.v (.int .i64 z1)])).length))&&true)&&true)<|
 some (0,(IntKind.i64.wrap (y.1+1),(y.2.1.1,y.2.1.2.1,y.2.1.2.2.1,()),(y.2.2.1.1,y.2.2.1.2.1,y.2.2.1.2.2.1++([C.v (.int .i64 z1)]),()),()))
 else
 need (((Nat.beq ((y.2.2.1.2.1.length/1)*1) y.2.2.1.2.1.length)&&true)&&true)<|
 need (((Nat.beq ((y.2.2.1.2.2.1.length/1)*1) y.2.2.1.2.2.1.length)&&true)&&true)<|
 some (1,(y.1,(y.2.1.1,y.2.1.2.1,y.2.1.2.2.1,()),(y.2.2.1.1,y.2.2.1.2.1,y.2.2.1.2.2.1,()),()))) fu (0,(0,C.nl,C.nl,()),(a1_0,cs,[],()),())).bind fun p=>
 need (Nat.ble (0+((p.2.2.2.1.2.1.length/1)*1)) p.2.2.2.1.2.1.length)<|
 need (Nat.ble (0+((p.2.2.2.1.2.2.1.length/1)*1)) p.2.2.2.1.2.2.1.length)<|
 some ⟨V.tup [V.agg ([C.v (.int .i64 p.2.2.2.1.1),C.sl (p.2.2.2.1.2.1.length/1) (List.take ((p.2.2.2.1.2.1.length/1)*1) p.2.2.2.1.2.1),C.sl (p.2.2.2.1.2.2.1.length/1) (List.take ((p.2.2.2.1.2.2.1.length/1)*1) p.2.2.2.1.2.2.1)]),I 0],[],none⟩):=by kernel_rfl
/- synoptic/model.Step -/
theorem eq_model_Step (fu d:Nat) (a0_0:Int) (a0_1:Int) (a0_2:Int) (a1_0:Int) (a1_1:C) (a1_2:C):
 cl fu (d+1) fn_model_Step [V.agg ([C.v (.int .i64 a0_0),C.v (.int .i64 a0_1),C.v (.int .i64 a0_2)]),V.agg ([C.v (.int .i64 a1_0),a1_1,a1_2])] []=(
 (cl fu d fn_model_accelerate [V.agg ([C.v (.int .i64 a0_0),C.v (.int .i64 a0_1),C.v (.int .i64 a0_2)])] []).bind fun out=>
 rC out.r fun c=>
 (cl fu d fn_model_move [V.agg ([C.v (.int .i64 a0_0),C.v (.int .i64 a0_1),C.v (.int .i64 a0_2)])] []).bind fun out1=>
 rC out1.r fun c1=>
 (cl fu d fn_model_chain_model_progress_do [V.c (C.sl 2 ([c,c1])),V.agg ([C.v (.int .i64 a1_0),a1_1,a1_2,C.nl])] []).bind fun out2=>
 rT out2.r fun xs=>
 uncV xs fun x ys=>
 rA x fun cs=>
 need (Nat.beq cs.length 4)<|
 unc cs fun c2 r=>
 asI .i64 c2 fun i=>
 unc r fun c3 r1=>
 unc r1 fun c4 r2=>
 unc r2 fun c5 _=>
 uncV ys fun x1 ys1=>
 rC x1 fun c6=>
 asI .i64 c6 fun i1=>
 nilV ys1<|
 some ⟨V.tup [V.agg ([C.v (.int .i64 i),c3,c4]),V.c c5,I i1],[],none⟩):=by kernel_rfl
/- synoptic/synopticref29.Same -/
theorem eq_synopticref29_Same (fu d:Nat) (a0_0:Int) (a0_1:C) (a0_2:C) (a1_0:Int) (a1_1:C) (a1_2:C):
 cl fu (d+1) fn_synopticref29_Same [V.agg ([C.v (.int .i64 a0_0),a0_1,a0_2]),V.agg ([C.v (.int .i64 a1_0),a1_1,a1_2])] []=(
 bif a0_0==a1_0 then
 need (noYl [V.c (nrm a0_1)])<|
 (cl fu d fn_synopticref25_Ints [V.c (nrm a0_1),V.c (nrm a1_1)] []).bind fun out=>
 rC out.r fun c=>
 asB c fun b=>
 bif b then
 need (noYl [V.c (nrm a0_2)])<|
 (cl fu d fn_synopticref25_Ints [V.c (nrm a0_2),V.c (nrm a1_2)] []).bind fun out1=>
 rC out1.r fun c1=>
 asB c1 fun b1=>
 some ⟨B b1,[],none⟩
 else
 some ⟨B false,[],none⟩
 else
 some ⟨B false,[],none⟩):=by kernel_rfl
/- synoptic/model.Run -/
theorem eq_model_Run (fu d:Nat) (a0_0:Int) (a0_1:Int) (a0_2:Int) (a1_0:Int) (a1_1:C) (a1_2:C) (a2:Int):
 cl fu (d+1) fn_model_Run [V.agg ([C.v (.int .i64 a0_0),C.v (.int .i64 a0_1),C.v (.int .i64 a0_2)]),V.agg ([C.v (.int .i64 a1_0),a1_1,a1_2]),I a2] []=(
 bif decide (a2<0) then
 some ⟨V.tup [V.agg ([C.v (.int .i64 0),C.nl,C.nl]),I 1],[],none⟩
 else
 bif decide (a2>400) then
 some ⟨V.tup [V.agg ([C.v (.int .i64 0),C.nl,C.nl]),I 1],[],none⟩
 else
 (cl fu d fn_model_check [V.agg ([C.v (.int .i64 a0_0),C.v (.int .i64 a0_1),C.v (.int .i64 a0_2)]),V.agg ([C.v (.int .i64 a1_0),a1_1,a1_2])] []).bind fun out=>
 rC out.r fun c=>
 asI .i64 c fun i=>
 bif i !=0 then
 some ⟨V.tup [V.agg ([C.v (.int .i64 0),C.nl,C.nl]),I i],[],none⟩
 else
 need (noYl [V.c (nrm a1_1)])<|
 (cl fu d fn_slices_Clone_sint_int [V.c (nrm a1_1)] []).bind fun out1=>
 rW out1.r 0 fun n=>
 uncO out1.objs fun o os=>
 rS o ty_int 0 fun cs=>
 need ((Nat.beq (n*1) cs.length)&&true)<|
 need (noYl [V.c (nrm a1_2)])<|
 (cl fu d fn_slices_Clone_sint_int [V.c (nrm a1_2)] []).bind fun out2=>
 rW out2.r 0 fun n3=>
 uncO out2.objs fun o1 os1=>
 rS o1 ty_int 0 fun cs1=>
 need ((Nat.beq (n3*1) cs1.length)&&true)<|
 need (Nat.ble (0+(n*1)) cs.length)<|
 need (Nat.ble (0+(n3*1)) cs1.length)<|
 (iter (fun (y:Int×Int×(Int×C×C×Unit)×(Int×C×C×Unit)×Unit)=>
 bif decide (y.2.1<a2) then
 (cl fu d fn_model_Step [V.agg ([C.v (.int .i64 a0_0),C.v (.int .i64 a0_1),C.v (.int .i64 a0_2)]),V.agg ([C.v (.int .i64 y.2.2.2.1.1),y.2.2.2.1.2.1,y.2.2.2.1.2.2.1])] []).bind fun out3=>
 rT out3.r fun xs=>
 uncV xs fun x ys=>
 rA x fun cs2=>
 need (Nat.beq cs2.length 3)<|
 unc cs2 fun c1 r=>
 asI .i64 c1 fun i1=>
 unc r fun c2 r1=>
 unc r1 fun c3 _=>
 uncV ys fun x1 ys1=>
 rC x1 fun c4=>
 uncV ys1 fun x2 ys2=>
 rC x2 fun c5=>
 asI .i64 c5 fun i2=>
 nilV ys2<|
 bif i2 !=0 then
 some (2,(i2,y.2.1,(0,C.nl,C.nl,()),(i1,c2,c3,()),()))
 else
 some (0,(y.1,IntKind.i64.wrap (y.2.1+1),(y.2.2.1.1,y.2.2.1.2.1,y.2.2.1.2.2.1,()),(i1,c2,c3,()),()))
 else
 some (1,(y.1,y.2.1,(y.2.2.1.1,y.2.2.1.2.1,y.2.2.1.2.2.1,()),(y.2.2.2.1.1,y.2.2.2.1.2.1,y.2.2.2.1.2.2.1,()),()))) fu (0,0,(0,C.nl,C.nl,()),(a1_0,C.sl n (List.take (n*1) cs),C.sl n3 (List.take (n3*1) cs1),()),())).bind fun p=>
 natD p.1 (
 some ⟨V.tup [V.agg ([C.v (.int .i64 p.2.2.2.2.1.1),p.2.2.2.2.1.2.1,p.2.2.2.2.1.2.2.1]),I 0],[],none⟩) fun m=>
 some ⟨V.tup [V.agg ([C.v (.int .i64 p.2.2.2.1.1),p.2.2.2.1.2.1,p.2.2.2.1.2.2.1]),I p.2.1],[],none⟩):=by kernel_rfl
/- synoptic/model.Rest -/
theorem eq_model_Rest (fu d:Nat) (a0:Int) (a1:Int):
 cl fu (d+1) fn_model_Rest [I a0,I a1] []=(
 (cl fu d fn_grid_Count [I a0] []).bind fun out=>
 rC out.r fun c=>
 asI .i64 c fun i=>
 (cl fu d fn_slices_Repeat_sint_int [V.c (C.sl 1 ([C.v (.int .i64 a1)])),I i] []).bind fun out1=>
 rC out1.r fun c1=>
 (cl fu d fn_model_FromField [I a0,V.c (nrm c1)] []).bind fun out2=>
 rT out2.r fun xs=>
 uncV xs fun x ys=>
 rA x fun cs=>
 need (Nat.beq cs.length 3)<|
 unc cs fun c2 r=>
 asI .i64 c2 fun i1=>
 unc r fun c3 r1=>
 unc r1 fun c4 _=>
 uncV ys fun x1 ys1=>
 rC x1 fun c5=>
 asI .i64 c5 fun i2=>
 nilV ys1<|
 some ⟨V.tup [V.agg ([C.v (.int .i64 i1),c3,c4]),I i2],[],none⟩):=by kernel_rfl
/- synoptic/model.FromField -/
theorem eq_model_FromField (fu d:Nat) (a0:Int) (n1:Nat) (a1:List C):
 cl fu (d+1) fn_model_FromField [I a0,V.c (C.sl n1 a1)] []=(
 (cl fu d fn_grid_Edges [I a0] []).bind fun out=>
 rT out.r fun xs=>
 uncV xs fun x ys=>
 rC x fun c=>
 uncV ys fun x1 ys1=>
 rC x1 fun c1=>
 asI .i64 c1 fun i=>
 nilV ys1<|
 bif i !=0 then
 some ⟨V.tup [V.agg ([C.v (.int .i64 0),C.nl,C.nl]),I 1],[],none⟩
 else
 (cl fu d fn_slices_Clone_sint_int [V.c (C.sl n1 a1)] []).bind fun out1=>
 rW out1.r 0 fun n=>
 uncO out1.objs fun o os=>
 rS o ty_int 0 fun cs=>
 need ((Nat.beq (n*1) cs.length)&&true)<|
 asSl c fun n2 cs1=>
 need (((((decide (0≤((n2:Nat):Int)))&&(decide (((n2:Nat):Int)=((n2:Nat):Int))))&&(decide ((8:Int)*((n2:Nat):Int)≤140737488355328)))&&(decide (((n2:Nat):Int)≤140737488355328)))&&true)<|
 need (Nat.ble (0+(n*1)) cs.length)<|
 (cl fu d fn_flux_Check [V.agg ([C.v (.int .i64 a0),C.sl n (List.take (n*1) cs),C.sl (((n2:Nat):Int).toNat) (reps (((n2:Nat):Int).toNat) ([C.v (.int .i64 0)]))])] []).bind fun out2=>
 rC out2.r fun c2=>
 asI .i64 c2 fun i1=>
 bif i1 !=0 then
 some ⟨V.tup [V.agg ([C.v (.int .i64 0),C.nl,C.nl]),I i1],[],none⟩
 else
 some ⟨V.tup [V.agg ([C.v (.int .i64 a0),C.sl n (List.take (n*1) cs),C.sl (((n2:Nat):Int).toNat) (reps (((n2:Nat):Int).toNat) ([C.v (.int .i64 0)]))]),I 0],[],none⟩):=by kernel_rfl
/- synoptic/flux.Check -/
theorem eq_flux_Check (fu d:Nat) (a0_0:Int) (a0_1:C) (a0_2:C):
 cl fu (d+1) fn_flux_Check [V.agg ([C.v (.int .i64 a0_0),a0_1,a0_2])] []=(
 (cl fu d fn_grid_Edges [I a0_0] []).bind fun out=>
 rT out.r fun xs=>
 uncV xs fun x ys=>
 rC x fun c=>
 uncV ys fun x1 ys1=>
 rC x1 fun c1=>
 asI .i64 c1 fun i=>
 nilV ys1<|
 bif i !=0 then
 some ⟨I 1,[],none⟩
 else
 asSl a0_1 fun n cs=>
 (cl fu d fn_grid_Count [I a0_0] []).bind fun out1=>
 rC out1.r fun c2=>
 asI .i64 c2 fun i1=>
 bif ((n:Nat):Int) !=i1 then
 some ⟨I 1,[],none⟩
 else
 asSl a0_2 fun n1 cs1=>
 asSl c fun n2 cs2=>
 bif ((n1:Nat):Int) !=((n2:Nat):Int) then
 some ⟨I 1,[],none⟩
 else
 need (noYl [V.c (nrm a0_1)])<|
 (cl fu d fn_flux_outside [V.c (nrm a0_1),I 0,I 16777216] []).bind fun out2=>
 rC out2.r fun c3=>
 asB c3 fun b=>
 bif b then
 some ⟨I 1,[],none⟩
 else
 need (noYl [V.c (nrm a0_2)])<|
 (cl fu d fn_flux_outside [V.c (nrm a0_2),I (-16777216),I 16777216] []).bind fun out3=>
 rC out3.r fun c4=>
 asB c4 fun b1=>
 bif b1 then
 some ⟨I 1,[],none⟩
 else
 some ⟨I 0,[],none⟩):=by kernel_rfl
/- (*synoptic/synopticfield.Codes).Next -/
theorem eq_synopticfield_Codes_Next (fu d:Nat) (a0_0:C) (a0_1:Int) (a1:Int):
 cl fu (d+1) fn_synopticfield_Codes_Next [V.ptr 1000000 0,I a1] [.ob ty_synopticfield_Codes 0 ([a0_0,C.v (.int .i64 a0_1)])]=(
 (cl fu d fn_synopticfield_Codes_Left [V.ptr 1000000 0] [.ob ty_synopticfield_Codes 0 ([a0_0,C.v (.int .i64 a0_1)])]).bind fun out=>
 uncO out.objs fun o os=>
 rO o ty_synopticfield_Codes 0 fun cs=>
 need ((Nat.beq cs.length 2)&&true)<|
 unc cs fun c r=>
 unc r fun c1 _=>
 asI .i64 c1 fun i=>
 rC out.r fun c2=>
 asB c2 fun b=>
 bif !b then
 some ⟨I 0,[.ob ty_synopticfield_Codes 0 ([c,C.v (.int .i64 i)])],none⟩
 else
 bif decide (a1<1) then
 some ⟨I 0,[.ob ty_synopticfield_Codes 0 ([c,C.v (.int .i64 i)])],none⟩
 else
 asSl c fun n cs1=>
 need (inR (IntKind.i64.wrap ((IntKind.i64.wrap (i+1))-1)) n)<|
 unc (List.drop (((IntKind.i64.wrap ((IntKind.i64.wrap (i+1))-1)).toNat)*1) cs1) fun c3 _=>
 asI .u8 c3 fun i1=>
 need (!(a1==0))<|
 some ⟨I (Int.tmod (IntKind.i64.wrap i1) a1),[.ob ty_synopticfield_Codes 0 ([c,C.v (.int .i64 (IntKind.i64.wrap (i+1)))])],none⟩):=by kernel_rfl
/- synoptic/grid.Edges -/
theorem eq_grid_Edges (fu d:Nat) (a0:Int):
 cl fu (d+1) fn_grid_Edges [I a0] []=(
 (cl fu d fn_mesh_Frequency [I a0] []).bind fun out=>
 rC out.r fun c=>
 asB c fun b=>
 bif !b then
 some ⟨V.tup [V.c C.nl,I 1],[],none⟩
 else
 (cl fu d fn_mesh_Build [I a0] []).bind fun out1=>
 rP out1.r 0<|
 uncO out1.objs fun o os=>
 rN o ty_mesh_Net 7 fun cs=>
 unc cs fun c1 r=>
 asI .i64 c1 fun i=>
 unc r fun c2 r1=>
 asI .i64 c2 fun i1=>
 unc r1 fun c3 r2=>
 unc r2 fun c4 r3=>
 unc r3 fun c5 r4=>
 unc r4 fun c6 r5=>
 unc r5 fun c7 _=>
 some ⟨V.tup [V.c c6,I 0],[],none⟩):=by kernel_rfl
/- synoptic/grid.Neighbours -/
theorem eq_grid_Neighbours (fu d:Nat) (a0:Int) (a1:Int):
 cl fu (d+1) fn_grid_Neighbours [I a0,I a1] []=(
 (cl fu d fn_grid_node [I a0,I a1] []).bind fun out=>
 rC out.r fun c=>
 asB c fun b=>
 bif !b then
 some ⟨V.tup [V.c C.nl,I 1],[],none⟩
 else
 (cl fu d fn_mesh_Build [I a0] []).bind fun out1=>
 rP out1.r 0<|
 uncO out1.objs fun o os=>
 rN o ty_mesh_Net 7 fun cs=>
 unc cs fun c1 r=>
 asI .i64 c1 fun i=>
 unc r fun c2 r1=>
 asI .i64 c2 fun i1=>
 unc r1 fun c3 r2=>
 unc r2 fun c4 r3=>
 unc r3 fun c5 r4=>
 unc r4 fun c6 r5=>
 unc r5 fun c7 _=>
 asSl c7 fun n cs1=>
 need (inR a1 n)<|
 unc (List.drop (a1.toNat*1) cs1) fun c8 _=>
 some ⟨V.tup [V.c c8,I 0],[],none⟩):=by kernel_rfl
/- synoptic/synopticref03.Edges -/
theorem eq_synopticref03_Edges (fu d:Nat) (a0:Int):
 cl fu (d+1) fn_synopticref03_Edges [I a0] []=(
 (cl fu d fn_synopticref03_Count [I a0] []).bind fun out=>
 rC out.r fun c=>
 asI .i64 c fun i=>
 bif i==0 then
 some ⟨V.tup [V.c C.nl,I 1],[],none⟩
 else
 (cl fu d fn_synopticref03_around [I a0] []).bind fun out1=>
 rC out1.r fun c1=>
 (iter (fun (y:List C×Int×Unit)=>
 asSl c1 fun n cs=>
 bif decide (y.2.1<((n:Nat):Int)) then
 asSl c1 fun n1 cs1=>
 need (inR y.2.1 n1)<|
 unc (List.drop (y.2.1.toNat*1) cs1) fun c2 _=>
 asSl c2 fun n2 cs2=>
 need (((Nat.beq ((y.1.length/2)*2) y.1.length)&&true)&&true)<|
 (iter (fun (y1:List C×Int×Unit)=>
 bif decide (y1.2.1<((n2:Nat):Int)) then
 asSl c2 fun n3 cs3=>
 need (inR y1.2.1 n3)<|
 unc (List.drop (y1.2.1.toNat*1) cs3) fun c3 _=>
 asI .i64 c3 fun i1=>
 bif decide (y.2.1<i1) then
 need ((((Nat.beq ((y1.1.length/2)*2) y1.1.length)&&true)&&(Nat.ble (((y1.1.length/2)+1)*16) 140737488355328))&&(Nat.ble ((y1.1.length/2)+1) 140737488355328))<|
 need (((Nat.beq (((y1.1.length/2)+1)*2) ((y1.1++([C.v (.int .i64 y.2.1),C.v (.int .i64 i1)])).length))&&true)&&true)<|
 some (0,(y1.1++([C.v (.int .i64 y.2.1),C.v (.int .i64 i1)]),IntKind.i64.wrap (y1.2.1+1),()))
 else
 need (((Nat.beq ((y1.1.length/2)*2) y1.1.length)&&true)&&true)<|
 some (0,(y1.1,IntKind.i64.wrap (y1.2.1+1),()))
 else
 need (((Nat.beq ((y1.1.length/2)*2) y1.1.length)&&true)&&true)<|
 some (1,(y1.1,y1.2.1,()))) fu (y.1,0,())).bind fun p=>
 need (((Nat.beq ((p.2.1.length/2)*2) p.2.1.length)&&true)&&true)<|
 some (0,(p.2.1,IntKind.i64.wrap (y.2.1+1),()))
 else
 need (((Nat.beq ((y.1.length/2)*2) y.1.length)&&true)&&true)<|
 some (1,(y.1,y.2.1,()))) fu ([],0,())).bind fun p1=>
 need (Nat.ble (0+((p1.2.1.length/2)*2)) p1.2.1.length)<|
 some ⟨V.tup [V.c (C.sl (p1.2.1.length/2) (List.take ((p1.2.1.length/2)*2) p1.2.1)),I 0],[],none⟩):=by kernel_rfl
/- (*synoptic/synopticfield.Codes).Vector -/
theorem eq_synopticfield_Codes_Vector (fu d:Nat) (a0_0:C) (a0_1:Int) (a1:Int) (a2:Int):
 cl fu (d+1) fn_synopticfield_Codes_Vector [V.ptr 1000000 0,I a1,I a2] [.ob ty_synopticfield_Codes 0 ([a0_0,C.v (.int .i64 a0_1)])]=(
 (cl fu d fn_synopticfield_Codes_Signed [V.ptr 1000000 0,I a2] [.ob ty_synopticfield_Codes 0 ([a0_0,C.v (.int .i64 a0_1)])]).bind fun out=>
 uncO out.objs fun o os=>
 rO o ty_synopticfield_Codes 0 fun cs=>
 need ((Nat.beq cs.length 2)&&true)<|
 unc cs fun c r=>
 unc r fun c1 _=>
 asI .i64 c1 fun i=>
 rC out.r fun c2=>
 asI .i64 c2 fun i1=>
 (cl fu d fn_synopticfield_Codes_Signed [V.ptr 1000000 0,I a2] [.ob ty_synopticfield_Codes 0 ([c,C.v (.int .i64 i)])]).bind fun out1=>
 uncO out1.objs fun o1 os1=>
 rO o1 ty_synopticfield_Codes 0 fun cs1=>
 need ((Nat.beq cs1.length 2)&&true)<|
 unc cs1 fun c3 r2=>
 unc r2 fun c4 _=>
 asI .i64 c4 fun i2=>
 rC out1.r fun c5=>
 asI .i64 c5 fun i3=>
 (cl fu d fn_synopticfield_Codes_Signed [V.ptr 1000000 0,I a2] [.ob ty_synopticfield_Codes 0 ([c3,C.v (.int .i64 i2)])]).bind fun out2=>
 uncO out2.objs fun o2 os2=>
 rO o2 ty_synopticfield_Codes 0 fun cs2=>
 need ((Nat.beq cs2.length 2)&&true)<|
 unc cs2 fun c6 r4=>
 unc r4 fun c7 _=>
 asI .i64 c7 fun i4=>
 rC out2.r fun c8=>
 asI .i64 c8 fun i5=>
 (cl fu d fn_synopticfield_Codes_Signed [V.ptr 1000000 0,I 9] [.ob ty_synopticfield_Codes 0 ([c6,C.v (.int .i64 i4)])]).bind fun out3=>
 uncO out3.objs fun o3 os3=>
 rO o3 ty_synopticfield_Codes 0 fun cs3=>
 need ((Nat.beq cs3.length 2)&&true)<|
 unc cs3 fun c9 r6=>
 unc r6 fun c10 _=>
 asI .i64 c10 fun i6=>
 rC out3.r fun c11=>
 asI .i64 c11 fun i7=>
 (iter (fun (y:List C×Int×(C×Int×Unit)×Unit)=>
 bif decide (y.2.1<a1) then
 (cl fu d fn_synopticfield_Codes_Next [V.ptr 1000000 0,I 7] [.ob ty_synopticfield_Codes 0 ([y.2.2.1.1,C.v (.int .i64 y.2.2.1.2.1)])]).bind fun out4=>
 uncO out4.objs fun o4 os4=>
 rO o4 ty_synopticfield_Codes 0 fun cs4=>
 need ((Nat.beq cs4.length 2)&&true)<|
 unc cs4 fun c12 r8=>
 unc r8 fun c13 _=>
 asI .i64 c13 fun i8=>
 rC out4.r fun c14=>
 asI .i64 c14 fun i9=>
 need (inR i9 7)<|
 unc (List.drop (i9.toNat*1) ([C.v (.int .i64 i1),C.v (.int .i64 i3),C.v (.int .i64 i5),C.v (.int .i64 i7),C.v (.int .i64 0),C.v (.int .i64 a2),C.v (.int .i64 (IntKind.i64.wrap (0-a2)))])) fun c15 _=>
 asI .i64 c15 fun i10=>
 need ((((Nat.beq ((y.1.length/1)*1) y.1.length)&&true)&&(Nat.ble (((y.1.length/1)+1)*8) 140737488355328))&&(Nat.ble ((y.1.length/1)+1) 140737488355328))<|
 need (((Nat.beq (((y.1.length/1)+1)*1) ((y.1++([C.v (.int .i64 i10)])).length))&&true)&&true)<|
 some (0,(y.1++([C.v (.int .i64 i10)]),IntKind.i64.wrap (y.2.1+1),(c12,i8,()),()))
 else
 need (((Nat.beq ((y.1.length/1)*1) y.1.length)&&true)&&true)<|
 some (1,(y.1,y.2.1,(y.2.2.1.1,y.2.2.1.2.1,()),()))) fu ([],0,(c9,i6,()),())).bind fun p=>
 need (Nat.ble (0+((p.2.1.length/1)*1)) p.2.1.length)<|
 some ⟨V.c (C.sl (p.2.1.length/1) (List.take ((p.2.1.length/1)*1) p.2.1)),[.ob ty_synopticfield_Codes 0 ([p.2.2.2.1.1,C.v (.int .i64 p.2.2.2.1.2.1)])],none⟩):=by kernel_rfl
/- synoptic/synopticref22.Nodes -/
theorem eq_synopticref22_Nodes (fu d:Nat) (a0:Int):
 cl fu (d+1) fn_synopticref22_Nodes [I a0] []=(
 some ⟨I (IntKind.i64.wrap ((IntKind.i64.wrap ((IntKind.i64.wrap (10*a0))*a0))+2)),[],none⟩):=by kernel_rfl
/- synoptic/synopticref28.Clip -/
theorem eq_synopticref28_Clip (fu d:Nat) (a0:Int) (a1:Int) (a2:Int):
 cl fu (d+1) fn_synopticref28_Clip [I a0,I a1,I a2] []=(
 some ⟨I (if (if a2<a0 then a2 else a0)>a1 then (if a2<a0 then a2 else a0) else a1),[],none⟩):=by kernel_rfl
/- synoptic/flux.CheckScheme -/
theorem eq_flux_CheckScheme (fu d:Nat) (a0_0:Int) (a0_1:Int) (a0_2:Int):
 cl fu (d+1) fn_flux_CheckScheme [V.agg ([C.v (.int .i64 a0_0),C.v (.int .i64 a0_1),C.v (.int .i64 a0_2)])] []=(
 (cl fu d fn_flux_outside [V.c (C.sl 3 ([C.v (.int .i64 a0_0),C.v (.int .i64 a0_1),C.v (.int .i64 a0_2)])),I 1,I 4] []).bind fun out=>
 rC out.r fun c=>
 asB c fun b=>
 bif b then
 some ⟨I 1,[],none⟩
 else
 some ⟨I 0,[],none⟩):=by kernel_rfl
/- slices.Clone[[]int,int] -/
theorem eq_slices_Clone_sint_int (fu d:Nat) (n0:Nat) (a0:List C):
 cl fu (d+1) fn_slices_Clone_sint_int [V.c (C.sl n0 a0)] []=(
 bif Nat.beq n0 0 then
 same (
 some ⟨V.own 1000000 0 0,[.sb ty_int 0 ([])],none⟩) (
 need (Nat.beq (n0*1) a0.length)<|
 need ((Nat.ble ((0+n0)*8) 140737488355328)&&(Nat.ble (0+n0) 140737488355328))<|
 need (((Nat.ble ((0+n0)*1) a0.length)&&true)&&true)<|
 some ⟨V.own 1000000 0 (0+n0),[.sb ty_int 0 (List.take ((0+n0)*1) a0)],none⟩)
 else
 need (Nat.beq (n0*1) a0.length)<|
 need ((Nat.ble ((0+n0)*8) 140737488355328)&&(Nat.ble (0+n0) 140737488355328))<|
 need (((Nat.ble ((0+n0)*1) a0.length)&&true)&&true)<|
 some ⟨V.own 1000000 0 (0+n0),[.sb ty_int 0 (List.take ((0+n0)*1) a0)],none⟩):=by kernel_rfl
/- synoptic/model.accelerate -/
theorem eq_model_accelerate (fu d:Nat) (a0_0:Int) (a0_1:Int) (a0_2:Int):
 cl fu (d+1) fn_model_accelerate [V.agg ([C.v (.int .i64 a0_0),C.v (.int .i64 a0_1),C.v (.int .i64 a0_2)])] []=(
 some ⟨V.c (C.fn fn_model_accelerate_1 ([C.cp ([C.v (.int .i64 a0_0),C.v (.int .i64 a0_1),C.v (.int .i64 a0_2)])])),[],none⟩):=by kernel_rfl
/- synoptic/model.move -/
theorem eq_model_move (fu d:Nat) (a0_0:Int) (a0_1:Int) (a0_2:Int):
 cl fu (d+1) fn_model_move [V.agg ([C.v (.int .i64 a0_0),C.v (.int .i64 a0_1),C.v (.int .i64 a0_2)])] []=(
 some ⟨V.c (C.fn fn_model_move_1 ([C.cp ([C.v (.int .i64 a0_0),C.v (.int .i64 a0_1),C.v (.int .i64 a0_2)])])),[],none⟩):=by kernel_rfl
/- (synoptic/model.chain[synoptic/model.progress]).do -/
theorem eq_model_chain_model_progress_do (fu d:Nat) (g0_0:List C) (g0_1:List C) (a1_0:Int) (a1_1:C) (a1_2:C) (a1_3:C):
 cl fu (d+1) fn_model_chain_model_progress_do [V.c (C.sl 2 ([C.fn fn_model_accelerate_1 ([C.cp g0_0]),C.fn fn_model_move_1 ([C.cp g0_1])])),V.agg ([C.v (.int .i64 a1_0),a1_1,a1_2,a1_3])] []=(
 (cl fu d fn_model_accelerate_1 [V.agg ([C.v (.int .i64 a1_0),a1_1,a1_2,a1_3]),V.c (C.cp g0_0)] []).bind fun out=>
 rT out.r fun xs=>
 uncV xs fun x ys=>
 rA x fun cs=>
 need (Nat.beq cs.length 4)<|
 unc cs fun c r=>
 asI .i64 c fun i=>
 unc r fun c1 r1=>
 unc r1 fun c2 r2=>
 unc r2 fun c3 _=>
 uncV ys fun x1 ys1=>
 rC x1 fun c4=>
 asI .i64 c4 fun i1=>
 nilV ys1<|
 bif i1 !=0 then
 some ⟨V.tup [V.agg ([C.v (.int .i64 0),C.nl,C.nl,C.nl]),I i1],[],none⟩
 else
 (cl fu d fn_model_move_1 [V.agg ([C.v (.int .i64 i),c1,c2,c3]),V.c (C.cp g0_1)] []).bind fun out1=>
 rT out1.r fun xs1=>
 uncV xs1 fun x2 ys2=>
 rA x2 fun cs1=>
 need (Nat.beq cs1.length 4)<|
 unc cs1 fun c5 r4=>
 asI .i64 c5 fun i2=>
 unc r4 fun c6 r5=>
 unc r5 fun c7 r6=>
 unc r6 fun c8 _=>
 uncV ys2 fun x3 ys3=>
 rC x3 fun c9=>
 asI .i64 c9 fun i3=>
 nilV ys3<|
 bif i3 !=0 then
 some ⟨V.tup [V.agg ([C.v (.int .i64 0),C.nl,C.nl,C.nl]),I i3],[],none⟩
 else
 some ⟨V.tup [V.agg ([C.v (.int .i64 i2),c6,c7,c8]),I 0],[],none⟩):=by kernel_rfl
/- synoptic/model.check -/
theorem eq_model_check (fu d:Nat) (a0_0:Int) (a0_1:Int) (a0_2:Int) (a1_0:Int) (a1_1:C) (a1_2:C):
 cl fu (d+1) fn_model_check [V.agg ([C.v (.int .i64 a0_0),C.v (.int .i64 a0_1),C.v (.int .i64 a0_2)]),V.agg ([C.v (.int .i64 a1_0),a1_1,a1_2])] []=(
 (cl fu d fn_flux_CheckScheme [V.agg ([C.v (.int .i64 a0_0),C.v (.int .i64 a0_1),C.v (.int .i64 a0_2)])] []).bind fun out=>
 rC out.r fun c=>
 asI .i64 c fun i=>
 bif i !=0 then
 some ⟨I i,[],none⟩
 else
 (cl fu d fn_flux_Check [V.agg ([C.v (.int .i64 a1_0),a1_1,a1_2])] []).bind fun out1=>
 rC out1.r fun c1=>
 asI .i64 c1 fun i1=>
 some ⟨I i1,[],none⟩):=by kernel_rfl
/- slices.Repeat[[]int,int] -/
theorem eq_slices_Repeat_sint_int (fu d:Nat) (n0:Nat) (a0:List C) (a1:Int):
 cl fu (d+1) fn_slices_Repeat_sint_int [V.c (C.sl n0 a0),I a1] []=(
 (bif decide (a1<0) then
 none
 else
 some (0,(())):Option (Nat×Unit)).bind fun p=>
 (cl fu d fn_bits_Mul [V.c (C.v (.int .u64 (IntKind.u64.wrap ((n0:Nat):Int)))),V.c (C.v (.int .u64 (IntKind.u64.wrap a1)))] []).bind fun out=>
 rT out.r fun xs=>
 uncV xs fun x ys=>
 rC x fun c=>
 asI .u64 c fun i=>
 uncV ys fun x1 ys1=>
 rC x1 fun c1=>
 asI .u64 c1 fun i1=>
 nilV ys1<|
 bif decide (i>0) then
 (none:Option (Nat×Unit)).bind fun p1=>
 need (((((decide (0≤IntKind.i64.wrap i1))&&(decide (IntKind.i64.wrap i1≤IntKind.i64.wrap i1)))&&(decide ((8:Int)*(IntKind.i64.wrap i1)≤140737488355328)))&&(decide (IntKind.i64.wrap i1≤140737488355328)))&&true)<|
 natD (Nat.min n0 ((IntKind.i64.wrap i1).toNat)) (
 need (((Nat.beq (((IntKind.i64.wrap i1).toNat)*1) ((reps ((IntKind.i64.wrap i1).toNat) ([C.v (.int .i64 0)])).length))&&true)&&true)<|
 (iter (fun (y:List C×Int×Unit)=>
 bif decide (y.2.1<((y.1.length/1:Nat):Int)) then
 need ((decide (0≤y.2.1))&&(decide (y.2.1≤((y.1.length/1:Nat):Int))))<|
 need ((decide (0≤y.2.1))&&(decide (y.2.1≤((y.1.length/1:Nat):Int))))<|
 natD (Nat.min y.2.1.toNat ((y.1.length/1)-y.2.1.toNat)) (
 need (((Nat.beq ((y.1.length/1)*1) y.1.length)&&true)&&true)<|
 some (0,(y.1,IntKind.i64.wrap (y.2.1+0),()))) fun q1=>
 need ((((Nat.ble 0 (0+(y.2.1.toNat*1)))&&(Nat.ble ((0+(y.2.1.toNat*1))+((q1+1)*1)) y.1.length))&&(Nat.ble (0+((q1+1)*1)) y.1.length))&&true)<|
 need (((Nat.beq ((y.1.length/1)*1) ((putAt y.1 (0+(y.2.1.toNat*1)) (List.take ((q1+1)*1) y.1)).length))&&true)&&true)<|
 some (0,(putAt y.1 (0+(y.2.1.toNat*1)) (List.take ((q1+1)*1) y.1),IntKind.i64.wrap (y.2.1+((q1+1:Nat):Int)),()))
 else
 need (((Nat.beq ((y.1.length/1)*1) y.1.length)&&true)&&true)<|
 some (1,(y.1,y.2.1,()))) fu (reps ((IntKind.i64.wrap i1).toNat) ([C.v (.int .i64 0)]),0,())).bind fun p2=>
 need (Nat.ble (0+((p2.2.1.length/1)*1)) p2.2.1.length)<|
 some ⟨V.c (C.sl (p2.2.1.length/1) (List.take ((p2.2.1.length/1)*1) p2.2.1)),[],none⟩) fun q=>
 need (((Nat.ble (0+((q+1)*1)) ((reps ((IntKind.i64.wrap i1).toNat) ([C.v (.int .i64 0)])).length))&&(Nat.ble ((q+1)*1) a0.length))&&true)<|
 need (((Nat.beq (((IntKind.i64.wrap i1).toNat)*1) ((putAt (reps ((IntKind.i64.wrap i1).toNat) ([C.v (.int .i64 0)])) 0 (List.take ((q+1)*1) a0)).length))&&true)&&true)<|
 (iter (fun (y1:List C×Int×Unit)=>
 bif decide (y1.2.1<((y1.1.length/1:Nat):Int)) then
 need ((decide (0≤y1.2.1))&&(decide (y1.2.1≤((y1.1.length/1:Nat):Int))))<|
 need ((decide (0≤y1.2.1))&&(decide (y1.2.1≤((y1.1.length/1:Nat):Int))))<|
 natD (Nat.min y1.2.1.toNat ((y1.1.length/1)-y1.2.1.toNat)) (
 need (((Nat.beq ((y1.1.length/1)*1) y1.1.length)&&true)&&true)<|
 some (0,(y1.1,IntKind.i64.wrap (y1.2.1+0),()))) fun q2=>
 need ((((Nat.ble 0 (0+(y1.2.1.toNat*1)))&&(Nat.ble ((0+(y1.2.1.toNat*1))+((q2+1)*1)) y1.1.length))&&(Nat.ble (0+((q2+1)*1)) y1.1.length))&&true)<|
 need (((Nat.beq ((y1.1.length/1)*1) ((putAt y1.1 (0+(y1.2.1.toNat*1)) (List.take ((q2+1)*1) y1.1)).length))&&true)&&true)<|
 some (0,(putAt y1.1 (0+(y1.2.1.toNat*1)) (List.take ((q2+1)*1) y1.1),IntKind.i64.wrap (y1.2.1+((q2+1:Nat):Int)),()))
 else
 need (((Nat.beq ((y1.1.length/1)*1) y1.1.length)&&true)&&true)<|
 some (1,(y1.1,y1.2.1,()))) fu (putAt (reps ((IntKind.i64.wrap i1).toNat) ([C.v (.int .i64 0)])) 0 (List.take ((q+1)*1) a0),((q+1:Nat):Int),())).bind fun p3=>
 need (Nat.ble (0+((p3.2.1.length/1)*1)) p3.2.1.length)<|
 some ⟨V.c (C.sl (p3.2.1.length/1) (List.take ((p3.2.1.length/1)*1) p3.2.1)),[],none⟩
 else
 (bif decide (i1>9223372036854775807) then
 none
 else
 some (0,(())):Option (Nat×Unit)).bind fun p4=>
 need (((((decide (0≤IntKind.i64.wrap i1))&&(decide (IntKind.i64.wrap i1≤IntKind.i64.wrap i1)))&&(decide ((8:Int)*(IntKind.i64.wrap i1)≤140737488355328)))&&(decide (IntKind.i64.wrap i1≤140737488355328)))&&true)<|
 natD (Nat.min n0 ((IntKind.i64.wrap i1).toNat)) (
 need (((Nat.beq (((IntKind.i64.wrap i1).toNat)*1) ((reps ((IntKind.i64.wrap i1).toNat) ([C.v (.int .i64 0)])).length))&&true)&&true)<|
 (iter (fun (y2:List C×Int×Unit)=>
 bif decide (y2.2.1<((y2.1.length/1:Nat):Int)) then
 need ((decide (0≤y2.2.1))&&(decide (y2.2.1≤((y2.1.length/1:Nat):Int))))<|
 need ((decide (0≤y2.2.1))&&(decide (y2.2.1≤((y2.1.length/1:Nat):Int))))<|
 natD (Nat.min y2.2.1.toNat ((y2.1.length/1)-y2.2.1.toNat)) (
 need (((Nat.beq ((y2.1.length/1)*1) y2.1.length)&&true)&&true)<|
 some (0,(y2.1,IntKind.i64.wrap (y2.2.1+0),()))) fun q4=>
 need ((((Nat.ble 0 (0+(y2.2.1.toNat*1)))&&(Nat.ble ((0+(y2.2.1.toNat*1))+((q4+1)*1)) y2.1.length))&&(Nat.ble (0+((q4+1)*1)) y2.1.length))&&true)<|
 need (((Nat.beq ((y2.1.length/1)*1) ((putAt y2.1 (0+(y2.2.1.toNat*1)) (List.take ((q4+1)*1) y2.1)).length))&&true)&&true)<|
 some (0,(putAt y2.1 (0+(y2.2.1.toNat*1)) (List.take ((q4+1)*1) y2.1),IntKind.i64.wrap (y2.2.1+((q4+1:Nat):Int)),()))
 else
 need (((Nat.beq ((y2.1.length/1)*1) y2.1.length)&&true)&&true)<|
 some (1,(y2.1,y2.2.1,()))) fu (reps ((IntKind.i64.wrap i1).toNat) ([C.v (.int .i64 0)]),0,())).bind fun p5=>
 need (Nat.ble (0+((p5.2.1.length/1)*1)) p5.2.1.length)<|
 some ⟨V.c (C.sl (p5.2.1.length/1) (List.take ((p5.2.1.length/1)*1) p5.2.1)),[],none⟩) fun q3=>
 need (((Nat.ble (0+((q3+1)*1)) ((reps ((IntKind.i64.wrap i1).toNat) ([C.v (.int .i64 0)])).length))&&(Nat.ble ((q3+1)*1) a0.length))&&true)<|
 need (((Nat.beq (((IntKind.i64.wrap i1).toNat)*1) ((putAt (reps ((IntKind.i64.wrap i1).toNat) ([C.v (.int .i64 0)])) 0 (List.take ((q3+1)*1) a0)).length))&&true)&&true)<|
 (iter (fun (y3:List C×Int×Unit)=>
 bif decide (y3.2.1<((y3.1.length/1:Nat):Int)) then
 need ((decide (0≤y3.2.1))&&(decide (y3.2.1≤((y3.1.length/1:Nat):Int))))<|
 need ((decide (0≤y3.2.1))&&(decide (y3.2.1≤((y3.1.length/1:Nat):Int))))<|
 natD (Nat.min y3.2.1.toNat ((y3.1.length/1)-y3.2.1.toNat)) (
 need (((Nat.beq ((y3.1.length/1)*1) y3.1.length)&&true)&&true)<|
 some (0,(y3.1,IntKind.i64.wrap (y3.2.1+0),()))) fun q5=>
 need ((((Nat.ble 0 (0+(y3.2.1.toNat*1)))&&(Nat.ble ((0+(y3.2.1.toNat*1))+((q5+1)*1)) y3.1.length))&&(Nat.ble (0+((q5+1)*1)) y3.1.length))&&true)<|
 need (((Nat.beq ((y3.1.length/1)*1) ((putAt y3.1 (0+(y3.2.1.toNat*1)) (List.take ((q5+1)*1) y3.1)).length))&&true)&&true)<|
 some (0,(putAt y3.1 (0+(y3.2.1.toNat*1)) (List.take ((q5+1)*1) y3.1),IntKind.i64.wrap (y3.2.1+((q5+1:Nat):Int)),()))
 else
 need (((Nat.beq ((y3.1.length/1)*1) y3.1.length)&&true)&&true)<|
 some (1,(y3.1,y3.2.1,()))) fu (putAt (reps ((IntKind.i64.wrap i1).toNat) ([C.v (.int .i64 0)])) 0 (List.take ((q3+1)*1) a0),((q3+1:Nat):Int),())).bind fun p6=>
 need (Nat.ble (0+((p6.2.1.length/1)*1)) p6.2.1.length)<|
 some ⟨V.c (C.sl (p6.2.1.length/1) (List.take ((p6.2.1.length/1)*1) p6.2.1)),[],none⟩):=by kernel_rfl
/- synoptic/grid.Count -/
theorem eq_grid_Count (fu d:Nat) (a0:Int):
 cl fu (d+1) fn_grid_Count [I a0] []=(
 (cl fu d fn_mesh_Frequency [I a0] []).bind fun out=>
 rC out.r fun c=>
 asB c fun b=>
 bif !b then
 some ⟨I 0,[],none⟩
 else
 some ⟨I (IntKind.i64.wrap ((IntKind.i64.wrap ((IntKind.i64.wrap (10*a0))*a0))+2)),[],none⟩):=by kernel_rfl
/- synoptic/flux.outside -/
theorem eq_flux_outside (fu d:Nat) (n0:Nat) (a0:List C) (a1:Int) (a2:Int):
 cl fu (d+1) fn_flux_outside [V.c (C.sl n0 a0),I a1,I a2] []=(
 (cl fu d fn_slices_ContainsFunc_sint_int [V.c (C.sl n0 a0),V.c (C.fn fn_flux_outside_1 ([C.cp ([C.v (.int .i64 a1)]),C.cp ([C.v (.int .i64 a2)])]))] []).bind fun out=>
 rC out.r fun c=>
 asB c fun b=>
 some ⟨B b,[],none⟩):=by kernel_rfl
/- (*synoptic/synopticfield.Codes).Left -/
theorem eq_synopticfield_Codes_Left (fu d:Nat) (a0_0:C) (a0_1:Int):
 cl fu (d+1) fn_synopticfield_Codes_Left [V.ptr 1000000 0] [.ob ty_synopticfield_Codes 0 ([a0_0,C.v (.int .i64 a0_1)])]=(
 asSl a0_0 fun n cs=>
 some ⟨B (decide (a0_1<((n:Nat):Int))),[.ob ty_synopticfield_Codes 0 ([a0_0,C.v (.int .i64 a0_1)])],none⟩):=by kernel_rfl
/- synoptic/mesh.Frequency -/
theorem eq_mesh_Frequency (fu d:Nat) (a0:Int):
 cl fu (d+1) fn_mesh_Frequency [I a0] []=(
 bif decide (a0≥1) then
 some ⟨B (decide (a0≤8)),[],none⟩
 else
 some ⟨B false,[],none⟩):=by kernel_rfl
/- synoptic/mesh.Build -/
theorem eq_mesh_Build (fu d:Nat) (a0:Int):
 cl fu (d+1) fn_mesh_Build [I a0] []=(
 (cl fu d fn_mesh_Points [I a0] []).bind fun out=>
 rP out.r 0<|
 uncO out.objs fun o os=>
 rN o ty_mesh_Net 7 fun cs=>
 unc cs fun c r=>
 asI .i64 c fun i=>
 unc r fun c1 r1=>
 asI .i64 c1 fun i1=>
 unc r1 fun c2 r2=>
 unc r2 fun c3 r3=>
 unc r3 fun c4 r4=>
 unc r4 fun c5 r5=>
 unc r5 fun c6 _=>
 asRow ty_api_Cell (PC.c c4) fun cs1=>
 (iter (fun (y:Int×(Int×Int×C×C×List C×C×C×Unit)×Unit)=>
 bif decide (y.1<20) then
 (iter (fun (y1:Int×(Int×Int×C×C×List C×C×C×Unit)×Unit)=>
 bif decide (y1.1<a0) then
 (iter (fun (y2:Int×(Int×Int×C×C×List C×C×C×Unit)×Unit)=>
 bif decide (IntKind.i64.wrap (y1.1+y2.1)<a0) then
 (cl fu d fn_mesh_Net_cells [V.ptr 1000000 0,V.agg ([C.v (.int .i64 y.1),C.v (.int .i64 (IntKind.i64.wrap (y1.1*y2.2.1.2.1))),C.v (.int .i64 (IntKind.i64.wrap (y2.1*y2.2.1.2.1))),C.v (.int .i64 (IntKind.i64.wrap ((IntKind.i64.wrap ((IntKind.i64.wrap ((IntKind.i64.wrap (a0-1))-y1.1))-y2.1))*y2.2.1.2.1)))])] [.pk 0 ty_mesh_Net (.ps [PC.c (C.v (.int .i64 y2.2.1.1)),PC.c (C.v (.int .i64 y2.2.1.2.1)),PC.c y2.2.1.2.2.1,PC.c y2.2.1.2.2.2.1,PC.r ty_api_Cell y2.2.1.2.2.2.2.1,PC.c y2.2.1.2.2.2.2.2.1,PC.c y2.2.1.2.2.2.2.2.2.1]) none]).bind fun out1=>
 uncO out1.objs fun o1 os1=>
 rPk o1 ty_mesh_Net fun ps=>
 uncP ps fun p ps1=>
 asPc p fun c7=>
 asI .i64 c7 fun i2=>
 uncP ps1 fun p1 ps2=>
 asPc p1 fun c8=>
 asI .i64 c8 fun i3=>
 uncP ps2 fun p2 ps3=>
 asPc p2 fun c9=>
 uncP ps3 fun p3 ps4=>
 asPc p3 fun c10=>
 uncP ps4 fun p4 ps5=>
 asRw ty_api_Cell p4 fun cs2=>
 uncP ps5 fun p5 ps6=>
 asPc p5 fun c11=>
 uncP ps6 fun p6 ps7=>
 asPc p6 fun c12=>
 nilP ps7<|
 some (0,(IntKind.i64.wrap (y2.1+1),(i2,i3,c9,c10,cs2,c11,c12,()),()))
 else
 some (1,(y2.1,(y2.2.1.1,y2.2.1.2.1,y2.2.1.2.2.1,y2.2.1.2.2.2.1,y2.2.1.2.2.2.2.1,y2.2.1.2.2.2.2.2.1,y2.2.1.2.2.2.2.2.2.1,()),()))) fu (0,(y1.2.1.1,y1.2.1.2.1,y1.2.1.2.2.1,y1.2.1.2.2.2.1,y1.2.1.2.2.2.2.1,y1.2.1.2.2.2.2.2.1,y1.2.1.2.2.2.2.2.2.1,()),())).bind fun p7=>
 some (0,(IntKind.i64.wrap (y1.1+1),(p7.2.2.1.1,p7.2.2.1.2.1,p7.2.2.1.2.2.1,p7.2.2.1.2.2.2.1,p7.2.2.1.2.2.2.2.1,p7.2.2.1.2.2.2.2.2.1,p7.2.2.1.2.2.2.2.2.2.1,()),()))
 else
 some (1,(y1.1,(y1.2.1.1,y1.2.1.2.1,y1.2.1.2.2.1,y1.2.1.2.2.2.1,y1.2.1.2.2.2.2.1,y1.2.1.2.2.2.2.2.1,y1.2.1.2.2.2.2.2.2.1,()),()))) fu (0,(y.2.1.1,y.2.1.2.1,y.2.1.2.2.1,y.2.1.2.2.2.1,y.2.1.2.2.2.2.1,y.2.1.2.2.2.2.2.1,y.2.1.2.2.2.2.2.2.1,()),())).bind fun p8=>
 some (0,(IntKind.i64.wrap (y.1+1),(p8.2.2.1.1,p8.2.2.1.2.1,p8.2.2.1.2.2.1,p8.2.2.1.2.2.2.1,p8.2.2.1.2.2.2.2.1,p8.2.2.1.2.2.2.2.2.1,p8.2.2.1.2.2.2.2.2.2.1,()),()))
 else
 some (1,(y.1,(y.2.1.1,y.2.1.2.1,y.2.1.2.2.1,y.2.1.2.2.2.1,y.2.1.2.2.2.2.1,y.2.1.2.2.2.2.2.1,y.2.1.2.2.2.2.2.2.1,()),()))) fu (0,(i,i1,c2,c3,cs1,c5,c6,()),())).bind fun p9=>
 need ((Nat.beq ((p9.2.2.1.2.2.2.2.1.length/3)*3) p9.2.2.1.2.2.2.2.1.length)&&true)<|
 (cl fu d fn_slices_SortFunc_sapi_Cell_api_Cell [V.own 1000000 0 (p9.2.2.1.2.2.2.2.1.length/3),V.c (C.fn fn_mesh_Build_1 ([]))] [.sb ty_api_Cell 0 p9.2.2.1.2.2.2.2.1]).bind fun out2=>
 rowBack ty_api_Cell p9.2.2.1.2.2.2.2.1 false out2.objs fun cs3=>
 need ((Nat.beq ((cs3.length/3)*3) cs3.length)&&true)<|
 asRow ty_api_Edge (PC.c p9.2.2.1.2.2.2.2.2.1) fun cs4=>
 (iter (fun (y3:Int×(Int×Int×C×C×C×List C×C×Unit)×Unit)=>
 bif decide (y3.1<((cs3.length/3:Nat):Int)) then
 need (inR y3.1 (cs3.length/3))<|
 unc (List.drop (y3.1.toNat*3) cs3) fun c13 r7=>
 asI .i64 c13 fun i4=>
 unc r7 fun c14 r8=>
 asI .i64 c14 fun i5=>
 unc r8 fun c15 _=>
 asI .i64 c15 fun i6=>
 need ((((Nat.beq ((y3.2.1.2.2.2.2.2.1.length/2)*2) y3.2.1.2.2.2.2.2.1.length)&&true)&&(Nat.ble (((y3.2.1.2.2.2.2.2.1.length/2)+3)*16) 140737488355328))&&(Nat.ble ((y3.2.1.2.2.2.2.2.1.length/2)+3) 140737488355328))<|
 need (Nat.beq (((y3.2.1.2.2.2.2.2.1.length/2)+3)*2) ((y3.2.1.2.2.2.2.2.1++([C.v (.int .i64 i4),C.v (.int .i64 i5),C.v (.int .i64 i4),C.v (.int .i64 i6),C.v (.int .i64 i5),C.v (.int .i64 i6)])).length))<|
 some (0,(IntKind.i64.wrap (y3.1+1),(y3.2.1.1,y3.2.1.2.1,y3.2.1.2.2.1,y3.2.1.2.2.2.1,y3.2.1.2.2.2.2.1,y3.2.1.2.2.2.2.2.1++([C.v (.int .i64 i4),C.v (.int .i64 i5),C.v (.int .i64 i4),C.v (.int .i64 i6),C.v (.int .i64 i5),C.v (.int .i64 i6)]),y3.2.1.2.2.2.2.2.2.1,()),()))
 else
 some (1,(y3.1,(y3.2.1.1,y3.2.1.2.1,y3.2.1.2.2.1,y3.2.1.2.2.2.1,y3.2.1.2.2.2.2.1,y3.2.1.2.2.2.2.2.1,y3.2.1.2.2.2.2.2.2.1,()),()))) fu (0,(p9.2.2.1.1,p9.2.2.1.2.1,p9.2.2.1.2.2.1,p9.2.2.1.2.2.2.1,C.sl (cs3.length/3) cs3,cs4,p9.2.2.1.2.2.2.2.2.2.1,()),())).bind fun p10=>
 need ((Nat.beq ((p10.2.2.1.2.2.2.2.2.1.length/2)*2) p10.2.2.1.2.2.2.2.2.1.length)&&true)<|
 (cl fu d fn_slices_SortFunc_sapi_Edge_api_Edge [V.own 1000000 0 (p10.2.2.1.2.2.2.2.2.1.length/2),V.c (C.fn fn_mesh_Build_2 ([]))] [.sb ty_api_Edge 0 p10.2.2.1.2.2.2.2.2.1]).bind fun out3=>
 rowBack ty_api_Edge p10.2.2.1.2.2.2.2.2.1 false out3.objs fun cs5=>
 need ((Nat.beq ((cs5.length/2)*2) cs5.length)&&true)<|
 (cl fu d fn_slices_Compact_sapi_Edge_api_Edge [V.own 1000000 0 (cs5.length/2)] [.sb ty_api_Edge 0 cs5]).bind fun out4=>
 rowBack ty_api_Edge cs5 true out4.objs fun cs6=>
 rC out4.r fun c16=>
 asSl p10.2.2.1.2.2.1 fun n cs7=>
 need ((((((decide (0≤((n:Nat):Int)))&&(decide (((n:Nat):Int)=((n:Nat):Int))))&&(decide ((24:Int)*((n:Nat):Int)≤140737488355328)))&&(decide (((n:Nat):Int)≤140737488355328)))&&true)&&true)<|
 asSl c16 fun n1 cs8=>
 need (Nat.beq (((n:Nat):Int).toNat) ((List.replicate (((n:Nat):Int).toNat) ([]:List C)).length))<|
 (iter (fun (y4:Int×(Int×Int×C×C×C×C×(List (List C))×Unit)×Unit)=>
 bif decide (y4.1<((n1:Nat):Int)) then
 asSl c16 fun n2 cs9=>
 need (inR y4.1 n2)<|
 unc (List.drop (y4.1.toNat*2) cs9) fun c17 r10=>
 asI .i64 c17 fun i7=>
 unc r10 fun c18 _=>
 asI .i64 c18 fun i8=>
 need (inR i7 y4.2.1.2.2.2.2.2.2.1.length)<|
 need (Nat.blt (i7.toNat*1) y4.2.1.2.2.2.2.2.2.1.length)<|
 need (Nat.blt (i7.toNat*1) y4.2.1.2.2.2.2.2.2.1.length)<|
 need ((((Nat.beq ((((y4.2.1.2.2.2.2.2.2.1.getD (i7.toNat*1) []).length)/1)*1) ((y4.2.1.2.2.2.2.2.2.1.getD (i7.toNat*1) []).length))&&true)&&(Nat.ble (((((y4.2.1.2.2.2.2.2.2.1.getD (i7.toNat*1) []).length)/1)+1)*8) 140737488355328))&&(Nat.ble ((((y4.2.1.2.2.2.2.2.2.1.getD (i7.toNat*1) []).length)/1)+1) 140737488355328))<|
 need (inR i7 y4.2.1.2.2.2.2.2.2.1.length)<|
 need (((Nat.beq (i7.toNat*1) (i7.toNat*1))&&(Nat.beq (i7.toNat*1) (i7.toNat*1)))&&(Nat.beq (((((y4.2.1.2.2.2.2.2.2.1.getD (i7.toNat*1) []).length)/1)+1)*1) (((y4.2.1.2.2.2.2.2.2.1.getD (i7.toNat*1) [])++([C.v (.int .i64 i8)])).length)))<|
 need (inR i8 y4.2.1.2.2.2.2.2.2.1.length)<|
 need (Nat.blt (i8.toNat*1) (y4.2.1.2.2.2.2.2.2.1.set (i7.toNat*1) ((y4.2.1.2.2.2.2.2.2.1.getD (i7.toNat*1) [])++([C.v (.int .i64 i8)]))).length)<|
 need (Nat.blt (i8.toNat*1) (y4.2.1.2.2.2.2.2.2.1.set (i7.toNat*1) ((y4.2.1.2.2.2.2.2.2.1.getD (i7.toNat*1) [])++([C.v (.int .i64 i8)]))).length)<|
 need ((((Nat.beq (((((y4.2.1.2.2.2.2.2.2.1.set (i7.toNat*1) ((y4.2.1.2.2.2.2.2.2.1.getD (i7.toNat*1) [])++([C.v (.int .i64 i8)]))).getD (i8.toNat*1) []).length)/1)*1) (((y4.2.1.2.2.2.2.2.2.1.set (i7.toNat*1) ((y4.2.1.2.2.2.2.2.2.1.getD (i7.toNat*1) [])++([C.v (.int .i64 i8)]))).getD (i8.toNat*1) []).length))&&true)&&(Nat.ble ((((((y4.2.1.2.2.2.2.2.2.1.set (i7.toNat*1) ((y4.2.1.2.2.2.2.2.2.1.getD (i7.toNat*1) [])++([C.v (.int .i64 i8)]))).getD (i8.toNat*1) []).length)/1)+1)*8) 140737488355328))&&(Nat.ble (((((y4.2.1.2.2.2.2.2.2.1.set (i7.toNat*1) ((y4.2.1.2.2.2.2.2.2.1.getD (i7.toNat*1) [])++([C.v (.int .i64 i8)]))).getD (i8.toNat*1) []).length)/1)+1) 140737488355328))<|
 need (inR i8 y4.2.1.2.2.2.2.2.2.1.length)<|
 need (((Nat.beq (i8.toNat*1) (i8.toNat*1))&&(Nat.beq (i8.toNat*1) (i8.toNat*1)))&&(Nat.beq ((((((y4.2.1.2.2.2.2.2.2.1.set (i7.toNat*1) ((y4.2.1.2.2.2.2.2.2.1.getD (i7.toNat*1) [])++([C.v (.int .i64 i8)]))).getD (i8.toNat*1) []).length)/1)+1)*1) ((((y4.2.1.2.2.2.2.2.2.1.set (i7.toNat*1) ((y4.2.1.2.2.2.2.2.2.1.getD (i7.toNat*1) [])++([C.v (.int .i64 i8)]))).getD (i8.toNat*1) [])++([C.v (.int .i64 i7)])).length)))<|
 need (Nat.beq y4.2.1.2.2.2.2.2.2.1.length (((y4.2.1.2.2.2.2.2.2.1.set (i7.toNat*1) ((y4.2.1.2.2.2.2.2.2.1.getD (i7.toNat*1) [])++([C.v (.int .i64 i8)]))).set (i8.toNat*1) (((y4.2.1.2.2.2.2.2.2.1.set (i7.toNat*1) ((y4.2.1.2.2.2.2.2.2.1.getD (i7.toNat*1) [])++([C.v (.int .i64 i8)]))).getD (i8.toNat*1) [])++([C.v (.int .i64 i7)]))).length))<|
 some (0,(IntKind.i64.wrap (y4.1+1),(y4.2.1.1,y4.2.1.2.1,y4.2.1.2.2.1,y4.2.1.2.2.2.1,y4.2.1.2.2.2.2.1,y4.2.1.2.2.2.2.2.1,(y4.2.1.2.2.2.2.2.2.1.set (i7.toNat*1) ((y4.2.1.2.2.2.2.2.2.1.getD (i7.toNat*1) [])++([C.v (.int .i64 i8)]))).set (i8.toNat*1) (((y4.2.1.2.2.2.2.2.2.1.set (i7.toNat*1) ((y4.2.1.2.2.2.2.2.2.1.getD (i7.toNat*1) [])++([C.v (.int .i64 i8)]))).getD (i8.toNat*1) [])++([C.v (.int .i64 i7)])),()),()))
 else
 need (Nat.beq y4.2.1.2.2.2.2.2.2.1.length y4.2.1.2.2.2.2.2.2.1.length)<|
 some (1,(y4.1,(y4.2.1.1,y4.2.1.2.1,y4.2.1.2.2.1,y4.2.1.2.2.2.1,y4.2.1.2.2.2.2.1,y4.2.1.2.2.2.2.2.1,y4.2.1.2.2.2.2.2.2.1,()),()))) fu (0,(p10.2.2.1.1,p10.2.2.1.2.1,p10.2.2.1.2.2.1,p10.2.2.1.2.2.2.1,p10.2.2.1.2.2.2.2.1,c16,List.replicate (((n:Nat):Int).toNat) ([]:List C),()),())).bind fun p11=>
 need ((((Nat.beq p11.2.2.1.2.2.2.2.2.2.1.length p11.2.2.1.2.2.2.2.2.2.1.length)&&true)&&true)&&true)<|
 need (Nat.beq p11.2.2.1.2.2.2.2.2.2.1.length p11.2.2.1.2.2.2.2.2.2.1.length)<|
 (iter (fun (y5:Int×(Int×Int×C×C×C×C×(List (List C))×Unit)×Unit)=>
 bif decide (y5.1<((p11.2.2.1.2.2.2.2.2.2.1.length:Nat):Int)) then
 need (inR y5.1 y5.2.1.2.2.2.2.2.2.1.length)<|
 need (Nat.blt (y5.1.toNat*1) y5.2.1.2.2.2.2.2.2.1.length)<|
 need (Nat.blt (y5.1.toNat*1) y5.2.1.2.2.2.2.2.2.1.length)<|
 need ((Nat.beq ((((y5.2.1.2.2.2.2.2.2.1.getD (y5.1.toNat*1) []).length)/1)*1) ((y5.2.1.2.2.2.2.2.2.1.getD (y5.1.toNat*1) []).length))&&true)<|
 (cl fu d fn_slices_Sort_sint_int [V.own 1000000 0 (((y5.2.1.2.2.2.2.2.2.1.getD (y5.1.toNat*1) []).length)/1)] [.sb ty_int 0 (y5.2.1.2.2.2.2.2.2.1.getD (y5.1.toNat*1) [])]).bind fun out5=>
 rowBack ty_int (y5.2.1.2.2.2.2.2.2.1.getD (y5.1.toNat*1) []) false out5.objs fun cs10=>
 need ((((Nat.beq y5.2.1.2.2.2.2.2.2.1.length y5.2.1.2.2.2.2.2.2.1.length)&&true)&&true)&&true)<|
 need (Nat.beq y5.2.1.2.2.2.2.2.2.1.length ((y5.2.1.2.2.2.2.2.2.1.set (y5.1.toNat*1) cs10).length))<|
 some (0,(IntKind.i64.wrap (y5.1+1),(y5.2.1.1,y5.2.1.2.1,y5.2.1.2.2.1,y5.2.1.2.2.2.1,y5.2.1.2.2.2.2.1,y5.2.1.2.2.2.2.2.1,y5.2.1.2.2.2.2.2.2.1.set (y5.1.toNat*1) cs10,()),()))
 else
 need ((((Nat.beq y5.2.1.2.2.2.2.2.2.1.length y5.2.1.2.2.2.2.2.2.1.length)&&true)&&true)&&true)<|
 need (Nat.beq y5.2.1.2.2.2.2.2.2.1.length y5.2.1.2.2.2.2.2.2.1.length)<|
 some (1,(y5.1,(y5.2.1.1,y5.2.1.2.1,y5.2.1.2.2.1,y5.2.1.2.2.2.1,y5.2.1.2.2.2.2.1,y5.2.1.2.2.2.2.2.1,y5.2.1.2.2.2.2.2.2.1,()),()))) fu (0,(p11.2.2.1.1,p11.2.2.1.2.1,p11.2.2.1.2.2.1,p11.2.2.1.2.2.2.1,p11.2.2.1.2.2.2.2.1,p11.2.2.1.2.2.2.2.2.1,p11.2.2.1.2.2.2.2.2.2.1,()),())).bind fun p12=>
 need (Nat.beq p12.2.2.1.2.2.2.2.2.2.1.length p12.2.2.1.2.2.2.2.2.2.1.length)<|
 some ⟨V.ptr 1000000 0,[.ob ty_mesh_Net 0 ([C.v (.int .i64 p12.2.2.1.1),C.v (.int .i64 p12.2.2.1.2.1),p12.2.2.1.2.2.1,p12.2.2.1.2.2.2.1,p12.2.2.1.2.2.2.2.1,p12.2.2.1.2.2.2.2.2.1,C.sl p12.2.2.1.2.2.2.2.2.2.1.length (List.map (fun (r:List C)=>C.sl (r.length/1) r) p12.2.2.1.2.2.2.2.2.2.1)])],none⟩):=by kernel_rfl
/- synoptic/grid.node -/
theorem eq_grid_node (fu d:Nat) (a0:Int) (a1:Int):
 cl fu (d+1) fn_grid_node [I a0,I a1] []=(
 (cl fu d fn_mesh_Frequency [I a0] []).bind fun out=>
 rC out.r fun c=>
 asB c fun b=>
 bif b then
 bif decide (a1≥0) then
 (cl fu d fn_grid_Count [I a0] []).bind fun out1=>
 rC out1.r fun c1=>
 asI .i64 c1 fun i=>
 some ⟨B (decide (a1<i)),[],none⟩
 else
 some ⟨B false,[],none⟩
 else
 some ⟨B false,[],none⟩):=by kernel_rfl
/- (*synoptic/synopticfield.Codes).Signed -/
theorem eq_synopticfield_Codes_Signed (fu d:Nat) (a0_0:C) (a0_1:Int) (a1:Int):
 cl fu (d+1) fn_synopticfield_Codes_Signed [V.ptr 1000000 0,I a1] [.ob ty_synopticfield_Codes 0 ([a0_0,C.v (.int .i64 a0_1)])]=(
 (cl fu d fn_synopticfield_Codes_Next [V.ptr 1000000 0,I 256] [.ob ty_synopticfield_Codes 0 ([a0_0,C.v (.int .i64 a0_1)])]).bind fun out=>
 uncO out.objs fun o os=>
 rO o ty_synopticfield_Codes 0 fun cs=>
 need ((Nat.beq cs.length 2)&&true)<|
 unc cs fun c r=>
 unc r fun c1 _=>
 asI .i64 c1 fun i=>
 rC out.r fun c2=>
 asI .i64 c2 fun i1=>
 (cl fu d fn_synopticfield_Codes_Next [V.ptr 1000000 0,I 256] [.ob ty_synopticfield_Codes 0 ([c,C.v (.int .i64 i)])]).bind fun out1=>
 uncO out1.objs fun o1 os1=>
 rO o1 ty_synopticfield_Codes 0 fun cs1=>
 need ((Nat.beq cs1.length 2)&&true)<|
 unc cs1 fun c3 r2=>
 unc r2 fun c4 _=>
 asI .i64 c4 fun i2=>
 rC out1.r fun c5=>
 asI .i64 c5 fun i3=>
 bd (IntKind.i64.wrap (BitVec.ofInt (IntKind.bits .i64) (IntKind.i64.wrap (i1*2^16))|||BitVec.ofInt (IntKind.bits .i64) (IntKind.i64.wrap (i3*2^8))).toNat) fun z=>
 (cl fu d fn_synopticfield_Codes_Next [V.ptr 1000000 0,I 256] [.ob ty_synopticfield_Codes 0 ([c3,C.v (.int .i64 i2)])]).bind fun out2=>
 uncO out2.objs fun o2 os2=>
 rO o2 ty_synopticfield_Codes 0 fun cs2=>
 need ((Nat.beq cs2.length 2)&&true)<|
 unc cs2 fun c6 r4=>
 unc r4 fun c7 _=>
 asI .i64 c7 fun i4=>
 rC out2.r fun c8=>
 asI .i64 c8 fun i5=>
 need (!((IntKind.i64.wrap (a1+1))==0))<|
 bd (Int.tmod (IntKind.i64.wrap (BitVec.ofInt (IntKind.bits .i64) z|||BitVec.ofInt (IntKind.bits .i64) i5).toNat) (IntKind.i64.wrap (a1+1))) fun z1=>
 (cl fu d fn_synopticfield_Codes_Next [V.ptr 1000000 0,I 2] [.ob ty_synopticfield_Codes 0 ([c6,C.v (.int .i64 i4)])]).bind fun out3=>
 uncO out3.objs fun o3 os3=>
 rO o3 ty_synopticfield_Codes 0 fun cs3=>
 need ((Nat.beq cs3.length 2)&&true)<|
 unc cs3 fun c9 r6=>
 unc r6 fun c10 _=>
 asI .i64 c10 fun i6=>
 rC out3.r fun c11=>
 asI .i64 c11 fun i7=>
 bif i7==1 then
 some ⟨I (IntKind.i64.wrap (0-z1)),[.ob ty_synopticfield_Codes 0 ([c9,C.v (.int .i64 i6)])],none⟩
 else
 some ⟨I z1,[.ob ty_synopticfield_Codes 0 ([c9,C.v (.int .i64 i6)])],none⟩):=by kernel_rfl
/- synoptic/synopticref03.Count -/
theorem eq_synopticref03_Count (fu d:Nat) (a0:Int):
 cl fu (d+1) fn_synopticref03_Count [I a0] []=(
 bif decide (a0<1) then
 some ⟨I 0,[],none⟩
 else
 bif decide (a0>8) then
 some ⟨I 0,[],none⟩
 else
 some ⟨I (IntKind.i64.wrap ((IntKind.i64.wrap ((IntKind.i64.wrap (10*a0))*a0))+2)),[],none⟩):=by kernel_rfl
/- synoptic/synopticref03.around -/
theorem eq_synopticref03_around (fu d:Nat) (a0:Int):
 cl fu (d+1) fn_synopticref03_around [I a0] []=(
 (cl fu d fn_synopticref03_Cells [I a0] []).bind fun out=>
 rT out.r fun xs=>
 uncV xs fun x ys=>
 rC x fun c=>
 uncV ys fun x1 ys1=>
 rC x1 fun c1=>
 asI .i64 c1 fun i=>
 nilV ys1<|
 (cl fu d fn_synopticref03_Count [I a0] []).bind fun out1=>
 rC out1.r fun c2=>
 asI .i64 c2 fun i1=>
 need (((((decide (0≤i1))&&(decide (i1≤i1)))&&(decide ((24:Int)*i1≤140737488355328)))&&(decide (i1≤140737488355328)))&&true)<|
 asSl c fun n cs=>
 need (((Nat.beq (i1.toNat*1) ((reps i1.toNat ([C.nl])).length))&&true)&&true)<|
 (iter (fun (y:List C×Int×Unit)=>
 bif decide (y.2.1<((n:Nat):Int)) then
 asSl c fun n1 cs1=>
 need (inR y.2.1 n1)<|
 unc (List.drop (y.2.1.toNat*3) cs1) fun c3 r=>
 asI .i64 c3 fun i2=>
 unc r fun c4 r1=>
 asI .i64 c4 fun i3=>
 unc r1 fun c5 _=>
 asI .i64 c5 fun i4=>
 need (((Nat.beq ((y.1.length/1)*1) y.1.length)&&true)&&true)<|
 (iter (fun (y1:List C×Int×Unit)=>
 bif decide (y1.2.1<6) then
 need (inR y1.2.1 6)<|
 need (Nat.ble 2 ((List.drop (y1.2.1.toNat*2) ([C.v (.int .i64 i2),C.v (.int .i64 i3),C.v (.int .i64 i2),C.v (.int .i64 i4),C.v (.int .i64 i3),C.v (.int .i64 i4),C.v (.int .i64 i3),C.v (.int .i64 i2),C.v (.int .i64 i4),C.v (.int .i64 i2),C.v (.int .i64 i4),C.v (.int .i64 i3)])).length))<|
 bd (List.take 2 (List.drop (y1.2.1.toNat*2) ([C.v (.int .i64 i2),C.v (.int .i64 i3),C.v (.int .i64 i2),C.v (.int .i64 i4),C.v (.int .i64 i3),C.v (.int .i64 i4),C.v (.int .i64 i3),C.v (.int .i64 i2),C.v (.int .i64 i4),C.v (.int .i64 i2),C.v (.int .i64 i4),C.v (.int .i64 i3)]))) fun cs2=>
 need ((((Nat.beq cs2.length 2)&&true)&&(Nat.ble (0+cs2.length) 2))&&true)<|
 need (((Nat.beq ((y1.1.length/1)*1) y1.1.length)&&true)&&true)<|
 (iter (fun (y2:List C×Int×List C×Unit)=>
 unc y2.2.2.1 fun c6 _=>
 asI .i64 c6 fun i5=>
 need (inR i5 (y2.1.length/1))<|
 unc (List.drop (0+(i5.toNat*1)) y2.1) fun c7 _=>
 asSl c7 fun n2 cs3=>
 bif decide (y2.2.1<((n2:Nat):Int)) then
 unc y2.2.2.1 fun c8 _=>
 asI .i64 c8 fun i6=>
 need (inR i6 (y2.1.length/1))<|
 unc (List.drop (0+(i6.toNat*1)) y2.1) fun c9 _=>
 asSl c9 fun n3 cs4=>
 need (inR y2.2.1 n3)<|
 unc (List.drop (y2.2.1.toNat*1) cs4) fun c10 _=>
 asI .i64 c10 fun i7=>
 unc (List.drop 1 y2.2.2.1) fun c11 _=>
 asI .i64 c11 fun i8=>
 bif decide (i7<i8) then
 need (((Nat.beq ((y2.1.length/1)*1) y2.1.length)&&true)&&true)<|
 some (0,(y2.1,IntKind.i64.wrap (y2.2.1+1),y2.2.2.1,()))
 else
 need (((Nat.beq ((y2.1.length/1)*1) y2.1.length)&&true)&&true)<|
 some (1,(y2.1,y2.2.1,y2.2.2.1,()))
 else
 need (((Nat.beq ((y2.1.length/1)*1) y2.1.length)&&true)&&true)<|
 some (1,(y2.1,y2.2.1,y2.2.2.1,()))) fu (y1.1,0,putAt ([C.v (.int .i64 0),C.v (.int .i64 0)]) 0 cs2,())).bind fun p=>
 unc p.2.2.2.1 fun c12 _=>
 asI .i64 c12 fun i9=>
 need (inR i9 (p.2.1.length/1))<|
 unc (List.drop (0+(i9.toNat*1)) p.2.1) fun c13 _=>
 asSl c13 fun n4 cs5=>
 bif decide (p.2.2.1<((n4:Nat):Int)) then
 unc p.2.2.2.1 fun c14 _=>
 asI .i64 c14 fun i10=>
 need (inR i10 (p.2.1.length/1))<|
 unc (List.drop (0+(i10.toNat*1)) p.2.1) fun c15 _=>
 asSl c15 fun n5 cs6=>
 need (inR p.2.2.1 n5)<|
 unc (List.drop (p.2.2.1.toNat*1) cs6) fun c16 _=>
 asI .i64 c16 fun i11=>
 unc (List.drop 1 p.2.2.2.1) fun c17 _=>
 asI .i64 c17 fun i12=>
 bif i11==i12 then
 need (((Nat.beq ((p.2.1.length/1)*1) p.2.1.length)&&true)&&true)<|
 some (0,(p.2.1,IntKind.i64.wrap (y1.2.1+1),()))
 else
 unc (List.drop 1 p.2.2.2.1) fun c18 _=>
 asI .i64 c18 fun i13=>
 unc p.2.2.2.1 fun c19 _=>
 asI .i64 c19 fun i14=>
 need (inR i14 (p.2.1.length/1))<|
 unc (List.drop (0+(i14.toNat*1)) p.2.1) fun c20 _=>
 sliceC 1 (some (I p.2.2.1)) none c20 fun c21=>
 asSl c21 fun n6 cs7=>
 need (Nat.beq (n6*1) cs7.length)<|
 need ((Nat.ble ((1+n6)*8) 140737488355328)&&(Nat.ble (1+n6) 140737488355328))<|
 unc p.2.2.2.1 fun c22 _=>
 asI .i64 c22 fun i15=>
 unc p.2.2.2.1 fun c23 _=>
 asI .i64 c23 fun i16=>
 need (inR i16 (p.2.1.length/1))<|
 unc (List.drop (0+(i16.toNat*1)) p.2.1) fun c24 _=>
 need (((decide (p.2.2.1=p.2.2.1))&&(decide (0≤p.2.2.1)))&&true)<|
 asSl c24 fun n7 cs8=>
 need (Nat.ble p.2.2.1.toNat n7)<|
 need (Nat.beq ((1+n6)*1) ((([C.v (.int .i64 i13)])++cs7).length))<|
 need (Nat.beq (p.2.2.1.toNat*1) ((List.take (p.2.2.1.toNat*1) cs8).length))<|
 need ((Nat.ble ((p.2.2.1.toNat+(1+n6))*8) 140737488355328)&&(Nat.ble (p.2.2.1.toNat+(1+n6)) 140737488355328))<|
 need (inR i15 (p.2.1.length/1))<|
 need (((Nat.ble 0 (0+(i15.toNat*1)))&&(Nat.ble ((0+(i15.toNat*1))+1) p.2.1.length))&&true)<|
 need (((Nat.beq ((p.2.1.length/1)*1) ((putAt p.2.1 (0+(i15.toNat*1)) ([C.sl (p.2.2.1.toNat+(1+n6)) ((List.take (p.2.2.1.toNat*1) cs8)++(([C.v (.int .i64 i13)])++cs7))])).length))&&true)&&true)<|
 some (0,(putAt p.2.1 (0+(i15.toNat*1)) ([C.sl (p.2.2.1.toNat+(1+n6)) ((List.take (p.2.2.1.toNat*1) cs8)++(([C.v (.int .i64 i13)])++cs7))]),IntKind.i64.wrap (y1.2.1+1),()))
 else
 unc (List.drop 1 p.2.2.2.1) fun c25 _=>
 asI .i64 c25 fun i17=>
 unc p.2.2.2.1 fun c26 _=>
 asI .i64 c26 fun i18=>
 need (inR i18 (p.2.1.length/1))<|
 unc (List.drop (0+(i18.toNat*1)) p.2.1) fun c27 _=>
 sliceC 1 (some (I p.2.2.1)) none c27 fun c28=>
 asSl c28 fun n8 cs9=>
 need (Nat.beq (n8*1) cs9.length)<|
 need ((Nat.ble ((1+n8)*8) 140737488355328)&&(Nat.ble (1+n8) 140737488355328))<|
 unc p.2.2.2.1 fun c29 _=>
 asI .i64 c29 fun i19=>
 unc p.2.2.2.1 fun c30 _=>
 asI .i64 c30 fun i20=>
 need (inR i20 (p.2.1.length/1))<|
 unc (List.drop (0+(i20.toNat*1)) p.2.1) fun c31 _=>
 need (((decide (p.2.2.1=p.2.2.1))&&(decide (0≤p.2.2.1)))&&true)<|
 asSl c31 fun n9 cs10=>
 need (Nat.ble p.2.2.1.toNat n9)<|
 need (Nat.beq ((1+n8)*1) ((([C.v (.int .i64 i17)])++cs9).length))<|
 need (Nat.beq (p.2.2.1.toNat*1) ((List.take (p.2.2.1.toNat*1) cs10).length))<|
 need ((Nat.ble ((p.2.2.1.toNat+(1+n8))*8) 140737488355328)&&(Nat.ble (p.2.2.1.toNat+(1+n8)) 140737488355328))<|
 need (inR i19 (p.2.1.length/1))<|
 need (((Nat.ble 0 (0+(i19.toNat*1)))&&(Nat.ble ((0+(i19.toNat*1))+1) p.2.1.length))&&true)<|
 need (((Nat.beq ((p.2.1.length/1)*1) ((putAt p.2.1 (0+(i19.toNat*1)) ([C.sl (p.2.2.1.toNat+(1+n8)) ((List.take (p.2.2.1.toNat*1) cs10)++(([C.v (.int .i64 i17)])++cs9))])).length))&&true)&&true)<|
 some (0,(putAt p.2.1 (0+(i19.toNat*1)) ([C.sl (p.2.2.1.toNat+(1+n8)) ((List.take (p.2.2.1.toNat*1) cs10)++(([C.v (.int .i64 i17)])++cs9))]),IntKind.i64.wrap (y1.2.1+1),()))
 else
 need (((Nat.beq ((y1.1.length/1)*1) y1.1.length)&&true)&&true)<|
 some (1,(y1.1,y1.2.1,()))) fu (y.1,0,())).bind fun p1=>
 need (((Nat.beq ((p1.2.1.length/1)*1) p1.2.1.length)&&true)&&true)<|
 some (0,(p1.2.1,IntKind.i64.wrap (y.2.1+1),()))
 else
 need (((Nat.beq ((y.1.length/1)*1) y.1.length)&&true)&&true)<|
 some (1,(y.1,y.2.1,()))) fu (reps i1.toNat ([C.nl]),0,())).bind fun p2=>
 need (Nat.ble (0+((p2.2.1.length/1)*1)) p2.2.1.length)<|
 some ⟨V.c (C.sl (p2.2.1.length/1) (List.take ((p2.2.1.length/1)*1) p2.2.1)),[],none⟩):=by kernel_rfl
/- synoptic/model.accelerate$1 -/
theorem eq_model_accelerate_1 (fu d:Nat) (a0_0:Int) (a0_1:C) (a0_2:C) (a0_3:C) (e0:List C):
 cl fu (d+1) fn_model_accelerate_1 [V.agg ([C.v (.int .i64 a0_0),a0_1,a0_2,a0_3]),V.c (C.cp e0)] []=(
 unc e0 fun c r=>
 asI .i64 c fun i=>
 unc r fun c1 r1=>
 asI .i64 c1 fun i1=>
 unc r1 fun c2 _=>
 asI .i64 c2 fun i2=>
 (cl fu d fn_model_Accelerate [V.agg ([C.v (.int .i64 i),C.v (.int .i64 i1),C.v (.int .i64 i2)]),V.agg ([C.v (.int .i64 a0_0),a0_1,a0_2])] []).bind fun out=>
 rT out.r fun xs=>
 uncV xs fun x ys=>
 rA x fun cs=>
 need (Nat.beq cs.length 3)<|
 unc cs fun c3 r3=>
 asI .i64 c3 fun i3=>
 unc r3 fun c4 r4=>
 unc r4 fun c5 _=>
 uncV ys fun x1 ys1=>
 rC x1 fun c6=>
 asI .i64 c6 fun i4=>
 nilV ys1<|
 some ⟨V.tup [V.agg ([C.v (.int .i64 i3),c4,c5,a0_3]),I i4],[],none⟩):=by kernel_rfl
/- synoptic/model.move$1 -/
theorem eq_model_move_1 (fu d:Nat) (a0_0:Int) (a0_1:C) (a0_2:C) (a0_3:C) (e0:List C):
 cl fu (d+1) fn_model_move_1 [V.agg ([C.v (.int .i64 a0_0),a0_1,a0_2,a0_3]),V.c (C.cp e0)] []=(
 unc e0 fun c r=>
 asI .i64 c fun i=>
 unc r fun c1 r1=>
 asI .i64 c1 fun i1=>
 unc r1 fun c2 _=>
 asI .i64 c2 fun i2=>
 (cl fu d fn_flux_Amounts [V.agg ([C.v (.int .i64 i),C.v (.int .i64 i1),C.v (.int .i64 i2)]),V.agg ([C.v (.int .i64 a0_0),a0_1,a0_2])] []).bind fun out=>
 rT out.r fun xs=>
 uncV xs fun x ys=>
 rC x fun c3=>
 uncV ys fun x1 ys1=>
 rC x1 fun c4=>
 uncV ys1 fun x2 ys2=>
 rC x2 fun c5=>
 asI .i64 c5 fun i3=>
 nilV ys2<|
 bif i3 !=0 then
 some ⟨V.tup [V.agg ([C.v (.int .i64 0),C.nl,C.nl,C.nl]),I i3],[],none⟩
 else
 (cl fu d fn_flux_Move [V.agg ([C.v (.int .i64 a0_0),a0_1,a0_2]),V.c (nrm c3)] []).bind fun out1=>
 rT out1.r fun xs1=>
 uncV xs1 fun x3 ys3=>
 rA x3 fun cs=>
 need (Nat.beq cs.length 3)<|
 unc cs fun c6 r3=>
 asI .i64 c6 fun i4=>
 unc r3 fun c7 r4=>
 unc r4 fun c8 _=>
 uncV ys3 fun x4 ys4=>
 rC x4 fun c9=>
 asI .i64 c9 fun i5=>
 nilV ys4<|
 some ⟨V.tup [V.agg ([C.v (.int .i64 i4),c7,c8,c4]),I i5],[],none⟩):=by kernel_rfl
/- synoptic/flux.Amounts -/
theorem eq_flux_Amounts (fu d:Nat) (a0_0:Int) (a0_1:Int) (a0_2:Int) (a1_0:Int) (a1_1:C) (a1_2:C):
 cl fu (d+1) fn_flux_Amounts [V.agg ([C.v (.int .i64 a0_0),C.v (.int .i64 a0_1),C.v (.int .i64 a0_2)]),V.agg ([C.v (.int .i64 a1_0),a1_1,a1_2])] []=(
 (cl fu d fn_flux_CheckScheme [V.agg ([C.v (.int .i64 a0_0),C.v (.int .i64 a0_1),C.v (.int .i64 a0_2)])] []).bind fun out=>
 rC out.r fun c=>
 asI .i64 c fun i=>
 bif i !=0 then
 some ⟨V.tup [V.c C.nl,V.c C.nl,I i],[],none⟩
 else
 (cl fu d fn_flux_Check [V.agg ([C.v (.int .i64 a1_0),a1_1,a1_2])] []).bind fun out1=>
 rC out1.r fun c1=>
 asI .i64 c1 fun i1=>
 bif i1 !=0 then
 some ⟨V.tup [V.c C.nl,V.c C.nl,I i1],[],none⟩
 else
 (cl fu d fn_flux_Degrees [I a1_0] []).bind fun out2=>
 rT out2.r fun xs=>
 uncV xs fun x ys=>
 rC x fun c2=>
 uncV ys fun x1 ys1=>
 rC x1 fun c3=>
 asI .i64 c3 fun i2=>
 nilV ys1<|
 bif i2 !=0 then
 some ⟨V.tup [V.c C.nl,V.c C.nl,I i2],[],none⟩
 else
 (cl fu d fn_flux_edges [I a1_0] []).bind fun out3=>
 rC out3.r fun c4=>
 asFn c4 fun f cs=>
 (prim.iter d f cs).bind fun xs1=>
 (overK (fun it (y:(List C×Unit)×(List C×Unit)×Unit)=>
 uncV it fun x2 r=>
 rC x2 fun c5=>
 asI .i64 c5 fun i3=>
 uncV r fun x3 r1=>
 rA x3 fun cs1=>
 need (Nat.beq cs1.length 2)<|
 unc cs1 fun c6 r2=>
 asI .i64 c6 fun i4=>
 unc r2 fun c7 _=>
 asI .i64 c7 fun i5=>
 nilV r1<|
 asSl a1_1 fun n cs2=>
 need (inR i4 n)<|
 unc (List.drop (i4.toNat*1) cs2) fun c8 _=>
 asI .i64 c8 fun i6=>
 asSl c2 fun n2 cs3=>
 need (inR i4 n2)<|
 unc (List.drop (i4.toNat*1) cs3) fun c9 _=>
 asI .i64 c9 fun i7=>
 need (!(i7==0))<|
 asSl a1_1 fun n3 cs4=>
 need (inR i5 n3)<|
 unc (List.drop (i5.toNat*1) cs4) fun c10 _=>
 asI .i64 c10 fun i8=>
 asSl c2 fun n4 cs5=>
 need (inR i5 n4)<|
 unc (List.drop (i5.toNat*1) cs5) fun c11 _=>
 asI .i64 c11 fun i9=>
 need (!(i9==0))<|
 asSl a1_2 fun n5 cs6=>
 need (inR i3 n5)<|
 unc (List.drop (i3.toNat*1) cs6) fun c12 _=>
 asI .i64 c12 fun i10=>
 need (!(decide (a0_2<0)))<|
 bif decide (Int.fdiv i10 (2^(min a0_2.toNat (IntKind.bits .i64)))>IntKind.i64.wrap (Int.tdiv i6 i7)) then
 need ((((Nat.beq ((y.1.1.length/1)*1) y.1.1.length)&&true)&&(Nat.ble (((y.1.1.length/1)+1)*8) 140737488355328))&&(Nat.ble ((y.1.1.length/1)+1) 140737488355328))<|
 need ((((Nat.beq ((y.2.1.1.length/1)*1) y.2.1.1.length)&&true)&&(Nat.ble (((y.2.1.1.length/1)+1)*8) 140737488355328))&&(Nat.ble ((y.2.1.1.length/1)+1) 140737488355328))<|
 need (((Nat.beq (((y.1.1.length/1)+1)*1) ((y.1.1++([C.v (.int .i64 (IntKind.i64.wrap (Int.tdiv i6 i7)))])).length))&&true)&&true)<|
 need (((Nat.beq (((y.2.1.1.length/1)+1)*1) ((y.2.1.1++([C.v (.int .i64 1)])).length))&&true)&&true)<|
 some (0,((y.1.1++([C.v (.int .i64 (IntKind.i64.wrap (Int.tdiv i6 i7)))]),()),(y.2.1.1++([C.v (.int .i64 1)]),()),()))
 else
 bd (decide (Int.fdiv i10 (2^(min a0_2.toNat (IntKind.bits .i64)))<IntKind.i64.wrap (0-(IntKind.i64.wrap (Int.tdiv i8 i9))))) fun z=>
 bif z then
 need ((((Nat.beq ((y.1.1.length/1)*1) y.1.1.length)&&true)&&(Nat.ble (((y.1.1.length/1)+1)*8) 140737488355328))&&(Nat.ble ((y.1.1.length/1)+1) 140737488355328))<|
 need ((((Nat.beq ((y.2.1.1.length/1)*1) y.2.1.1.length)&&true)&&(Nat.ble (((y.2.1.1.length/1)+1)*8) 140737488355328))&&(Nat.ble ((y.2.1.1.length/1)+1) 140737488355328))<|
 need (((Nat.beq (((y.1.1.length/1)+1)*1) ((y.1.1++([C.v (.int .i64 (IntKind.i64.wrap (0-(IntKind.i64.wrap (Int.tdiv i8 i9)))))])).length))&&true)&&true)<|
 need (((Nat.beq (((y.2.1.1.length/1)+1)*1) ((y.2.1.1++([C.v (.int .i64 (-1))])).length))&&true)&&true)<|
 some (0,((y.1.1++([C.v (.int .i64 (IntKind.i64.wrap (0-(IntKind.i64.wrap (Int.tdiv i8 i9)))))]),()),(y.2.1.1++([C.v (.int .i64 (-1))]),()),()))
 else
 need ((((Nat.beq ((y.1.1.length/1)*1) y.1.1.length)&&true)&&(Nat.ble (((y.1.1.length/1)+1)*8) 140737488355328))&&(Nat.ble ((y.1.1.length/1)+1) 140737488355328))<|
 need ((((Nat.beq ((y.2.1.1.length/1)*1) y.2.1.1.length)&&true)&&(Nat.ble (((y.2.1.1.length/1)+1)*8) 140737488355328))&&(Nat.ble ((y.2.1.1.length/1)+1) 140737488355328))<|
 need (((Nat.beq (((y.1.1.length/1)+1)*1) ((y.1.1++([C.v (.int .i64 (Int.fdiv i10 (2^(min a0_2.toNat (IntKind.bits .i64)))))])).length))&&true)&&true)<|
 need (((Nat.beq (((y.2.1.1.length/1)+1)*1) ((y.2.1.1++([C.v (.int .i64 0)])).length))&&true)&&true)<|
 some (0,((y.1.1++([C.v (.int .i64 (Int.fdiv i10 (2^(min a0_2.toNat (IntKind.bits .i64)))))]),()),(y.2.1.1++([C.v (.int .i64 0)]),()),()))) xs1 (([],()),([],()),())).bind fun p=>
 need (Nat.ble (0+((p.2.1.1.length/1)*1)) p.2.1.1.length)<|
 need (Nat.ble (0+((p.2.2.1.1.length/1)*1)) p.2.2.1.1.length)<|
 some ⟨V.tup [V.c (C.sl (p.2.1.1.length/1) (List.take ((p.2.1.1.length/1)*1) p.2.1.1)),V.c (C.sl (p.2.2.1.1.length/1) (List.take ((p.2.2.1.1.length/1)*1) p.2.2.1.1)),I 0],[],none⟩):=by kernel_rfl
/- synoptic/flux.Move -/
theorem eq_flux_Move (fu d:Nat) (a0_0:Int) (a0_1:C) (a0_2:C) (n1:Nat) (a1:List C):
 cl fu (d+1) fn_flux_Move [V.agg ([C.v (.int .i64 a0_0),a0_1,a0_2]),V.c (C.sl n1 a1)] []=(
 (cl fu d fn_flux_Check [V.agg ([C.v (.int .i64 a0_0),a0_1,a0_2])] []).bind fun out=>
 rC out.r fun c=>
 asI .i64 c fun i=>
 bif i !=0 then
 some ⟨V.tup [V.agg ([C.v (.int .i64 0),C.nl,C.nl]),I i],[],none⟩
 else
 asSl a0_2 fun n cs=>
 bif ((n1:Nat):Int) !=((n:Nat):Int) then
 some ⟨V.tup [V.agg ([C.v (.int .i64 0),C.nl,C.nl]),I 1],[],none⟩
 else
 (cl fu d fn_flux_outside [V.c (C.sl n1 a1),I (-16777216),I 16777216] []).bind fun out1=>
 rC out1.r fun c1=>
 asB c1 fun b=>
 bif b then
 some ⟨V.tup [V.agg ([C.v (.int .i64 0),C.nl,C.nl]),I 1],[],none⟩
 else
 need (noYl [V.c (nrm a0_1)])<|
 (cl fu d fn_slices_Clone_sint_int [V.c (nrm a0_1)] []).bind fun out2=>
 rW out2.r 0 fun n2=>
 uncO out2.objs fun o os=>
 rS o ty_int 0 fun cs1=>
 need ((Nat.beq (n2*1) cs1.length)&&true)<|
 need (noYl [V.c (nrm a0_2)])<|
 (cl fu d fn_slices_Clone_sint_int [V.c (nrm a0_2)] []).bind fun out3=>
 rW out3.r 0 fun n3=>
 uncO out3.objs fun o1 os1=>
 rS o1 ty_int 0 fun cs2=>
 need ((Nat.beq (n3*1) cs2.length)&&true)<|
 (cl fu d fn_flux_edges [I a0_0] []).bind fun out4=>
 rC out4.r fun c2=>
 asFn c2 fun f cs3=>
 (prim.iter d f cs3).bind fun xs=>
 need (((Nat.beq (n2*1) cs1.length)&&true)&&true)<|
 need (((Nat.beq (n3*1) cs2.length)&&true)&&true)<|
 (overK (fun it (y:(Int×C×C×Unit)×(Int×List C×List C×Unit)×Unit)=>
 uncV it fun x r=>
 rC x fun c3=>
 asI .i64 c3 fun i1=>
 uncV r fun x1 r1=>
 rA x1 fun cs4=>
 need (Nat.beq cs4.length 2)<|
 unc cs4 fun c4 r2=>
 asI .i64 c4 fun i2=>
 unc r2 fun c5 _=>
 asI .i64 c5 fun i3=>
 nilV r1<|
 need (inR i2 (y.2.1.2.1.length/1))<|
 unc (List.drop (0+(i2.toNat*1)) y.2.1.2.1) fun c6 _=>
 asI .i64 c6 fun i4=>
 need (inR i1 n1)<|
 unc (List.drop (i1.toNat*1) a1) fun c7 _=>
 asI .i64 c7 fun i5=>
 need (inR i2 (y.2.1.2.1.length/1))<|
 need (((Nat.ble 0 (0+(i2.toNat*1)))&&(Nat.ble ((0+(i2.toNat*1))+1) y.2.1.2.1.length))&&true)<|
 need (inR i3 (y.2.1.2.1.length/1))<|
 unc (List.drop (0+(i3.toNat*1)) (putAt y.2.1.2.1 (0+(i2.toNat*1)) ([C.v (.int .i64 (IntKind.i64.wrap (i4-i5)))]))) fun c8 _=>
 asI .i64 c8 fun i6=>
 need (inR i1 n1)<|
 unc (List.drop (i1.toNat*1) a1) fun c9 _=>
 asI .i64 c9 fun i7=>
 need (inR i3 (y.2.1.2.1.length/1))<|
 need (((Nat.ble 0 (0+(i3.toNat*1)))&&(Nat.ble ((0+(i3.toNat*1))+1) ((putAt y.2.1.2.1 (0+(i2.toNat*1)) ([C.v (.int .i64 (IntKind.i64.wrap (i4-i5)))])).length)))&&true)<|
 bd (putAt (putAt y.2.1.2.1 (0+(i2.toNat*1)) ([C.v (.int .i64 (IntKind.i64.wrap (i4-i5)))])) (0+(i3.toNat*1)) ([C.v (.int .i64 (IntKind.i64.wrap (i6+i7)))])) fun cs5=>
 need (((Nat.beq ((y.2.1.2.1.length/1)*1) cs5.length)&&true)&&true)<|
 need (((Nat.beq ((y.2.1.2.2.1.length/1)*1) y.2.1.2.2.1.length)&&true)&&true)<|
 some (0,((y.1.1,y.1.2.1,y.1.2.2.1,()),(y.2.1.1,cs5,y.2.1.2.2.1,()),()))) xs ((0,C.nl,C.nl,()),(a0_0,cs1,cs2,()),())).bind fun p=>
 need (Nat.ble (0+((p.2.2.1.2.1.length/1)*1)) p.2.2.1.2.1.length)<|
 (cl fu d fn_flux_outside [V.c (C.sl (p.2.2.1.2.1.length/1) (List.take ((p.2.2.1.2.1.length/1)*1) p.2.2.1.2.1)),I 0,I 16777216] []).bind fun out5=>
 rC out5.r fun c10=>
 asB c10 fun b1=>
 bif b1 then
 some ⟨V.tup [V.agg ([C.v (.int .i64 0),C.nl,C.nl]),I 7],[],none⟩
 else
 need (Nat.ble (0+((p.2.2.1.2.1.length/1)*1)) p.2.2.1.2.1.length)<|
 need (Nat.ble (0+((p.2.2.1.2.2.1.length/1)*1)) p.2.2.1.2.2.1.length)<|
 some ⟨V.tup [V.agg ([C.v (.int .i64 p.2.2.1.1),C.sl (p.2.2.1.2.1.length/1) (List.take ((p.2.2.1.2.1.length/1)*1) p.2.2.1.2.1),C.sl (p.2.2.1.2.2.1.length/1) (List.take ((p.2.2.1.2.2.1.length/1)*1) p.2.2.1.2.2.1)]),I 0],[],none⟩):=by kernel_rfl
/- math/bits.Mul -/
theorem eq_bits_Mul (fu d:Nat) (a0:Int) (a1:Int):
 cl fu (d+1) fn_bits_Mul [V.c (C.v (.int .u64 a0)),V.c (C.v (.int .u64 a1))] []=(
 (cl fu d fn_bits_Mul64 [V.c (C.v (.int .u64 a0)),V.c (C.v (.int .u64 a1))] []).bind fun out=>
 rT out.r fun xs=>
 uncV xs fun x ys=>
 rC x fun c=>
 asI .u64 c fun i=>
 uncV ys fun x1 ys1=>
 rC x1 fun c1=>
 asI .u64 c1 fun i1=>
 nilV ys1<|
 some ⟨V.tup [V.c (C.v (.int .u64 i)),V.c (C.v (.int .u64 i1))],[],none⟩):=by kernel_rfl
/- slices.ContainsFunc[[]int,int] -/
theorem eq2_slices_ContainsFunc_sint_int (fu d:Nat) (n0:Nat) (a0:List C) (k1:Nat) (a1_0:C) (a1_1:C):
 cl fu (d+1) fn_slices_ContainsFunc_sint_int [V.c (C.sl n0 a0),V.c (C.fn k1 ([a1_0,a1_1]))] []=(
 (cl fu d fn_slices_IndexFunc_sint_int [V.c (C.sl n0 a0),V.c (C.fn k1 ([a1_0,a1_1]))] []).bind fun out=>
 rC out.r fun c=>
 asI .i64 c fun i=>
 some ⟨B (decide (i≥0)),[],none⟩):=by kernel_rfl
/- synoptic/flux.outside$1 -/
theorem eq_flux_outside_1 (fu d:Nat) (a0:Int) (e0:List C) (e1:List C):
 cl fu (d+1) fn_flux_outside_1 [I a0,V.c (C.cp e0),V.c (C.cp e1)] []=(
 unc e0 fun c r=>
 asI .i64 c fun i=>
 unc e1 fun c1 _=>
 asI .i64 c1 fun i1=>
 (cl fu d fn_flux_within [I a0,I i,I i1] []).bind fun out=>
 rC out.r fun c2=>
 asB c2 fun b=>
 some ⟨B (!b),[],none⟩):=by kernel_rfl
/- synoptic/flux.within -/
theorem eq_flux_within (fu d:Nat) (a0:Int) (a1:Int) (a2:Int):
 cl fu (d+1) fn_flux_within [I a0,I a1,I a2] []=(
 bif decide (a1≤a0) then
 some ⟨B (decide (a0≤a2)),[],none⟩
 else
 some ⟨B false,[],none⟩):=by kernel_rfl
/- synoptic/mesh.Points -/
theorem eq_mesh_Points (fu d:Nat) (a0:Int):
 cl fu (d+1) fn_mesh_Points [I a0] []=(
 need (!(a0==0))<|
 (iter (fun (y:Int×(Int×Int×List C×(List (List C×List C))×C×C×C×Unit)×Unit)=>
 bif decide (y.1<20) then
 need (((Nat.beq ((y.2.1.2.2.1.length/4)*4) y.2.1.2.2.1.length)&&true)&&true)<|
 (iter (fun (y1:Int×(Int×Int×List C×(List (List C×List C))×C×C×C×Unit)×Unit)=>
 bif decide (y1.1≤a0) then
 need (((Nat.beq ((y1.2.1.2.2.1.length/4)*4) y1.2.1.2.2.1.length)&&true)&&true)<|
 (iter (fun (y2:Int×(Int×Int×List C×(List (List C×List C))×C×C×C×Unit)×Unit)=>
 bif decide (IntKind.i64.wrap (y1.1+y2.1)≤a0) then
 (cl fu d fn_place_Normal [V.agg ([C.v (.int .i64 y.1),C.v (.int .i64 (IntKind.i64.wrap (y1.1*y2.2.1.2.1))),C.v (.int .i64 (IntKind.i64.wrap (y2.1*y2.2.1.2.1))),C.v (.int .i64 (IntKind.i64.wrap ((IntKind.i64.wrap ((IntKind.i64.wrap (a0-y1.1))-y2.1))*y2.2.1.2.1)))])] []).bind fun out=>
 rT out.r fun xs=>
 uncV xs fun x ys=>
 rA x fun cs=>
 need (Nat.beq cs.length 4)<|
 unc cs fun c r=>
 asI .i64 c fun i=>
 unc r fun c1 r1=>
 asI .i64 c1 fun i1=>
 unc r1 fun c2 r2=>
 asI .i64 c2 fun i2=>
 unc r2 fun c3 _=>
 asI .i64 c3 fun i3=>
 uncV ys fun x1 ys1=>
 rC x1 fun c4=>
 asI .i64 c4 fun i4=>
 nilV ys1<|
 bd ((i==y.1)&&((i1==(IntKind.i64.wrap (y1.1*y2.2.1.2.1)))&&((i2==(IntKind.i64.wrap (y2.1*y2.2.1.2.1)))&&((i3==(IntKind.i64.wrap ((IntKind.i64.wrap ((IntKind.i64.wrap (a0-y1.1))-y2.1))*y2.2.1.2.1)))&&true)))) fun z=>
 bif z then
 (mfd ty_api_Place ([C.v (.int .i64 y.1),C.v (.int .i64 (IntKind.i64.wrap (y1.1*y2.2.1.2.1))),C.v (.int .i64 (IntKind.i64.wrap (y2.1*y2.2.1.2.1))),C.v (.int .i64 (IntKind.i64.wrap ((IntKind.i64.wrap ((IntKind.i64.wrap (a0-y1.1))-y2.1))*y2.2.1.2.1)))]) y2.2.1.2.2.2.1).bind fun q=>
 need ((((Nat.beq ((y2.2.1.2.2.1.length/4)*4) y2.2.1.2.2.1.length)&&true)&&(Nat.ble (((y2.2.1.2.2.1.length/4)+1)*32) 140737488355328))&&(Nat.ble ((y2.2.1.2.2.1.length/4)+1) 140737488355328))<|
 bd (y2.2.1.2.2.1++([C.v (.int .i64 y.1),C.v (.int .i64 (IntKind.i64.wrap (y1.1*y2.2.1.2.1))),C.v (.int .i64 (IntKind.i64.wrap (y2.1*y2.2.1.2.1))),C.v (.int .i64 (IntKind.i64.wrap ((IntKind.i64.wrap ((IntKind.i64.wrap (a0-y1.1))-y2.1))*y2.2.1.2.1)))])) fun cs1=>
 need (((Nat.beq (((y2.2.1.2.2.1.length/4)+1)*4) cs1.length)&&true)&&true)<|
 some (0,(IntKind.i64.wrap (y2.1+1),(y2.2.1.1,y2.2.1.2.1,cs1,mput y2.2.1.2.2.2.1 q ([C.v (.int .i64 y.1),C.v (.int .i64 (IntKind.i64.wrap (y1.1*y2.2.1.2.1))),C.v (.int .i64 (IntKind.i64.wrap (y2.1*y2.2.1.2.1))),C.v (.int .i64 (IntKind.i64.wrap ((IntKind.i64.wrap ((IntKind.i64.wrap (a0-y1.1))-y2.1))*y2.2.1.2.1)))]) ([C.v (.int .i64 ((y2.2.1.2.2.1.length/4:Nat):Int))]),y2.2.1.2.2.2.2.1,y2.2.1.2.2.2.2.2.1,y2.2.1.2.2.2.2.2.2.1,()),()))
 else
 need (((Nat.beq ((y2.2.1.2.2.1.length/4)*4) y2.2.1.2.2.1.length)&&true)&&true)<|
 some (0,(IntKind.i64.wrap (y2.1+1),(y2.2.1.1,y2.2.1.2.1,y2.2.1.2.2.1,y2.2.1.2.2.2.1,y2.2.1.2.2.2.2.1,y2.2.1.2.2.2.2.2.1,y2.2.1.2.2.2.2.2.2.1,()),()))
 else
 need (((Nat.beq ((y2.2.1.2.2.1.length/4)*4) y2.2.1.2.2.1.length)&&true)&&true)<|
 some (1,(y2.1,(y2.2.1.1,y2.2.1.2.1,y2.2.1.2.2.1,y2.2.1.2.2.2.1,y2.2.1.2.2.2.2.1,y2.2.1.2.2.2.2.2.1,y2.2.1.2.2.2.2.2.2.1,()),()))) fu (0,(y1.2.1.1,y1.2.1.2.1,y1.2.1.2.2.1,y1.2.1.2.2.2.1,y1.2.1.2.2.2.2.1,y1.2.1.2.2.2.2.2.1,y1.2.1.2.2.2.2.2.2.1,()),())).bind fun p=>
 need (((Nat.beq ((p.2.2.1.2.2.1.length/4)*4) p.2.2.1.2.2.1.length)&&true)&&true)<|
 some (0,(IntKind.i64.wrap (y1.1+1),(p.2.2.1.1,p.2.2.1.2.1,p.2.2.1.2.2.1,p.2.2.1.2.2.2.1,p.2.2.1.2.2.2.2.1,p.2.2.1.2.2.2.2.2.1,p.2.2.1.2.2.2.2.2.2.1,()),()))
 else
 need (((Nat.beq ((y1.2.1.2.2.1.length/4)*4) y1.2.1.2.2.1.length)&&true)&&true)<|
 some (1,(y1.1,(y1.2.1.1,y1.2.1.2.1,y1.2.1.2.2.1,y1.2.1.2.2.2.1,y1.2.1.2.2.2.2.1,y1.2.1.2.2.2.2.2.1,y1.2.1.2.2.2.2.2.2.1,()),()))) fu (0,(y.2.1.1,y.2.1.2.1,y.2.1.2.2.1,y.2.1.2.2.2.1,y.2.1.2.2.2.2.1,y.2.1.2.2.2.2.2.1,y.2.1.2.2.2.2.2.2.1,()),())).bind fun p1=>
 need (((Nat.beq ((p1.2.2.1.2.2.1.length/4)*4) p1.2.2.1.2.2.1.length)&&true)&&true)<|
 some (0,(IntKind.i64.wrap (y.1+1),(p1.2.2.1.1,p1.2.2.1.2.1,p1.2.2.1.2.2.1,p1.2.2.1.2.2.2.1,p1.2.2.1.2.2.2.2.1,p1.2.2.1.2.2.2.2.2.1,p1.2.2.1.2.2.2.2.2.2.1,()),()))
 else
 need (((Nat.beq ((y.2.1.2.2.1.length/4)*4) y.2.1.2.2.1.length)&&true)&&true)<|
 some (1,(y.1,(y.2.1.1,y.2.1.2.1,y.2.1.2.2.1,y.2.1.2.2.2.1,y.2.1.2.2.2.2.1,y.2.1.2.2.2.2.2.1,y.2.1.2.2.2.2.2.2.1,()),()))) fu (0,(a0,IntKind.i64.wrap (Int.tdiv 840 a0),[],[],C.nl,C.nl,C.nl,()),())).bind fun p2=>
 need (Nat.ble (0+((p2.2.2.1.2.2.1.length/4)*4)) p2.2.2.1.2.2.1.length)<|
 some ⟨V.ptr 1000000 0,[.ob ty_mesh_Net 0 ([C.v (.int .i64 p2.2.2.1.1),C.v (.int .i64 p2.2.2.1.2.1),C.sl (p2.2.2.1.2.2.1.length/4) (List.take ((p2.2.2.1.2.2.1.length/4)*4) p2.2.2.1.2.2.1),C.mp ty_api_Place ty_int (some 4) none p2.2.2.1.2.2.2.1,p2.2.2.1.2.2.2.2.1,p2.2.2.1.2.2.2.2.2.1,p2.2.2.1.2.2.2.2.2.2.1])],none⟩):=by kernel_rfl
/- (*synoptic/mesh.Net).cells -/
theorem eqp_mesh_Net_cells (fu d:Nat) (a0_0:Int) (a0_1:Int) (a0_2:C) (a0_3:List (List C×List C)) (a0_4:List C) (a0_5:C) (a0_6:C) (g0:Nat) (a1_0:Int) (a1_1:Int) (a1_2:Int) (a1_3:Int):
 cl fu (d+1) fn_mesh_Net_cells [V.ptr 1000000 0,V.agg ([C.v (.int .i64 a1_0),C.v (.int .i64 a1_1),C.v (.int .i64 a1_2),C.v (.int .i64 a1_3)])] [.pk g0 ty_mesh_Net (.ps [PC.c (C.v (.int .i64 a0_0)),PC.c (C.v (.int .i64 a0_1)),PC.c a0_2,PC.c (C.mp ty_api_Place ty_int (some 4) none a0_3),PC.r ty_api_Cell a0_4,PC.c a0_5,PC.c a0_6]) none]=(
 (cl fu d fn_mesh_Net_upward [V.ptr 1000000 0,V.agg ([C.v (.int .i64 a1_0),C.v (.int .i64 a1_1),C.v (.int .i64 a1_2),C.v (.int .i64 a1_3)])] [.pk g0 ty_mesh_Net (.ps [PC.c (C.v (.int .i64 a0_0)),PC.c (C.v (.int .i64 a0_1)),PC.c a0_2,PC.c (C.mp ty_api_Place ty_int (some 4) none a0_3),PC.r ty_api_Cell a0_4,PC.c a0_5,PC.c a0_6]) none]).bind fun out=>
 uncO out.objs fun o os=>
 rPk o ty_mesh_Net fun ps=>
 uncP ps fun p ps1=>
 asPc p fun c=>
 asI .i64 c fun i=>
 uncP ps1 fun p1 ps2=>
 asPc p1 fun c1=>
 asI .i64 c1 fun i1=>
 uncP ps2 fun p2 ps3=>
 asPc p2 fun c2=>
 uncP ps3 fun p3 ps4=>
 asPc p3 fun c3=>
 uncP ps4 fun p4 ps5=>
 asRw ty_api_Cell p4 fun cs=>
 uncP ps5 fun p5 ps6=>
 asPc p5 fun c4=>
 uncP ps6 fun p6 ps7=>
 asPc p6 fun c5=>
 nilP ps7<|
 rA out.r fun cs1=>
 (cl fu d fn_mesh_Net_cell [V.ptr 1000000 0,V.agg cs1] [.pk (Nat.succ g0) ty_mesh_Net (.ps [PC.c (C.v (.int .i64 i)),PC.c (C.v (.int .i64 i1)),PC.c c2,PC.c c3,PC.r ty_api_Cell cs,PC.c c4,PC.c c5]) none]).bind fun out1=>
 uncO out1.objs fun o1 os1=>
 rPk o1 ty_mesh_Net fun ps8=>
 uncP ps8 fun p7 ps9=>
 asPc p7 fun c6=>
 asI .i64 c6 fun i2=>
 uncP ps9 fun p8 ps10=>
 asPc p8 fun c7=>
 asI .i64 c7 fun i3=>
 uncP ps10 fun p9 ps11=>
 asPc p9 fun c8=>
 uncP ps11 fun p10 ps12=>
 asPc p10 fun c9=>
 uncP ps12 fun p11 ps13=>
 asRw ty_api_Cell p11 fun cs2=>
 uncP ps13 fun p12 ps14=>
 asPc p12 fun c10=>
 uncP ps14 fun p13 ps15=>
 asPc p13 fun c11=>
 nilP ps15<|
 bif decide (a1_3≥i3) then
 (cl fu d fn_mesh_moved [V.agg ([C.v (.int .i64 a1_0),C.v (.int .i64 a1_1),C.v (.int .i64 a1_2),C.v (.int .i64 a1_3)]),I 0,I 0,I (IntKind.i64.wrap (0-i3))] []).bind fun out2=>
 rA out2.r fun cs3=>
 need (Nat.beq cs3.length 4)<|
 unc cs3 fun c12 r=>
 asI .i64 c12 fun i4=>
 unc r fun c13 r1=>
 asI .i64 c13 fun i5=>
 unc r1 fun c14 r2=>
 asI .i64 c14 fun i6=>
 unc r2 fun c15 _=>
 asI .i64 c15 fun i7=>
 (cl fu d fn_mesh_Net_downward [V.ptr 1000000 0,V.agg ([C.v (.int .i64 i4),C.v (.int .i64 i5),C.v (.int .i64 i6),C.v (.int .i64 i7)])] [.pk (Nat.succ (Nat.succ g0)) ty_mesh_Net (.ps [PC.c (C.v (.int .i64 i2)),PC.c (C.v (.int .i64 i3)),PC.c c8,PC.c c9,PC.r ty_api_Cell cs2,PC.c c10,PC.c c11]) none]).bind fun out3=>
 uncO out3.objs fun o2 os2=>
 rPk o2 ty_mesh_Net fun ps16=>
 uncP ps16 fun p14 ps17=>
 asPc p14 fun c16=>
 asI .i64 c16 fun i8=>
 uncP ps17 fun p15 ps18=>
 asPc p15 fun c17=>
 asI .i64 c17 fun i9=>
 uncP ps18 fun p16 ps19=>
 asPc p16 fun c18=>
 uncP ps19 fun p17 ps20=>
 asPc p17 fun c19=>
 uncP ps20 fun p18 ps21=>
 asRw ty_api_Cell p18 fun cs4=>
 uncP ps21 fun p19 ps22=>
 asPc p19 fun c20=>
 uncP ps22 fun p20 ps23=>
 asPc p20 fun c21=>
 nilP ps23<|
 rA out3.r fun cs5=>
 (cl fu d fn_mesh_Net_cell [V.ptr 1000000 0,V.agg cs5] [.pk (Nat.succ (Nat.succ (Nat.succ g0))) ty_mesh_Net (.ps [PC.c (C.v (.int .i64 i8)),PC.c (C.v (.int .i64 i9)),PC.c c18,PC.c c19,PC.r ty_api_Cell cs4,PC.c c20,PC.c c21]) none]).bind fun out4=>
 uncO out4.objs fun o3 os3=>
 rPk o3 ty_mesh_Net fun ps24=>
 uncP ps24 fun p21 ps25=>
 asPc p21 fun c22=>
 asI .i64 c22 fun i10=>
 uncP ps25 fun p22 ps26=>
 asPc p22 fun c23=>
 asI .i64 c23 fun i11=>
 uncP ps26 fun p23 ps27=>
 asPc p23 fun c24=>
 uncP ps27 fun p24 ps28=>
 asPc p24 fun c25=>
 uncP ps28 fun p25 ps29=>
 asRw ty_api_Cell p25 fun cs6=>
 uncP ps29 fun p26 ps30=>
 asPc p26 fun c26=>
 uncP ps30 fun p27 ps31=>
 asPc p27 fun c27=>
 nilP ps31<|
 some ⟨V.tup [],[.pk (Nat.succ (Nat.succ (Nat.succ (Nat.succ g0)))) ty_mesh_Net (.ps [PC.c (C.v (.int .i64 i10)),PC.c (C.v (.int .i64 i11)),PC.c c24,PC.c c25,PC.r ty_api_Cell cs6,PC.c c26,PC.c c27]) none],none⟩
 else
 some ⟨V.tup [],[.pk (Nat.succ (Nat.succ g0)) ty_mesh_Net (.ps [PC.c (C.v (.int .i64 i2)),PC.c (C.v (.int .i64 i3)),PC.c c8,PC.c c9,PC.r ty_api_Cell cs2,PC.c c10,PC.c c11]) none],none⟩):=by kernel_rfl
/- synoptic/synopticref02.Valid -/
theorem eq_synopticref02_Valid (fu d:Nat) (a0_0:Int) (a0_1:Int) (a0_2:Int) (a0_3:Int):
 cl fu (d+1) fn_synopticref02_Valid [V.agg ([C.v (.int .i64 a0_0),C.v (.int .i64 a0_1),C.v (.int .i64 a0_2),C.v (.int .i64 a0_3)])] []=(
 bif decide (a0_0≥0) then
 bif decide (a0_0<20) then
 bif decide (a0_1≥0) then
 bif decide (a0_1≤840) then
 bif decide (a0_2≥0) then
 bif decide (a0_2≤840) then
 bif decide (a0_3≥0) then
 bif decide (a0_3≤840) then
 some ⟨B ((IntKind.i64.wrap ((IntKind.i64.wrap (a0_1+a0_2))+a0_3))==840),[],none⟩
 else
 some ⟨B false,[],none⟩
 else
 some ⟨B false,[],none⟩
 else
 some ⟨B false,[],none⟩
 else
 some ⟨B false,[],none⟩
 else
 some ⟨B false,[],none⟩
 else
 some ⟨B false,[],none⟩
 else
 some ⟨B false,[],none⟩
 else
 some ⟨B false,[],none⟩):=by kernel_rfl
/- synoptic/synopticref03.Nodes -/
theorem eq_synopticref03_Nodes (fu d:Nat) (a0:Int):
 cl fu (d+1) fn_synopticref03_Nodes [I a0] []=(
 (cl fu d fn_synopticref03_Count [I a0] []).bind fun out=>
 rC out.r fun c=>
 asI .i64 c fun i=>
 bif i==0 then
 some ⟨V.tup [V.c C.nl,I 1],[],none⟩
 else
 need (!(a0==0))<|
 (iter (fun (y:List C×Int×Unit)=>
 bif decide (y.2.1<20) then
 need (((Nat.beq ((y.1.length/4)*4) y.1.length)&&true)&&true)<|
 (iter (fun (y1:List C×Int×Unit)=>
 bif decide (y1.2.1≤840) then
 need (((Nat.beq ((y1.1.length/4)*4) y1.1.length)&&true)&&true)<|
 (iter (fun (y2:List C×Int×Unit)=>
 bif decide (IntKind.i64.wrap (y1.2.1+y2.2.1)≤840) then
 bif decide (y1.2.1>0) then
 bif decide (y2.2.1>0) then
 bif decide (IntKind.i64.wrap ((IntKind.i64.wrap (840-y1.2.1))-y2.2.1)>0) then
 need ((((Nat.beq ((y2.1.length/4)*4) y2.1.length)&&true)&&(Nat.ble (((y2.1.length/4)+1)*32) 140737488355328))&&(Nat.ble ((y2.1.length/4)+1) 140737488355328))<|
 bd (y2.1++([C.v (.int .i64 y.2.1),C.v (.int .i64 y1.2.1),C.v (.int .i64 y2.2.1),C.v (.int .i64 (IntKind.i64.wrap ((IntKind.i64.wrap (840-y1.2.1))-y2.2.1)))])) fun cs=>
 need (((Nat.beq (((y2.1.length/4)+1)*4) cs.length)&&true)&&true)<|
 some (0,(cs,IntKind.i64.wrap (y2.2.1+(IntKind.i64.wrap (Int.tdiv 840 a0))),()))
 else
 (cl fu d fn_synopticref02_IsNormal [V.agg ([C.v (.int .i64 y.2.1),C.v (.int .i64 y1.2.1),C.v (.int .i64 y2.2.1),C.v (.int .i64 (IntKind.i64.wrap ((IntKind.i64.wrap (840-y1.2.1))-y2.2.1)))])] []).bind fun out1=>
 rC out1.r fun c1=>
 asB c1 fun b=>
 bif b then
 need ((((Nat.beq ((y2.1.length/4)*4) y2.1.length)&&true)&&(Nat.ble (((y2.1.length/4)+1)*32) 140737488355328))&&(Nat.ble ((y2.1.length/4)+1) 140737488355328))<|
 bd (y2.1++([C.v (.int .i64 y.2.1),C.v (.int .i64 y1.2.1),C.v (.int .i64 y2.2.1),C.v (.int .i64 (IntKind.i64.wrap ((IntKind.i64.wrap (840-y1.2.1))-y2.2.1)))])) fun cs1=>
 need (((Nat.beq (((y2.1.length/4)+1)*4) cs1.length)&&true)&&true)<|
 some (0,(cs1,IntKind.i64.wrap (y2.2.1+(IntKind.i64.wrap (Int.tdiv 840 a0))),()))
 else
 need (((Nat.beq ((y2.1.length/4)*4) y2.1.length)&&true)&&true)<|
 some (0,(y2.1,IntKind.i64.wrap (y2.2.1+(IntKind.i64.wrap (Int.tdiv 840 a0))),()))
 else
 (cl fu d fn_synopticref02_IsNormal [V.agg ([C.v (.int .i64 y.2.1),C.v (.int .i64 y1.2.1),C.v (.int .i64 y2.2.1),C.v (.int .i64 (IntKind.i64.wrap ((IntKind.i64.wrap (840-y1.2.1))-y2.2.1)))])] []).bind fun out2=>
 rC out2.r fun c2=>
 asB c2 fun b1=>
 bif b1 then
 need ((((Nat.beq ((y2.1.length/4)*4) y2.1.length)&&true)&&(Nat.ble (((y2.1.length/4)+1)*32) 140737488355328))&&(Nat.ble ((y2.1.length/4)+1) 140737488355328))<|
 bd (y2.1++([C.v (.int .i64 y.2.1),C.v (.int .i64 y1.2.1),C.v (.int .i64 y2.2.1),C.v (.int .i64 (IntKind.i64.wrap ((IntKind.i64.wrap (840-y1.2.1))-y2.2.1)))])) fun cs2=>
 need (((Nat.beq (((y2.1.length/4)+1)*4) cs2.length)&&true)&&true)<|
 some (0,(cs2,IntKind.i64.wrap (y2.2.1+(IntKind.i64.wrap (Int.tdiv 840 a0))),()))
 else
 need (((Nat.beq ((y2.1.length/4)*4) y2.1.length)&&true)&&true)<|
 some (0,(y2.1,IntKind.i64.wrap (y2.2.1+(IntKind.i64.wrap (Int.tdiv 840 a0))),()))
 else
 (cl fu d fn_synopticref02_IsNormal [V.agg ([C.v (.int .i64 y.2.1),C.v (.int .i64 y1.2.1),C.v (.int .i64 y2.2.1),C.v (.int .i64 (IntKind.i64.wrap ((IntKind.i64.wrap (840-y1.2.1))-y2.2.1)))])] []).bind fun out3=>
 rC out3.r fun c3=>
 asB c3 fun b2=>
 bif b2 then
 need ((((Nat.beq ((y2.1.length/4)*4) y2.1.length)&&true)&&(Nat.ble (((y2.1.length/4)+1)*32) 140737488355328))&&(Nat.ble ((y2.1.length/4)+1) 140737488355328))<|
 bd (y2.1++([C.v (.int .i64 y.2.1),C.v (.int .i64 y1.2.1),C.v (.int .i64 y2.2.1),C.v (.int .i64 (IntKind.i64.wrap ((IntKind.i64.wrap (840-y1.2.1))-y2.2.1)))])) fun cs3=>
 need (((Nat.beq (((y2.1.length/4)+1)*4) cs3.length)&&true)&&true)<|
 some (0,(cs3,IntKind.i64.wrap (y2.2.1+(IntKind.i64.wrap (Int.tdiv 840 a0))),()))
 else
 need (((Nat.beq ((y2.1.length/4)*4) y2.1.length)&&true)&&true)<|
 some (0,(y2.1,IntKind.i64.wrap (y2.2.1+(IntKind.i64.wrap (Int.tdiv 840 a0))),()))
 else
 need (((Nat.beq ((y2.1.length/4)*4) y2.1.length)&&true)&&true)<|
 some (1,(y2.1,y2.2.1,()))) fu (y1.1,0,())).bind fun p=>
 need (((Nat.beq ((p.2.1.length/4)*4) p.2.1.length)&&true)&&true)<|
 some (0,(p.2.1,IntKind.i64.wrap (y1.2.1+(IntKind.i64.wrap (Int.tdiv 840 a0))),()))
 else
 need (((Nat.beq ((y1.1.length/4)*4) y1.1.length)&&true)&&true)<|
 some (1,(y1.1,y1.2.1,()))) fu (y.1,0,())).bind fun p1=>
 need (((Nat.beq ((p1.2.1.length/4)*4) p1.2.1.length)&&true)&&true)<|
 some (0,(p1.2.1,IntKind.i64.wrap (y.2.1+1),()))
 else
 need (((Nat.beq ((y.1.length/4)*4) y.1.length)&&true)&&true)<|
 some (1,(y.1,y.2.1,()))) fu ([],0,())).bind fun p2=>
 need (Nat.ble (0+((p2.2.1.length/4)*4)) p2.2.1.length)<|
 some ⟨V.tup [V.c (C.sl (p2.2.1.length/4) (List.take ((p2.2.1.length/4)*4) p2.2.1)),I 0],[],none⟩):=by kernel_rfl
/- synoptic/synopticref03.at -/
theorem eq_synopticref03_at (fu d:Nat) (n0:Nat) (a0:List C) (a1:Int) (a2:Int) (a3:Int):
 cl fu (d+1) fn_synopticref03_at [V.c (C.sl n0 a0),I a1,I a2,I a3] []=(
 (cl fu d fn_synopticref02_Normal [V.agg ([C.v (.int .i64 a1),C.v (.int .i64 a2),C.v (.int .i64 a3),C.v (.int .i64 (IntKind.i64.wrap ((IntKind.i64.wrap (840-a2))-a3)))])] []).bind fun out=>
 rT out.r fun xs=>
 uncV xs fun x ys=>
 rA x fun cs=>
 need (Nat.beq cs.length 4)<|
 unc cs fun c r=>
 asI .i64 c fun i=>
 unc r fun c1 r1=>
 asI .i64 c1 fun i1=>
 unc r1 fun c2 r2=>
 asI .i64 c2 fun i2=>
 unc r2 fun c3 _=>
 asI .i64 c3 fun i3=>
 uncV ys fun x1 ys1=>
 rC x1 fun c4=>
 asI .i64 c4 fun i4=>
 nilV ys1<|
 (cl fu d fn_synopticref03_find [V.c (C.sl n0 a0),V.agg ([C.v (.int .i64 i),C.v (.int .i64 i1),C.v (.int .i64 i2),C.v (.int .i64 i3)])] []).bind fun out1=>
 rC out1.r fun c5=>
 asI .i64 c5 fun i5=>
 some ⟨I i5,[],none⟩):=by kernel_rfl
/- synoptic/synopticref03.Cells -/
theorem eq_synopticref03_Cells (fu d:Nat) (a0:Int):
 cl fu (d+1) fn_synopticref03_Cells [I a0] []=(
 (cl fu d fn_synopticref03_Nodes [I a0] []).bind fun out=>
 rT out.r fun xs=>
 uncV xs fun x ys=>
 rC x fun c=>
 uncV ys fun x1 ys1=>
 rC x1 fun c1=>
 asI .i64 c1 fun i=>
 nilV ys1<|
 bif i !=0 then
 some ⟨V.tup [V.c C.nl,I i],[],none⟩
 else
 need (!(a0==0))<|
 (iter (fun (y:List C×Int×Unit)=>
 bif decide (y.2.1<20) then
 need (((Nat.beq ((y.1.length/3)*3) y.1.length)&&true)&&true)<|
 (iter (fun (y1:List C×Int×Unit)=>
 bif decide (y1.2.1≤IntKind.i64.wrap (840-(IntKind.i64.wrap (Int.tdiv 840 a0)))) then
 need (((Nat.beq ((y1.1.length/3)*3) y1.1.length)&&true)&&true)<|
 (iter (fun (y2:List C×Int×Unit)=>
 bif decide (IntKind.i64.wrap (y1.2.1+y2.2.1)≤IntKind.i64.wrap (840-(IntKind.i64.wrap (Int.tdiv 840 a0)))) then
 need (noYl [V.c (nrm c)])<|
 (cl fu d fn_synopticref03_at [V.c (nrm c),I y.2.1,I (IntKind.i64.wrap (y1.2.1+(IntKind.i64.wrap (Int.tdiv 840 a0)))),I y2.2.1] []).bind fun out1=>
 rC out1.r fun c2=>
 asI .i64 c2 fun i1=>
 need (noYl [V.c (nrm c)])<|
 (cl fu d fn_synopticref03_at [V.c (nrm c),I y.2.1,I y1.2.1,I (IntKind.i64.wrap (y2.2.1+(IntKind.i64.wrap (Int.tdiv 840 a0))))] []).bind fun out2=>
 rC out2.r fun c3=>
 asI .i64 c3 fun i2=>
 need (noYl [V.c (nrm c)])<|
 (cl fu d fn_synopticref03_at [V.c (nrm c),I y.2.1,I y1.2.1,I y2.2.1] []).bind fun out3=>
 rC out3.r fun c4=>
 asI .i64 c4 fun i3=>
 (cl fu d fn_synopticref03_cell [I i1,I i2,I i3] []).bind fun out4=>
 rA out4.r fun cs=>
 need (Nat.beq cs.length 3)<|
 unc cs fun c5 r=>
 asI .i64 c5 fun i4=>
 unc r fun c6 r1=>
 asI .i64 c6 fun i5=>
 unc r1 fun c7 _=>
 asI .i64 c7 fun i6=>
 (cl fu d fn_synopticref03_insert [V.own 1000000 0 (y2.1.length/3),V.agg ([C.v (.int .i64 i4),C.v (.int .i64 i5),C.v (.int .i64 i6)])] [.sb ty_api_Cell 0 y2.1]).bind fun out5=>
 uncO out5.objs fun _ os=>
 rW out5.r 1 fun n=>
 uncO os fun o os1=>
 rS o ty_api_Cell 0 fun cs1=>
 need ((Nat.beq (n*3) cs1.length)&&true)<|
 bd (decide (IntKind.i64.wrap (y1.2.1+y2.2.1)≤IntKind.i64.wrap (840-(IntKind.i64.wrap (2*(IntKind.i64.wrap (Int.tdiv 840 a0))))))) fun z=>
 bif z then
 need (noYl [V.c (nrm c)])<|
 (cl fu d fn_synopticref03_at [V.c (nrm c),I y.2.1,I y1.2.1,I (IntKind.i64.wrap (y2.2.1+(IntKind.i64.wrap (Int.tdiv 840 a0))))] []).bind fun out6=>
 rC out6.r fun c8=>
 asI .i64 c8 fun i7=>
 need (noYl [V.c (nrm c)])<|
 (cl fu d fn_synopticref03_at [V.c (nrm c),I y.2.1,I (IntKind.i64.wrap (y1.2.1+(IntKind.i64.wrap (Int.tdiv 840 a0)))),I y2.2.1] []).bind fun out7=>
 rC out7.r fun c9=>
 asI .i64 c9 fun i8=>
 need (noYl [V.c (nrm c)])<|
 (cl fu d fn_synopticref03_at [V.c (nrm c),I y.2.1,I (IntKind.i64.wrap (y1.2.1+(IntKind.i64.wrap (Int.tdiv 840 a0)))),I (IntKind.i64.wrap (y2.2.1+(IntKind.i64.wrap (Int.tdiv 840 a0))))] []).bind fun out8=>
 rC out8.r fun c10=>
 asI .i64 c10 fun i9=>
 (cl fu d fn_synopticref03_cell [I i7,I i8,I i9] []).bind fun out9=>
 rA out9.r fun cs2=>
 need (Nat.beq cs2.length 3)<|
 unc cs2 fun c11 r3=>
 asI .i64 c11 fun i10=>
 unc r3 fun c12 r4=>
 asI .i64 c12 fun i11=>
 unc r4 fun c13 _=>
 asI .i64 c13 fun i12=>
 (cl fu d fn_synopticref03_insert [V.own 1000000 0 n,V.agg ([C.v (.int .i64 i10),C.v (.int .i64 i11),C.v (.int .i64 i12)])] [.sb ty_api_Cell 0 cs1]).bind fun out10=>
 uncO out10.objs fun _ os2=>
 rW out10.r 1 fun n1=>
 uncO os2 fun o1 os3=>
 rS o1 ty_api_Cell 0 fun cs3=>
 need ((Nat.beq (n1*3) cs3.length)&&true)<|
 need (((Nat.beq (n1*3) cs3.length)&&true)&&true)<|
 some (0,(cs3,IntKind.i64.wrap (y2.2.1+(IntKind.i64.wrap (Int.tdiv 840 a0))),()))
 else
 need (((Nat.beq (n*3) cs1.length)&&true)&&true)<|
 some (0,(cs1,IntKind.i64.wrap (y2.2.1+(IntKind.i64.wrap (Int.tdiv 840 a0))),()))
 else
 need (((Nat.beq ((y2.1.length/3)*3) y2.1.length)&&true)&&true)<|
 some (1,(y2.1,y2.2.1,()))) fu (y1.1,0,())).bind fun p=>
 need (((Nat.beq ((p.2.1.length/3)*3) p.2.1.length)&&true)&&true)<|
 some (0,(p.2.1,IntKind.i64.wrap (y1.2.1+(IntKind.i64.wrap (Int.tdiv 840 a0))),()))
 else
 need (((Nat.beq ((y1.1.length/3)*3) y1.1.length)&&true)&&true)<|
 some (1,(y1.1,y1.2.1,()))) fu (y.1,0,())).bind fun p1=>
 need (((Nat.beq ((p1.2.1.length/3)*3) p1.2.1.length)&&true)&&true)<|
 some (0,(p1.2.1,IntKind.i64.wrap (y.2.1+1),()))
 else
 need (((Nat.beq ((y.1.length/3)*3) y.1.length)&&true)&&true)<|
 some (1,(y.1,y.2.1,()))) fu ([],0,())).bind fun p2=>
 need (Nat.ble (0+((p2.2.1.length/3)*3)) p2.2.1.length)<|
 some ⟨V.tup [V.c (C.sl (p2.2.1.length/3) (List.take ((p2.2.1.length/3)*3) p2.2.1)),I 0],[],none⟩):=by kernel_rfl
/- synoptic/flux.Degrees -/
theorem eq_flux_Degrees (fu d:Nat) (a0:Int):
 cl fu (d+1) fn_flux_Degrees [I a0] []=(
 (cl fu d fn_flux_within [I a0,I 1,I 8] []).bind fun out=>
 rC out.r fun c=>
 asB c fun b=>
 bif !b then
 some ⟨V.tup [V.c C.nl,I 1],[],none⟩
 else
 (cl fu d fn_grid_Count [I a0] []).bind fun out1=>
 rC out1.r fun c1=>
 asI .i64 c1 fun i=>
 need (((((decide (0≤i))&&(decide (i≤i)))&&(decide ((8:Int)*i≤140737488355328)))&&(decide (i≤140737488355328)))&&true)<|
 (cl fu d fn_flux_edges [I a0] []).bind fun out2=>
 rC out2.r fun c2=>
 asFn c2 fun f cs=>
 (prim.iter d f cs).bind fun xs=>
 need (((Nat.beq (i.toNat*1) ((reps i.toNat ([C.v (.int .i64 0)])).length))&&true)&&true)<|
 (overK (fun it (y:(List C×Unit)×Unit)=>
 uncV it fun x r=>
 rC x fun c3=>
 asI .i64 c3 fun i1=>
 uncV r fun x1 r1=>
 rA x1 fun cs1=>
 need (Nat.beq cs1.length 2)<|
 unc cs1 fun c4 r2=>
 asI .i64 c4 fun i2=>
 unc r2 fun c5 _=>
 asI .i64 c5 fun i3=>
 nilV r1<|
 need (inR i2 (y.1.1.length/1))<|
 unc (List.drop (0+(i2.toNat*1)) y.1.1) fun c6 _=>
 asI .i64 c6 fun i4=>
 need (inR i2 (y.1.1.length/1))<|
 need (((Nat.ble 0 (0+(i2.toNat*1)))&&(Nat.ble ((0+(i2.toNat*1))+1) y.1.1.length))&&true)<|
 need (inR i3 (y.1.1.length/1))<|
 unc (List.drop (0+(i3.toNat*1)) (putAt y.1.1 (0+(i2.toNat*1)) ([C.v (.int .i64 (IntKind.i64.wrap (i4+1)))]))) fun c7 _=>
 asI .i64 c7 fun i5=>
 need (inR i3 (y.1.1.length/1))<|
 need (((Nat.ble 0 (0+(i3.toNat*1)))&&(Nat.ble ((0+(i3.toNat*1))+1) ((putAt y.1.1 (0+(i2.toNat*1)) ([C.v (.int .i64 (IntKind.i64.wrap (i4+1)))])).length)))&&true)<|
 bd (putAt (putAt y.1.1 (0+(i2.toNat*1)) ([C.v (.int .i64 (IntKind.i64.wrap (i4+1)))])) (0+(i3.toNat*1)) ([C.v (.int .i64 (IntKind.i64.wrap (i5+1)))])) fun cs2=>
 need (((Nat.beq ((y.1.1.length/1)*1) cs2.length)&&true)&&true)<|
 some (0,((cs2,()),()))) xs ((reps i.toNat ([C.v (.int .i64 0)]),()),())).bind fun p=>
 need (Nat.ble (0+((p.2.1.1.length/1)*1)) p.2.1.1.length)<|
 some ⟨V.tup [V.c (C.sl (p.2.1.1.length/1) (List.take ((p.2.1.1.length/1)*1) p.2.1.1)),I 0],[],none⟩):=by kernel_rfl
/- synoptic/flux.edges -/
theorem eq_flux_edges (fu d:Nat) (a0:Int):
 cl fu (d+1) fn_flux_edges [I a0] []=(
 some ⟨V.c (C.fn fn_flux_edges_1 ([C.cp ([C.v (.int .i64 a0)])])),[],none⟩):=by kernel_rfl
/- math/bits.Mul64 -/
theorem eq_bits_Mul64 (fu d:Nat) (a0:Int) (a1:Int):
 cl fu (d+1) fn_bits_Mul64 [V.c (C.v (.int .u64 a0)),V.c (C.v (.int .u64 a1))] []=(
 bd (IntKind.u64.wrap ((IntKind.u64.wrap (BitVec.ofInt (IntKind.bits .u64) a0&&&BitVec.ofInt (IntKind.bits .u64) 4294967295).toNat)*(IntKind.u64.wrap (BitVec.ofInt (IntKind.bits .u64) a1&&&BitVec.ofInt (IntKind.bits .u64) 4294967295).toNat))) fun z=>
 bd (IntKind.u64.wrap ((Int.fdiv a0 (2^32))*(IntKind.u64.wrap (BitVec.ofInt (IntKind.bits .u64) a1&&&BitVec.ofInt (IntKind.bits .u64) 4294967295).toNat))) fun z1=>
 bd (IntKind.u64.wrap (BitVec.ofInt (IntKind.bits .u64) (IntKind.u64.wrap (z1+(Int.fdiv z (2^32))))&&&BitVec.ofInt (IntKind.bits .u64) 4294967295).toNat) fun z2=>
 bd (IntKind.u64.wrap ((IntKind.u64.wrap (BitVec.ofInt (IntKind.bits .u64) a0&&&BitVec.ofInt (IntKind.bits .u64) 4294967295).toNat)*(Int.fdiv a1 (2^32)))) fun z3=>
 bd (IntKind.u64.wrap ((IntKind.u64.wrap ((Int.fdiv a0 (2^32))*(Int.fdiv a1 (2^32))))+(Int.fdiv (IntKind.u64.wrap (z1+(Int.fdiv z (2^32)))) (2^32)))) fun z4=>
 some ⟨V.tup [V.c (C.v (.int .u64 (IntKind.u64.wrap (z4+(Int.fdiv (IntKind.u64.wrap (z2+z3)) (2^32)))))),V.c (C.v (.int .u64 (IntKind.u64.wrap (a0*a1))))],[],none⟩):=by kernel_rfl
/- slices.IndexFunc[[]int,int] -/
theorem eq2_slices_IndexFunc_sint_int (fu d:Nat) (n0:Nat) (a0:List C) (k1:Nat) (a1_0:C) (a1_1:C):
 cl fu (d+1) fn_slices_IndexFunc_sint_int [V.c (C.sl n0 a0),V.c (C.fn k1 ([a1_0,a1_1]))] []=(
 (iter (fun (y:Int×Int×Unit)=>
 bif decide (y.2.1<((n0:Nat):Int)) then
 need (inR y.2.1 n0)<|
 unc (List.drop (y.2.1.toNat*1) a0) fun c r=>
 asI .i64 c fun i=>
 (cl fu d k1 [I i,V.c a1_0,V.c a1_1] []).bind fun out=>
 rC out.r fun c1=>
 asB c1 fun b=>
 bif b then
 some (2,(y.2.1,y.2.1,()))
 else
 some (0,(y.1,IntKind.i64.wrap (y.2.1+1),()))
 else
 some (1,(y.1,y.2.1,()))) fu (0,0,())).bind fun p=>
 natD p.1 (
 some ⟨I (-1),[],none⟩) fun m=>
 some ⟨I p.2.1,[],none⟩):=by kernel_rfl
/- synoptic/place.Normal -/
theorem eq_place_Normal (fu d:Nat) (a0_0:Int) (a0_1:Int) (a0_2:Int) (a0_3:Int):
 cl fu (d+1) fn_place_Normal [V.agg ([C.v (.int .i64 a0_0),C.v (.int .i64 a0_1),C.v (.int .i64 a0_2),C.v (.int .i64 a0_3)])] []=(
 (cl fu d fn_place_Valid [V.agg ([C.v (.int .i64 a0_0),C.v (.int .i64 a0_1),C.v (.int .i64 a0_2),C.v (.int .i64 a0_3)])] []).bind fun out=>
 rC out.r fun c=>
 asB c fun b=>
 bif !b then
 some ⟨V.tup [V.agg ([C.v (.int .i64 0),C.v (.int .i64 0),C.v (.int .i64 0),C.v (.int .i64 0)]),I 1],[],none⟩
 else
 (cl fu d fn_place_of [V.agg ([C.v (.int .i64 a0_0),C.v (.int .i64 a0_1),C.v (.int .i64 a0_2),C.v (.int .i64 a0_3)])] []).bind fun out1=>
 rA out1.r fun cs=>
 need ((((Nat.beq cs.length 12)&&true)&&(Nat.ble (0+cs.length) 12))&&true)<|
 bd (putAt ([C.v (.int .i64 0),C.v (.int .i64 0),C.v (.int .i64 0),C.v (.int .i64 0),C.v (.int .i64 0),C.v (.int .i64 0),C.v (.int .i64 0),C.v (.int .i64 0),C.v (.int .i64 0),C.v (.int .i64 0),C.v (.int .i64 0),C.v (.int .i64 0)]) 0 cs) fun cs1=>
 (iter (fun (y:Int×Int×(Int×Int×Int×Int×Unit)×Unit)=>
 bif decide (y.2.1<20) then
 need (Nat.ble 12 cs1.length)<|
 (cl fu d fn_place_on [I y.2.1,V.agg (List.take 12 cs1)] []).bind fun out2=>
 rT out2.r fun xs=>
 uncV xs fun x ys=>
 rA x fun cs2=>
 need (Nat.beq cs2.length 4)<|
 unc cs2 fun c1 r=>
 asI .i64 c1 fun i=>
 unc r fun c2 r1=>
 asI .i64 c2 fun i1=>
 unc r1 fun c3 r2=>
 asI .i64 c3 fun i2=>
 unc r2 fun c4 _=>
 asI .i64 c4 fun i3=>
 uncV ys fun x1 ys1=>
 rC x1 fun c5=>
 asB c5 fun b1=>
 nilV ys1<|
 bif b1 then
 some (2,(0,y.2.1,(i,i1,i2,i3,()),()))
 else
 some (0,(y.1,IntKind.i64.wrap (y.2.1+1),(y.2.2.1.1,y.2.2.1.2.1,y.2.2.1.2.2.1,y.2.2.1.2.2.2.1,()),()))
 else
 some (1,(y.1,y.2.1,(y.2.2.1.1,y.2.2.1.2.1,y.2.2.1.2.2.1,y.2.2.1.2.2.2.1,()),()))) fu (0,0,(0,0,0,0,()),())).bind fun p=>
 natD p.1 (
 some ⟨V.tup [V.agg ([C.v (.int .i64 a0_0),C.v (.int .i64 a0_1),C.v (.int .i64 a0_2),C.v (.int .i64 a0_3)]),I 0],[],none⟩) fun m=>
 some ⟨V.tup [V.agg ([C.v (.int .i64 p.2.2.2.1.1),C.v (.int .i64 p.2.2.2.1.2.1),C.v (.int .i64 p.2.2.2.1.2.2.1),C.v (.int .i64 p.2.2.2.1.2.2.2.1)]),I p.2.1],[],none⟩):=by kernel_rfl
/- (*synoptic/mesh.Net).cell -/
theorem eqp_mesh_Net_cell (fu d:Nat) (a0_0:Int) (a0_1:Int) (a0_2:C) (a0_3:List (List C×List C)) (a0_4:List C) (a0_5:C) (a0_6:C) (g0:Nat) (a1:List C):
 cl fu (d+1) fn_mesh_Net_cell [V.ptr 1000000 0,V.agg a1] [.pk g0 ty_mesh_Net (.ps [PC.c (C.v (.int .i64 a0_0)),PC.c (C.v (.int .i64 a0_1)),PC.c a0_2,PC.c (C.mp ty_api_Place ty_int (some 4) none a0_3),PC.r ty_api_Cell a0_4,PC.c a0_5,PC.c a0_6]) none]=(
 need (Nat.ble 12 a1.length)<|
 (iter (fun (y:Int×List C×(Int×Int×C×C×List C×C×C×Unit)×Unit)=>
 bif decide (y.1<3) then
 need (inR y.1 3)<|
 unc (List.drop (y.1.toNat*4) (List.take 12 a1)) fun c r=>
 asI .i64 c fun i=>
 unc r fun c1 r1=>
 asI .i64 c1 fun i1=>
 unc r1 fun c2 r2=>
 asI .i64 c2 fun i2=>
 unc r2 fun c3 _=>
 asI .i64 c3 fun i3=>
 (cl fu d fn_mesh_Net_at [V.ptr 1000000 0,V.agg ([C.v (.int .i64 i),C.v (.int .i64 i1),C.v (.int .i64 i2),C.v (.int .i64 i3)])] [.pk 0 ty_mesh_Net (.ps [PC.c (C.v (.int .i64 y.2.2.1.1)),PC.c (C.v (.int .i64 y.2.2.1.2.1)),PC.c y.2.2.1.2.2.1,PC.c y.2.2.1.2.2.2.1,PC.r ty_api_Cell y.2.2.1.2.2.2.2.1,PC.c y.2.2.1.2.2.2.2.2.1,PC.c y.2.2.1.2.2.2.2.2.2.1]) none]).bind fun out=>
 uncO out.objs fun o os=>
 rPk o ty_mesh_Net fun ps=>
 uncP ps fun p ps1=>
 asPc p fun c4=>
 asI .i64 c4 fun i4=>
 uncP ps1 fun p1 ps2=>
 asPc p1 fun c5=>
 asI .i64 c5 fun i5=>
 uncP ps2 fun p2 ps3=>
 asPc p2 fun c6=>
 uncP ps3 fun p3 ps4=>
 asPc p3 fun c7=>
 uncP ps4 fun p4 ps5=>
 asRw ty_api_Cell p4 fun cs=>
 uncP ps5 fun p5 ps6=>
 asPc p5 fun c8=>
 uncP ps6 fun p6 ps7=>
 asPc p6 fun c9=>
 nilP ps7<|
 rC out.r fun c10=>
 asI .i64 c10 fun i6=>
 need (inR y.1 3)<|
 need (((Nat.ble 0 (0+(y.1.toNat*1)))&&(Nat.ble ((0+(y.1.toNat*1))+1) y.2.1.length))&&true)<|
 some (0,(IntKind.i64.wrap (y.1+1),putAt y.2.1 (0+(y.1.toNat*1)) ([C.v (.int .i64 i6)]),(i4,i5,c6,c7,cs,c8,c9,()),()))
 else
 some (1,(y.1,y.2.1,(y.2.2.1.1,y.2.2.1.2.1,y.2.2.1.2.2.1,y.2.2.1.2.2.2.1,y.2.2.1.2.2.2.2.1,y.2.2.1.2.2.2.2.2.1,y.2.2.1.2.2.2.2.2.2.1,()),()))) fu (0,[C.v (.int .i64 0),C.v (.int .i64 0),C.v (.int .i64 0)],(a0_0,a0_1,a0_2,C.mp ty_api_Place ty_int (some 4) none a0_3,a0_4,a0_5,a0_6,()),())).bind fun p7=>
 need ((((Nat.beq 3 p7.2.2.1.length)&&true)&&true)&&true)<|
 (cl fu d fn_slices_Sort_sint_int [V.ws 1000000 3] [.ob ty_3_int 0 p7.2.2.1]).bind fun out1=>
 uncO out1.objs fun o1 os1=>
 rO o1 ty_3_int 0 fun cs1=>
 need (Nat.beq cs1.length p7.2.2.1.length)<|
 unc cs1 fun c11 _=>
 asI .i64 c11 fun i7=>
 unc (List.drop 1 cs1) fun c12 _=>
 asI .i64 c12 fun i8=>
 unc (List.drop 2 cs1) fun c13 _=>
 asI .i64 c13 fun i9=>
 need ((((Nat.beq ((p7.2.2.2.1.2.2.2.2.1.length/3)*3) p7.2.2.2.1.2.2.2.2.1.length)&&true)&&(Nat.ble (((p7.2.2.2.1.2.2.2.2.1.length/3)+1)*24) 140737488355328))&&(Nat.ble ((p7.2.2.2.1.2.2.2.2.1.length/3)+1) 140737488355328))<|
 need (Nat.beq (((p7.2.2.2.1.2.2.2.2.1.length/3)+1)*3) ((p7.2.2.2.1.2.2.2.2.1++([C.v (.int .i64 i7),C.v (.int .i64 i8),C.v (.int .i64 i9)])).length))<|
 some ⟨V.tup [],[.pk 1 ty_mesh_Net (.ps [PC.c (C.v (.int .i64 p7.2.2.2.1.1)),PC.c (C.v (.int .i64 p7.2.2.2.1.2.1)),PC.c p7.2.2.2.1.2.2.1,PC.c p7.2.2.2.1.2.2.2.1,PC.r ty_api_Cell (p7.2.2.2.1.2.2.2.2.1++([C.v (.int .i64 i7),C.v (.int .i64 i8),C.v (.int .i64 i9)])),PC.c p7.2.2.2.1.2.2.2.2.2.1,PC.c p7.2.2.2.1.2.2.2.2.2.2.1]) none],none⟩):=by kernel_rfl
/- (*synoptic/mesh.Net).upward -/
theorem eqp_mesh_Net_upward (fu d:Nat) (a0_0:Int) (a0_1:Int) (a0_2:C) (a0_3:List (List C×List C)) (a0_4:List C) (a0_5:C) (a0_6:C) (g0:Nat) (a1_0:Int) (a1_1:Int) (a1_2:Int) (a1_3:Int):
 cl fu (d+1) fn_mesh_Net_upward [V.ptr 1000000 0,V.agg ([C.v (.int .i64 a1_0),C.v (.int .i64 a1_1),C.v (.int .i64 a1_2),C.v (.int .i64 a1_3)])] [.pk g0 ty_mesh_Net (.ps [PC.c (C.v (.int .i64 a0_0)),PC.c (C.v (.int .i64 a0_1)),PC.c a0_2,PC.c (C.mp ty_api_Place ty_int (some 4) none a0_3),PC.r ty_api_Cell a0_4,PC.c a0_5,PC.c a0_6]) none]=(
 (cl fu d fn_mesh_moved [V.agg ([C.v (.int .i64 a1_0),C.v (.int .i64 a1_1),C.v (.int .i64 a1_2),C.v (.int .i64 a1_3)]),I a0_1,I 0,I 0] []).bind fun out=>
 rA out.r fun cs=>
 need (Nat.beq cs.length 4)<|
 unc cs fun c r=>
 asI .i64 c fun i=>
 unc r fun c1 r1=>
 asI .i64 c1 fun i1=>
 unc r1 fun c2 r2=>
 asI .i64 c2 fun i2=>
 unc r2 fun c3 _=>
 asI .i64 c3 fun i3=>
 (cl fu d fn_mesh_moved [V.agg ([C.v (.int .i64 a1_0),C.v (.int .i64 a1_1),C.v (.int .i64 a1_2),C.v (.int .i64 a1_3)]),I 0,I a0_1,I 0] []).bind fun out1=>
 rA out1.r fun cs1=>
 need (Nat.beq cs1.length 4)<|
 unc cs1 fun c4 r4=>
 asI .i64 c4 fun i4=>
 unc r4 fun c5 r5=>
 asI .i64 c5 fun i5=>
 unc r5 fun c6 r6=>
 asI .i64 c6 fun i6=>
 unc r6 fun c7 _=>
 asI .i64 c7 fun i7=>
 (cl fu d fn_mesh_moved [V.agg ([C.v (.int .i64 a1_0),C.v (.int .i64 a1_1),C.v (.int .i64 a1_2),C.v (.int .i64 a1_3)]),I 0,I 0,I a0_1] []).bind fun out2=>
 rA out2.r fun cs2=>
 need (Nat.beq cs2.length 4)<|
 unc cs2 fun c8 r8=>
 asI .i64 c8 fun i8=>
 unc r8 fun c9 r9=>
 asI .i64 c9 fun i9=>
 unc r9 fun c10 r10=>
 asI .i64 c10 fun i10=>
 unc r10 fun c11 _=>
 asI .i64 c11 fun i11=>
 some ⟨V.agg ([C.v (.int .i64 i),C.v (.int .i64 i1),C.v (.int .i64 i2),C.v (.int .i64 i3),C.v (.int .i64 i4),C.v (.int .i64 i5),C.v (.int .i64 i6),C.v (.int .i64 i7),C.v (.int .i64 i8),C.v (.int .i64 i9),C.v (.int .i64 i10),C.v (.int .i64 i11)]),[.pk g0 ty_mesh_Net (.ps [PC.c (C.v (.int .i64 a0_0)),PC.c (C.v (.int .i64 a0_1)),PC.c a0_2,PC.c (C.mp ty_api_Place ty_int (some 4) none a0_3),PC.r ty_api_Cell a0_4,PC.c a0_5,PC.c a0_6]) none],none⟩):=by kernel_rfl
/- (*synoptic/mesh.Net).downward -/
theorem eqp_mesh_Net_downward (fu d:Nat) (a0_0:Int) (a0_1:Int) (a0_2:C) (a0_3:List (List C×List C)) (a0_4:List C) (a0_5:C) (a0_6:C) (g0:Nat) (a1_0:Int) (a1_1:Int) (a1_2:Int) (a1_3:Int):
 cl fu (d+1) fn_mesh_Net_downward [V.ptr 1000000 0,V.agg ([C.v (.int .i64 a1_0),C.v (.int .i64 a1_1),C.v (.int .i64 a1_2),C.v (.int .i64 a1_3)])] [.pk g0 ty_mesh_Net (.ps [PC.c (C.v (.int .i64 a0_0)),PC.c (C.v (.int .i64 a0_1)),PC.c a0_2,PC.c (C.mp ty_api_Place ty_int (some 4) none a0_3),PC.r ty_api_Cell a0_4,PC.c a0_5,PC.c a0_6]) none]=(
 (cl fu d fn_mesh_moved [V.agg ([C.v (.int .i64 a1_0),C.v (.int .i64 a1_1),C.v (.int .i64 a1_2),C.v (.int .i64 a1_3)]),I 0,I a0_1,I a0_1] []).bind fun out=>
 rA out.r fun cs=>
 need (Nat.beq cs.length 4)<|
 unc cs fun c r=>
 asI .i64 c fun i=>
 unc r fun c1 r1=>
 asI .i64 c1 fun i1=>
 unc r1 fun c2 r2=>
 asI .i64 c2 fun i2=>
 unc r2 fun c3 _=>
 asI .i64 c3 fun i3=>
 (cl fu d fn_mesh_moved [V.agg ([C.v (.int .i64 a1_0),C.v (.int .i64 a1_1),C.v (.int .i64 a1_2),C.v (.int .i64 a1_3)]),I a0_1,I 0,I a0_1] []).bind fun out1=>
 rA out1.r fun cs1=>
 need (Nat.beq cs1.length 4)<|
 unc cs1 fun c4 r4=>
 asI .i64 c4 fun i4=>
 unc r4 fun c5 r5=>
 asI .i64 c5 fun i5=>
 unc r5 fun c6 r6=>
 asI .i64 c6 fun i6=>
 unc r6 fun c7 _=>
 asI .i64 c7 fun i7=>
 (cl fu d fn_mesh_moved [V.agg ([C.v (.int .i64 a1_0),C.v (.int .i64 a1_1),C.v (.int .i64 a1_2),C.v (.int .i64 a1_3)]),I a0_1,I a0_1,I 0] []).bind fun out2=>
 rA out2.r fun cs2=>
 need (Nat.beq cs2.length 4)<|
 unc cs2 fun c8 r8=>
 asI .i64 c8 fun i8=>
 unc r8 fun c9 r9=>
 asI .i64 c9 fun i9=>
 unc r9 fun c10 r10=>
 asI .i64 c10 fun i10=>
 unc r10 fun c11 _=>
 asI .i64 c11 fun i11=>
 some ⟨V.agg ([C.v (.int .i64 i),C.v (.int .i64 i1),C.v (.int .i64 i2),C.v (.int .i64 i3),C.v (.int .i64 i4),C.v (.int .i64 i5),C.v (.int .i64 i6),C.v (.int .i64 i7),C.v (.int .i64 i8),C.v (.int .i64 i9),C.v (.int .i64 i10),C.v (.int .i64 i11)]),[.pk g0 ty_mesh_Net (.ps [PC.c (C.v (.int .i64 a0_0)),PC.c (C.v (.int .i64 a0_1)),PC.c a0_2,PC.c (C.mp ty_api_Place ty_int (some 4) none a0_3),PC.r ty_api_Cell a0_4,PC.c a0_5,PC.c a0_6]) none],none⟩):=by kernel_rfl
/- synoptic/mesh.moved -/
theorem eq_mesh_moved (fu d:Nat) (a0_0:Int) (a0_1:Int) (a0_2:Int) (a0_3:Int) (a1:Int) (a2:Int) (a3:Int):
 cl fu (d+1) fn_mesh_moved [V.agg ([C.v (.int .i64 a0_0),C.v (.int .i64 a0_1),C.v (.int .i64 a0_2),C.v (.int .i64 a0_3)]),I a1,I a2,I a3] []=(
 some ⟨V.agg ([C.v (.int .i64 a0_0),C.v (.int .i64 (IntKind.i64.wrap (a0_1+a1))),C.v (.int .i64 (IntKind.i64.wrap (a0_2+a2))),C.v (.int .i64 (IntKind.i64.wrap (a0_3+a3)))]),[],none⟩):=by kernel_rfl
/- synoptic/synopticref02.IsNormal -/
theorem eq_synopticref02_IsNormal (fu d:Nat) (a0_0:Int) (a0_1:Int) (a0_2:Int) (a0_3:Int):
 cl fu (d+1) fn_synopticref02_IsNormal [V.agg ([C.v (.int .i64 a0_0),C.v (.int .i64 a0_1),C.v (.int .i64 a0_2),C.v (.int .i64 a0_3)])] []=(
 (cl fu d fn_synopticref02_Normal [V.agg ([C.v (.int .i64 a0_0),C.v (.int .i64 a0_1),C.v (.int .i64 a0_2),C.v (.int .i64 a0_3)])] []).bind fun out=>
 rT out.r fun xs=>
 uncV xs fun x ys=>
 rA x fun cs=>
 need (Nat.beq cs.length 4)<|
 unc cs fun c r=>
 asI .i64 c fun i=>
 unc r fun c1 r1=>
 asI .i64 c1 fun i1=>
 unc r1 fun c2 r2=>
 asI .i64 c2 fun i2=>
 unc r2 fun c3 _=>
 asI .i64 c3 fun i3=>
 uncV ys fun x1 ys1=>
 rC x1 fun c4=>
 asI .i64 c4 fun i4=>
 nilV ys1<|
 bif i4==0 then
 some ⟨B ((a0_0==i)&&((a0_1==i1)&&((a0_2==i2)&&((a0_3==i3)&&true)))),[],none⟩
 else
 some ⟨B false,[],none⟩):=by kernel_rfl
/- synoptic/synopticref02.Normal -/
theorem eq_synopticref02_Normal (fu d:Nat) (a0_0:Int) (a0_1:Int) (a0_2:Int) (a0_3:Int):
 cl fu (d+1) fn_synopticref02_Normal [V.agg ([C.v (.int .i64 a0_0),C.v (.int .i64 a0_1),C.v (.int .i64 a0_2),C.v (.int .i64 a0_3)])] []=(
 (cl fu d fn_synopticref02_Addresses [V.agg ([C.v (.int .i64 a0_0),C.v (.int .i64 a0_1),C.v (.int .i64 a0_2),C.v (.int .i64 a0_3)])] []).bind fun out=>
 rT out.r fun xs=>
 uncV xs fun x ys=>
 rC x fun c=>
 uncV ys fun x1 ys1=>
 rC x1 fun c1=>
 asI .i64 c1 fun i=>
 nilV ys1<|
 bif i !=0 then
 some ⟨V.tup [V.agg ([C.v (.int .i64 0),C.v (.int .i64 0),C.v (.int .i64 0),C.v (.int .i64 0)]),I i],[],none⟩
 else
 asSl c fun n cs=>
 need (inR 0 n)<|
 unc cs fun c2 r=>
 asI .i64 c2 fun i1=>
 unc r fun c3 r1=>
 asI .i64 c3 fun i2=>
 unc r1 fun c4 r2=>
 asI .i64 c4 fun i3=>
 unc r2 fun c5 _=>
 asI .i64 c5 fun i4=>
 some ⟨V.tup [V.agg ([C.v (.int .i64 i1),C.v (.int .i64 i2),C.v (.int .i64 i3),C.v (.int .i64 i4)]),I 0],[],none⟩):=by kernel_rfl
/- synoptic/synopticref03.find -/
theorem eq_synopticref03_find (fu d:Nat) (n0:Nat) (a0:List C) (a1_0:Int) (a1_1:Int) (a1_2:Int) (a1_3:Int):
 cl fu (d+1) fn_synopticref03_find [V.c (C.sl n0 a0),V.agg ([C.v (.int .i64 a1_0),C.v (.int .i64 a1_1),C.v (.int .i64 a1_2),C.v (.int .i64 a1_3)])] []=(
 (iter (fun (y:Int×Int×Unit)=>
 bif decide (y.1<y.2.1) then
 need (inR (IntKind.i64.wrap (Int.tdiv (IntKind.i64.wrap (y.1+y.2.1)) 2)) n0)<|
 unc (List.drop (((IntKind.i64.wrap (Int.tdiv (IntKind.i64.wrap (y.1+y.2.1)) 2)).toNat)*4) a0) fun c r=>
 asI .i64 c fun i=>
 unc r fun c1 r1=>
 asI .i64 c1 fun i1=>
 unc r1 fun c2 r2=>
 asI .i64 c2 fun i2=>
 unc r2 fun c3 _=>
 asI .i64 c3 fun i3=>
 (cl fu d fn_synopticref03_less [V.agg ([C.v (.int .i64 i),C.v (.int .i64 i1),C.v (.int .i64 i2),C.v (.int .i64 i3)]),V.agg ([C.v (.int .i64 a1_0),C.v (.int .i64 a1_1),C.v (.int .i64 a1_2),C.v (.int .i64 a1_3)])] []).bind fun out=>
 rC out.r fun c4=>
 asB c4 fun b=>
 bif b then
 some (0,(IntKind.i64.wrap ((IntKind.i64.wrap (Int.tdiv (IntKind.i64.wrap (y.1+y.2.1)) 2))+1),y.2.1,()))
 else
 some (0,(y.1,IntKind.i64.wrap (Int.tdiv (IntKind.i64.wrap (y.1+y.2.1)) 2),()))
 else
 some (1,(y.1,y.2.1,()))) fu (0,((n0:Nat):Int),())).bind fun p=>
 bif decide (p.2.1<((n0:Nat):Int)) then
 need (inR p.2.1 n0)<|
 unc (List.drop (p.2.1.toNat*4) a0) fun c5 r4=>
 asI .i64 c5 fun i4=>
 unc r4 fun c6 r5=>
 asI .i64 c6 fun i5=>
 unc r5 fun c7 r6=>
 asI .i64 c7 fun i6=>
 unc r6 fun c8 _=>
 asI .i64 c8 fun i7=>
 bif (i4==a1_0)&&((i5==a1_1)&&((i6==a1_2)&&((i7==a1_3)&&true))) then
 some ⟨I p.2.1,[],none⟩
 else
 some ⟨I (-1),[],none⟩
 else
 some ⟨I (-1),[],none⟩):=by kernel_rfl
/- synoptic/synopticref03.insert -/
theorem eq_synopticref03_insert (fu d:Nat) (n0:Nat) (a0:List C) (a1_0:Int) (a1_1:Int) (a1_2:Int):
 cl fu (d+1) fn_synopticref03_insert [V.own 1000000 0 n0,V.agg ([C.v (.int .i64 a1_0),C.v (.int .i64 a1_1),C.v (.int .i64 a1_2)])] [.sb ty_api_Cell 0 a0]=(
 (iter (fun (y:(Nat×List C)×Int×Unit)=>
 bif decide (y.2.1>0) then
 need (inR (IntKind.i64.wrap (y.2.1-1)) y.1.1)<|
 unc (List.drop (0+(((IntKind.i64.wrap (y.2.1-1)).toNat)*3)) y.1.2) fun c _=>
 asI .i64 c fun i=>
 bif decide (a1_0<i) then
 some (0,((y.1.1,y.1.2),IntKind.i64.wrap (y.2.1-1),()))
 else
 need (inR (IntKind.i64.wrap (y.2.1-1)) y.1.1)<|
 unc (List.drop (0+(((IntKind.i64.wrap (y.2.1-1)).toNat)*3)) y.1.2) fun c1 _=>
 asI .i64 c1 fun i1=>
 bif a1_0==i1 then
 need (inR (IntKind.i64.wrap (y.2.1-1)) y.1.1)<|
 unc (List.drop ((0+(((IntKind.i64.wrap (y.2.1-1)).toNat)*3))+1) y.1.2) fun c2 _=>
 asI .i64 c2 fun i2=>
 bif decide (a1_1<i2) then
 some (0,((y.1.1,y.1.2),IntKind.i64.wrap (y.2.1-1),()))
 else
 need (inR (IntKind.i64.wrap (y.2.1-1)) y.1.1)<|
 unc (List.drop ((0+(((IntKind.i64.wrap (y.2.1-1)).toNat)*3))+1) y.1.2) fun c3 _=>
 asI .i64 c3 fun i3=>
 bif a1_1==i3 then
 need (inR (IntKind.i64.wrap (y.2.1-1)) y.1.1)<|
 unc (List.drop ((0+(((IntKind.i64.wrap (y.2.1-1)).toNat)*3))+2) y.1.2) fun c4 _=>
 asI .i64 c4 fun i4=>
 bif decide (a1_2<i4) then
 some (0,((y.1.1,y.1.2),IntKind.i64.wrap (y.2.1-1),()))
 else
 some (1,((y.1.1,y.1.2),y.2.1,()))
 else
 some (1,((y.1.1,y.1.2),y.2.1,()))
 else
 some (1,((y.1.1,y.1.2),y.2.1,()))
 else
 some (1,((y.1.1,y.1.2),y.2.1,()))) fu ((n0,a0),((n0:Nat):Int),())).bind fun p=>
 need ((((Nat.beq (p.2.1.1*3) p.2.1.2.length)&&true)&&(Nat.ble ((p.2.1.1+1)*24) 140737488355328))&&(Nat.ble (p.2.1.1+1) 140737488355328))<|
 need ((decide (0≤IntKind.i64.wrap (p.2.2.1+1)))&&(decide (IntKind.i64.wrap (p.2.2.1+1)≤((p.2.1.1+1:Nat):Int))))<|
 need ((decide (0≤p.2.2.1))&&(decide (p.2.2.1≤((p.2.1.1+1:Nat):Int))))<|
 natD (Nat.min ((p.2.1.1+1)-p.2.2.1.toNat) ((p.2.1.1+1)-((IntKind.i64.wrap (p.2.2.1+1)).toNat))) (
 need (inR p.2.2.1 (p.2.1.1+1))<|
 need (((Nat.ble 0 (0+(p.2.2.1.toNat*3)))&&(Nat.ble ((0+(p.2.2.1.toNat*3))+3) ((p.2.1.2++([C.v (.int .i64 0),C.v (.int .i64 0),C.v (.int .i64 0)])).length)))&&true)<|
 bd (putAt (p.2.1.2++([C.v (.int .i64 0),C.v (.int .i64 0),C.v (.int .i64 0)])) (0+(p.2.2.1.toNat*3)) ([C.v (.int .i64 a1_0),C.v (.int .i64 a1_1),C.v (.int .i64 a1_2)])) fun cs=>
 need (((Nat.ble ((p.2.1.1+1)*3) cs.length)&&true)&&true)<|
 some ⟨V.own 1000001 0 (p.2.1.1+1),[.dead, .sb ty_api_Cell 0 (List.take ((p.2.1.1+1)*3) cs)],none⟩) fun q=>
 need ((((Nat.ble 0 (0+(((IntKind.i64.wrap (p.2.2.1+1)).toNat)*3)))&&(Nat.ble ((0+(((IntKind.i64.wrap (p.2.2.1+1)).toNat)*3))+((q+1)*3)) ((p.2.1.2++([C.v (.int .i64 0),C.v (.int .i64 0),C.v (.int .i64 0)])).length)))&&(Nat.ble ((0+(p.2.2.1.toNat*3))+((q+1)*3)) ((p.2.1.2++([C.v (.int .i64 0),C.v (.int .i64 0),C.v (.int .i64 0)])).length)))&&true)<|
 bd (putAt (p.2.1.2++([C.v (.int .i64 0),C.v (.int .i64 0),C.v (.int .i64 0)])) (0+(((IntKind.i64.wrap (p.2.2.1+1)).toNat)*3)) (List.take ((q+1)*3) (List.drop (0+(p.2.2.1.toNat*3)) (p.2.1.2++([C.v (.int .i64 0),C.v (.int .i64 0),C.v (.int .i64 0)]))))) fun cs1=>
 need (inR p.2.2.1 (p.2.1.1+1))<|
 need (((Nat.ble 0 (0+(p.2.2.1.toNat*3)))&&(Nat.ble ((0+(p.2.2.1.toNat*3))+3) cs1.length))&&true)<|
 need (((Nat.ble ((p.2.1.1+1)*3) ((putAt cs1 (0+(p.2.2.1.toNat*3)) ([C.v (.int .i64 a1_0),C.v (.int .i64 a1_1),C.v (.int .i64 a1_2)])).length))&&true)&&true)<|
 some ⟨V.own 1000001 0 (p.2.1.1+1),[.dead, .sb ty_api_Cell 0 (List.take ((p.2.1.1+1)*3) (putAt cs1 (0+(p.2.2.1.toNat*3)) ([C.v (.int .i64 a1_0),C.v (.int .i64 a1_1),C.v (.int .i64 a1_2)])))],none⟩):=by kernel_rfl
/- synoptic/synopticref03.cell -/
theorem eq_synopticref03_cell (fu d:Nat) (a0:Int) (a1:Int) (a2:Int):
 cl fu (d+1) fn_synopticref03_cell [I a0,I a1,I a2] []=(
 bd (IntKind.i64.wrap ((IntKind.i64.wrap ((IntKind.i64.wrap (a0+a1))+a2))-(if a2<(if a1<a0 then a1 else a0) then a2 else (if a1<a0 then a1 else a0)))) fun z=>
 some ⟨V.agg ([C.v (.int .i64 (if a2<(if a1<a0 then a1 else a0) then a2 else (if a1<a0 then a1 else a0))),C.v (.int .i64 (IntKind.i64.wrap (z-(if a2>(if a1>a0 then a1 else a0) then a2 else (if a1>a0 then a1 else a0))))),C.v (.int .i64 (if a2>(if a1>a0 then a1 else a0) then a2 else (if a1>a0 then a1 else a0)))]),[],none⟩):=by kernel_rfl
/- synoptic/flux.edges$1 -/
theorem eq_flux_edges_1 (fu d:Nat) (l:Nat) (go:Nat→Bool) (yxs:List (List V)) (e0:List C):
 cl fu (d+1) fn_flux_edges_1 [V.c (C.yl l go yxs),V.c (C.cp e0)] []=(
 unc e0 fun c r=>
 asI .i64 c fun i=>
 (cl fu d fn_grid_Edges [I i] []).bind fun out=>
 rT out.r fun xs=>
 uncV xs fun x ys=>
 rC x fun c1=>
 uncV ys fun x1 ys1=>
 rC x1 fun c2=>
 asI .i64 c2 fun i1=>
 nilV ys1<|
 asSl c1 fun n cs=>
 (iter (fun (y:Int×Log×Unit)=>
 bif decide (y.1<((n:Nat):Int)) then
 asSl c1 fun n1 cs1=>
 need (inR y.1 n1)<|
 unc (List.drop (y.1.toNat*2) cs1) fun c3 r1=>
 asI .i64 c3 fun i2=>
 unc r1 fun c4 _=>
 asI .i64 c4 fun i3=>
 need ((Nat.beq y.2.1.l l)&&(!y.2.1.st))<|
 unI y.2.1.rest fun x2 rest=>
 need (eqV [I y.1,V.agg ([C.v (.int .i64 i2),C.v (.int .i64 i3)])] x2)<|
 bif !(y.2.1.go y.2.1.i) then
 some (2,(y.1,⟨y.2.1.l,y.2.1.go,Nat.succ y.2.1.i,rest, !(y.2.1.go y.2.1.i)⟩,()))
 else
 some (0,(IntKind.i64.wrap (y.1+1),⟨y.2.1.l,y.2.1.go,Nat.succ y.2.1.i,rest, !(y.2.1.go y.2.1.i)⟩,()))
 else
 some (1,(y.1,y.2.1,()))) fu (0,⟨l,go,0,yxs,false⟩,())).bind fun p=>
 natD p.1 (
 some ⟨V.tup [],[],some p.2.2.1⟩) fun m=>
 some ⟨V.tup [],[],some p.2.2.1⟩):=by kernel_rfl
/- synoptic/place.Valid -/
theorem eq_place_Valid (fu d:Nat) (a0_0:Int) (a0_1:Int) (a0_2:Int) (a0_3:Int):
 cl fu (d+1) fn_place_Valid [V.agg ([C.v (.int .i64 a0_0),C.v (.int .i64 a0_1),C.v (.int .i64 a0_2),C.v (.int .i64 a0_3)])] []=(
 (iter (fun (y:Bool×Int×Unit)=>
 bif decide (y.2.1<3) then
 need (inR y.2.1 3)<|
 unc (List.drop (y.2.1.toNat*1) ([C.v (.int .i64 a0_1),C.v (.int .i64 a0_2),C.v (.int .i64 a0_3)])) fun c _=>
 asI .i64 c fun i=>
 bif decide (i<0) then
 some (2,(false,y.2.1,()))
 else
 bif decide (i>840) then
 some (2,(false,y.2.1,()))
 else
 some (0,(y.1,IntKind.i64.wrap (y.2.1+1),()))
 else
 some (1,(y.1,y.2.1,()))) fu (false,0,())).bind fun p=>
 natD p.1 (
 (cl fu d fn_place_face [I a0_0] []).bind fun out=>
 rC out.r fun c1=>
 asB c1 fun b=>
 bif b then
 some ⟨B ((IntKind.i64.wrap ((IntKind.i64.wrap (a0_1+a0_2))+a0_3))==840),[],none⟩
 else
 some ⟨B false,[],none⟩) fun m=>
 some ⟨B p.2.1,[],none⟩):=by kernel_rfl
/- synoptic/place.of -/
theorem eq_place_of (fu d:Nat) (a0_0:Int) (a0_1:Int) (a0_2:Int) (a0_3:Int):
 cl fu (d+1) fn_place_of [V.agg ([C.v (.int .i64 a0_0),C.v (.int .i64 a0_1),C.v (.int .i64 a0_2),C.v (.int .i64 a0_3)])] []=(
 need (inR a0_0 20)<|
 need (Nat.ble 3 ((List.drop (a0_0.toNat*3) gl_place_corners).length))<|
 need ((((Nat.beq ((List.take 3 (List.drop (a0_0.toNat*3) gl_place_corners)).length) 3)&&true)&&(Nat.ble (0+((List.take 3 (List.drop (a0_0.toNat*3) gl_place_corners)).length)) 3))&&true)<|
 unc (putAt ([C.v (.int .i64 0),C.v (.int .i64 0),C.v (.int .i64 0)]) 0 (List.take 3 (List.drop (a0_0.toNat*3) gl_place_corners))) fun c _=>
 asI .i64 c fun i=>
 unc (List.drop 1 (putAt ([C.v (.int .i64 0),C.v (.int .i64 0),C.v (.int .i64 0)]) 0 (List.take 3 (List.drop (a0_0.toNat*3) gl_place_corners)))) fun c1 _=>
 asI .i64 c1 fun i1=>
 unc (List.drop 2 (putAt ([C.v (.int .i64 0),C.v (.int .i64 0),C.v (.int .i64 0)]) 0 (List.take 3 (List.drop (a0_0.toNat*3) gl_place_corners)))) fun c2 _=>
 asI .i64 c2 fun i2=>
 need (inR i 12)<|
 need (((Nat.ble 0 (0+(i.toNat*1)))&&(Nat.ble ((0+(i.toNat*1))+1) 12))&&true)<|
 bd (putAt ([C.v (.int .i64 0),C.v (.int .i64 0),C.v (.int .i64 0),C.v (.int .i64 0),C.v (.int .i64 0),C.v (.int .i64 0),C.v (.int .i64 0),C.v (.int .i64 0),C.v (.int .i64 0),C.v (.int .i64 0),C.v (.int .i64 0),C.v (.int .i64 0)]) (0+(i.toNat*1)) ([C.v (.int .i64 a0_1)])) fun cs=>
 need (inR i1 12)<|
 need (((Nat.ble 0 (0+(i1.toNat*1)))&&(Nat.ble ((0+(i1.toNat*1))+1) cs.length))&&true)<|
 need (inR i2 12)<|
 need (((Nat.ble 0 (0+(i2.toNat*1)))&&(Nat.ble ((0+(i2.toNat*1))+1) ((putAt cs (0+(i1.toNat*1)) ([C.v (.int .i64 a0_2)])).length)))&&true)<|
 need (Nat.ble 12 ((putAt (putAt cs (0+(i1.toNat*1)) ([C.v (.int .i64 a0_2)])) (0+(i2.toNat*1)) ([C.v (.int .i64 a0_3)])).length))<|
 need ((((Nat.beq ((List.take 12 (putAt (putAt cs (0+(i1.toNat*1)) ([C.v (.int .i64 a0_2)])) (0+(i2.toNat*1)) ([C.v (.int .i64 a0_3)]))).length) 12)&&true)&&(Nat.ble (0+((List.take 12 (putAt (putAt cs (0+(i1.toNat*1)) ([C.v (.int .i64 a0_2)])) (0+(i2.toNat*1)) ([C.v (.int .i64 a0_3)]))).length)) 12))&&true)<|
 bd (putAt ([C.v (.int .i64 0),C.v (.int .i64 0),C.v (.int .i64 0),C.v (.int .i64 0),C.v (.int .i64 0),C.v (.int .i64 0),C.v (.int .i64 0),C.v (.int .i64 0),C.v (.int .i64 0),C.v (.int .i64 0),C.v (.int .i64 0),C.v (.int .i64 0)]) 0 (List.take 12 (putAt (putAt cs (0+(i1.toNat*1)) ([C.v (.int .i64 a0_2)])) (0+(i2.toNat*1)) ([C.v (.int .i64 a0_3)])))) fun cs1=>
 need (Nat.ble 12 cs1.length)<|
 some ⟨V.agg (List.take 12 cs1),[],none⟩):=by kernel_rfl
/- synoptic/place.on -/
theorem eq_place_on (fu d:Nat) (a0:Int) (a1:List C):
 cl fu (d+1) fn_place_on [I a0,V.agg a1] []=(
 need (inR a0 20)<|
 need (Nat.ble 3 ((List.drop (a0.toNat*3) gl_place_corners).length))<|
 need ((((Nat.beq ((List.take 3 (List.drop (a0.toNat*3) gl_place_corners)).length) 3)&&true)&&(Nat.ble (0+((List.take 3 (List.drop (a0.toNat*3) gl_place_corners)).length)) 3))&&true)<|
 unc (putAt ([C.v (.int .i64 0),C.v (.int .i64 0),C.v (.int .i64 0)]) 0 (List.take 3 (List.drop (a0.toNat*3) gl_place_corners))) fun c r=>
 asI .i64 c fun i=>
 need (inR i 12)<|
 unc (List.drop (i.toNat*1) a1) fun c1 _=>
 asI .i64 c1 fun i1=>
 unc (List.drop 1 (putAt ([C.v (.int .i64 0),C.v (.int .i64 0),C.v (.int .i64 0)]) 0 (List.take 3 (List.drop (a0.toNat*3) gl_place_corners)))) fun c2 _=>
 asI .i64 c2 fun i2=>
 need (inR i2 12)<|
 unc (List.drop (i2.toNat*1) a1) fun c3 _=>
 asI .i64 c3 fun i3=>
 unc (List.drop 2 (putAt ([C.v (.int .i64 0),C.v (.int .i64 0),C.v (.int .i64 0)]) 0 (List.take 3 (List.drop (a0.toNat*3) gl_place_corners)))) fun c4 _=>
 asI .i64 c4 fun i4=>
 need (inR i4 12)<|
 unc (List.drop (i4.toNat*1) a1) fun c5 _=>
 asI .i64 c5 fun i5=>
 (cl fu d fn_place_Valid [V.agg ([C.v (.int .i64 a0),C.v (.int .i64 i1),C.v (.int .i64 i3),C.v (.int .i64 i5)])] []).bind fun out=>
 rC out.r fun c6=>
 asB c6 fun b=>
 some ⟨V.tup [V.agg ([C.v (.int .i64 a0),C.v (.int .i64 i1),C.v (.int .i64 i3),C.v (.int .i64 i5)]),B b],[],none⟩):=by kernel_rfl
/- (*synoptic/mesh.Net).at -/
theorem eqp_mesh_Net_at (fu d:Nat) (a0_0:Int) (a0_1:Int) (a0_2:C) (a0_3:List (List C×List C)) (a0_4:List C) (a0_5:C) (a0_6:C) (g0:Nat) (a1_0:Int) (a1_1:Int) (a1_2:Int) (a1_3:Int):
 cl fu (d+1) fn_mesh_Net_at [V.ptr 1000000 0,V.agg ([C.v (.int .i64 a1_0),C.v (.int .i64 a1_1),C.v (.int .i64 a1_2),C.v (.int .i64 a1_3)])] [.pk g0 ty_mesh_Net (.ps [PC.c (C.v (.int .i64 a0_0)),PC.c (C.v (.int .i64 a0_1)),PC.c a0_2,PC.c (C.mp ty_api_Place ty_int (some 4) none a0_3),PC.r ty_api_Cell a0_4,PC.c a0_5,PC.c a0_6]) none]=(
 (cl fu d fn_place_Normal [V.agg ([C.v (.int .i64 a1_0),C.v (.int .i64 a1_1),C.v (.int .i64 a1_2),C.v (.int .i64 a1_3)])] []).bind fun out=>
 rT out.r fun xs=>
 uncV xs fun x ys=>
 rA x fun cs=>
 need (Nat.beq cs.length 4)<|
 unc cs fun c r=>
 asI .i64 c fun i=>
 unc r fun c1 r1=>
 asI .i64 c1 fun i1=>
 unc r1 fun c2 r2=>
 asI .i64 c2 fun i2=>
 unc r2 fun c3 _=>
 asI .i64 c3 fun i3=>
 uncV ys fun x1 ys1=>
 rC x1 fun c4=>
 asI .i64 c4 fun i4=>
 nilV ys1<|
 (mfd ty_api_Place ([C.v (.int .i64 i),C.v (.int .i64 i1),C.v (.int .i64 i2),C.v (.int .i64 i3)]) a0_3).bind fun q=>
 unc (orZ q ([C.v (.int .i64 0)])) fun c5 _=>
 asI .i64 c5 fun i5=>
 some ⟨I i5,[.pk g0 ty_mesh_Net (.ps [PC.c (C.v (.int .i64 a0_0)),PC.c (C.v (.int .i64 a0_1)),PC.c a0_2,PC.c (C.mp ty_api_Place ty_int (some 4) none a0_3),PC.r ty_api_Cell a0_4,PC.c a0_5,PC.c a0_6]) none],none⟩):=by kernel_rfl
/- synoptic/synopticref02.Addresses -/
theorem eq_synopticref02_Addresses (fu d:Nat) (a0_0:Int) (a0_1:Int) (a0_2:Int) (a0_3:Int):
 cl fu (d+1) fn_synopticref02_Addresses [V.agg ([C.v (.int .i64 a0_0),C.v (.int .i64 a0_1),C.v (.int .i64 a0_2),C.v (.int .i64 a0_3)])] []=(
 (cl fu d fn_synopticref02_Valid [V.agg ([C.v (.int .i64 a0_0),C.v (.int .i64 a0_1),C.v (.int .i64 a0_2),C.v (.int .i64 a0_3)])] []).bind fun out=>
 rC out.r fun c=>
 asB c fun b=>
 bif !b then
 some ⟨V.tup [V.c C.nl,I 1],[],none⟩
 else
 (cl fu d fn_synopticref02_Weights [V.agg ([C.v (.int .i64 a0_0),C.v (.int .i64 a0_1),C.v (.int .i64 a0_2),C.v (.int .i64 a0_3)])] []).bind fun out1=>
 rA out1.r fun cs=>
 need ((((Nat.beq cs.length 12)&&true)&&(Nat.ble (0+cs.length) 12))&&true)<|
 bd (putAt ([C.v (.int .i64 0),C.v (.int .i64 0),C.v (.int .i64 0),C.v (.int .i64 0),C.v (.int .i64 0),C.v (.int .i64 0),C.v (.int .i64 0),C.v (.int .i64 0),C.v (.int .i64 0),C.v (.int .i64 0),C.v (.int .i64 0),C.v (.int .i64 0)]) 0 cs) fun cs1=>
 (iter (fun (y:List C×Int×Unit)=>
 bif decide (y.2.1<20) then
 need (Nat.ble 12 cs1.length)<|
 (cl fu d fn_synopticref02_On [I y.2.1,V.agg (List.take 12 cs1)] []).bind fun out2=>
 rT out2.r fun xs=>
 uncV xs fun x ys=>
 rA x fun cs2=>
 need (Nat.beq cs2.length 4)<|
 unc cs2 fun c1 r=>
 asI .i64 c1 fun i=>
 unc r fun c2 r1=>
 asI .i64 c2 fun i1=>
 unc r1 fun c3 r2=>
 asI .i64 c3 fun i2=>
 unc r2 fun c4 _=>
 asI .i64 c4 fun i3=>
 uncV ys fun x1 ys1=>
 rC x1 fun c5=>
 asB c5 fun b1=>
 nilV ys1<|
 bif b1 then
 need ((((Nat.beq ((y.1.length/4)*4) y.1.length)&&true)&&(Nat.ble (((y.1.length/4)+1)*32) 140737488355328))&&(Nat.ble ((y.1.length/4)+1) 140737488355328))<|
 need (((Nat.beq (((y.1.length/4)+1)*4) ((y.1++([C.v (.int .i64 i),C.v (.int .i64 i1),C.v (.int .i64 i2),C.v (.int .i64 i3)])).length))&&true)&&true)<|
 some (0,(y.1++([C.v (.int .i64 i),C.v (.int .i64 i1),C.v (.int .i64 i2),C.v (.int .i64 i3)]),IntKind.i64.wrap (y.2.1+1),()))
 else
 need (((Nat.beq ((y.1.length/4)*4) y.1.length)&&true)&&true)<|
 some (0,(y.1,IntKind.i64.wrap (y.2.1+1),()))
 else
 need (((Nat.beq ((y.1.length/4)*4) y.1.length)&&true)&&true)<|
 some (1,(y.1,y.2.1,()))) fu ([],0,())).bind fun p=>
 need (Nat.ble (0+((p.2.1.length/4)*4)) p.2.1.length)<|
 some ⟨V.tup [V.c (C.sl (p.2.1.length/4) (List.take ((p.2.1.length/4)*4) p.2.1)),I 0],[],none⟩):=by kernel_rfl
/- synoptic/synopticref03.less -/
theorem eq_synopticref03_less (fu d:Nat) (a0_0:Int) (a0_1:Int) (a0_2:Int) (a0_3:Int) (a1_0:Int) (a1_1:Int) (a1_2:Int) (a1_3:Int):
 cl fu (d+1) fn_synopticref03_less [V.agg ([C.v (.int .i64 a0_0),C.v (.int .i64 a0_1),C.v (.int .i64 a0_2),C.v (.int .i64 a0_3)]),V.agg ([C.v (.int .i64 a1_0),C.v (.int .i64 a1_1),C.v (.int .i64 a1_2),C.v (.int .i64 a1_3)])] []=(
 bif a0_0 !=a1_0 then
 some ⟨B (decide (a0_0<a1_0)),[],none⟩
 else
 bif a0_1 !=a1_1 then
 some ⟨B (decide (a0_1<a1_1)),[],none⟩
 else
 some ⟨B (decide (a0_2<a1_2)),[],none⟩):=by kernel_rfl
/- synoptic/place.face -/
theorem eq_place_face (fu d:Nat) (a0:Int):
 cl fu (d+1) fn_place_face [I a0] []=(
 bif decide (a0≥0) then
 some ⟨B (decide (a0<20)),[],none⟩
 else
 some ⟨B false,[],none⟩):=by kernel_rfl
/- synoptic/synopticref02.Weights -/
theorem eq_synopticref02_Weights (fu d:Nat) (a0_0:Int) (a0_1:Int) (a0_2:Int) (a0_3:Int):
 cl fu (d+1) fn_synopticref02_Weights [V.agg ([C.v (.int .i64 a0_0),C.v (.int .i64 a0_1),C.v (.int .i64 a0_2),C.v (.int .i64 a0_3)])] []=(
 (cl fu d fn_synopticref02_Corners [I a0_0] []).bind fun out=>
 rT out.r fun xs=>
 uncV xs fun x ys=>
 rA x fun cs=>
 uncV ys fun x1 ys1=>
 rC x1 fun c=>
 asI .i64 c fun i=>
 nilV ys1<|
 need ((((Nat.beq cs.length 3)&&true)&&(Nat.ble (0+cs.length) 3))&&true)<|
 unc (putAt ([C.v (.int .i64 0),C.v (.int .i64 0),C.v (.int .i64 0)]) 0 cs) fun c1 _=>
 asI .i64 c1 fun i1=>
 unc (List.drop 1 (putAt ([C.v (.int .i64 0),C.v (.int .i64 0),C.v (.int .i64 0)]) 0 cs)) fun c2 _=>
 asI .i64 c2 fun i2=>
 unc (List.drop 2 (putAt ([C.v (.int .i64 0),C.v (.int .i64 0),C.v (.int .i64 0)]) 0 cs)) fun c3 _=>
 asI .i64 c3 fun i3=>
 need (inR i1 12)<|
 need (((Nat.ble 0 (0+(i1.toNat*1)))&&(Nat.ble ((0+(i1.toNat*1))+1) 12))&&true)<|
 bd (putAt ([C.v (.int .i64 0),C.v (.int .i64 0),C.v (.int .i64 0),C.v (.int .i64 0),C.v (.int .i64 0),C.v (.int .i64 0),C.v (.int .i64 0),C.v (.int .i64 0),C.v (.int .i64 0),C.v (.int .i64 0),C.v (.int .i64 0),C.v (.int .i64 0)]) (0+(i1.toNat*1)) ([C.v (.int .i64 a0_1)])) fun cs1=>
 need (inR i2 12)<|
 need (((Nat.ble 0 (0+(i2.toNat*1)))&&(Nat.ble ((0+(i2.toNat*1))+1) cs1.length))&&true)<|
 need (inR i3 12)<|
 need (((Nat.ble 0 (0+(i3.toNat*1)))&&(Nat.ble ((0+(i3.toNat*1))+1) ((putAt cs1 (0+(i2.toNat*1)) ([C.v (.int .i64 a0_2)])).length)))&&true)<|
 need (Nat.ble 12 ((putAt (putAt cs1 (0+(i2.toNat*1)) ([C.v (.int .i64 a0_2)])) (0+(i3.toNat*1)) ([C.v (.int .i64 a0_3)])).length))<|
 need ((((Nat.beq ((List.take 12 (putAt (putAt cs1 (0+(i2.toNat*1)) ([C.v (.int .i64 a0_2)])) (0+(i3.toNat*1)) ([C.v (.int .i64 a0_3)]))).length) 12)&&true)&&(Nat.ble (0+((List.take 12 (putAt (putAt cs1 (0+(i2.toNat*1)) ([C.v (.int .i64 a0_2)])) (0+(i3.toNat*1)) ([C.v (.int .i64 a0_3)]))).length)) 12))&&true)<|
 bd (putAt ([C.v (.int .i64 0),C.v (.int .i64 0),C.v (.int .i64 0),C.v (.int .i64 0),C.v (.int .i64 0),C.v (.int .i64 0),C.v (.int .i64 0),C.v (.int .i64 0),C.v (.int .i64 0),C.v (.int .i64 0),C.v (.int .i64 0),C.v (.int .i64 0)]) 0 (List.take 12 (putAt (putAt cs1 (0+(i2.toNat*1)) ([C.v (.int .i64 a0_2)])) (0+(i3.toNat*1)) ([C.v (.int .i64 a0_3)])))) fun cs2=>
 need (Nat.ble 12 cs2.length)<|
 some ⟨V.agg (List.take 12 cs2),[],none⟩):=by kernel_rfl
/- synoptic/synopticref02.On -/
theorem eq_synopticref02_On (fu d:Nat) (a0:Int) (a1:List C):
 cl fu (d+1) fn_synopticref02_On [I a0,V.agg a1] []=(
 (cl fu d fn_synopticref02_Corners [I a0] []).bind fun out=>
 rT out.r fun xs=>
 uncV xs fun x ys=>
 rA x fun cs=>
 uncV ys fun x1 ys1=>
 rC x1 fun c=>
 asI .i64 c fun i=>
 nilV ys1<|
 need ((((Nat.beq cs.length 3)&&true)&&(Nat.ble (0+cs.length) 3))&&true)<|
 unc (putAt ([C.v (.int .i64 0),C.v (.int .i64 0),C.v (.int .i64 0)]) 0 cs) fun c1 _=>
 asI .i64 c1 fun i1=>
 need (inR i1 12)<|
 unc (List.drop (i1.toNat*1) a1) fun c2 _=>
 asI .i64 c2 fun i2=>
 unc (List.drop 1 (putAt ([C.v (.int .i64 0),C.v (.int .i64 0),C.v (.int .i64 0)]) 0 cs)) fun c3 _=>
 asI .i64 c3 fun i3=>
 need (inR i3 12)<|
 unc (List.drop (i3.toNat*1) a1) fun c4 _=>
 asI .i64 c4 fun i4=>
 unc (List.drop 2 (putAt ([C.v (.int .i64 0),C.v (.int .i64 0),C.v (.int .i64 0)]) 0 cs)) fun c5 _=>
 asI .i64 c5 fun i5=>
 need (inR i5 12)<|
 unc (List.drop (i5.toNat*1) a1) fun c6 _=>
 asI .i64 c6 fun i6=>
 some ⟨V.tup [V.agg ([C.v (.int .i64 a0),C.v (.int .i64 i2),C.v (.int .i64 i4),C.v (.int .i64 i6)]),B ((IntKind.i64.wrap ((IntKind.i64.wrap (i2+i4))+i6))==840)],[],none⟩):=by kernel_rfl
/- synoptic/synopticref02.Corners -/
theorem eq_synopticref02_Corners (fu d:Nat) (a0:Int):
 cl fu (d+1) fn_synopticref02_Corners [I a0] []=(
 bif decide (a0<0) then
 some ⟨V.tup [V.agg ([C.v (.int .i64 0),C.v (.int .i64 0),C.v (.int .i64 0)]),I 1],[],none⟩
 else
 bif decide (a0≥20) then
 some ⟨V.tup [V.agg ([C.v (.int .i64 0),C.v (.int .i64 0),C.v (.int .i64 0)]),I 1],[],none⟩
 else
 bif (IntKind.i64.wrap (Int.tdiv a0 5))==0 then
 some ⟨V.tup [V.agg ([C.v (.int .i64 0),C.v (.int .i64 (IntKind.i64.wrap (1+(Int.tmod a0 5)))),C.v (.int .i64 (IntKind.i64.wrap (1+(Int.tmod (IntKind.i64.wrap ((Int.tmod a0 5)+1)) 5))))]),I 0],[],none⟩
 else
 bif (IntKind.i64.wrap (Int.tdiv a0 5))==1 then
 some ⟨V.tup [V.agg ([C.v (.int .i64 (IntKind.i64.wrap (1+(Int.tmod a0 5)))),C.v (.int .i64 (IntKind.i64.wrap (6+(Int.tmod a0 5)))),C.v (.int .i64 (IntKind.i64.wrap (1+(Int.tmod (IntKind.i64.wrap ((Int.tmod a0 5)+1)) 5))))]),I 0],[],none⟩
 else
 bif (IntKind.i64.wrap (Int.tdiv a0 5))==2 then
 some ⟨V.tup [V.agg ([C.v (.int .i64 (IntKind.i64.wrap (6+(Int.tmod a0 5)))),C.v (.int .i64 (IntKind.i64.wrap (6+(Int.tmod (IntKind.i64.wrap ((Int.tmod a0 5)+1)) 5)))),C.v (.int .i64 (IntKind.i64.wrap (1+(Int.tmod (IntKind.i64.wrap ((Int.tmod a0 5)+1)) 5))))]),I 0],[],none⟩
 else
 some ⟨V.tup [V.agg ([C.v (.int .i64 11),C.v (.int .i64 (IntKind.i64.wrap (6+(Int.tmod (IntKind.i64.wrap ((Int.tmod a0 5)+1)) 5)))),C.v (.int .i64 (IntKind.i64.wrap (6+(Int.tmod a0 5))))]),I 0],[],none⟩):=by kernel_rfl
end Go.Proofs.YtoaanfjcjbghaaaGreatDoor
