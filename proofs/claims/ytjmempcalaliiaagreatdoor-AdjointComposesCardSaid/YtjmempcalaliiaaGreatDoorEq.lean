/- What the program's functions come to. -/
import Derived.Test.YtjmempcalaliiaaGreatDoorLay
set_option linter.unusedVariables false
set_option linter.unusedSimpArgs false
namespace Go.Proofs.YtjmempcalaliiaaGreatDoor
open Go Go.PM
set_option maxRecDepth 100000
/- synoptic/synopticlaw32.AdjointComposes -/
theorem eq_synopticlaw32_AdjointComposes (fu d:Nat) (n0:Nat) (a0:List C) (a1:Int):
 cl fu (d+1) fn_synopticlaw32_AdjointComposes [V.c (C.sl n0 a0),V.c (C.v (.int .u8 a1))] []=(
 (cl fu d fn_synopticlaw32_awake [] []).bind λout=>
 rC out.r λc=>
 asB c λb=>
 bif !b then
 some ⟨B false,[],none⟩
 else
 (cl fu d fn_synopticfield_New [V.c (C.sl n0 a0),I 300] []).bind λout1=>
 rP out1.r 0<|
 uncO out1.objs λo os=>
 rN o ty_synopticfield_Codes 2 λcs=>
 unc cs λc1 r=>
 unc r λc2 _=>
 asI .i64 c2 λi=>
 (cl fu d fn_synopticfield_Codes_Frequency [V.ptr 1000000 0] [.ob ty_synopticfield_Codes 0 ([c1,C.v (.int .i64 i)])]).bind λout2=>
 uncO out2.objs λo1 os1=>
 rO o1 ty_synopticfield_Codes 0 λcs1=>
 need ((Nat.beq cs1.length 2)&&true)<|
 unc cs1 λc3 r2=>
 unc r2 λc4 _=>
 asI .i64 c4 λi1=>
 rC out2.r λc5=>
 asI .i64 c5 λi2=>
 (cl fu d fn_synopticfield_Codes_Scheme [V.ptr 1000000 0] [.ob ty_synopticfield_Codes 0 ([c3,C.v (.int .i64 i1)])]).bind λout3=>
 uncO out3.objs λo2 os2=>
 rO o2 ty_synopticfield_Codes 0 λcs2=>
 need ((Nat.beq cs2.length 2)&&true)<|
 unc cs2 λc6 r4=>
 unc r4 λc7 _=>
 asI .i64 c7 λi3=>
 rA out3.r λcs3=>
 need (Nat.beq cs3.length 3)<|
 unc cs3 λc8 r6=>
 asI .i64 c8 λi4=>
 unc r6 λc9 r7=>
 asI .i64 c9 λi5=>
 unc r7 λc10 _=>
 asI .i64 c10 λi6=>
 (cl fu d fn_synopticfield_Codes_State [V.ptr 1000000 0,I i2] [.ob ty_synopticfield_Codes 0 ([c6,C.v (.int .i64 i3)])]).bind λout4=>
 uncO out4.objs λo3 os3=>
 rO o3 ty_synopticfield_Codes 0 λcs4=>
 need ((Nat.beq cs4.length 2)&&true)<|
 unc cs4 λc11 r9=>
 unc r9 λc12 _=>
 asI .i64 c12 λi7=>
 rA out4.r λcs5=>
 need (Nat.beq cs5.length 3)<|
 unc cs5 λc13 r11=>
 asI .i64 c13 λi8=>
 unc r11 λc14 r12=>
 unc r12 λc15 _=>
 (iter (λ(y:Bool×List C×Int×(Int×C×C×Unit)×(C×Int×Unit)×Unit)=>
 bif decide (y.2.2.1<IntKind.i64.wrap (1+(Int.tmod (IntKind.i64.wrap a1) 3)))then
 (cl fu d fn_model_Step [V.agg ([C.v (.int .i64 i4),C.v (.int .i64 i5),C.v (.int .i64 i6)]),V.agg ([C.v (.int .i64 y.2.2.2.1.1),y.2.2.2.1.2.1,y.2.2.2.1.2.2.1])] []).bind λout5=>
 rT out5.r λxs=>
 uncV xs λx ys=>
 rA x λcs6=>
 need (Nat.beq cs6.length 3)<|
 unc cs6 λc16 r14=>
 asI .i64 c16 λi9=>
 unc r14 λc17 r15=>
 unc r15 λc18 _=>
 uncV ys λx1 ys1=>
 rC x1 λc19=>
 uncV ys1 λx2 ys2=>
 rC x2 λc20=>
 asI .i64 c20 λi10=>
 nilV ys2<|
 bif i10==7 then
 need (((Nat.beq ((y.2.1.length/1)*1) y.2.1.length)&&true)&&true)<|
 some (1,(y.1,y.2.1,y.2.2.1,(y.2.2.2.1.1,y.2.2.2.1.2.1,y.2.2.2.1.2.2.1,()),(y.2.2.2.2.1.1,y.2.2.2.2.1.2.1,()),()))
 else
 bif i10 !=0 then
 need (((Nat.beq ((y.2.1.length/1)*1) y.2.1.length)&&true)&&true)<|
 some (2,(false,y.2.1,y.2.2.1,(y.2.2.2.1.1,y.2.2.2.1.2.1,y.2.2.2.1.2.2.1,()),(y.2.2.2.2.1.1,y.2.2.2.2.1.2.1,()),()))
 else
 need ((((Nat.beq ((y.2.1.length/1)*1) y.2.1.length)&&true)&&(Nat.ble (((y.2.1.length/1)+1)*24) 140737488355328))&&(Nat.ble ((y.2.1.length/1)+1) 140737488355328))<|
 need (((Nat.beq (((y.2.1.length/1)+1)*1) ((y.2.1++([c19])).length))&&true)&&true)<|
 some (0,(y.1,y.2.1++([c19]),IntKind.i64.wrap (y.2.2.1+1),(i9,c17,c18,()),(y.2.2.2.2.1.1,y.2.2.2.2.1.2.1,()),()))
 else
 need (((Nat.beq ((y.2.1.length/1)*1) y.2.1.length)&&true)&&true)<|
 some (1,(y.1,y.2.1,y.2.2.1,(y.2.2.2.1.1,y.2.2.2.1.2.1,y.2.2.2.1.2.2.1,()),(y.2.2.2.2.1.1,y.2.2.2.2.1.2.1,()),()))) fu (false,[],0,(i8,c14,c15,()),(c11,i7,()),())).bind λp=>
 natD p.1 (
 (cl fu d fn_synopticfield_Codes_Change [V.ptr 1000000 0,I i2,I 9] [.ob ty_synopticfield_Codes 0 ([p.2.2.2.2.2.1.1,C.v (.int .i64 p.2.2.2.2.2.1.2.1)])]).bind λout6=>
 uncO out6.objs λo4 os4=>
 rO o4 ty_synopticfield_Codes 0 λcs7=>
 need ((Nat.beq cs7.length 2)&&true)<|
 unc cs7 λc21 r17=>
 unc r17 λc22 _=>
 asI .i64 c22 λi11=>
 rA out6.r λcs8=>
 need (Nat.beq cs8.length 2)<|
 unc cs8 λc23 r19=>
 unc r19 λc24 _=>
 (cl fu d fn_synopticfield_Codes_Change [V.ptr 1000000 0,I i2,I 9] [.ob ty_synopticfield_Codes 0 ([c21,C.v (.int .i64 i11)])]).bind λout7=>
 uncO out7.objs λo5 os5=>
 rO o5 ty_synopticfield_Codes 0 λcs9=>
 need ((Nat.beq cs9.length 2)&&true)<|
 unc cs9 λc25 r21=>
 unc r21 λc26 _=>
 asI .i64 c26 λi12=>
 rA out7.r λcs10=>
 need (Nat.beq cs10.length 2)<|
 unc cs10 λc27 r23=>
 unc r23 λc28 _=>
 need (Nat.ble (0+((p.2.2.1.length/1)*1)) p.2.2.1.length)<|
 (cl fu d fn_tangent_Compose [V.agg ([C.v (.int .i64 i4),C.v (.int .i64 i5),C.v (.int .i64 i6)]),I i2,V.c (C.sl (p.2.2.1.length/1) (List.take ((p.2.2.1.length/1)*1) p.2.2.1)),V.agg ([c23,c24])] []).bind λout8=>
 rT out8.r λxs1=>
 uncV xs1 λx3 ys3=>
 rA x3 λcs11=>
 need (Nat.beq cs11.length 2)<|
 unc cs11 λc29 r25=>
 unc r25 λc30 _=>
 uncV ys3 λx4 ys4=>
 rC x4 λc31=>
 asI .i64 c31 λi13=>
 nilV ys4<|
 need (Nat.ble (0+((p.2.2.1.length/1)*1)) p.2.2.1.length)<|
 (cl fu d fn_adjoint_Compose [V.agg ([C.v (.int .i64 i4),C.v (.int .i64 i5),C.v (.int .i64 i6)]),I i2,V.c (C.sl (p.2.2.1.length/1) (List.take ((p.2.2.1.length/1)*1) p.2.2.1)),V.agg ([c27,c28])] []).bind λout9=>
 rT out9.r λxs2=>
 uncV xs2 λx5 ys5=>
 rA x5 λcs12=>
 need (Nat.beq cs12.length 2)<|
 unc cs12 λc32 r27=>
 unc r27 λc33 _=>
 uncV ys5 λx6 ys6=>
 rC x6 λc34=>
 asI .i64 c34 λi14=>
 nilV ys6<|
 bif i13 !=0 then
 bif i13==1 then
 some ⟨B true,[],none⟩
 else
 some ⟨B (i14==1),[],none⟩
 else
 bif i14 !=0 then
 bif i13==1 then
 some ⟨B true,[],none⟩
 else
 some ⟨B (i14==1),[],none⟩
 else
 (cl fu d fn_tangent_Dot [V.agg ([c29,c30]),V.agg ([c27,c28])] []).bind λout10=>
 rT out10.r λxs3=>
 uncV xs3 λx7 ys7=>
 rA x7 λcs13=>
 need (Nat.beq cs13.length 2)<|
 unc cs13 λc35 r29=>
 asI .i64 c35 λi15=>
 unc r29 λc36 _=>
 asI .u64 c36 λi16=>
 uncV ys7 λx8 ys8=>
 rC x8 λc37=>
 asI .i64 c37 λi17=>
 nilV ys8<|
 (cl fu d fn_tangent_Dot [V.agg ([c23,c24]),V.agg ([c32,c33])] []).bind λout11=>
 rT out11.r λxs4=>
 uncV xs4 λx9 ys9=>
 rA x9 λcs14=>
 need (Nat.beq cs14.length 2)<|
 unc cs14 λc38 r31=>
 asI .i64 c38 λi18=>
 unc r31 λc39 _=>
 asI .u64 c39 λi19=>
 uncV ys9 λx10 ys10=>
 rC x10 λc40=>
 asI .i64 c40 λi20=>
 nilV ys10<|
 bif i17==0 then
 bif i20==0 then
 some ⟨B ((i15==i18)&&((i16==i19)&&true)),[],none⟩
 else
 some ⟨B false,[],none⟩
 else
 some ⟨B false,[],none⟩) λm=>
 some ⟨B p.2.1,[],none⟩):=by kernel_rfl
/- synoptic/synopticfield.New -/
theorem eq_synopticfield_New (fu d:Nat) (n0:Nat) (a0:List C) (a1:Int):
 cl fu (d+1) fn_synopticfield_New [V.c (C.sl n0 a0),I a1] []=(
 bif decide (((n0:Nat):Int)>a1)then
 need ((decide (0≤a1))&&(decide (a1≤((n0:Nat):Int))))<|
 some ⟨V.ptr 1000000 0,[.ob ty_synopticfield_Codes 0 ([C.sl a1.toNat (List.take (a1.toNat*1) a0),C.v (.int .i64 0)])],none⟩
 else
 some ⟨V.ptr 1000000 0,[.ob ty_synopticfield_Codes 0 ([C.sl n0 a0,C.v (.int .i64 0)])],none⟩):=by kernel_rfl
/- (*synoptic/synopticfield.Codes).Frequency -/
theorem eq_synopticfield_Codes_Frequency (fu d:Nat) (a0_0:C) (a0_1:Int):
 cl fu (d+1) fn_synopticfield_Codes_Frequency [V.ptr 1000000 0] [.ob ty_synopticfield_Codes 0 ([a0_0,C.v (.int .i64 a0_1)])]=(
 (cl fu d fn_synopticfield_Codes_Next [V.ptr 1000000 0,I 5] [.ob ty_synopticfield_Codes 0 ([a0_0,C.v (.int .i64 a0_1)])]).bind λout=>
 uncO out.objs λo os=>
 rO o ty_synopticfield_Codes 0 λcs=>
 need ((Nat.beq cs.length 2)&&true)<|
 unc cs λc r=>
 unc r λc1 _=>
 asI .i64 c1 λi=>
 rC out.r λc2=>
 asI .i64 c2 λi1=>
 need (inR i1 5)<|
 unc (List.drop (i1.toNat*1) ([C.v (.int .i64 1),C.v (.int .i64 1),C.v (.int .i64 1),C.v (.int .i64 1),C.v (.int .i64 2)])) λc3 _=>
 asI .i64 c3 λi2=>
 some ⟨I i2,[.ob ty_synopticfield_Codes 0 ([c,C.v (.int .i64 i)])],none⟩):=by kernel_rfl
/- (*synoptic/synopticfield.Codes).Scheme -/
theorem eq_synopticfield_Codes_Scheme (fu d:Nat) (a0_0:C) (a0_1:Int):
 cl fu (d+1) fn_synopticfield_Codes_Scheme [V.ptr 1000000 0] [.ob ty_synopticfield_Codes 0 ([a0_0,C.v (.int .i64 a0_1)])]=(
 (cl fu d fn_synopticfield_Codes_Next [V.ptr 1000000 0,I 4] [.ob ty_synopticfield_Codes 0 ([a0_0,C.v (.int .i64 a0_1)])]).bind λout=>
 uncO out.objs λo os=>
 rO o ty_synopticfield_Codes 0 λcs=>
 need ((Nat.beq cs.length 2)&&true)<|
 unc cs λc r=>
 unc r λc1 _=>
 asI .i64 c1 λi=>
 rC out.r λc2=>
 asI .i64 c2 λi1=>
 (cl fu d fn_synopticfield_Codes_Next [V.ptr 1000000 0,I 4] [.ob ty_synopticfield_Codes 0 ([c,C.v (.int .i64 i)])]).bind λout1=>
 uncO out1.objs λo1 os1=>
 rO o1 ty_synopticfield_Codes 0 λcs1=>
 need ((Nat.beq cs1.length 2)&&true)<|
 unc cs1 λc3 r2=>
 unc r2 λc4 _=>
 asI .i64 c4 λi2=>
 rC out1.r λc5=>
 asI .i64 c5 λi3=>
 (cl fu d fn_synopticfield_Codes_Next [V.ptr 1000000 0,I 4] [.ob ty_synopticfield_Codes 0 ([c3,C.v (.int .i64 i2)])]).bind λout2=>
 uncO out2.objs λo2 os2=>
 rO o2 ty_synopticfield_Codes 0 λcs2=>
 need ((Nat.beq cs2.length 2)&&true)<|
 unc cs2 λc6 r4=>
 unc r4 λc7 _=>
 asI .i64 c7 λi4=>
 rC out2.r λc8=>
 asI .i64 c8 λi5=>
 some ⟨V.agg ([C.v (.int .i64 (IntKind.i64.wrap (1+i1))),C.v (.int .i64 (IntKind.i64.wrap (1+i3))),C.v (.int .i64 (IntKind.i64.wrap (1+i5)))]),[.ob ty_synopticfield_Codes 0 ([c6,C.v (.int .i64 i4)])],none⟩):=by kernel_rfl
/- (*synoptic/synopticfield.Codes).Change -/
theorem eq_synopticfield_Codes_Change (fu d:Nat) (a0_0:C) (a0_1:Int) (a1:Int) (a2:Int):
 cl fu (d+1) fn_synopticfield_Codes_Change [V.ptr 1000000 0,I a1,I a2] [.ob ty_synopticfield_Codes 0 ([a0_0,C.v (.int .i64 a0_1)])]=(
 (cl fu d fn_synopticref03_Edges [I a1] []).bind λout=>
 rT out.r λxs=>
 uncV xs λx ys=>
 rC x λc=>
 uncV ys λx1 ys1=>
 rC x1 λc1=>
 asI .i64 c1 λi=>
 nilV ys1<|
 (cl fu d fn_synopticref22_Nodes [I a1] []).bind λout1=>
 rC out1.r λc2=>
 asI .i64 c2 λi1=>
 (cl fu d fn_synopticfield_Codes_Vector [V.ptr 1000000 0,I i1,I a2] [.ob ty_synopticfield_Codes 0 ([a0_0,C.v (.int .i64 a0_1)])]).bind λout2=>
 uncO out2.objs λo os=>
 rO o ty_synopticfield_Codes 0 λcs=>
 need ((Nat.beq cs.length 2)&&true)<|
 unc cs λc3 r=>
 unc r λc4 _=>
 asI .i64 c4 λi2=>
 rC out2.r λc5=>
 asSl c λn cs1=>
 (cl fu d fn_synopticfield_Codes_Vector [V.ptr 1000000 0,I ((n:Nat):Int),I a2] [.ob ty_synopticfield_Codes 0 ([c3,C.v (.int .i64 i2)])]).bind λout3=>
 uncO out3.objs λo1 os1=>
 rO o1 ty_synopticfield_Codes 0 λcs2=>
 need ((Nat.beq cs2.length 2)&&true)<|
 unc cs2 λc6 r2=>
 unc r2 λc7 _=>
 asI .i64 c7 λi3=>
 rC out3.r λc8=>
 some ⟨V.agg ([c5,c8]),[.ob ty_synopticfield_Codes 0 ([c6,C.v (.int .i64 i3)])],none⟩):=by kernel_rfl
/- synoptic/tangent.Apply -/
theorem eq_tangent_Apply (fu d:Nat) (a0_0:Int) (a0_1:Int) (a0_2:Int) (a1:Int) (n2:Nat) (a2:List C) (a3_0:C) (a3_1:C):
 cl fu (d+1) fn_tangent_Apply [V.agg ([C.v (.int .i64 a0_0),C.v (.int .i64 a0_1),C.v (.int .i64 a0_2)]),I a1,V.c (C.sl n2 a2),V.agg ([a3_0,a3_1])] []=(
 (cl fu d fn_tangent_Scale [V.agg ([C.v (.int .i64 a0_0),C.v (.int .i64 a0_1),C.v (.int .i64 a0_2)])] []).bind λout=>
 rT out.r λxs=>
 uncV xs λx ys=>
 rC x λc=>
 asI .i64 c λi=>
 uncV ys λx1 ys1=>
 rC x1 λc1=>
 asI .i64 c1 λi1=>
 nilV ys1<|
 bif i1 !=0 then
 some ⟨V.tup [V.agg ([C.nl,C.nl]),I i1],[],none⟩
 else
 (cl fu d fn_tangent_Check [I a1,V.c (C.sl n2 a2),V.agg ([a3_0,a3_1])] []).bind λout1=>
 rC out1.r λc2=>
 asI .i64 c2 λi2=>
 bif i2 !=0 then
 some ⟨V.tup [V.agg ([C.nl,C.nl]),I i2],[],none⟩
 else
 (cl fu d fn_flux_Degrees [I a1] []).bind λout2=>
 rT out2.r λxs1=>
 uncV xs1 λx2 ys2=>
 rC x2 λc3=>
 uncV ys2 λx3 ys3=>
 rC x3 λc4=>
 asI .i64 c4 λi3=>
 nilV ys3<|
 bif i3 !=0 then
 some ⟨V.tup [V.agg ([C.nl,C.nl]),I i3],[],none⟩
 else
 (cl fu d fn_grid_Edges [I a1] []).bind λout3=>
 rT out3.r λxs2=>
 uncV xs2 λx4 ys4=>
 rC x4 λc5=>
 uncV ys4 λx5 ys5=>
 rC x5 λc6=>
 asI .i64 c6 λi4=>
 nilV ys5<|
 bif i4 !=0 then
 some ⟨V.tup [V.agg ([C.nl,C.nl]),I i4],[],none⟩
 else
 asSl a3_0 λn cs=>
 (iter (λ(y:Int×(C×C×Unit)×(List C×List C×Unit)×Unit)=>
 bif decide (y.1<((n:Nat):Int))then
 asSl a3_0 λn4 cs1=>
 need (inR y.1 n4)<|
 unc (List.drop (y.1.toNat*1) cs1) λc7 _=>
 asI .i64 c7 λi5=>
 need ((((Nat.beq ((y.2.2.1.1.length/1)*1) y.2.2.1.1.length)&&true)&&(Nat.ble (((y.2.2.1.1.length/1)+1)*8) 140737488355328))&&(Nat.ble ((y.2.2.1.1.length/1)+1) 140737488355328))<|
 need (((Nat.beq (((y.2.2.1.1.length/1)+1)*1) ((y.2.2.1.1++([C.v (.int .i64 (IntKind.i64.wrap (i*i5)))])).length))&&true)&&true)<|
 need (((Nat.beq ((y.2.2.1.2.1.length/1)*1) y.2.2.1.2.1.length)&&true)&&true)<|
 some (0,(IntKind.i64.wrap (y.1+1),(y.2.1.1,y.2.1.2.1,()),(y.2.2.1.1++([C.v (.int .i64 (IntKind.i64.wrap (i*i5)))]),y.2.2.1.2.1,()),()))
 else
 need (((Nat.beq ((y.2.2.1.1.length/1)*1) y.2.2.1.1.length)&&true)&&true)<|
 need (((Nat.beq ((y.2.2.1.2.1.length/1)*1) y.2.2.1.2.1.length)&&true)&&true)<|
 some (1,(y.1,(y.2.1.1,y.2.1.2.1,()),(y.2.2.1.1,y.2.2.1.2.1,()),()))) fu (0,(C.nl,C.nl,()),([],[],()),())).bind λp=>
 asSl c5 λn5 cs2=>
 need (((Nat.beq ((p.2.2.2.1.1.length/1)*1) p.2.2.2.1.1.length)&&true)&&true)<|
 need (((Nat.beq ((p.2.2.2.1.2.1.length/1)*1) p.2.2.2.1.2.1.length)&&true)&&true)<|
 (iter (λ(y1:Int×(C×C×Unit)×(List C×List C×Unit)×Unit)=>
 bif decide (y1.1<((n5:Nat):Int))then
 asSl c5 λn6 cs3=>
 need (inR y1.1 n6)<|
 unc (List.drop (y1.1.toNat*2) cs3) λc8 r1=>
 asI .i64 c8 λi6=>
 unc r1 λc9 _=>
 asI .i64 c9 λi7=>
 need (!(decide (a0_0<0)))<|
 asSl a3_1 λn7 cs4=>
 need (inR y1.1 n7)<|
 unc (List.drop (y1.1.toNat*1) cs4) λc10 _=>
 asI .i64 c10 λi8=>
 need (!(decide (a0_1<0)))<|
 asSl a3_0 λn8 cs5=>
 need (inR i6 n8)<|
 unc (List.drop (i6.toNat*1) cs5) λc11 _=>
 asI .i64 c11 λi9=>
 asSl a3_0 λn9 cs6=>
 need (inR i7 n9)<|
 unc (List.drop (i7.toNat*1) cs6) λc12 _=>
 asI .i64 c12 λi10=>
 bd (IntKind.i64.wrap ((IntKind.i64.wrap ((IntKind.i64.wrap (i-(Int.fdiv i (2^(min a0_0.toNat (IntKind.bits .i64))))))*i8))+(IntKind.i64.wrap ((Int.fdiv i (2^(min a0_1.toNat (IntKind.bits .i64))))*(IntKind.i64.wrap (i9-i10)))))) λz=>
 need (!(decide (a0_2<0)))<|
 need (inR y1.1 n2)<|
 unc (List.drop (y1.1.toNat*1) a2) λc13 _=>
 asI .i64 c13 λi11=>
 (bif i11==1 then
 asSl c3 λn10 cs7=>
 need (inR i6 n10)<|
 unc (List.drop (i6.toNat*1) cs7) λc14 _=>
 asI .i64 c14 λi12=>
 need (!(i12==0))<|
 asSl a3_0 λn11 cs8=>
 need (inR i6 n11)<|
 unc (List.drop (i6.toNat*1) cs8) λc15 _=>
 asI .i64 c15 λi13=>
 need (((Nat.beq ((y1.2.2.1.1.length/1)*1) y1.2.2.1.1.length)&&true)&&true)<|
 need (((Nat.beq ((y1.2.2.1.2.1.length/1)*1) y1.2.2.1.2.1.length)&&true)&&true)<|
 some (0,(IntKind.i64.wrap ((IntKind.i64.wrap (Int.tdiv i i12))*i13),(y1.2.1.1,y1.2.1.2.1,()),(y1.2.2.1.1,y1.2.2.1.2.1,()),(i6,i7,()),()))
 else
 (bif i11==(-1)then
 asSl c3 λn12 cs9=>
 need (inR i7 n12)<|
 unc (List.drop (i7.toNat*1) cs9) λc16 _=>
 asI .i64 c16 λi14=>
 need (!(i14==0))<|
 asSl a3_0 λn13 cs10=>
 need (inR i7 n13)<|
 unc (List.drop (i7.toNat*1) cs10) λc17 _=>
 asI .i64 c17 λi15=>
 need (((Nat.beq ((y1.2.2.1.1.length/1)*1) y1.2.2.1.1.length)&&true)&&true)<|
 need (((Nat.beq ((y1.2.2.1.2.1.length/1)*1) y1.2.2.1.2.1.length)&&true)&&true)<|
 some (0,(IntKind.i64.wrap (0-(IntKind.i64.wrap ((IntKind.i64.wrap (Int.tdiv i i14))*i15))),(y1.2.1.1,y1.2.1.2.1,()),(y1.2.2.1.1,y1.2.2.1.2.1,()),(i6,i7,()),()))
 else
 need (((Nat.beq ((y1.2.2.1.1.length/1)*1) y1.2.2.1.1.length)&&true)&&true)<|
 need (((Nat.beq ((y1.2.2.1.2.1.length/1)*1) y1.2.2.1.2.1.length)&&true)&&true)<|
 some (0,(Int.fdiv z (2^(min a0_2.toNat (IntKind.bits .i64))),(y1.2.1.1,y1.2.1.2.1,()),(y1.2.2.1.1,y1.2.2.1.2.1,()),(i6,i7,()),())):Option (Nat×Int×(C×C×Unit)×(List C×List C×Unit)×(Int×Int×Unit)×Unit)).bind λp1=>
 need (((Nat.beq ((p1.2.2.2.1.1.length/1)*1) p1.2.2.2.1.1.length)&&true)&&true)<|
 need (((Nat.beq ((p1.2.2.2.1.2.1.length/1)*1) p1.2.2.2.1.2.1.length)&&true)&&true)<|
 some (0,(p1.2.1,(p1.2.2.1.1,p1.2.2.1.2.1,()),(p1.2.2.2.1.1,p1.2.2.2.1.2.1,()),(p1.2.2.2.2.1.1,p1.2.2.2.2.1.2.1,()),())):Option (Nat×Int×(C×C×Unit)×(List C×List C×Unit)×(Int×Int×Unit)×Unit)).bind λp2=>
 need ((((Nat.beq ((p2.2.2.2.1.2.1.length/1)*1) p2.2.2.2.1.2.1.length)&&true)&&(Nat.ble (((p2.2.2.2.1.2.1.length/1)+1)*8) 140737488355328))&&(Nat.ble ((p2.2.2.2.1.2.1.length/1)+1) 140737488355328))<|
 need (inR p2.2.2.2.2.1.1 (p2.2.2.2.1.1.length/1))<|
 unc (List.drop (0+(p2.2.2.2.2.1.1.toNat*1)) p2.2.2.2.1.1) λc18 _=>
 asI .i64 c18 λi16=>
 need (inR p2.2.2.2.2.1.1 (p2.2.2.2.1.1.length/1))<|
 need (((Nat.ble 0 (0+(p2.2.2.2.2.1.1.toNat*1)))&&(Nat.ble ((0+(p2.2.2.2.2.1.1.toNat*1))+1) p2.2.2.2.1.1.length))&&true)<|
 need (inR p2.2.2.2.2.1.2.1 (p2.2.2.2.1.1.length/1))<|
 unc (List.drop (0+(p2.2.2.2.2.1.2.1.toNat*1)) (putAt p2.2.2.2.1.1 (0+(p2.2.2.2.2.1.1.toNat*1)) ([C.v (.int .i64 (IntKind.i64.wrap (i16-p2.2.1)))]))) λc19 _=>
 asI .i64 c19 λi17=>
 need (inR p2.2.2.2.2.1.2.1 (p2.2.2.2.1.1.length/1))<|
 need (((Nat.ble 0 (0+(p2.2.2.2.2.1.2.1.toNat*1)))&&(Nat.ble ((0+(p2.2.2.2.2.1.2.1.toNat*1))+1) ((putAt p2.2.2.2.1.1 (0+(p2.2.2.2.2.1.1.toNat*1)) ([C.v (.int .i64 (IntKind.i64.wrap (i16-p2.2.1)))])).length)))&&true)<|
 bd (putAt (putAt p2.2.2.2.1.1 (0+(p2.2.2.2.2.1.1.toNat*1)) ([C.v (.int .i64 (IntKind.i64.wrap (i16-p2.2.1)))])) (0+(p2.2.2.2.2.1.2.1.toNat*1)) ([C.v (.int .i64 (IntKind.i64.wrap (i17+p2.2.1)))])) λcs11=>
 need (((Nat.beq ((p2.2.2.2.1.1.length/1)*1) cs11.length)&&true)&&true)<|
 need (((Nat.beq (((p2.2.2.2.1.2.1.length/1)+1)*1) ((p2.2.2.2.1.2.1++([C.v (.int .i64 z)])).length))&&true)&&true)<|
 some (0,(IntKind.i64.wrap (y1.1+1),(p2.2.2.1.1,p2.2.2.1.2.1,()),(cs11,p2.2.2.2.1.2.1++([C.v (.int .i64 z)]),()),()))
 else
 need (((Nat.beq ((y1.2.2.1.1.length/1)*1) y1.2.2.1.1.length)&&true)&&true)<|
 need (((Nat.beq ((y1.2.2.1.2.1.length/1)*1) y1.2.2.1.2.1.length)&&true)&&true)<|
 some (1,(y1.1,(y1.2.1.1,y1.2.1.2.1,()),(y1.2.2.1.1,y1.2.2.1.2.1,()),()))) fu (0,(p.2.2.1.1,p.2.2.1.2.1,()),(p.2.2.2.1.1,p.2.2.2.1.2.1,()),())).bind λp3=>
 need (Nat.ble (0+((p3.2.2.2.1.1.length/1)*1)) p3.2.2.2.1.1.length)<|
 need (Nat.ble (0+((p3.2.2.2.1.2.1.length/1)*1)) p3.2.2.2.1.2.1.length)<|
 some ⟨V.tup [V.agg ([C.sl (p3.2.2.2.1.1.length/1) (List.take ((p3.2.2.2.1.1.length/1)*1) p3.2.2.2.1.1),C.sl (p3.2.2.2.1.2.1.length/1) (List.take ((p3.2.2.2.1.2.1.length/1)*1) p3.2.2.2.1.2.1)]),I 0],[],none⟩):=by kernel_rfl
/- synoptic/tangent.Scale -/
theorem eq_tangent_Scale (fu d:Nat) (a0_0:Int) (a0_1:Int) (a0_2:Int):
 cl fu (d+1) fn_tangent_Scale [V.agg ([C.v (.int .i64 a0_0),C.v (.int .i64 a0_1),C.v (.int .i64 a0_2)])] []=(
 (cl fu d fn_flux_CheckScheme [V.agg ([C.v (.int .i64 a0_0),C.v (.int .i64 a0_1),C.v (.int .i64 a0_2)])] []).bind λout=>
 rC out.r λc=>
 asI .i64 c λi=>
 bif i !=0 then
 some ⟨V.tup [I 0,I i],[],none⟩
 else
 need (!(decide (IntKind.i64.wrap ((if a0_1>a0_0 then a0_1 else a0_0)+a0_2)<0)))<|
 bd (IntKind.i64.wrap (30*2^(min (IntKind.i64.wrap ((if a0_1>a0_0 then a0_1 else a0_0)+a0_2)).toNat (IntKind.bits .i64)))) λz=>
 some ⟨V.tup [I z,I 0],[],none⟩):=by kernel_rfl
/- synoptic/synopticlaw32.awake -/
theorem eq_synopticlaw32_awake (fu d:Nat):
 cl fu (d+1) fn_synopticlaw32_awake [] []=(
 (iter (λ(y:Int×(List C×List C×Unit)×Unit)=>
 bif decide (y.1<12)then
 need (inR y.1 (y.2.1.1.length/1))<|
 need (((Nat.ble 0 (0+(y.1.toNat*1)))&&(Nat.ble ((0+(y.1.toNat*1))+1) y.2.1.1.length))&&true)<|
 need (((Nat.beq ((y.2.1.1.length/1)*1) ((putAt y.2.1.1 (0+(y.1.toNat*1)) ([C.v (.int .i64 1)])).length))&&true)&&true)<|
 need (((Nat.beq ((y.2.1.2.1.length/1)*1) y.2.1.2.1.length)&&true)&&true)<|
 some (0,(IntKind.i64.wrap (y.1+1),(putAt y.2.1.1 (0+(y.1.toNat*1)) ([C.v (.int .i64 1)]),y.2.1.2.1,()),()))
 else
 need (((Nat.beq ((y.2.1.1.length/1)*1) y.2.1.1.length)&&true)&&true)<|
 need (((Nat.beq ((y.2.1.2.1.length/1)*1) y.2.1.2.1.length)&&true)&&true)<|
 some (1,(y.1,(y.2.1.1,y.2.1.2.1,()),()))) fu (0,([C.v (.int .i64 0),C.v (.int .i64 0),C.v (.int .i64 0),C.v (.int .i64 0),C.v (.int .i64 0),C.v (.int .i64 0),C.v (.int .i64 0),C.v (.int .i64 0),C.v (.int .i64 0),C.v (.int .i64 0),C.v (.int .i64 0),C.v (.int .i64 0)],[C.v (.int .i64 0),C.v (.int .i64 0),C.v (.int .i64 0),C.v (.int .i64 0),C.v (.int .i64 0),C.v (.int .i64 0),C.v (.int .i64 0),C.v (.int .i64 0),C.v (.int .i64 0),C.v (.int .i64 0),C.v (.int .i64 0),C.v (.int .i64 0),C.v (.int .i64 0),C.v (.int .i64 0),C.v (.int .i64 0),C.v (.int .i64 0),C.v (.int .i64 0),C.v (.int .i64 0),C.v (.int .i64 0),C.v (.int .i64 0),C.v (.int .i64 0),C.v (.int .i64 0),C.v (.int .i64 0),C.v (.int .i64 0),C.v (.int .i64 0),C.v (.int .i64 0),C.v (.int .i64 0),C.v (.int .i64 0),C.v (.int .i64 0),C.v (.int .i64 0)],()),())).bind λp=>
 need (Nat.ble (0+((p.2.2.1.1.length/1)*1)) p.2.2.1.1.length)<|
 need (Nat.ble (0+((p.2.2.1.2.1.length/1)*1)) p.2.2.1.2.1.length)<|
 (cl fu d fn_adjoint_Apply [V.agg ([C.v (.int .i64 1),C.v (.int .i64 1),C.v (.int .i64 1)]),I 1,V.c (C.sl 30 ([C.v (.int .i64 0),C.v (.int .i64 0),C.v (.int .i64 0),C.v (.int .i64 0),C.v (.int .i64 0),C.v (.int .i64 0),C.v (.int .i64 0),C.v (.int .i64 0),C.v (.int .i64 0),C.v (.int .i64 0),C.v (.int .i64 0),C.v (.int .i64 0),C.v (.int .i64 0),C.v (.int .i64 0),C.v (.int .i64 0),C.v (.int .i64 0),C.v (.int .i64 0),C.v (.int .i64 0),C.v (.int .i64 0),C.v (.int .i64 0),C.v (.int .i64 0),C.v (.int .i64 0),C.v (.int .i64 0),C.v (.int .i64 0),C.v (.int .i64 0),C.v (.int .i64 0),C.v (.int .i64 0),C.v (.int .i64 0),C.v (.int .i64 0),C.v (.int .i64 0)])),V.agg ([C.sl (p.2.2.1.1.length/1) (List.take ((p.2.2.1.1.length/1)*1) p.2.2.1.1),C.sl (p.2.2.1.2.1.length/1) (List.take ((p.2.2.1.2.1.length/1)*1) p.2.2.1.2.1)])] []).bind λout=>
 rT out.r λxs=>
 uncV xs λx ys=>
 rA x λcs=>
 need (Nat.beq cs.length 2)<|
 unc cs λc r=>
 unc r λc1 _=>
 uncV ys λx1 ys1=>
 rC x1 λc2=>
 asI .i64 c2 λi=>
 nilV ys1<|
 bif i==0 then
 asSl c λn cs1=>
 bif ((n:Nat):Int)==12 then
 asSl c λn1 cs2=>
 need (inR 5 n1)<|
 unc (List.drop 5 cs2) λc3 _=>
 asI .i64 c3 λi1=>
 bif i1==120 then
 asSl c1 λn2 cs3=>
 need (inR 9 n2)<|
 unc (List.drop 9 cs3) λc4 _=>
 asI .i64 c4 λi2=>
 some ⟨B (i2==0),[],none⟩
 else
 some ⟨B false,[],none⟩
 else
 some ⟨B false,[],none⟩
 else
 some ⟨B false,[],none⟩):=by kernel_rfl
/- synoptic/adjoint.Apply -/
theorem eq_adjoint_Apply (fu d:Nat) (a0_0:Int) (a0_1:Int) (a0_2:Int) (a1:Int) (n2:Nat) (a2:List C) (a3_0:C) (a3_1:C):
 cl fu (d+1) fn_adjoint_Apply [V.agg ([C.v (.int .i64 a0_0),C.v (.int .i64 a0_1),C.v (.int .i64 a0_2)]),I a1,V.c (C.sl n2 a2),V.agg ([a3_0,a3_1])] []=(
 (cl fu d fn_tangent_Scale [V.agg ([C.v (.int .i64 a0_0),C.v (.int .i64 a0_1),C.v (.int .i64 a0_2)])] []).bind λout=>
 rT out.r λxs=>
 uncV xs λx ys=>
 rC x λc=>
 asI .i64 c λi=>
 uncV ys λx1 ys1=>
 rC x1 λc1=>
 asI .i64 c1 λi1=>
 nilV ys1<|
 bif i1 !=0 then
 some ⟨V.tup [V.agg ([C.nl,C.nl]),I i1],[],none⟩
 else
 (cl fu d fn_tangent_Check [I a1,V.c (C.sl n2 a2),V.agg ([a3_0,a3_1])] []).bind λout1=>
 rC out1.r λc2=>
 asI .i64 c2 λi2=>
 bif i2 !=0 then
 some ⟨V.tup [V.agg ([C.nl,C.nl]),I i2],[],none⟩
 else
 (cl fu d fn_flux_Degrees [I a1] []).bind λout2=>
 rT out2.r λxs1=>
 uncV xs1 λx2 ys2=>
 rC x2 λc3=>
 uncV ys2 λx3 ys3=>
 rC x3 λc4=>
 asI .i64 c4 λi3=>
 nilV ys3<|
 bif i3 !=0 then
 some ⟨V.tup [V.agg ([C.nl,C.nl]),I i3],[],none⟩
 else
 (cl fu d fn_grid_Edges [I a1] []).bind λout3=>
 rT out3.r λxs2=>
 uncV xs2 λx4 ys4=>
 rC x4 λc5=>
 uncV ys4 λx5 ys5=>
 rC x5 λc6=>
 asI .i64 c6 λi4=>
 nilV ys5<|
 bif i4 !=0 then
 some ⟨V.tup [V.agg ([C.nl,C.nl]),I i4],[],none⟩
 else
 asSl a3_0 λn cs=>
 (iter (λ(y:Int×(C×C×Unit)×(List C×List C×Unit)×Unit)=>
 bif decide (y.1<((n:Nat):Int))then
 asSl a3_0 λn4 cs1=>
 need (inR y.1 n4)<|
 unc (List.drop (y.1.toNat*1) cs1) λc7 _=>
 asI .i64 c7 λi5=>
 need ((((Nat.beq ((y.2.2.1.1.length/1)*1) y.2.2.1.1.length)&&true)&&(Nat.ble (((y.2.2.1.1.length/1)+1)*8) 140737488355328))&&(Nat.ble ((y.2.2.1.1.length/1)+1) 140737488355328))<|
 need (((Nat.beq (((y.2.2.1.1.length/1)+1)*1) ((y.2.2.1.1++([C.v (.int .i64 (IntKind.i64.wrap (i*i5)))])).length))&&true)&&true)<|
 need (((Nat.beq ((y.2.2.1.2.1.length/1)*1) y.2.2.1.2.1.length)&&true)&&true)<|
 some (0,(IntKind.i64.wrap (y.1+1),(y.2.1.1,y.2.1.2.1,()),(y.2.2.1.1++([C.v (.int .i64 (IntKind.i64.wrap (i*i5)))]),y.2.2.1.2.1,()),()))
 else
 need (((Nat.beq ((y.2.2.1.1.length/1)*1) y.2.2.1.1.length)&&true)&&true)<|
 need (((Nat.beq ((y.2.2.1.2.1.length/1)*1) y.2.2.1.2.1.length)&&true)&&true)<|
 some (1,(y.1,(y.2.1.1,y.2.1.2.1,()),(y.2.2.1.1,y.2.2.1.2.1,()),()))) fu (0,(C.nl,C.nl,()),([],[],()),())).bind λp=>
 asSl c5 λn5 cs2=>
 need (((Nat.beq ((p.2.2.2.1.1.length/1)*1) p.2.2.2.1.1.length)&&true)&&true)<|
 need (((Nat.beq ((p.2.2.2.1.2.1.length/1)*1) p.2.2.2.1.2.1.length)&&true)&&true)<|
 (iter (λ(y1:Int×(C×C×Unit)×(List C×List C×Unit)×Unit)=>
 bif decide (y1.1<((n5:Nat):Int))then
 asSl c5 λn6 cs3=>
 need (inR y1.1 n6)<|
 unc (List.drop (y1.1.toNat*2) cs3) λc8 r1=>
 asI .i64 c8 λi6=>
 unc r1 λc9 _=>
 asI .i64 c9 λi7=>
 need (inR y1.1 n2)<|
 unc (List.drop (y1.1.toNat*1) a2) λc10 _=>
 asI .i64 c10 λi8=>
 (cl fu d fn_adjoint_link_flow [V.agg ([C.v (.int .i64 i6),C.v (.int .i64 i7),C.v (.int .i64 a0_0),C.v (.int .i64 a0_1),C.v (.int .i64 a0_2),C.v (.int .i64 i),C.v (.int .i64 i8),c3]),V.agg ([a3_0,a3_1]),I y1.1] []).bind λout4=>
 rC out4.r λc11=>
 asI .i64 c11 λi9=>
 need ((((Nat.beq ((y1.2.2.1.2.1.length/1)*1) y1.2.2.1.2.1.length)&&true)&&(Nat.ble (((y1.2.2.1.2.1.length/1)+1)*8) 140737488355328))&&(Nat.ble ((y1.2.2.1.2.1.length/1)+1) 140737488355328))<|
 (cl fu d fn_adjoint_link_depth [V.agg ([C.v (.int .i64 i6),C.v (.int .i64 i7),C.v (.int .i64 a0_0),C.v (.int .i64 a0_1),C.v (.int .i64 a0_2),C.v (.int .i64 i),C.v (.int .i64 i8),c3]),V.own 1000000 0 (y1.2.2.1.1.length/1),V.agg ([a3_0,a3_1]),I y1.1] [.sb ty_int 0 y1.2.2.1.1]).bind λout5=>
 uncO out5.objs λo os=>
 rS o ty_int 0 λcs4=>
 need (Nat.beq cs4.length y1.2.2.1.1.length)<|
 need (((Nat.beq ((y1.2.2.1.1.length/1)*1) cs4.length)&&true)&&true)<|
 need (((Nat.beq (((y1.2.2.1.2.1.length/1)+1)*1) ((y1.2.2.1.2.1++([C.v (.int .i64 i9)])).length))&&true)&&true)<|
 some (0,(IntKind.i64.wrap (y1.1+1),(y1.2.1.1,y1.2.1.2.1,()),(cs4,y1.2.2.1.2.1++([C.v (.int .i64 i9)]),()),()))
 else
 need (((Nat.beq ((y1.2.2.1.1.length/1)*1) y1.2.2.1.1.length)&&true)&&true)<|
 need (((Nat.beq ((y1.2.2.1.2.1.length/1)*1) y1.2.2.1.2.1.length)&&true)&&true)<|
 some (1,(y1.1,(y1.2.1.1,y1.2.1.2.1,()),(y1.2.2.1.1,y1.2.2.1.2.1,()),()))) fu (0,(p.2.2.1.1,p.2.2.1.2.1,()),(p.2.2.2.1.1,p.2.2.2.1.2.1,()),())).bind λp1=>
 need (Nat.ble (0+((p1.2.2.2.1.1.length/1)*1)) p1.2.2.2.1.1.length)<|
 need (Nat.ble (0+((p1.2.2.2.1.2.1.length/1)*1)) p1.2.2.2.1.2.1.length)<|
 some ⟨V.tup [V.agg ([C.sl (p1.2.2.2.1.1.length/1) (List.take ((p1.2.2.2.1.1.length/1)*1) p1.2.2.2.1.1),C.sl (p1.2.2.2.1.2.1.length/1) (List.take ((p1.2.2.2.1.2.1.length/1)*1) p1.2.2.2.1.2.1)]),I 0],[],none⟩):=by kernel_rfl
/- (*synoptic/synopticfield.Codes).Next -/
theorem eq_synopticfield_Codes_Next (fu d:Nat) (a0_0:C) (a0_1:Int) (a1:Int):
 cl fu (d+1) fn_synopticfield_Codes_Next [V.ptr 1000000 0,I a1] [.ob ty_synopticfield_Codes 0 ([a0_0,C.v (.int .i64 a0_1)])]=(
 (cl fu d fn_synopticfield_Codes_Left [V.ptr 1000000 0] [.ob ty_synopticfield_Codes 0 ([a0_0,C.v (.int .i64 a0_1)])]).bind λout=>
 uncO out.objs λo os=>
 rO o ty_synopticfield_Codes 0 λcs=>
 need ((Nat.beq cs.length 2)&&true)<|
 unc cs λc r=>
 unc r λc1 _=>
 asI .i64 c1 λi=>
 rC out.r λc2=>
 asB c2 λb=>
 bif !b then
 some ⟨I 0,[.ob ty_synopticfield_Codes 0 ([c,C.v (.int .i64 i)])],none⟩
 else
 bif decide (a1<1)then
 some ⟨I 0,[.ob ty_synopticfield_Codes 0 ([c,C.v (.int .i64 i)])],none⟩
 else
 asSl c λn cs1=>
 need (inR (IntKind.i64.wrap ((IntKind.i64.wrap (i+1))-1)) n)<|
 unc (List.drop (((IntKind.i64.wrap ((IntKind.i64.wrap (i+1))-1)).toNat)*1) cs1) λc3 _=>
 asI .u8 c3 λi1=>
 need (!(a1==0))<|
 some ⟨I (Int.tmod (IntKind.i64.wrap i1) a1),[.ob ty_synopticfield_Codes 0 ([c,C.v (.int .i64 (IntKind.i64.wrap (i+1)))])],none⟩):=by kernel_rfl
/- synoptic/adjoint.Compose -/
theorem eq_adjoint_Compose (fu d:Nat) (a0_0:Int) (a0_1:Int) (a0_2:Int) (a1:Int) (n2:Nat) (a2:List C) (a3_0:C) (a3_1:C):
 cl fu (d+1) fn_adjoint_Compose [V.agg ([C.v (.int .i64 a0_0),C.v (.int .i64 a0_1),C.v (.int .i64 a0_2)]),I a1,V.c (C.sl n2 a2),V.agg ([a3_0,a3_1])] []=(
 need (noYl [V.c (nrm a3_0)])<|
 (cl fu d fn_slices_Clone_sint_int [V.c (nrm a3_0)] []).bind λout=>
 rW out.r 0 λn=>
 uncO out.objs λo os=>
 rS o ty_int 0 λcs=>
 need ((Nat.beq (n*1) cs.length)&&true)<|
 need (noYl [V.c (nrm a3_1)])<|
 (cl fu d fn_slices_Clone_sint_int [V.c (nrm a3_1)] []).bind λout1=>
 rW out1.r 0 λn4=>
 uncO out1.objs λo1 os1=>
 rS o1 ty_int 0 λcs1=>
 need ((Nat.beq (n4*1) cs1.length)&&true)<|
 need (Nat.ble (0+(n*1)) cs.length)<|
 need (Nat.ble (0+(n4*1)) cs1.length)<|
 (cl fu d fn_slices_Backward_sapi_Branch_api_Branch [V.c (C.sl n2 a2)] []).bind λout2=>
 rC out2.r λc=>
 asFn c λf cs2=>
 (prim.iter d f cs2).bind λxs=>
 (overK (λit (y:(C×C×Unit)×(Int×Unit)×(C×C×Unit)×Unit)=>
 uncV it λx r=>
 rC x λc1=>
 asI .i64 c1 λi=>
 uncV r λx1 r1=>
 rC x1 λc2=>
 nilV r1<|
 (cl fu d fn_adjoint_Apply [V.agg ([C.v (.int .i64 a0_0),C.v (.int .i64 a0_1),C.v (.int .i64 a0_2)]),I a1,V.c (nrm c2),V.agg ([y.2.2.1.1,y.2.2.1.2.1])] []).bind λout3=>
 rT out3.r λxs1=>
 uncV xs1 λx2 ys=>
 rA x2 λcs3=>
 need (Nat.beq cs3.length 2)<|
 unc cs3 λc3 r2=>
 unc r2 λc4 _=>
 uncV ys λx3 ys1=>
 rC x3 λc5=>
 asI .i64 c5 λi1=>
 nilV ys1<|
 bif i1 !=0 then
 some (1,((C.nl,C.nl,()),(i1,()),(c3,c4,()),()))
 else
 some (0,((y.1.1,y.1.2.1,()),(y.2.1.1,()),(c3,c4,()),()))) xs ((C.nl,C.nl,()),(0,()),(C.sl n (List.take (n*1) cs),C.sl n4 (List.take (n4*1) cs1),()),())).bind λp=>
 natD p.1 (
 some ⟨V.tup [V.agg ([p.2.2.2.1.1,p.2.2.2.1.2.1]),I 0],[],none⟩) λm=>
 some ⟨V.tup [V.agg ([p.2.1.1,p.2.1.2.1]),I p.2.2.1.1],[],none⟩):=by kernel_rfl
/- (*synoptic/synopticfield.Codes).State -/
theorem eq_synopticfield_Codes_State (fu d:Nat) (a0_0:C) (a0_1:Int) (a1:Int):
 cl fu (d+1) fn_synopticfield_Codes_State [V.ptr 1000000 0,I a1] [.ob ty_synopticfield_Codes 0 ([a0_0,C.v (.int .i64 a0_1)])]=(
 (cl fu d fn_synopticref03_Edges [I a1] []).bind λout=>
 rT out.r λxs=>
 uncV xs λx ys=>
 rC x λc=>
 uncV ys λx1 ys1=>
 rC x1 λc1=>
 asI .i64 c1 λi=>
 nilV ys1<|
 asSl c λn cs=>
 (cl fu d fn_synopticfield_Codes_Next [V.ptr 1000000 0,I 4] [.ob ty_synopticfield_Codes 0 ([a0_0,C.v (.int .i64 a0_1)])]).bind λout1=>
 uncO out1.objs λo os=>
 rO o ty_synopticfield_Codes 0 λcs1=>
 need ((Nat.beq cs1.length 2)&&true)<|
 unc cs1 λc2 r=>
 unc r λc3 _=>
 asI .i64 c3 λi1=>
 rC out1.r λc4=>
 asI .i64 c4 λi2=>
 need (inR i2 4)<|
 unc (List.drop (i2.toNat*1) ([C.v (.int .i64 0),C.v (.int .i64 30),C.v (.int .i64 5000),C.v (.int .i64 1000000)])) λc5 _=>
 asI .i64 c5 λi3=>
 (cl fu d fn_synopticfield_Codes_Vector [V.ptr 1000000 0,I ((n:Nat):Int),I i3] [.ob ty_synopticfield_Codes 0 ([c2,C.v (.int .i64 i1)])]).bind λout2=>
 uncO out2.objs λo1 os1=>
 rO o1 ty_synopticfield_Codes 0 λcs2=>
 need ((Nat.beq cs2.length 2)&&true)<|
 unc cs2 λc6 r3=>
 unc r3 λc7 _=>
 asI .i64 c7 λi4=>
 rC out2.r λc8=>
 (cl fu d fn_synopticfield_Codes_Next [V.ptr 1000000 0,I 4] [.ob ty_synopticfield_Codes 0 ([c6,C.v (.int .i64 i4)])]).bind λout3=>
 uncO out3.objs λo2 os2=>
 rO o2 ty_synopticfield_Codes 0 λcs3=>
 need ((Nat.beq cs3.length 2)&&true)<|
 unc cs3 λc9 r5=>
 unc r5 λc10 _=>
 asI .i64 c10 λi5=>
 rC out3.r λc11=>
 asI .i64 c11 λi6=>
 need (inR i6 4)<|
 unc (List.drop (i6.toNat*1) ([C.v (.int .i64 0),C.v (.int .i64 40),C.v (.int .i64 100000),C.v (.int .i64 2500000)])) λc12 _=>
 asI .i64 c12 λi7=>
 (cl fu d fn_synopticfield_Codes_Next [V.ptr 1000000 0,I 3] [.ob ty_synopticfield_Codes 0 ([c9,C.v (.int .i64 i5)])]).bind λout4=>
 uncO out4.objs λo3 os3=>
 rO o3 ty_synopticfield_Codes 0 λcs4=>
 need ((Nat.beq cs4.length 2)&&true)<|
 unc cs4 λc13 r8=>
 unc r8 λc14 _=>
 asI .i64 c14 λi8=>
 rC out4.r λc15=>
 asI .i64 c15 λi9=>
 need (inR i9 3)<|
 unc (List.drop (i9.toNat*1) ([C.v (.int .i64 0),C.v (.int .i64 30),C.v (.int .i64 90000)])) λc16 _=>
 asI .i64 c16 λi10=>
 (cl fu d fn_synopticref22_Nodes [I a1] []).bind λout5=>
 rC out5.r λc17=>
 asI .i64 c17 λi11=>
 (cl fu d fn_synopticfield_Codes_Vector [V.ptr 1000000 0,I i11,I i10] [.ob ty_synopticfield_Codes 0 ([c13,C.v (.int .i64 i8)])]).bind λout6=>
 uncO out6.objs λo4 os4=>
 rO o4 ty_synopticfield_Codes 0 λcs5=>
 need ((Nat.beq cs5.length 2)&&true)<|
 unc cs5 λc18 r11=>
 unc r11 λc19 _=>
 asI .i64 c19 λi12=>
 rC out6.r λc20=>
 asSl c20 λn2 cs6=>
 (iter (λ(y:Int×(Int×C×C×Unit)×(Int×List C×C×Unit)×(C×Int×Unit)×Unit)=>
 bif decide (y.1<((n2:Nat):Int))then
 asSl c20 λn3 cs7=>
 need (inR y.1 n3)<|
 unc (List.drop (y.1.toNat*1) cs7) λc21 _=>
 asI .i64 c21 λi13=>
 (cl fu d fn_synopticref28_Clip [I (IntKind.i64.wrap (i7+i13)),I 0,I 16777216] []).bind λout7=>
 rC out7.r λc22=>
 asI .i64 c22 λi14=>
 need ((((Nat.beq ((y.2.2.1.2.1.length/1)*1) y.2.2.1.2.1.length)&&true)&&(Nat.ble (((y.2.2.1.2.1.length/1)+1)*8) 140737488355328))&&(Nat.ble ((y.2.2.1.2.1.length/1)+1) 140737488355328))<|
 need (((Nat.beq (((y.2.2.1.2.1.length/1)+1)*1) ((y.2.2.1.2.1++([C.v (.int .i64 i14)])).length))&&true)&&true)<|
 some (0,(IntKind.i64.wrap (y.1+1),(y.2.1.1,y.2.1.2.1,y.2.1.2.2.1,()),(y.2.2.1.1,y.2.2.1.2.1++([C.v (.int .i64 i14)]),y.2.2.1.2.2.1,()),(y.2.2.2.1.1,y.2.2.2.1.2.1,()),()))
 else
 need (((Nat.beq ((y.2.2.1.2.1.length/1)*1) y.2.2.1.2.1.length)&&true)&&true)<|
 some (1,(y.1,(y.2.1.1,y.2.1.2.1,y.2.1.2.2.1,()),(y.2.2.1.1,y.2.2.1.2.1,y.2.2.1.2.2.1,()),(y.2.2.2.1.1,y.2.2.2.1.2.1,()),()))) fu (0,(0,C.nl,C.nl,()),(a1,[],c8,()),(c18,i12,()),())).bind λp=>
 need (Nat.ble (0+((p.2.2.2.1.2.1.length/1)*1)) p.2.2.2.1.2.1.length)<|
 some ⟨V.agg ([C.v (.int .i64 p.2.2.2.1.1),C.sl (p.2.2.2.1.2.1.length/1) (List.take ((p.2.2.2.1.2.1.length/1)*1) p.2.2.2.1.2.1),p.2.2.2.1.2.2.1]),[.ob ty_synopticfield_Codes 0 ([p.2.2.2.2.1.1,C.v (.int .i64 p.2.2.2.2.1.2.1)])],none⟩):=by kernel_rfl
/- synoptic/tangent.Check -/
theorem eq_tangent_Check (fu d:Nat) (a0:Int) (n1:Nat) (a1:List C) (a2_0:C) (a2_1:C):
 cl fu (d+1) fn_tangent_Check [I a0,V.c (C.sl n1 a1),V.agg ([a2_0,a2_1])] []=(
 (cl fu d fn_grid_Edges [I a0] []).bind λout=>
 rT out.r λxs=>
 uncV xs λx ys=>
 rC x λc=>
 uncV ys λx1 ys1=>
 rC x1 λc1=>
 asI .i64 c1 λi=>
 nilV ys1<|
 bif i !=0 then
 some ⟨I 1,[],none⟩
 else
 asSl a2_0 λn cs=>
 (cl fu d fn_grid_Count [I a0] []).bind λout1=>
 rC out1.r λc2=>
 asI .i64 c2 λi1=>
 bif ((n:Nat):Int) !=i1 then
 some ⟨I 1,[],none⟩
 else
 asSl a2_1 λn3 cs1=>
 asSl c λn4 cs2=>
 bif ((n3:Nat):Int) !=((n4:Nat):Int)then
 some ⟨I 1,[],none⟩
 else
 asSl c λn5 cs3=>
 bif ((n1:Nat):Int) !=((n5:Nat):Int)then
 some ⟨I 1,[],none⟩
 else
 (cl fu d fn_tangent_outside [V.c (C.sl n1 a1),I 1] []).bind λout2=>
 rC out2.r λc3=>
 asB c3 λb=>
 bif b then
 some ⟨I 1,[],none⟩
 else
 need (noYl [V.c (nrm a2_0)])<|
 (cl fu d fn_tangent_outside [V.c (nrm a2_0),I 1099511627776] []).bind λout3=>
 rC out3.r λc4=>
 asB c4 λb1=>
 bif b1 then
 some ⟨I 1,[],none⟩
 else
 need (noYl [V.c (nrm a2_1)])<|
 (cl fu d fn_tangent_outside [V.c (nrm a2_1),I 1099511627776] []).bind λout4=>
 rC out4.r λc5=>
 asB c5 λb2=>
 bif b2 then
 some ⟨I 1,[],none⟩
 else
 some ⟨I 0,[],none⟩):=by kernel_rfl
/- synoptic/tangent.Compose -/
theorem eq_tangent_Compose (fu d:Nat) (a0_0:Int) (a0_1:Int) (a0_2:Int) (a1:Int) (n2:Nat) (a2:List C) (a3_0:C) (a3_1:C):
 cl fu (d+1) fn_tangent_Compose [V.agg ([C.v (.int .i64 a0_0),C.v (.int .i64 a0_1),C.v (.int .i64 a0_2)]),I a1,V.c (C.sl n2 a2),V.agg ([a3_0,a3_1])] []=(
 need (noYl [V.c (nrm a3_0)])<|
 (cl fu d fn_slices_Clone_sint_int [V.c (nrm a3_0)] []).bind λout=>
 rW out.r 0 λn=>
 uncO out.objs λo os=>
 rS o ty_int 0 λcs=>
 need ((Nat.beq (n*1) cs.length)&&true)<|
 need (noYl [V.c (nrm a3_1)])<|
 (cl fu d fn_slices_Clone_sint_int [V.c (nrm a3_1)] []).bind λout1=>
 rW out1.r 0 λn4=>
 uncO out1.objs λo1 os1=>
 rS o1 ty_int 0 λcs1=>
 need ((Nat.beq (n4*1) cs1.length)&&true)<|
 need (Nat.ble (0+(n*1)) cs.length)<|
 need (Nat.ble (0+(n4*1)) cs1.length)<|
 (cl fu d fn_tangent_fold_api_Change_api_Branch [V.c (C.sl n2 a2),V.agg ([C.sl n (List.take (n*1) cs),C.sl n4 (List.take (n4*1) cs1)]),V.c (C.fn fn_tangent_Compose_1 ([C.cp ([C.v (.int .i64 a0_0),C.v (.int .i64 a0_1),C.v (.int .i64 a0_2)]),C.cp ([C.v (.int .i64 a1)])]))] []).bind λout2=>
 rT out2.r λxs=>
 uncV xs λx ys=>
 rA x λcs2=>
 need (Nat.beq cs2.length 2)<|
 unc cs2 λc r=>
 unc r λc1 _=>
 uncV ys λx1 ys1=>
 rC x1 λc2=>
 asI .i64 c2 λi=>
 nilV ys1<|
 some ⟨V.tup [V.agg ([c,c1]),I i],[],none⟩):=by kernel_rfl
/- synoptic/tangent.Dot -/
theorem eq_tangent_Dot (fu d:Nat) (a0_0:C) (a0_1:C) (a1_0:C) (a1_1:C):
 cl fu (d+1) fn_tangent_Dot [V.agg ([a0_0,a0_1]),V.agg ([a1_0,a1_1])] []=(
 need (noYl [V.c (nrm a0_0)])<|
 (cl fu d fn_precision_Dot [V.c (nrm a0_0),V.c (nrm a1_0)] []).bind λout=>
 rT out.r λxs=>
 uncV xs λx ys=>
 rA x λcs=>
 need (Nat.beq cs.length 2)<|
 unc cs λc r=>
 asI .i64 c λi=>
 unc r λc1 _=>
 asI .u64 c1 λi1=>
 uncV ys λx1 ys1=>
 rC x1 λc2=>
 asI .i64 c2 λi2=>
 nilV ys1<|
 bif i2 !=0 then
 some ⟨V.tup [V.agg ([C.v (.int .i64 0),C.v (.int .u64 0)]),I i2],[],none⟩
 else
 need (noYl [V.c (nrm a0_1)])<|
 (cl fu d fn_precision_Dot [V.c (nrm a0_1),V.c (nrm a1_1)] []).bind λout1=>
 rT out1.r λxs1=>
 uncV xs1 λx2 ys2=>
 rA x2 λcs1=>
 need (Nat.beq cs1.length 2)<|
 unc cs1 λc3 r2=>
 asI .i64 c3 λi3=>
 unc r2 λc4 _=>
 asI .u64 c4 λi4=>
 uncV ys2 λx3 ys3=>
 rC x3 λc5=>
 asI .i64 c5 λi5=>
 nilV ys3<|
 bif i5 !=0 then
 some ⟨V.tup [V.agg ([C.v (.int .i64 0),C.v (.int .u64 0)]),I i5],[],none⟩
 else
 (cl fu d fn_precision_Add [V.agg ([C.v (.int .i64 i),C.v (.int .u64 i1)]),V.agg ([C.v (.int .i64 i3),C.v (.int .u64 i4)])] []).bind λout2=>
 rA out2.r λcs2=>
 need (Nat.beq cs2.length 2)<|
 unc cs2 λc6 r4=>
 asI .i64 c6 λi6=>
 unc r4 λc7 _=>
 asI .u64 c7 λi7=>
 some ⟨V.tup [V.agg ([C.v (.int .i64 i6),C.v (.int .u64 i7)]),I 0],[],none⟩):=by kernel_rfl
/- synoptic/model.Step -/
theorem eq_model_Step (fu d:Nat) (a0_0:Int) (a0_1:Int) (a0_2:Int) (a1_0:Int) (a1_1:C) (a1_2:C):
 cl fu (d+1) fn_model_Step [V.agg ([C.v (.int .i64 a0_0),C.v (.int .i64 a0_1),C.v (.int .i64 a0_2)]),V.agg ([C.v (.int .i64 a1_0),a1_1,a1_2])] []=(
 (cl fu d fn_model_accelerate [V.agg ([C.v (.int .i64 a0_0),C.v (.int .i64 a0_1),C.v (.int .i64 a0_2)])] []).bind λout=>
 rC out.r λc=>
 (cl fu d fn_model_move [V.agg ([C.v (.int .i64 a0_0),C.v (.int .i64 a0_1),C.v (.int .i64 a0_2)])] []).bind λout1=>
 rC out1.r λc1=>
 (cl fu d fn_model_chain_model_progress_do [V.c (C.sl 2 ([c,c1])),V.agg ([C.v (.int .i64 a1_0),a1_1,a1_2,C.nl])] []).bind λout2=>
 rT out2.r λxs=>
 uncV xs λx ys=>
 rA x λcs=>
 need (Nat.beq cs.length 4)<|
 unc cs λc2 r=>
 asI .i64 c2 λi=>
 unc r λc3 r1=>
 unc r1 λc4 r2=>
 unc r2 λc5 _=>
 uncV ys λx1 ys1=>
 rC x1 λc6=>
 asI .i64 c6 λi1=>
 nilV ys1<|
 some ⟨V.tup [V.agg ([C.v (.int .i64 i),c3,c4]),V.c c5,I i1],[],none⟩):=by kernel_rfl
/- synoptic/synopticref03.Edges -/
theorem eq_synopticref03_Edges (fu d:Nat) (a0:Int):
 cl fu (d+1) fn_synopticref03_Edges [I a0] []=(
 (cl fu d fn_synopticref03_Count [I a0] []).bind λout=>
 rC out.r λc=>
 asI .i64 c λi=>
 bif i==0 then
 some ⟨V.tup [V.c C.nl,I 1],[],none⟩
 else
 (cl fu d fn_synopticref03_around [I a0] []).bind λout1=>
 rC out1.r λc1=>
 (iter (λ(y:List C×Int×Unit)=>
 asSl c1 λn cs=>
 bif decide (y.2.1<((n:Nat):Int))then
 asSl c1 λn1 cs1=>
 need (inR y.2.1 n1)<|
 unc (List.drop (y.2.1.toNat*1) cs1) λc2 _=>
 asSl c2 λn2 cs2=>
 need (((Nat.beq ((y.1.length/2)*2) y.1.length)&&true)&&true)<|
 (iter (λ(y1:List C×Int×Unit)=>
 bif decide (y1.2.1<((n2:Nat):Int))then
 asSl c2 λn3 cs3=>
 need (inR y1.2.1 n3)<|
 unc (List.drop (y1.2.1.toNat*1) cs3) λc3 _=>
 asI .i64 c3 λi1=>
 bif decide (y.2.1<i1)then
 need ((((Nat.beq ((y1.1.length/2)*2) y1.1.length)&&true)&&(Nat.ble (((y1.1.length/2)+1)*16) 140737488355328))&&(Nat.ble ((y1.1.length/2)+1) 140737488355328))<|
 need (((Nat.beq (((y1.1.length/2)+1)*2) ((y1.1++([C.v (.int .i64 y.2.1),C.v (.int .i64 i1)])).length))&&true)&&true)<|
 some (0,(y1.1++([C.v (.int .i64 y.2.1),C.v (.int .i64 i1)]),IntKind.i64.wrap (y1.2.1+1),()))
 else
 need (((Nat.beq ((y1.1.length/2)*2) y1.1.length)&&true)&&true)<|
 some (0,(y1.1,IntKind.i64.wrap (y1.2.1+1),()))
 else
 need (((Nat.beq ((y1.1.length/2)*2) y1.1.length)&&true)&&true)<|
 some (1,(y1.1,y1.2.1,()))) fu (y.1,0,())).bind λp=>
 need (((Nat.beq ((p.2.1.length/2)*2) p.2.1.length)&&true)&&true)<|
 some (0,(p.2.1,IntKind.i64.wrap (y.2.1+1),()))
 else
 need (((Nat.beq ((y.1.length/2)*2) y.1.length)&&true)&&true)<|
 some (1,(y.1,y.2.1,()))) fu ([],0,())).bind λp1=>
 need (Nat.ble (0+((p1.2.1.length/2)*2)) p1.2.1.length)<|
 some ⟨V.tup [V.c (C.sl (p1.2.1.length/2) (List.take ((p1.2.1.length/2)*2) p1.2.1)),I 0],[],none⟩):=by kernel_rfl
/- (*synoptic/synopticfield.Codes).Vector -/
theorem eq_synopticfield_Codes_Vector (fu d:Nat) (a0_0:C) (a0_1:Int) (a1:Int) (a2:Int):
 cl fu (d+1) fn_synopticfield_Codes_Vector [V.ptr 1000000 0,I a1,I a2] [.ob ty_synopticfield_Codes 0 ([a0_0,C.v (.int .i64 a0_1)])]=(
 (cl fu d fn_synopticfield_Codes_Signed [V.ptr 1000000 0,I a2] [.ob ty_synopticfield_Codes 0 ([a0_0,C.v (.int .i64 a0_1)])]).bind λout=>
 uncO out.objs λo os=>
 rO o ty_synopticfield_Codes 0 λcs=>
 need ((Nat.beq cs.length 2)&&true)<|
 unc cs λc r=>
 unc r λc1 _=>
 asI .i64 c1 λi=>
 rC out.r λc2=>
 asI .i64 c2 λi1=>
 (cl fu d fn_synopticfield_Codes_Signed [V.ptr 1000000 0,I a2] [.ob ty_synopticfield_Codes 0 ([c,C.v (.int .i64 i)])]).bind λout1=>
 uncO out1.objs λo1 os1=>
 rO o1 ty_synopticfield_Codes 0 λcs1=>
 need ((Nat.beq cs1.length 2)&&true)<|
 unc cs1 λc3 r2=>
 unc r2 λc4 _=>
 asI .i64 c4 λi2=>
 rC out1.r λc5=>
 asI .i64 c5 λi3=>
 (cl fu d fn_synopticfield_Codes_Signed [V.ptr 1000000 0,I a2] [.ob ty_synopticfield_Codes 0 ([c3,C.v (.int .i64 i2)])]).bind λout2=>
 uncO out2.objs λo2 os2=>
 rO o2 ty_synopticfield_Codes 0 λcs2=>
 need ((Nat.beq cs2.length 2)&&true)<|
 unc cs2 λc6 r4=>
 unc r4 λc7 _=>
 asI .i64 c7 λi4=>
 rC out2.r λc8=>
 asI .i64 c8 λi5=>
 (cl fu d fn_synopticfield_Codes_Signed [V.ptr 1000000 0,I 9] [.ob ty_synopticfield_Codes 0 ([c6,C.v (.int .i64 i4)])]).bind λout3=>
 uncO out3.objs λo3 os3=>
 rO o3 ty_synopticfield_Codes 0 λcs3=>
 need ((Nat.beq cs3.length 2)&&true)<|
 unc cs3 λc9 r6=>
 unc r6 λc10 _=>
 asI .i64 c10 λi6=>
 rC out3.r λc11=>
 asI .i64 c11 λi7=>
 (iter (λ(y:List C×Int×(C×Int×Unit)×Unit)=>
 bif decide (y.2.1<a1)then
 (cl fu d fn_synopticfield_Codes_Next [V.ptr 1000000 0,I 7] [.ob ty_synopticfield_Codes 0 ([y.2.2.1.1,C.v (.int .i64 y.2.2.1.2.1)])]).bind λout4=>
 uncO out4.objs λo4 os4=>
 rO o4 ty_synopticfield_Codes 0 λcs4=>
 need ((Nat.beq cs4.length 2)&&true)<|
 unc cs4 λc12 r8=>
 unc r8 λc13 _=>
 asI .i64 c13 λi8=>
 rC out4.r λc14=>
 asI .i64 c14 λi9=>
 need (inR i9 7)<|
 unc (List.drop (i9.toNat*1) ([C.v (.int .i64 i1),C.v (.int .i64 i3),C.v (.int .i64 i5),C.v (.int .i64 i7),C.v (.int .i64 0),C.v (.int .i64 a2),C.v (.int .i64 (IntKind.i64.wrap (0-a2)))])) λc15 _=>
 asI .i64 c15 λi10=>
 need ((((Nat.beq ((y.1.length/1)*1) y.1.length)&&true)&&(Nat.ble (((y.1.length/1)+1)*8) 140737488355328))&&(Nat.ble ((y.1.length/1)+1) 140737488355328))<|
 need (((Nat.beq (((y.1.length/1)+1)*1) ((y.1++([C.v (.int .i64 i10)])).length))&&true)&&true)<|
 some (0,(y.1++([C.v (.int .i64 i10)]),IntKind.i64.wrap (y.2.1+1),(c12,i8,()),()))
 else
 need (((Nat.beq ((y.1.length/1)*1) y.1.length)&&true)&&true)<|
 some (1,(y.1,y.2.1,(y.2.2.1.1,y.2.2.1.2.1,()),()))) fu ([],0,(c9,i6,()),())).bind λp=>
 need (Nat.ble (0+((p.2.1.length/1)*1)) p.2.1.length)<|
 some ⟨V.c (C.sl (p.2.1.length/1) (List.take ((p.2.1.length/1)*1) p.2.1)),[.ob ty_synopticfield_Codes 0 ([p.2.2.2.1.1,C.v (.int .i64 p.2.2.2.1.2.1)])],none⟩):=by kernel_rfl
/- synoptic/synopticref22.Nodes -/
theorem eq_synopticref22_Nodes (fu d:Nat) (a0:Int):
 cl fu (d+1) fn_synopticref22_Nodes [I a0] []=(
 some ⟨I (IntKind.i64.wrap ((IntKind.i64.wrap ((IntKind.i64.wrap (10*a0))*a0))+2)),[],none⟩):=by kernel_rfl
/- synoptic/flux.Degrees -/
theorem eq_flux_Degrees (fu d:Nat) (a0:Int):
 cl fu (d+1) fn_flux_Degrees [I a0] []=(
 (cl fu d fn_flux_within [I a0,I 1,I 8] []).bind λout=>
 rC out.r λc=>
 asB c λb=>
 bif !b then
 some ⟨V.tup [V.c C.nl,I 1],[],none⟩
 else
 (cl fu d fn_grid_Count [I a0] []).bind λout1=>
 rC out1.r λc1=>
 asI .i64 c1 λi=>
 need (((((decide (0≤i))&&(decide (i≤i)))&&(decide ((8:Int)*i≤140737488355328)))&&(decide (i≤140737488355328)))&&true)<|
 (cl fu d fn_flux_edges [I a0] []).bind λout2=>
 rC out2.r λc2=>
 asFn c2 λf cs=>
 (prim.iter d f cs).bind λxs=>
 need (((Nat.beq (i.toNat*1) ((reps i.toNat ([C.v (.int .i64 0)])).length))&&true)&&true)<|
 (overK (λit (y:(List C×Unit)×Unit)=>
 uncV it λx r=>
 rC x λc3=>
 asI .i64 c3 λi1=>
 uncV r λx1 r1=>
 rA x1 λcs1=>
 need (Nat.beq cs1.length 2)<|
 unc cs1 λc4 r2=>
 asI .i64 c4 λi2=>
 unc r2 λc5 _=>
 asI .i64 c5 λi3=>
 nilV r1<|
 need (inR i2 (y.1.1.length/1))<|
 unc (List.drop (0+(i2.toNat*1)) y.1.1) λc6 _=>
 asI .i64 c6 λi4=>
 need (inR i2 (y.1.1.length/1))<|
 need (((Nat.ble 0 (0+(i2.toNat*1)))&&(Nat.ble ((0+(i2.toNat*1))+1) y.1.1.length))&&true)<|
 need (inR i3 (y.1.1.length/1))<|
 unc (List.drop (0+(i3.toNat*1)) (putAt y.1.1 (0+(i2.toNat*1)) ([C.v (.int .i64 (IntKind.i64.wrap (i4+1)))]))) λc7 _=>
 asI .i64 c7 λi5=>
 need (inR i3 (y.1.1.length/1))<|
 need (((Nat.ble 0 (0+(i3.toNat*1)))&&(Nat.ble ((0+(i3.toNat*1))+1) ((putAt y.1.1 (0+(i2.toNat*1)) ([C.v (.int .i64 (IntKind.i64.wrap (i4+1)))])).length)))&&true)<|
 bd (putAt (putAt y.1.1 (0+(i2.toNat*1)) ([C.v (.int .i64 (IntKind.i64.wrap (i4+1)))])) (0+(i3.toNat*1)) ([C.v (.int .i64 (IntKind.i64.wrap (i5+1)))])) λcs2=>
 need (((Nat.beq ((y.1.1.length/1)*1) cs2.length)&&true)&&true)<|
 some (0,((cs2,()),()))) xs ((reps i.toNat ([C.v (.int .i64 0)]),()),())).bind λp=>
 need (Nat.ble (0+((p.2.1.1.length/1)*1)) p.2.1.1.length)<|
 some ⟨V.tup [V.c (C.sl (p.2.1.1.length/1) (List.take ((p.2.1.1.length/1)*1) p.2.1.1)),I 0],[],none⟩):=by kernel_rfl
/- synoptic/grid.Edges -/
theorem eq_grid_Edges (fu d:Nat) (a0:Int):
 cl fu (d+1) fn_grid_Edges [I a0] []=(
 (cl fu d fn_mesh_Frequency [I a0] []).bind λout=>
 rC out.r λc=>
 asB c λb=>
 bif !b then
 some ⟨V.tup [V.c C.nl,I 1],[],none⟩
 else
 (cl fu d fn_mesh_Build [I a0] []).bind λout1=>
 rP out1.r 0<|
 uncO out1.objs λo os=>
 rN o ty_mesh_Net 7 λcs=>
 unc cs λc1 r=>
 asI .i64 c1 λi=>
 unc r λc2 r1=>
 asI .i64 c2 λi1=>
 unc r1 λc3 r2=>
 unc r2 λc4 r3=>
 unc r3 λc5 r4=>
 unc r4 λc6 r5=>
 unc r5 λc7 _=>
 some ⟨V.tup [V.c c6,I 0],[],none⟩):=by kernel_rfl
/- synoptic/flux.CheckScheme -/
theorem eq_flux_CheckScheme (fu d:Nat) (a0_0:Int) (a0_1:Int) (a0_2:Int):
 cl fu (d+1) fn_flux_CheckScheme [V.agg ([C.v (.int .i64 a0_0),C.v (.int .i64 a0_1),C.v (.int .i64 a0_2)])] []=(
 (cl fu d fn_flux_outside [V.c (C.sl 3 ([C.v (.int .i64 a0_0),C.v (.int .i64 a0_1),C.v (.int .i64 a0_2)])),I 1,I 4] []).bind λout=>
 rC out.r λc=>
 asB c λb=>
 bif b then
 some ⟨I 1,[],none⟩
 else
 some ⟨I 0,[],none⟩):=by kernel_rfl
/- (synoptic/adjoint.link).flow -/
theorem eq_adjoint_link_flow (fu d:Nat) (a0_0:Int) (a0_1:Int) (a0_2:Int) (a0_3:Int) (a0_4:Int) (a0_5:Int) (a0_6:Int) (a0_7:C) (a1_0:C) (a1_1:C) (a2:Int):
 cl fu (d+1) fn_adjoint_link_flow [V.agg ([C.v (.int .i64 a0_0),C.v (.int .i64 a0_1),C.v (.int .i64 a0_2),C.v (.int .i64 a0_3),C.v (.int .i64 a0_4),C.v (.int .i64 a0_5),C.v (.int .i64 a0_6),a0_7]),V.agg ([a1_0,a1_1]),I a2] []=(
 (cl fu d fn_adjoint_link_through [V.agg ([C.v (.int .i64 a0_0),C.v (.int .i64 a0_1),C.v (.int .i64 a0_2),C.v (.int .i64 a0_3),C.v (.int .i64 a0_4),C.v (.int .i64 a0_5),C.v (.int .i64 a0_6),a0_7])] []).bind λout=>
 rC out.r λc=>
 asI .i64 c λi=>
 asSl a1_1 λn cs=>
 need (inR a2 n)<|
 unc (List.drop (a2.toNat*1) cs) λc1 r=>
 asI .i64 c1 λi1=>
 bif a0_6==0 then
 (cl fu d fn_adjoint_link_through [V.agg ([C.v (.int .i64 a0_0),C.v (.int .i64 a0_1),C.v (.int .i64 a0_2),C.v (.int .i64 a0_3),C.v (.int .i64 a0_4),C.v (.int .i64 a0_5),C.v (.int .i64 a0_6),a0_7])] []).bind λout1=>
 rC out1.r λc2=>
 asI .i64 c2 λi2=>
 need (!(decide (a0_4<0)))<|
 (cl fu d fn_adjoint_link_amount [V.agg ([C.v (.int .i64 a0_0),C.v (.int .i64 a0_1),C.v (.int .i64 a0_2),C.v (.int .i64 a0_3),C.v (.int .i64 a0_4),C.v (.int .i64 a0_5),C.v (.int .i64 a0_6),a0_7]),V.agg ([a1_0,a1_1])] []).bind λout2=>
 rC out2.r λc3=>
 asI .i64 c3 λi3=>
 bd (IntKind.i64.wrap ((IntKind.i64.wrap (i*i1))+(IntKind.i64.wrap ((Int.fdiv i2 (2^(min a0_4.toNat (IntKind.bits .i64))))*i3)))) λz=>
 some ⟨I z,[],none⟩
 else
 some ⟨I (IntKind.i64.wrap (i*i1)),[],none⟩):=by kernel_rfl
/- (synoptic/adjoint.link).depth -/
theorem eq_adjoint_link_depth (fu d:Nat) (a0_0:Int) (a0_1:Int) (a0_2:Int) (a0_3:Int) (a0_4:Int) (a0_5:Int) (a0_6:Int) (a0_7:C) (n1:Nat) (a1:List C) (a2_0:C) (a2_1:C) (a3:Int):
 cl fu (d+1) fn_adjoint_link_depth [V.agg ([C.v (.int .i64 a0_0),C.v (.int .i64 a0_1),C.v (.int .i64 a0_2),C.v (.int .i64 a0_3),C.v (.int .i64 a0_4),C.v (.int .i64 a0_5),C.v (.int .i64 a0_6),a0_7]),V.own 1000000 0 n1,V.agg ([a2_0,a2_1]),I a3] [.sb ty_int 0 a1]=(
 (cl fu d fn_adjoint_link_amount [V.agg ([C.v (.int .i64 a0_0),C.v (.int .i64 a0_1),C.v (.int .i64 a0_2),C.v (.int .i64 a0_3),C.v (.int .i64 a0_4),C.v (.int .i64 a0_5),C.v (.int .i64 a0_6),a0_7]),V.agg ([a2_0,a2_1])] []).bind λout=>
 rC out.r λc=>
 asI .i64 c λi=>
 need (!(decide (a0_3<0)))<|
 asSl a2_1 λn cs=>
 need (inR a3 n)<|
 unc (List.drop (a3.toNat*1) cs) λc1 _=>
 asI .i64 c1 λi1=>
 (bif a0_6==0 then
 need (!(decide (IntKind.i64.wrap (a0_3+a0_4)<0)))<|
 bd (IntKind.i64.wrap ((IntKind.i64.wrap ((Int.fdiv a0_5 (2^(min a0_3.toNat (IntKind.bits .i64))))*i1))+(IntKind.i64.wrap ((Int.fdiv a0_5 (2^(min (IntKind.i64.wrap (a0_3+a0_4)).toNat (IntKind.bits .i64))))*i)))) λz=>
 some (0,((n1,a1),z,()))
 else
 (bif a0_6==1 then
 need (inR a0_0 n1)<|
 unc (List.drop (0+(a0_0.toNat*1)) a1) λc2 _=>
 asI .i64 c2 λi2=>
 asSl a0_7 λn4 cs1=>
 need (inR a0_0 n4)<|
 unc (List.drop (a0_0.toNat*1) cs1) λc3 _=>
 asI .i64 c3 λi3=>
 need (!(i3==0))<|
 need (inR a0_0 n1)<|
 need (((Nat.ble 0 (0+(a0_0.toNat*1)))&&(Nat.ble ((0+(a0_0.toNat*1))+1) a1.length))&&true)<|
 some (0,((n1,putAt a1 (0+(a0_0.toNat*1)) ([C.v (.int .i64 (IntKind.i64.wrap (i2+(IntKind.i64.wrap ((IntKind.i64.wrap (Int.tdiv a0_5 i3))*i)))))])),()))
 else
 (bif a0_6==(-1)then
 need (inR a0_1 n1)<|
 unc (List.drop (0+(a0_1.toNat*1)) a1) λc4 _=>
 asI .i64 c4 λi4=>
 asSl a0_7 λn5 cs2=>
 need (inR a0_1 n5)<|
 unc (List.drop (a0_1.toNat*1) cs2) λc5 _=>
 asI .i64 c5 λi5=>
 need (!(i5==0))<|
 need (inR a0_1 n1)<|
 need (((Nat.ble 0 (0+(a0_1.toNat*1)))&&(Nat.ble ((0+(a0_1.toNat*1))+1) a1.length))&&true)<|
 some (0,((n1,putAt a1 (0+(a0_1.toNat*1)) ([C.v (.int .i64 (IntKind.i64.wrap (i4-(IntKind.i64.wrap ((IntKind.i64.wrap (Int.tdiv a0_5 i5))*i)))))])),()))
 else
 some (0,((n1,a1),())):Option (Nat×(Nat×List C)×Unit)).bind λp=>
 some (0,((p.2.1.1,p.2.1.2),())):Option (Nat×(Nat×List C)×Unit)).bind λp1=>
 some (0,((p1.2.1.1,p1.2.1.2),IntKind.i64.wrap ((Int.fdiv a0_5 (2^(min a0_3.toNat (IntKind.bits .i64))))*i1),())):Option (Nat×(Nat×List C)×Int×Unit)).bind λp2=>
 need (inR a0_0 p2.2.1.1)<|
 unc (List.drop (0+(a0_0.toNat*1)) p2.2.1.2) λc6 _=>
 asI .i64 c6 λi6=>
 need (inR a0_0 p2.2.1.1)<|
 need (((Nat.ble 0 (0+(a0_0.toNat*1)))&&(Nat.ble ((0+(a0_0.toNat*1))+1) p2.2.1.2.length))&&true)<|
 need (inR a0_1 p2.2.1.1)<|
 unc (List.drop (0+(a0_1.toNat*1)) (putAt p2.2.1.2 (0+(a0_0.toNat*1)) ([C.v (.int .i64 (IntKind.i64.wrap (i6+p2.2.2.1)))]))) λc7 _=>
 asI .i64 c7 λi7=>
 need (inR a0_1 p2.2.1.1)<|
 need (((Nat.ble 0 (0+(a0_1.toNat*1)))&&(Nat.ble ((0+(a0_1.toNat*1))+1) ((putAt p2.2.1.2 (0+(a0_0.toNat*1)) ([C.v (.int .i64 (IntKind.i64.wrap (i6+p2.2.2.1)))])).length)))&&true)<|
 bd (putAt (putAt p2.2.1.2 (0+(a0_0.toNat*1)) ([C.v (.int .i64 (IntKind.i64.wrap (i6+p2.2.2.1)))])) (0+(a0_1.toNat*1)) ([C.v (.int .i64 (IntKind.i64.wrap (i7-p2.2.2.1)))])) λcs3=>
 some ⟨V.tup [],[.sb ty_int 0 cs3],none⟩):=by kernel_rfl
/- (*synoptic/synopticfield.Codes).Left -/
theorem eq_synopticfield_Codes_Left (fu d:Nat) (a0_0:C) (a0_1:Int):
 cl fu (d+1) fn_synopticfield_Codes_Left [V.ptr 1000000 0] [.ob ty_synopticfield_Codes 0 ([a0_0,C.v (.int .i64 a0_1)])]=(
 asSl a0_0 λn cs=>
 some ⟨B (decide (a0_1<((n:Nat):Int))),[.ob ty_synopticfield_Codes 0 ([a0_0,C.v (.int .i64 a0_1)])],none⟩):=by kernel_rfl
/- slices.Clone[[]int,int] -/
theorem eq_slices_Clone_sint_int (fu d:Nat) (n0:Nat) (a0:List C):
 cl fu (d+1) fn_slices_Clone_sint_int [V.c (C.sl n0 a0)] []=(
 bif Nat.beq n0 0 then
 same (
 some ⟨V.own 1000000 0 0,[.sb ty_int 0 ([])],none⟩) (
 need (Nat.beq (n0*1) a0.length)<|
 need ((Nat.ble ((0+n0)*8) 140737488355328)&&(Nat.ble (0+n0) 140737488355328))<|
 need (((Nat.ble ((0+n0)*1) a0.length)&&true)&&true)<|
 some ⟨V.own 1000000 0 (0+n0),[.sb ty_int 0 (List.take ((0+n0)*1) a0)],none⟩)
 else
 need (Nat.beq (n0*1) a0.length)<|
 need ((Nat.ble ((0+n0)*8) 140737488355328)&&(Nat.ble (0+n0) 140737488355328))<|
 need (((Nat.ble ((0+n0)*1) a0.length)&&true)&&true)<|
 some ⟨V.own 1000000 0 (0+n0),[.sb ty_int 0 (List.take ((0+n0)*1) a0)],none⟩):=by kernel_rfl
/- slices.Backward[[]synoptic/api.Branch,synoptic/api.Branch] -/
theorem eq_slices_Backward_sapi_Branch_api_Branch (fu d:Nat) (n0:Nat) (a0:List C):
 cl fu (d+1) fn_slices_Backward_sapi_Branch_api_Branch [V.c (C.sl n0 a0)] []=(
 some ⟨V.c (C.fn fn_slices_Backward_sapi_Branch_api_Branch_1 ([C.cp ([C.sl n0 a0])])),[],none⟩):=by kernel_rfl
/- synoptic/grid.Count -/
theorem eq_grid_Count (fu d:Nat) (a0:Int):
 cl fu (d+1) fn_grid_Count [I a0] []=(
 (cl fu d fn_mesh_Frequency [I a0] []).bind λout=>
 rC out.r λc=>
 asB c λb=>
 bif !b then
 some ⟨I 0,[],none⟩
 else
 some ⟨I (IntKind.i64.wrap ((IntKind.i64.wrap ((IntKind.i64.wrap (10*a0))*a0))+2)),[],none⟩):=by kernel_rfl
/- synoptic/synopticref28.Clip -/
theorem eq_synopticref28_Clip (fu d:Nat) (a0:Int) (a1:Int) (a2:Int):
 cl fu (d+1) fn_synopticref28_Clip [I a0,I a1,I a2] []=(
 some ⟨I (if(if a2<a0 then a2 else a0)>a1 then(if a2<a0 then a2 else a0)else a1),[],none⟩):=by kernel_rfl
/- synoptic/tangent.outside -/
theorem eq_tangent_outside (fu d:Nat) (n0:Nat) (a0:List C) (a1:Int):
 cl fu (d+1) fn_tangent_outside [V.c (C.sl n0 a0),I a1] []=(
 (cl fu d fn_slices_ContainsFunc_sint_int [V.c (C.sl n0 a0),V.c (C.fn fn_tangent_outside_1 ([C.cp ([C.v (.int .i64 a1)])]))] []).bind λout=>
 rC out.r λc=>
 asB c λb=>
 some ⟨B b,[],none⟩):=by kernel_rfl
/- synoptic/tangent.fold[synoptic/api.Change,synoptic/api.Branch] -/
theorem eq2_tangent_fold_api_Change_api_Branch (fu d:Nat) (n0:Nat) (a0:List C) (a1_0:C) (a1_1:C) (k2:Nat) (a2_0:C) (a2_1:C):
 cl fu (d+1) fn_tangent_fold_api_Change_api_Branch [V.c (C.sl n0 a0),V.agg ([a1_0,a1_1]),V.c (C.fn k2 ([a2_0,a2_1]))] []=(
 (iter (λ(y:Int×Int×(C×C×Unit)×(C×C×Unit)×Unit)=>
 bif decide (y.2.1<((n0:Nat):Int))then
 need (inR y.2.1 n0)<|
 unc (List.drop (y.2.1.toNat*1) a0) λc r=>
 (cl fu d k2 [V.agg ([y.2.2.1.1,y.2.2.1.2.1]),V.c c,V.c a2_0,V.c a2_1] []).bind λout=>
 rT out.r λxs=>
 uncV xs λx ys=>
 rA x λcs=>
 need (Nat.beq cs.length 2)<|
 unc cs λc1 r1=>
 unc r1 λc2 _=>
 uncV ys λx1 ys1=>
 rC x1 λc3=>
 asI .i64 c3 λi=>
 nilV ys1<|
 bif i !=0 then
 some (2,(i,y.2.1,(c1,c2,()),(C.nl,C.nl,()),()))
 else
 some (0,(y.1,IntKind.i64.wrap (y.2.1+1),(c1,c2,()),(y.2.2.2.1.1,y.2.2.2.1.2.1,()),()))
 else
 some (1,(y.1,y.2.1,(y.2.2.1.1,y.2.2.1.2.1,()),(y.2.2.2.1.1,y.2.2.2.1.2.1,()),()))) fu (0,0,(a1_0,a1_1,()),(C.nl,C.nl,()),())).bind λp=>
 natD p.1 (
 some ⟨V.tup [V.agg ([p.2.2.2.1.1,p.2.2.2.1.2.1]),I 0],[],none⟩) λm=>
 some ⟨V.tup [V.agg ([p.2.2.2.2.1.1,p.2.2.2.2.1.2.1]),I p.2.1],[],none⟩):=by kernel_rfl
/- synoptic/tangent.Compose$1 -/
theorem eq_tangent_Compose_1 (fu d:Nat) (a0_0:C) (a0_1:C) (n1:Nat) (a1:List C) (e0:List C) (e1:List C):
 cl fu (d+1) fn_tangent_Compose_1 [V.agg ([a0_0,a0_1]),V.c (C.sl n1 a1),V.c (C.cp e0),V.c (C.cp e1)] []=(
 unc e0 λc r=>
 asI .i64 c λi=>
 unc r λc1 r1=>
 asI .i64 c1 λi1=>
 unc r1 λc2 _=>
 asI .i64 c2 λi2=>
 unc e1 λc3 _=>
 asI .i64 c3 λi3=>
 (cl fu d fn_tangent_Apply [V.agg ([C.v (.int .i64 i),C.v (.int .i64 i1),C.v (.int .i64 i2)]),I i3,V.c (C.sl n1 a1),V.agg ([a0_0,a0_1])] []).bind λout=>
 rT out.r λxs=>
 uncV xs λx ys=>
 rA x λcs=>
 need (Nat.beq cs.length 2)<|
 unc cs λc4 r4=>
 unc r4 λc5 _=>
 uncV ys λx1 ys1=>
 rC x1 λc6=>
 asI .i64 c6 λi4=>
 nilV ys1<|
 some ⟨V.tup [V.agg ([c4,c5]),I i4],[],none⟩):=by kernel_rfl
/- synoptic/precision.Dot -/
theorem eq_precision_Dot (fu d:Nat) (n0:Nat) (a0:List C) (n1:Nat) (a1:List C):
 cl fu (d+1) fn_precision_Dot [V.c (C.sl n0 a0),V.c (C.sl n1 a1)] []=(
 bif ((n0:Nat):Int) !=((n1:Nat):Int)then
 some ⟨V.tup [V.agg ([C.v (.int .i64 0),C.v (.int .u64 0)]),I 1],[],none⟩
 else
 (cl fu d fn_precision_total [] []).bind λout=>
 rCl out.r fn_precision_total_1 0<|
 uncO out.objs λo os=>
 rN o ty_api_Wide 2 λcs=>
 unc cs λc r=>
 asI .i64 c λi=>
 unc r λc1 _=>
 asI .u64 c1 λi1=>
 (cl fu d fn_precision_total_1 [I 0,I 0,V.ptr 1000000 0] [.ob ty_api_Wide 0 ([C.v (.int .i64 i),C.v (.int .u64 i1)])]).bind λout1=>
 uncO out1.objs λo1 os1=>
 rO o1 ty_api_Wide 0 λcs1=>
 need ((Nat.beq cs1.length 2)&&true)<|
 unc cs1 λc2 r2=>
 asI .i64 c2 λi2=>
 unc r2 λc3 _=>
 asI .u64 c3 λi3=>
 rA out1.r λcs2=>
 need (Nat.beq cs2.length 2)<|
 unc cs2 λc4 r4=>
 asI .i64 c4 λi4=>
 unc r4 λc5 _=>
 asI .u64 c5 λi5=>
 (iter (λ(y:Int×(Int×Int×Unit)×(Int×Int×Unit)×(Int×Int×Unit)×Unit)=>
 bif decide (y.1<((n0:Nat):Int))then
 need (inR y.1 n0)<|
 unc (List.drop (y.1.toNat*1) a0) λc6 _=>
 asI .i64 c6 λi6=>
 need (inR y.1 n1)<|
 unc (List.drop (y.1.toNat*1) a1) λc7 _=>
 asI .i64 c7 λi7=>
 (cl fu d fn_precision_total_1 [I i6,I i7,V.ptr 1000000 0] [.ob ty_api_Wide 0 ([C.v (.int .i64 y.2.2.2.1.1),C.v (.int .u64 y.2.2.2.1.2.1)])]).bind λout2=>
 uncO out2.objs λo2 os2=>
 rO o2 ty_api_Wide 0 λcs3=>
 need ((Nat.beq cs3.length 2)&&true)<|
 unc cs3 λc8 r8=>
 asI .i64 c8 λi8=>
 unc r8 λc9 _=>
 asI .u64 c9 λi9=>
 rA out2.r λcs4=>
 need (Nat.beq cs4.length 2)<|
 unc cs4 λc10 r10=>
 asI .i64 c10 λi10=>
 unc r10 λc11 _=>
 asI .u64 c11 λi11=>
 some (0,(IntKind.i64.wrap (y.1+1),(y.2.1.1,y.2.1.2.1,()),(i10,i11,()),(i8,i9,()),()))
 else
 some (1,(y.1,(y.2.1.1,y.2.1.2.1,()),(y.2.2.1.1,y.2.2.1.2.1,()),(y.2.2.2.1.1,y.2.2.2.1.2.1,()),()))) fu (0,(0,0,()),(i4,i5,()),(i2,i3,()),())).bind λp=>
 some ⟨V.tup [V.agg ([C.v (.int .i64 p.2.2.2.1.1),C.v (.int .u64 p.2.2.2.1.2.1)]),I 0],[],none⟩):=by kernel_rfl
/- synoptic/precision.Add -/
theorem eq_precision_Add (fu d:Nat) (a0_0:Int) (a0_1:Int) (a1_0:Int) (a1_1:Int):
 cl fu (d+1) fn_precision_Add [V.agg ([C.v (.int .i64 a0_0),C.v (.int .u64 a0_1)]),V.agg ([C.v (.int .i64 a1_0),C.v (.int .u64 a1_1)])] []=(
 need (decide (0≤a0_1)&&decide (0≤a1_1)&&decide (0≤0)&&decide (0≤1))<|
 some ⟨V.agg ([C.v (.int .i64 (IntKind.i64.wrap ((IntKind.i64.wrap (a0_0+a1_0))+(IntKind.i64.wrap ((a0_1+a1_1+0)/18446744073709551616))))),C.v (.int .u64 ((a0_1+a1_1+0)%18446744073709551616))]),[],none⟩):=by kernel_rfl
/- synoptic/tangent.within -/
theorem eq_tangent_within (fu d:Nat) (a0:Int) (a1:Int) (a2:Int):
 cl fu (d+1) fn_tangent_within [I a0,I a1,I a2] []=(
 bif decide (a1≤a0)then
 some ⟨B (decide (a0≤a2)),[],none⟩
 else
 some ⟨B false,[],none⟩):=by kernel_rfl
/- synoptic/flux.Check -/
theorem eq_flux_Check (fu d:Nat) (a0_0:Int) (a0_1:C) (a0_2:C):
 cl fu (d+1) fn_flux_Check [V.agg ([C.v (.int .i64 a0_0),a0_1,a0_2])] []=(
 (cl fu d fn_grid_Edges [I a0_0] []).bind λout=>
 rT out.r λxs=>
 uncV xs λx ys=>
 rC x λc=>
 uncV ys λx1 ys1=>
 rC x1 λc1=>
 asI .i64 c1 λi=>
 nilV ys1<|
 bif i !=0 then
 some ⟨I 1,[],none⟩
 else
 asSl a0_1 λn cs=>
 (cl fu d fn_grid_Count [I a0_0] []).bind λout1=>
 rC out1.r λc2=>
 asI .i64 c2 λi1=>
 bif ((n:Nat):Int) !=i1 then
 some ⟨I 1,[],none⟩
 else
 asSl a0_2 λn1 cs1=>
 asSl c λn2 cs2=>
 bif ((n1:Nat):Int) !=((n2:Nat):Int)then
 some ⟨I 1,[],none⟩
 else
 need (noYl [V.c (nrm a0_1)])<|
 (cl fu d fn_flux_outside [V.c (nrm a0_1),I 0,I 16777216] []).bind λout2=>
 rC out2.r λc3=>
 asB c3 λb=>
 bif b then
 some ⟨I 1,[],none⟩
 else
 need (noYl [V.c (nrm a0_2)])<|
 (cl fu d fn_flux_outside [V.c (nrm a0_2),I (-16777216),I 16777216] []).bind λout3=>
 rC out3.r λc4=>
 asB c4 λb1=>
 bif b1 then
 some ⟨I 1,[],none⟩
 else
 some ⟨I 0,[],none⟩):=by kernel_rfl
/- synoptic/model.accelerate -/
theorem eq_model_accelerate (fu d:Nat) (a0_0:Int) (a0_1:Int) (a0_2:Int):
 cl fu (d+1) fn_model_accelerate [V.agg ([C.v (.int .i64 a0_0),C.v (.int .i64 a0_1),C.v (.int .i64 a0_2)])] []=(
 some ⟨V.c (C.fn fn_model_accelerate_1 ([C.cp ([C.v (.int .i64 a0_0),C.v (.int .i64 a0_1),C.v (.int .i64 a0_2)])])),[],none⟩):=by kernel_rfl
/- synoptic/model.move -/
theorem eq_model_move (fu d:Nat) (a0_0:Int) (a0_1:Int) (a0_2:Int):
 cl fu (d+1) fn_model_move [V.agg ([C.v (.int .i64 a0_0),C.v (.int .i64 a0_1),C.v (.int .i64 a0_2)])] []=(
 some ⟨V.c (C.fn fn_model_move_1 ([C.cp ([C.v (.int .i64 a0_0),C.v (.int .i64 a0_1),C.v (.int .i64 a0_2)])])),[],none⟩):=by kernel_rfl
/- (synoptic/model.chain[synoptic/model.progress]).do -/
theorem eq_model_chain_model_progress_do (fu d:Nat) (g0_0:List C) (g0_1:List C) (a1_0:Int) (a1_1:C) (a1_2:C) (a1_3:C):
 cl fu (d+1) fn_model_chain_model_progress_do [V.c (C.sl 2 ([C.fn fn_model_accelerate_1 ([C.cp g0_0]),C.fn fn_model_move_1 ([C.cp g0_1])])),V.agg ([C.v (.int .i64 a1_0),a1_1,a1_2,a1_3])] []=(
 (cl fu d fn_model_accelerate_1 [V.agg ([C.v (.int .i64 a1_0),a1_1,a1_2,a1_3]),V.c (C.cp g0_0)] []).bind λout=>
 rT out.r λxs=>
 uncV xs λx ys=>
 rA x λcs=>
 need (Nat.beq cs.length 4)<|
 unc cs λc r=>
 asI .i64 c λi=>
 unc r λc1 r1=>
 unc r1 λc2 r2=>
 unc r2 λc3 _=>
 uncV ys λx1 ys1=>
 rC x1 λc4=>
 asI .i64 c4 λi1=>
 nilV ys1<|
 bif i1 !=0 then
 some ⟨V.tup [V.agg ([C.v (.int .i64 0),C.nl,C.nl,C.nl]),I i1],[],none⟩
 else
 (cl fu d fn_model_move_1 [V.agg ([C.v (.int .i64 i),c1,c2,c3]),V.c (C.cp g0_1)] []).bind λout1=>
 rT out1.r λxs1=>
 uncV xs1 λx2 ys2=>
 rA x2 λcs1=>
 need (Nat.beq cs1.length 4)<|
 unc cs1 λc5 r4=>
 asI .i64 c5 λi2=>
 unc r4 λc6 r5=>
 unc r5 λc7 r6=>
 unc r6 λc8 _=>
 uncV ys2 λx3 ys3=>
 rC x3 λc9=>
 asI .i64 c9 λi3=>
 nilV ys3<|
 bif i3 !=0 then
 some ⟨V.tup [V.agg ([C.v (.int .i64 0),C.nl,C.nl,C.nl]),I i3],[],none⟩
 else
 some ⟨V.tup [V.agg ([C.v (.int .i64 i2),c6,c7,c8]),I 0],[],none⟩):=by kernel_rfl
/- synoptic/model.Accelerate -/
theorem eq_model_Accelerate (fu d:Nat) (a0_0:Int) (a0_1:Int) (a0_2:Int) (a1_0:Int) (a1_1:C) (a1_2:C):
 cl fu (d+1) fn_model_Accelerate [V.agg ([C.v (.int .i64 a0_0),C.v (.int .i64 a0_1),C.v (.int .i64 a0_2)]),V.agg ([C.v (.int .i64 a1_0),a1_1,a1_2])] []=(
 (cl fu d fn_flux_CheckScheme [V.agg ([C.v (.int .i64 a0_0),C.v (.int .i64 a0_1),C.v (.int .i64 a0_2)])] []).bind λout=>
 rC out.r λc=>
 asI .i64 c λi=>
 bif i !=0 then
 some ⟨V.tup [V.agg ([C.v (.int .i64 0),C.nl,C.nl]),I i],[],none⟩
 else
 (cl fu d fn_model_Slopes [V.agg ([C.v (.int .i64 a1_0),a1_1,a1_2])] []).bind λout1=>
 rT out1.r λxs=>
 uncV xs λx ys=>
 rC x λc1=>
 uncV ys λx1 ys1=>
 rC x1 λc2=>
 asI .i64 c2 λi1=>
 nilV ys1<|
 bif i1 !=0 then
 some ⟨V.tup [V.agg ([C.v (.int .i64 0),C.nl,C.nl]),I i1],[],none⟩
 else
 need (noYl [V.c (nrm a1_1)])<|
 (cl fu d fn_slices_Clone_sint_int [V.c (nrm a1_1)] []).bind λout2=>
 rW out2.r 0 λn=>
 uncO out2.objs λo os=>
 rS o ty_int 0 λcs=>
 need ((Nat.beq (n*1) cs.length)&&true)<|
 asSl a1_2 λn2 cs1=>
 need (((Nat.beq (n*1) cs.length)&&true)&&true)<|
 (iter (λ(y:Int×(Int×C×C×Unit)×(Int×List C×List C×Unit)×Unit)=>
 bif decide (y.1<((n2:Nat):Int))then
 asSl a1_2 λn3 cs2=>
 need (inR y.1 n3)<|
 unc (List.drop (y.1.toNat*1) cs2) λc3 _=>
 asI .i64 c3 λi2=>
 asSl c1 λn4 cs3=>
 need (inR y.1 n4)<|
 unc (List.drop (y.1.toNat*1) cs3) λc4 _=>
 asI .i64 c4 λi3=>
 need (!(decide (a0_1<0)))<|
 need (!(decide (a0_0<0)))<|
 bd (IntKind.i64.wrap ((Int.fdiv i3 (2^(min a0_1.toNat (IntKind.bits .i64))))-(Int.fdiv i2 (2^(min a0_0.toNat (IntKind.bits .i64)))))) λz=>
 bd (if 16777216<(if(-16777216)>IntKind.i64.wrap (i2+z)then(-16777216)else IntKind.i64.wrap (i2+z))then 16777216 else(if(-16777216)>IntKind.i64.wrap (i2+z)then(-16777216)else IntKind.i64.wrap (i2+z))) λz1=>
 need ((((Nat.beq ((y.2.2.1.2.2.1.length/1)*1) y.2.2.1.2.2.1.length)&&true)&&(Nat.ble (((y.2.2.1.2.2.1.length/1)+1)*8) 140737488355328))&&(Nat.ble ((y.2.2.1.2.2.1.length/1)+1) 140737488355328))<|
 need (((Nat.beq ((y.2.2.1.2.1.length/1)*1) y.2.2.1.2.1.length)&&true)&&true)<|
 need (((Nat.beq (((y.2.2.1.2.2.1.length/1)+1)*1) ((y.2.2.1.2.2.1++([C.v (.int .i64 z1)])).length))&&true)&&true)<|
 some (0,(IntKind.i64.wrap (y.1+1),(y.2.1.1,y.2.1.2.1,y.2.1.2.2.1,()),(y.2.2.1.1,y.2.2.1.2.1,y.2.2.1.2.2.1++([C.v (.int .i64 z1)]),()),()))
 else
 need (((Nat.beq ((y.2.2.1.2.1.length/1)*1) y.2.2.1.2.1.length)&&true)&&true)<|
 need (((Nat.beq ((y.2.2.1.2.2.1.length/1)*1) y.2.2.1.2.2.1.length)&&true)&&true)<|
 some (1,(y.1,(y.2.1.1,y.2.1.2.1,y.2.1.2.2.1,()),(y.2.2.1.1,y.2.2.1.2.1,y.2.2.1.2.2.1,()),()))) fu (0,(0,C.nl,C.nl,()),(a1_0,cs,[],()),())).bind λp=>
 need (Nat.ble (0+((p.2.2.2.1.2.1.length/1)*1)) p.2.2.2.1.2.1.length)<|
 need (Nat.ble (0+((p.2.2.2.1.2.2.1.length/1)*1)) p.2.2.2.1.2.2.1.length)<|
 some ⟨V.tup [V.agg ([C.v (.int .i64 p.2.2.2.1.1),C.sl (p.2.2.2.1.2.1.length/1) (List.take ((p.2.2.2.1.2.1.length/1)*1) p.2.2.2.1.2.1),C.sl (p.2.2.2.1.2.2.1.length/1) (List.take ((p.2.2.2.1.2.2.1.length/1)*1) p.2.2.2.1.2.2.1)]),I 0],[],none⟩):=by kernel_rfl
/- synoptic/synopticref03.Count -/
theorem eq_synopticref03_Count (fu d:Nat) (a0:Int):
 cl fu (d+1) fn_synopticref03_Count [I a0] []=(
 bif decide (a0<1)then
 some ⟨I 0,[],none⟩
 else
 bif decide (a0>8)then
 some ⟨I 0,[],none⟩
 else
 some ⟨I (IntKind.i64.wrap ((IntKind.i64.wrap ((IntKind.i64.wrap (10*a0))*a0))+2)),[],none⟩):=by kernel_rfl
/- synoptic/synopticref03.around -/
theorem eq_synopticref03_around (fu d:Nat) (a0:Int):
 cl fu (d+1) fn_synopticref03_around [I a0] []=(
 (cl fu d fn_synopticref03_Cells [I a0] []).bind λout=>
 rT out.r λxs=>
 uncV xs λx ys=>
 rC x λc=>
 uncV ys λx1 ys1=>
 rC x1 λc1=>
 asI .i64 c1 λi=>
 nilV ys1<|
 (cl fu d fn_synopticref03_Count [I a0] []).bind λout1=>
 rC out1.r λc2=>
 asI .i64 c2 λi1=>
 need (((((decide (0≤i1))&&(decide (i1≤i1)))&&(decide ((24:Int)*i1≤140737488355328)))&&(decide (i1≤140737488355328)))&&true)<|
 asSl c λn cs=>
 need (((Nat.beq (i1.toNat*1) ((reps i1.toNat ([C.nl])).length))&&true)&&true)<|
 (iter (λ(y:List C×Int×Unit)=>
 bif decide (y.2.1<((n:Nat):Int))then
 asSl c λn1 cs1=>
 need (inR y.2.1 n1)<|
 unc (List.drop (y.2.1.toNat*3) cs1) λc3 r=>
 asI .i64 c3 λi2=>
 unc r λc4 r1=>
 asI .i64 c4 λi3=>
 unc r1 λc5 _=>
 asI .i64 c5 λi4=>
 need (((Nat.beq ((y.1.length/1)*1) y.1.length)&&true)&&true)<|
 (iter (λ(y1:List C×Int×Unit)=>
 bif decide (y1.2.1<6)then
 need (inR y1.2.1 6)<|
 need (Nat.ble 2 ((List.drop (y1.2.1.toNat*2) ([C.v (.int .i64 i2),C.v (.int .i64 i3),C.v (.int .i64 i2),C.v (.int .i64 i4),C.v (.int .i64 i3),C.v (.int .i64 i4),C.v (.int .i64 i3),C.v (.int .i64 i2),C.v (.int .i64 i4),C.v (.int .i64 i2),C.v (.int .i64 i4),C.v (.int .i64 i3)])).length))<|
 bd (List.take 2 (List.drop (y1.2.1.toNat*2) ([C.v (.int .i64 i2),C.v (.int .i64 i3),C.v (.int .i64 i2),C.v (.int .i64 i4),C.v (.int .i64 i3),C.v (.int .i64 i4),C.v (.int .i64 i3),C.v (.int .i64 i2),C.v (.int .i64 i4),C.v (.int .i64 i2),C.v (.int .i64 i4),C.v (.int .i64 i3)]))) λcs2=>
 need ((((Nat.beq cs2.length 2)&&true)&&(Nat.ble (0+cs2.length) 2))&&true)<|
 need (((Nat.beq ((y1.1.length/1)*1) y1.1.length)&&true)&&true)<|
 (iter (λ(y2:List C×Int×List C×Unit)=>
 unc y2.2.2.1 λc6 _=>
 asI .i64 c6 λi5=>
 need (inR i5 (y2.1.length/1))<|
 unc (List.drop (0+(i5.toNat*1)) y2.1) λc7 _=>
 asSl c7 λn2 cs3=>
 bif decide (y2.2.1<((n2:Nat):Int))then
 unc y2.2.2.1 λc8 _=>
 asI .i64 c8 λi6=>
 need (inR i6 (y2.1.length/1))<|
 unc (List.drop (0+(i6.toNat*1)) y2.1) λc9 _=>
 asSl c9 λn3 cs4=>
 need (inR y2.2.1 n3)<|
 unc (List.drop (y2.2.1.toNat*1) cs4) λc10 _=>
 asI .i64 c10 λi7=>
 unc (List.drop 1 y2.2.2.1) λc11 _=>
 asI .i64 c11 λi8=>
 bif decide (i7<i8)then
 need (((Nat.beq ((y2.1.length/1)*1) y2.1.length)&&true)&&true)<|
 some (0,(y2.1,IntKind.i64.wrap (y2.2.1+1),y2.2.2.1,()))
 else
 need (((Nat.beq ((y2.1.length/1)*1) y2.1.length)&&true)&&true)<|
 some (1,(y2.1,y2.2.1,y2.2.2.1,()))
 else
 need (((Nat.beq ((y2.1.length/1)*1) y2.1.length)&&true)&&true)<|
 some (1,(y2.1,y2.2.1,y2.2.2.1,()))) fu (y1.1,0,putAt ([C.v (.int .i64 0),C.v (.int .i64 0)]) 0 cs2,())).bind λp=>
 unc p.2.2.2.1 λc12 _=>
 asI .i64 c12 λi9=>
 need (inR i9 (p.2.1.length/1))<|
 unc (List.drop (0+(i9.toNat*1)) p.2.1) λc13 _=>
 asSl c13 λn4 cs5=>
 bif decide (p.2.2.1<((n4:Nat):Int))then
 unc p.2.2.2.1 λc14 _=>
 asI .i64 c14 λi10=>
 need (inR i10 (p.2.1.length/1))<|
 unc (List.drop (0+(i10.toNat*1)) p.2.1) λc15 _=>
 asSl c15 λn5 cs6=>
 need (inR p.2.2.1 n5)<|
 unc (List.drop (p.2.2.1.toNat*1) cs6) λc16 _=>
 asI .i64 c16 λi11=>
 unc (List.drop 1 p.2.2.2.1) λc17 _=>
 asI .i64 c17 λi12=>
 bif i11==i12 then
 need (((Nat.beq ((p.2.1.length/1)*1) p.2.1.length)&&true)&&true)<|
 some (0,(p.2.1,IntKind.i64.wrap (y1.2.1+1),()))
 else
 unc (List.drop 1 p.2.2.2.1) λc18 _=>
 asI .i64 c18 λi13=>
 unc p.2.2.2.1 λc19 _=>
 asI .i64 c19 λi14=>
 need (inR i14 (p.2.1.length/1))<|
 unc (List.drop (0+(i14.toNat*1)) p.2.1) λc20 _=>
 sliceC 1 (some (I p.2.2.1)) none c20 λc21=>
 asSl c21 λn6 cs7=>
 need (Nat.beq (n6*1) cs7.length)<|
 need ((Nat.ble ((1+n6)*8) 140737488355328)&&(Nat.ble (1+n6) 140737488355328))<|
 unc p.2.2.2.1 λc22 _=>
 asI .i64 c22 λi15=>
 unc p.2.2.2.1 λc23 _=>
 asI .i64 c23 λi16=>
 need (inR i16 (p.2.1.length/1))<|
 unc (List.drop (0+(i16.toNat*1)) p.2.1) λc24 _=>
 need (((decide (p.2.2.1=p.2.2.1))&&(decide (0≤p.2.2.1)))&&true)<|
 asSl c24 λn7 cs8=>
 need (Nat.ble p.2.2.1.toNat n7)<|
 need (Nat.beq ((1+n6)*1) ((([C.v (.int .i64 i13)])++cs7).length))<|
 need (Nat.beq (p.2.2.1.toNat*1) ((List.take (p.2.2.1.toNat*1) cs8).length))<|
 need ((Nat.ble ((p.2.2.1.toNat+(1+n6))*8) 140737488355328)&&(Nat.ble (p.2.2.1.toNat+(1+n6)) 140737488355328))<|
 need (inR i15 (p.2.1.length/1))<|
 need (((Nat.ble 0 (0+(i15.toNat*1)))&&(Nat.ble ((0+(i15.toNat*1))+1) p.2.1.length))&&true)<|
 need (((Nat.beq ((p.2.1.length/1)*1) ((putAt p.2.1 (0+(i15.toNat*1)) ([C.sl (p.2.2.1.toNat+(1+n6)) ((List.take (p.2.2.1.toNat*1) cs8)++(([C.v (.int .i64 i13)])++cs7))])).length))&&true)&&true)<|
 some (0,(putAt p.2.1 (0+(i15.toNat*1)) ([C.sl (p.2.2.1.toNat+(1+n6)) ((List.take (p.2.2.1.toNat*1) cs8)++(([C.v (.int .i64 i13)])++cs7))]),IntKind.i64.wrap (y1.2.1+1),()))
 else
 unc (List.drop 1 p.2.2.2.1) λc25 _=>
 asI .i64 c25 λi17=>
 unc p.2.2.2.1 λc26 _=>
 asI .i64 c26 λi18=>
 need (inR i18 (p.2.1.length/1))<|
 unc (List.drop (0+(i18.toNat*1)) p.2.1) λc27 _=>
 sliceC 1 (some (I p.2.2.1)) none c27 λc28=>
 asSl c28 λn8 cs9=>
 need (Nat.beq (n8*1) cs9.length)<|
 need ((Nat.ble ((1+n8)*8) 140737488355328)&&(Nat.ble (1+n8) 140737488355328))<|
 unc p.2.2.2.1 λc29 _=>
 asI .i64 c29 λi19=>
 unc p.2.2.2.1 λc30 _=>
 asI .i64 c30 λi20=>
 need (inR i20 (p.2.1.length/1))<|
 unc (List.drop (0+(i20.toNat*1)) p.2.1) λc31 _=>
 need (((decide (p.2.2.1=p.2.2.1))&&(decide (0≤p.2.2.1)))&&true)<|
 asSl c31 λn9 cs10=>
 need (Nat.ble p.2.2.1.toNat n9)<|
 need (Nat.beq ((1+n8)*1) ((([C.v (.int .i64 i17)])++cs9).length))<|
 need (Nat.beq (p.2.2.1.toNat*1) ((List.take (p.2.2.1.toNat*1) cs10).length))<|
 need ((Nat.ble ((p.2.2.1.toNat+(1+n8))*8) 140737488355328)&&(Nat.ble (p.2.2.1.toNat+(1+n8)) 140737488355328))<|
 need (inR i19 (p.2.1.length/1))<|
 need (((Nat.ble 0 (0+(i19.toNat*1)))&&(Nat.ble ((0+(i19.toNat*1))+1) p.2.1.length))&&true)<|
 need (((Nat.beq ((p.2.1.length/1)*1) ((putAt p.2.1 (0+(i19.toNat*1)) ([C.sl (p.2.2.1.toNat+(1+n8)) ((List.take (p.2.2.1.toNat*1) cs10)++(([C.v (.int .i64 i17)])++cs9))])).length))&&true)&&true)<|
 some (0,(putAt p.2.1 (0+(i19.toNat*1)) ([C.sl (p.2.2.1.toNat+(1+n8)) ((List.take (p.2.2.1.toNat*1) cs10)++(([C.v (.int .i64 i17)])++cs9))]),IntKind.i64.wrap (y1.2.1+1),()))
 else
 need (((Nat.beq ((y1.1.length/1)*1) y1.1.length)&&true)&&true)<|
 some (1,(y1.1,y1.2.1,()))) fu (y.1,0,())).bind λp1=>
 need (((Nat.beq ((p1.2.1.length/1)*1) p1.2.1.length)&&true)&&true)<|
 some (0,(p1.2.1,IntKind.i64.wrap (y.2.1+1),()))
 else
 need (((Nat.beq ((y.1.length/1)*1) y.1.length)&&true)&&true)<|
 some (1,(y.1,y.2.1,()))) fu (reps i1.toNat ([C.nl]),0,())).bind λp2=>
 need (Nat.ble (0+((p2.2.1.length/1)*1)) p2.2.1.length)<|
 some ⟨V.c (C.sl (p2.2.1.length/1) (List.take ((p2.2.1.length/1)*1) p2.2.1)),[],none⟩):=by kernel_rfl
/- (*synoptic/synopticfield.Codes).Signed -/
theorem eq_synopticfield_Codes_Signed (fu d:Nat) (a0_0:C) (a0_1:Int) (a1:Int):
 cl fu (d+1) fn_synopticfield_Codes_Signed [V.ptr 1000000 0,I a1] [.ob ty_synopticfield_Codes 0 ([a0_0,C.v (.int .i64 a0_1)])]=(
 (cl fu d fn_synopticfield_Codes_Next [V.ptr 1000000 0,I 256] [.ob ty_synopticfield_Codes 0 ([a0_0,C.v (.int .i64 a0_1)])]).bind λout=>
 uncO out.objs λo os=>
 rO o ty_synopticfield_Codes 0 λcs=>
 need ((Nat.beq cs.length 2)&&true)<|
 unc cs λc r=>
 unc r λc1 _=>
 asI .i64 c1 λi=>
 rC out.r λc2=>
 asI .i64 c2 λi1=>
 (cl fu d fn_synopticfield_Codes_Next [V.ptr 1000000 0,I 256] [.ob ty_synopticfield_Codes 0 ([c,C.v (.int .i64 i)])]).bind λout1=>
 uncO out1.objs λo1 os1=>
 rO o1 ty_synopticfield_Codes 0 λcs1=>
 need ((Nat.beq cs1.length 2)&&true)<|
 unc cs1 λc3 r2=>
 unc r2 λc4 _=>
 asI .i64 c4 λi2=>
 rC out1.r λc5=>
 asI .i64 c5 λi3=>
 bd (IntKind.i64.wrap (BitVec.ofInt (IntKind.bits .i64) (IntKind.i64.wrap (i1*2^16))|||BitVec.ofInt (IntKind.bits .i64) (IntKind.i64.wrap (i3*2^8))).toNat) λz=>
 (cl fu d fn_synopticfield_Codes_Next [V.ptr 1000000 0,I 256] [.ob ty_synopticfield_Codes 0 ([c3,C.v (.int .i64 i2)])]).bind λout2=>
 uncO out2.objs λo2 os2=>
 rO o2 ty_synopticfield_Codes 0 λcs2=>
 need ((Nat.beq cs2.length 2)&&true)<|
 unc cs2 λc6 r4=>
 unc r4 λc7 _=>
 asI .i64 c7 λi4=>
 rC out2.r λc8=>
 asI .i64 c8 λi5=>
 need (!((IntKind.i64.wrap (a1+1))==0))<|
 bd (Int.tmod (IntKind.i64.wrap (BitVec.ofInt (IntKind.bits .i64) z|||BitVec.ofInt (IntKind.bits .i64) i5).toNat) (IntKind.i64.wrap (a1+1))) λz1=>
 (cl fu d fn_synopticfield_Codes_Next [V.ptr 1000000 0,I 2] [.ob ty_synopticfield_Codes 0 ([c6,C.v (.int .i64 i4)])]).bind λout3=>
 uncO out3.objs λo3 os3=>
 rO o3 ty_synopticfield_Codes 0 λcs3=>
 need ((Nat.beq cs3.length 2)&&true)<|
 unc cs3 λc9 r6=>
 unc r6 λc10 _=>
 asI .i64 c10 λi6=>
 rC out3.r λc11=>
 asI .i64 c11 λi7=>
 bif i7==1 then
 some ⟨I (IntKind.i64.wrap (0-z1)),[.ob ty_synopticfield_Codes 0 ([c9,C.v (.int .i64 i6)])],none⟩
 else
 some ⟨I z1,[.ob ty_synopticfield_Codes 0 ([c9,C.v (.int .i64 i6)])],none⟩):=by kernel_rfl
/- synoptic/flux.within -/
theorem eq_flux_within (fu d:Nat) (a0:Int) (a1:Int) (a2:Int):
 cl fu (d+1) fn_flux_within [I a0,I a1,I a2] []=(
 bif decide (a1≤a0)then
 some ⟨B (decide (a0≤a2)),[],none⟩
 else
 some ⟨B false,[],none⟩):=by kernel_rfl
/- synoptic/flux.edges -/
theorem eq_flux_edges (fu d:Nat) (a0:Int):
 cl fu (d+1) fn_flux_edges [I a0] []=(
 some ⟨V.c (C.fn fn_flux_edges_1 ([C.cp ([C.v (.int .i64 a0)])])),[],none⟩):=by kernel_rfl
/- synoptic/mesh.Frequency -/
theorem eq_mesh_Frequency (fu d:Nat) (a0:Int):
 cl fu (d+1) fn_mesh_Frequency [I a0] []=(
 bif decide (a0≥1)then
 some ⟨B (decide (a0≤8)),[],none⟩
 else
 some ⟨B false,[],none⟩):=by kernel_rfl
/- synoptic/mesh.Build -/
theorem eq_mesh_Build (fu d:Nat) (a0:Int):
 cl fu (d+1) fn_mesh_Build [I a0] []=(
 (cl fu d fn_mesh_Points [I a0] []).bind λout=>
 rP out.r 0<|
 uncO out.objs λo os=>
 rN o ty_mesh_Net 7 λcs=>
 unc cs λc r=>
 asI .i64 c λi=>
 unc r λc1 r1=>
 asI .i64 c1 λi1=>
 unc r1 λc2 r2=>
 unc r2 λc3 r3=>
 unc r3 λc4 r4=>
 unc r4 λc5 r5=>
 unc r5 λc6 _=>
 asRow ty_api_Cell (PC.c c4) λcs1=>
 (iter (λ(y:Int×(Int×Int×C×C×List C×C×C×Unit)×Unit)=>
 bif decide (y.1<20)then
 (iter (λ(y1:Int×(Int×Int×C×C×List C×C×C×Unit)×Unit)=>
 bif decide (y1.1<a0)then
 (iter (λ(y2:Int×(Int×Int×C×C×List C×C×C×Unit)×Unit)=>
 bif decide (IntKind.i64.wrap (y1.1+y2.1)<a0)then
 (cl fu d fn_mesh_Net_cells [V.ptr 1000000 0,V.agg ([C.v (.int .i64 y.1),C.v (.int .i64 (IntKind.i64.wrap (y1.1*y2.2.1.2.1))),C.v (.int .i64 (IntKind.i64.wrap (y2.1*y2.2.1.2.1))),C.v (.int .i64 (IntKind.i64.wrap ((IntKind.i64.wrap ((IntKind.i64.wrap ((IntKind.i64.wrap (a0-1))-y1.1))-y2.1))*y2.2.1.2.1)))])] [.pk 0 ty_mesh_Net (.ps [PC.c (C.v (.int .i64 y2.2.1.1)),PC.c (C.v (.int .i64 y2.2.1.2.1)),PC.c y2.2.1.2.2.1,PC.c y2.2.1.2.2.2.1,PC.r ty_api_Cell y2.2.1.2.2.2.2.1,PC.c y2.2.1.2.2.2.2.2.1,PC.c y2.2.1.2.2.2.2.2.2.1]) none]).bind λout1=>
 uncO out1.objs λo1 os1=>
 rPk o1 ty_mesh_Net λps=>
 uncP ps λp ps1=>
 asPc p λc7=>
 asI .i64 c7 λi2=>
 uncP ps1 λp1 ps2=>
 asPc p1 λc8=>
 asI .i64 c8 λi3=>
 uncP ps2 λp2 ps3=>
 asPc p2 λc9=>
 uncP ps3 λp3 ps4=>
 asPc p3 λc10=>
 uncP ps4 λp4 ps5=>
 asRw ty_api_Cell p4 λcs2=>
 uncP ps5 λp5 ps6=>
 asPc p5 λc11=>
 uncP ps6 λp6 ps7=>
 asPc p6 λc12=>
 nilP ps7<|
 some (0,(IntKind.i64.wrap (y2.1+1),(i2,i3,c9,c10,cs2,c11,c12,()),()))
 else
 some (1,(y2.1,(y2.2.1.1,y2.2.1.2.1,y2.2.1.2.2.1,y2.2.1.2.2.2.1,y2.2.1.2.2.2.2.1,y2.2.1.2.2.2.2.2.1,y2.2.1.2.2.2.2.2.2.1,()),()))) fu (0,(y1.2.1.1,y1.2.1.2.1,y1.2.1.2.2.1,y1.2.1.2.2.2.1,y1.2.1.2.2.2.2.1,y1.2.1.2.2.2.2.2.1,y1.2.1.2.2.2.2.2.2.1,()),())).bind λp7=>
 some (0,(IntKind.i64.wrap (y1.1+1),(p7.2.2.1.1,p7.2.2.1.2.1,p7.2.2.1.2.2.1,p7.2.2.1.2.2.2.1,p7.2.2.1.2.2.2.2.1,p7.2.2.1.2.2.2.2.2.1,p7.2.2.1.2.2.2.2.2.2.1,()),()))
 else
 some (1,(y1.1,(y1.2.1.1,y1.2.1.2.1,y1.2.1.2.2.1,y1.2.1.2.2.2.1,y1.2.1.2.2.2.2.1,y1.2.1.2.2.2.2.2.1,y1.2.1.2.2.2.2.2.2.1,()),()))) fu (0,(y.2.1.1,y.2.1.2.1,y.2.1.2.2.1,y.2.1.2.2.2.1,y.2.1.2.2.2.2.1,y.2.1.2.2.2.2.2.1,y.2.1.2.2.2.2.2.2.1,()),())).bind λp8=>
 some (0,(IntKind.i64.wrap (y.1+1),(p8.2.2.1.1,p8.2.2.1.2.1,p8.2.2.1.2.2.1,p8.2.2.1.2.2.2.1,p8.2.2.1.2.2.2.2.1,p8.2.2.1.2.2.2.2.2.1,p8.2.2.1.2.2.2.2.2.2.1,()),()))
 else
 some (1,(y.1,(y.2.1.1,y.2.1.2.1,y.2.1.2.2.1,y.2.1.2.2.2.1,y.2.1.2.2.2.2.1,y.2.1.2.2.2.2.2.1,y.2.1.2.2.2.2.2.2.1,()),()))) fu (0,(i,i1,c2,c3,cs1,c5,c6,()),())).bind λp9=>
 need ((Nat.beq ((p9.2.2.1.2.2.2.2.1.length/3)*3) p9.2.2.1.2.2.2.2.1.length)&&true)<|
 (cl fu d fn_slices_SortFunc_sapi_Cell_api_Cell [V.own 1000000 0 (p9.2.2.1.2.2.2.2.1.length/3),V.c (C.fn fn_mesh_Build_1 ([]))] [.sb ty_api_Cell 0 p9.2.2.1.2.2.2.2.1]).bind λout2=>
 rowBack ty_api_Cell p9.2.2.1.2.2.2.2.1 false out2.objs λcs3=>
 need ((Nat.beq ((cs3.length/3)*3) cs3.length)&&true)<|
 asRow ty_api_Edge (PC.c p9.2.2.1.2.2.2.2.2.1) λcs4=>
 (iter (λ(y3:Int×(Int×Int×C×C×C×List C×C×Unit)×Unit)=>
 bif decide (y3.1<((cs3.length/3:Nat):Int))then
 need (inR y3.1 (cs3.length/3))<|
 unc (List.drop (y3.1.toNat*3) cs3) λc13 r7=>
 asI .i64 c13 λi4=>
 unc r7 λc14 r8=>
 asI .i64 c14 λi5=>
 unc r8 λc15 _=>
 asI .i64 c15 λi6=>
 need ((((Nat.beq ((y3.2.1.2.2.2.2.2.1.length/2)*2) y3.2.1.2.2.2.2.2.1.length)&&true)&&(Nat.ble (((y3.2.1.2.2.2.2.2.1.length/2)+3)*16) 140737488355328))&&(Nat.ble ((y3.2.1.2.2.2.2.2.1.length/2)+3) 140737488355328))<|
 need (Nat.beq (((y3.2.1.2.2.2.2.2.1.length/2)+3)*2) ((y3.2.1.2.2.2.2.2.1++([C.v (.int .i64 i4),C.v (.int .i64 i5),C.v (.int .i64 i4),C.v (.int .i64 i6),C.v (.int .i64 i5),C.v (.int .i64 i6)])).length))<|
 some (0,(IntKind.i64.wrap (y3.1+1),(y3.2.1.1,y3.2.1.2.1,y3.2.1.2.2.1,y3.2.1.2.2.2.1,y3.2.1.2.2.2.2.1,y3.2.1.2.2.2.2.2.1++([C.v (.int .i64 i4),C.v (.int .i64 i5),C.v (.int .i64 i4),C.v (.int .i64 i6),C.v (.int .i64 i5),C.v (.int .i64 i6)]),y3.2.1.2.2.2.2.2.2.1,()),()))
 else
 some (1,(y3.1,(y3.2.1.1,y3.2.1.2.1,y3.2.1.2.2.1,y3.2.1.2.2.2.1,y3.2.1.2.2.2.2.1,y3.2.1.2.2.2.2.2.1,y3.2.1.2.2.2.2.2.2.1,()),()))) fu (0,(p9.2.2.1.1,p9.2.2.1.2.1,p9.2.2.1.2.2.1,p9.2.2.1.2.2.2.1,C.sl (cs3.length/3) cs3,cs4,p9.2.2.1.2.2.2.2.2.2.1,()),())).bind λp10=>
 need ((Nat.beq ((p10.2.2.1.2.2.2.2.2.1.length/2)*2) p10.2.2.1.2.2.2.2.2.1.length)&&true)<|
 (cl fu d fn_slices_SortFunc_sapi_Edge_api_Edge [V.own 1000000 0 (p10.2.2.1.2.2.2.2.2.1.length/2),V.c (C.fn fn_mesh_Build_2 ([]))] [.sb ty_api_Edge 0 p10.2.2.1.2.2.2.2.2.1]).bind λout3=>
 rowBack ty_api_Edge p10.2.2.1.2.2.2.2.2.1 false out3.objs λcs5=>
 need ((Nat.beq ((cs5.length/2)*2) cs5.length)&&true)<|
 (cl fu d fn_slices_Compact_sapi_Edge_api_Edge [V.own 1000000 0 (cs5.length/2)] [.sb ty_api_Edge 0 cs5]).bind λout4=>
 rowBack ty_api_Edge cs5 true out4.objs λcs6=>
 rC out4.r λc16=>
 asSl p10.2.2.1.2.2.1 λn cs7=>
 need ((((((decide (0≤((n:Nat):Int)))&&(decide (((n:Nat):Int)=((n:Nat):Int))))&&(decide ((24:Int)*((n:Nat):Int)≤140737488355328)))&&(decide (((n:Nat):Int)≤140737488355328)))&&true)&&true)<|
 asSl c16 λn1 cs8=>
 need (Nat.beq (((n:Nat):Int).toNat) ((List.replicate (((n:Nat):Int).toNat) ([]:List C)).length))<|
 (iter (λ(y4:Int×(Int×Int×C×C×C×C×(List (List C))×Unit)×Unit)=>
 bif decide (y4.1<((n1:Nat):Int))then
 asSl c16 λn2 cs9=>
 need (inR y4.1 n2)<|
 unc (List.drop (y4.1.toNat*2) cs9) λc17 r10=>
 asI .i64 c17 λi7=>
 unc r10 λc18 _=>
 asI .i64 c18 λi8=>
 need (inR i7 y4.2.1.2.2.2.2.2.2.1.length)<|
 need (Nat.blt (i7.toNat*1) y4.2.1.2.2.2.2.2.2.1.length)<|
 need (Nat.blt (i7.toNat*1) y4.2.1.2.2.2.2.2.2.1.length)<|
 need ((((Nat.beq ((((y4.2.1.2.2.2.2.2.2.1.getD (i7.toNat*1) []).length)/1)*1) ((y4.2.1.2.2.2.2.2.2.1.getD (i7.toNat*1) []).length))&&true)&&(Nat.ble (((((y4.2.1.2.2.2.2.2.2.1.getD (i7.toNat*1) []).length)/1)+1)*8) 140737488355328))&&(Nat.ble ((((y4.2.1.2.2.2.2.2.2.1.getD (i7.toNat*1) []).length)/1)+1) 140737488355328))<|
 need (inR i7 y4.2.1.2.2.2.2.2.2.1.length)<|
 need (((Nat.beq (i7.toNat*1) (i7.toNat*1))&&(Nat.beq (i7.toNat*1) (i7.toNat*1)))&&(Nat.beq (((((y4.2.1.2.2.2.2.2.2.1.getD (i7.toNat*1) []).length)/1)+1)*1) (((y4.2.1.2.2.2.2.2.2.1.getD (i7.toNat*1) [])++([C.v (.int .i64 i8)])).length)))<|
 need (inR i8 y4.2.1.2.2.2.2.2.2.1.length)<|
 need (Nat.blt (i8.toNat*1) (y4.2.1.2.2.2.2.2.2.1.set (i7.toNat*1) ((y4.2.1.2.2.2.2.2.2.1.getD (i7.toNat*1) [])++([C.v (.int .i64 i8)]))).length)<|
 need (Nat.blt (i8.toNat*1) (y4.2.1.2.2.2.2.2.2.1.set (i7.toNat*1) ((y4.2.1.2.2.2.2.2.2.1.getD (i7.toNat*1) [])++([C.v (.int .i64 i8)]))).length)<|
 need ((((Nat.beq (((((y4.2.1.2.2.2.2.2.2.1.set (i7.toNat*1) ((y4.2.1.2.2.2.2.2.2.1.getD (i7.toNat*1) [])++([C.v (.int .i64 i8)]))).getD (i8.toNat*1) []).length)/1)*1) (((y4.2.1.2.2.2.2.2.2.1.set (i7.toNat*1) ((y4.2.1.2.2.2.2.2.2.1.getD (i7.toNat*1) [])++([C.v (.int .i64 i8)]))).getD (i8.toNat*1) []).length))&&true)&&(Nat.ble ((((((y4.2.1.2.2.2.2.2.2.1.set (i7.toNat*1) ((y4.2.1.2.2.2.2.2.2.1.getD (i7.toNat*1) [])++([C.v (.int .i64 i8)]))).getD (i8.toNat*1) []).length)/1)+1)*8) 140737488355328))&&(Nat.ble (((((y4.2.1.2.2.2.2.2.2.1.set (i7.toNat*1) ((y4.2.1.2.2.2.2.2.2.1.getD (i7.toNat*1) [])++([C.v (.int .i64 i8)]))).getD (i8.toNat*1) []).length)/1)+1) 140737488355328))<|
 need (inR i8 y4.2.1.2.2.2.2.2.2.1.length)<|
 need (((Nat.beq (i8.toNat*1) (i8.toNat*1))&&(Nat.beq (i8.toNat*1) (i8.toNat*1)))&&(Nat.beq ((((((y4.2.1.2.2.2.2.2.2.1.set (i7.toNat*1) ((y4.2.1.2.2.2.2.2.2.1.getD (i7.toNat*1) [])++([C.v (.int .i64 i8)]))).getD (i8.toNat*1) []).length)/1)+1)*1) ((((y4.2.1.2.2.2.2.2.2.1.set (i7.toNat*1) ((y4.2.1.2.2.2.2.2.2.1.getD (i7.toNat*1) [])++([C.v (.int .i64 i8)]))).getD (i8.toNat*1) [])++([C.v (.int .i64 i7)])).length)))<|
 need (Nat.beq y4.2.1.2.2.2.2.2.2.1.length (((y4.2.1.2.2.2.2.2.2.1.set (i7.toNat*1) ((y4.2.1.2.2.2.2.2.2.1.getD (i7.toNat*1) [])++([C.v (.int .i64 i8)]))).set (i8.toNat*1) (((y4.2.1.2.2.2.2.2.2.1.set (i7.toNat*1) ((y4.2.1.2.2.2.2.2.2.1.getD (i7.toNat*1) [])++([C.v (.int .i64 i8)]))).getD (i8.toNat*1) [])++([C.v (.int .i64 i7)]))).length))<|
 some (0,(IntKind.i64.wrap (y4.1+1),(y4.2.1.1,y4.2.1.2.1,y4.2.1.2.2.1,y4.2.1.2.2.2.1,y4.2.1.2.2.2.2.1,y4.2.1.2.2.2.2.2.1,(y4.2.1.2.2.2.2.2.2.1.set (i7.toNat*1) ((y4.2.1.2.2.2.2.2.2.1.getD (i7.toNat*1) [])++([C.v (.int .i64 i8)]))).set (i8.toNat*1) (((y4.2.1.2.2.2.2.2.2.1.set (i7.toNat*1) ((y4.2.1.2.2.2.2.2.2.1.getD (i7.toNat*1) [])++([C.v (.int .i64 i8)]))).getD (i8.toNat*1) [])++([C.v (.int .i64 i7)])),()),()))
 else
 need (Nat.beq y4.2.1.2.2.2.2.2.2.1.length y4.2.1.2.2.2.2.2.2.1.length)<|
 some (1,(y4.1,(y4.2.1.1,y4.2.1.2.1,y4.2.1.2.2.1,y4.2.1.2.2.2.1,y4.2.1.2.2.2.2.1,y4.2.1.2.2.2.2.2.1,y4.2.1.2.2.2.2.2.2.1,()),()))) fu (0,(p10.2.2.1.1,p10.2.2.1.2.1,p10.2.2.1.2.2.1,p10.2.2.1.2.2.2.1,p10.2.2.1.2.2.2.2.1,c16,List.replicate (((n:Nat):Int).toNat) ([]:List C),()),())).bind λp11=>
 need ((((Nat.beq p11.2.2.1.2.2.2.2.2.2.1.length p11.2.2.1.2.2.2.2.2.2.1.length)&&true)&&true)&&true)<|
 need (Nat.beq p11.2.2.1.2.2.2.2.2.2.1.length p11.2.2.1.2.2.2.2.2.2.1.length)<|
 (iter (λ(y5:Int×(Int×Int×C×C×C×C×(List (List C))×Unit)×Unit)=>
 bif decide (y5.1<((p11.2.2.1.2.2.2.2.2.2.1.length:Nat):Int))then
 need (inR y5.1 y5.2.1.2.2.2.2.2.2.1.length)<|
 need (Nat.blt (y5.1.toNat*1) y5.2.1.2.2.2.2.2.2.1.length)<|
 need (Nat.blt (y5.1.toNat*1) y5.2.1.2.2.2.2.2.2.1.length)<|
 need ((Nat.beq ((((y5.2.1.2.2.2.2.2.2.1.getD (y5.1.toNat*1) []).length)/1)*1) ((y5.2.1.2.2.2.2.2.2.1.getD (y5.1.toNat*1) []).length))&&true)<|
 (cl fu d fn_slices_Sort_sint_int [V.own 1000000 0 (((y5.2.1.2.2.2.2.2.2.1.getD (y5.1.toNat*1) []).length)/1)] [.sb ty_int 0 (y5.2.1.2.2.2.2.2.2.1.getD (y5.1.toNat*1) [])]).bind λout5=>
 rowBack ty_int (y5.2.1.2.2.2.2.2.2.1.getD (y5.1.toNat*1) []) false out5.objs λcs10=>
 need ((((Nat.beq y5.2.1.2.2.2.2.2.2.1.length y5.2.1.2.2.2.2.2.2.1.length)&&true)&&true)&&true)<|
 need (Nat.beq y5.2.1.2.2.2.2.2.2.1.length ((y5.2.1.2.2.2.2.2.2.1.set (y5.1.toNat*1) cs10).length))<|
 some (0,(IntKind.i64.wrap (y5.1+1),(y5.2.1.1,y5.2.1.2.1,y5.2.1.2.2.1,y5.2.1.2.2.2.1,y5.2.1.2.2.2.2.1,y5.2.1.2.2.2.2.2.1,y5.2.1.2.2.2.2.2.2.1.set (y5.1.toNat*1) cs10,()),()))
 else
 need ((((Nat.beq y5.2.1.2.2.2.2.2.2.1.length y5.2.1.2.2.2.2.2.2.1.length)&&true)&&true)&&true)<|
 need (Nat.beq y5.2.1.2.2.2.2.2.2.1.length y5.2.1.2.2.2.2.2.2.1.length)<|
 some (1,(y5.1,(y5.2.1.1,y5.2.1.2.1,y5.2.1.2.2.1,y5.2.1.2.2.2.1,y5.2.1.2.2.2.2.1,y5.2.1.2.2.2.2.2.1,y5.2.1.2.2.2.2.2.2.1,()),()))) fu (0,(p11.2.2.1.1,p11.2.2.1.2.1,p11.2.2.1.2.2.1,p11.2.2.1.2.2.2.1,p11.2.2.1.2.2.2.2.1,p11.2.2.1.2.2.2.2.2.1,p11.2.2.1.2.2.2.2.2.2.1,()),())).bind λp12=>
 need (Nat.beq p12.2.2.1.2.2.2.2.2.2.1.length p12.2.2.1.2.2.2.2.2.2.1.length)<|
 some ⟨V.ptr 1000000 0,[.ob ty_mesh_Net 0 ([C.v (.int .i64 p12.2.2.1.1),C.v (.int .i64 p12.2.2.1.2.1),p12.2.2.1.2.2.1,p12.2.2.1.2.2.2.1,p12.2.2.1.2.2.2.2.1,p12.2.2.1.2.2.2.2.2.1,C.sl p12.2.2.1.2.2.2.2.2.2.1.length (List.map (λ(r:List C)=>C.sl (r.length/1) r) p12.2.2.1.2.2.2.2.2.2.1)])],none⟩):=by kernel_rfl
/- synoptic/flux.outside -/
theorem eq_flux_outside (fu d:Nat) (n0:Nat) (a0:List C) (a1:Int) (a2:Int):
 cl fu (d+1) fn_flux_outside [V.c (C.sl n0 a0),I a1,I a2] []=(
 (cl fu d fn_slices_ContainsFunc_sint_int [V.c (C.sl n0 a0),V.c (C.fn fn_flux_outside_1 ([C.cp ([C.v (.int .i64 a1)]),C.cp ([C.v (.int .i64 a2)])]))] []).bind λout=>
 rC out.r λc=>
 asB c λb=>
 some ⟨B b,[],none⟩):=by kernel_rfl
/- (synoptic/adjoint.link).through -/
theorem eq_adjoint_link_through (fu d:Nat) (a0_0:Int) (a0_1:Int) (a0_2:Int) (a0_3:Int) (a0_4:Int) (a0_5:Int) (a0_6:Int) (a0_7:C):
 cl fu (d+1) fn_adjoint_link_through [V.agg ([C.v (.int .i64 a0_0),C.v (.int .i64 a0_1),C.v (.int .i64 a0_2),C.v (.int .i64 a0_3),C.v (.int .i64 a0_4),C.v (.int .i64 a0_5),C.v (.int .i64 a0_6),a0_7])] []=(
 need (!(decide (a0_2<0)))<|
 some ⟨I (IntKind.i64.wrap (a0_5-(Int.fdiv a0_5 (2^(min a0_2.toNat (IntKind.bits .i64)))))),[],none⟩):=by kernel_rfl
/- (synoptic/adjoint.link).amount -/
theorem eq_adjoint_link_amount (fu d:Nat) (a0_0:Int) (a0_1:Int) (a0_2:Int) (a0_3:Int) (a0_4:Int) (a0_5:Int) (a0_6:Int) (a0_7:C) (a1_0:C) (a1_1:C):
 cl fu (d+1) fn_adjoint_link_amount [V.agg ([C.v (.int .i64 a0_0),C.v (.int .i64 a0_1),C.v (.int .i64 a0_2),C.v (.int .i64 a0_3),C.v (.int .i64 a0_4),C.v (.int .i64 a0_5),C.v (.int .i64 a0_6),a0_7]),V.agg ([a1_0,a1_1])] []=(
 asSl a1_0 λn cs=>
 need (inR a0_1 n)<|
 unc (List.drop (a0_1.toNat*1) cs) λc _=>
 asI .i64 c λi=>
 asSl a1_0 λn2 cs1=>
 need (inR a0_0 n2)<|
 unc (List.drop (a0_0.toNat*1) cs1) λc1 _=>
 asI .i64 c1 λi1=>
 some ⟨I (IntKind.i64.wrap (i-i1)),[],none⟩):=by kernel_rfl
/- slices.Backward[[]synoptic/api.Branch,synoptic/api.Branch]$1 -/
theorem eq_slices_Backward_sapi_Branch_api_Branch_1 (fu d:Nat) (l:Nat) (go:Nat→Bool) (yxs:List (List V)) (e0:List C):
 cl fu (d+1) fn_slices_Backward_sapi_Branch_api_Branch_1 [V.c (C.yl l go yxs),V.c (C.cp e0)] []=(
 unc e0 λc _=>
 asSl c λn cs=>
 (iter (λ(y:Int×Log×Unit)=>
 bif decide (y.1≥0)then
 unc e0 λc1 _=>
 asSl c1 λn1 cs1=>
 need (inR y.1 n1)<|
 unc (List.drop (y.1.toNat*1) cs1) λc2 _=>
 need ((Nat.beq y.2.1.l l)&&(!y.2.1.st))<|
 unI y.2.1.rest λx rest=>
 need (eqV [I y.1,V.c c2] x)<|
 bif !(y.2.1.go y.2.1.i)then
 some (2,(y.1,⟨y.2.1.l,y.2.1.go,Nat.succ y.2.1.i,rest, !(y.2.1.go y.2.1.i)⟩,()))
 else
 some (0,(IntKind.i64.wrap (y.1-1),⟨y.2.1.l,y.2.1.go,Nat.succ y.2.1.i,rest, !(y.2.1.go y.2.1.i)⟩,()))
 else
 some (1,(y.1,y.2.1,()))) fu (IntKind.i64.wrap (((n:Nat):Int)-1),⟨l,go,0,yxs,false⟩,())).bind λp=>
 natD p.1 (
 some ⟨V.tup [],[],some p.2.2.1⟩) λm=>
 some ⟨V.tup [],[],some p.2.2.1⟩):=by kernel_rfl
/- slices.ContainsFunc[[]int,int] -/
theorem eq1_slices_ContainsFunc_sint_int (fu d:Nat) (n0:Nat) (a0:List C) (k1:Nat) (a1_0:C):
 cl fu (d+1) fn_slices_ContainsFunc_sint_int [V.c (C.sl n0 a0),V.c (C.fn k1 ([a1_0]))] []=(
 (cl fu d fn_slices_IndexFunc_sint_int [V.c (C.sl n0 a0),V.c (C.fn k1 ([a1_0]))] []).bind λout=>
 rC out.r λc=>
 asI .i64 c λi=>
 some ⟨B (decide (i≥0)),[],none⟩):=by kernel_rfl
/- slices.ContainsFunc[[]int,int] -/
theorem eq2_slices_ContainsFunc_sint_int (fu d:Nat) (n0:Nat) (a0:List C) (k1:Nat) (a1_0:C) (a1_1:C):
 cl fu (d+1) fn_slices_ContainsFunc_sint_int [V.c (C.sl n0 a0),V.c (C.fn k1 ([a1_0,a1_1]))] []=(
 (cl fu d fn_slices_IndexFunc_sint_int [V.c (C.sl n0 a0),V.c (C.fn k1 ([a1_0,a1_1]))] []).bind λout=>
 rC out.r λc=>
 asI .i64 c λi=>
 some ⟨B (decide (i≥0)),[],none⟩):=by kernel_rfl
/- synoptic/tangent.outside$1 -/
theorem eq_tangent_outside_1 (fu d:Nat) (a0:Int) (e0:List C):
 cl fu (d+1) fn_tangent_outside_1 [I a0,V.c (C.cp e0)] []=(
 unc e0 λc r=>
 asI .i64 c λi=>
 unc e0 λc1 _=>
 asI .i64 c1 λi1=>
 (cl fu d fn_tangent_within [I a0,I (IntKind.i64.wrap (0-i)),I i1] []).bind λout=>
 rC out.r λc2=>
 asB c2 λb=>
 some ⟨B (!b),[],none⟩):=by kernel_rfl
/- synoptic/precision.total -/
theorem eq_precision_total (fu d:Nat):
 cl fu (d+1) fn_precision_total [] []=(
 some ⟨V.clo fn_precision_total_1 1000000,[.ob ty_api_Wide 0 ([C.v (.int .i64 0),C.v (.int .u64 0)])],none⟩):=by kernel_rfl
/- synoptic/model.accelerate$1 -/
theorem eq_model_accelerate_1 (fu d:Nat) (a0_0:Int) (a0_1:C) (a0_2:C) (a0_3:C) (e0:List C):
 cl fu (d+1) fn_model_accelerate_1 [V.agg ([C.v (.int .i64 a0_0),a0_1,a0_2,a0_3]),V.c (C.cp e0)] []=(
 unc e0 λc r=>
 asI .i64 c λi=>
 unc r λc1 r1=>
 asI .i64 c1 λi1=>
 unc r1 λc2 _=>
 asI .i64 c2 λi2=>
 (cl fu d fn_model_Accelerate [V.agg ([C.v (.int .i64 i),C.v (.int .i64 i1),C.v (.int .i64 i2)]),V.agg ([C.v (.int .i64 a0_0),a0_1,a0_2])] []).bind λout=>
 rT out.r λxs=>
 uncV xs λx ys=>
 rA x λcs=>
 need (Nat.beq cs.length 3)<|
 unc cs λc3 r3=>
 asI .i64 c3 λi3=>
 unc r3 λc4 r4=>
 unc r4 λc5 _=>
 uncV ys λx1 ys1=>
 rC x1 λc6=>
 asI .i64 c6 λi4=>
 nilV ys1<|
 some ⟨V.tup [V.agg ([C.v (.int .i64 i3),c4,c5,a0_3]),I i4],[],none⟩):=by kernel_rfl
/- synoptic/model.move$1 -/
theorem eq_model_move_1 (fu d:Nat) (a0_0:Int) (a0_1:C) (a0_2:C) (a0_3:C) (e0:List C):
 cl fu (d+1) fn_model_move_1 [V.agg ([C.v (.int .i64 a0_0),a0_1,a0_2,a0_3]),V.c (C.cp e0)] []=(
 unc e0 λc r=>
 asI .i64 c λi=>
 unc r λc1 r1=>
 asI .i64 c1 λi1=>
 unc r1 λc2 _=>
 asI .i64 c2 λi2=>
 (cl fu d fn_flux_Amounts [V.agg ([C.v (.int .i64 i),C.v (.int .i64 i1),C.v (.int .i64 i2)]),V.agg ([C.v (.int .i64 a0_0),a0_1,a0_2])] []).bind λout=>
 rT out.r λxs=>
 uncV xs λx ys=>
 rC x λc3=>
 uncV ys λx1 ys1=>
 rC x1 λc4=>
 uncV ys1 λx2 ys2=>
 rC x2 λc5=>
 asI .i64 c5 λi3=>
 nilV ys2<|
 bif i3 !=0 then
 some ⟨V.tup [V.agg ([C.v (.int .i64 0),C.nl,C.nl,C.nl]),I i3],[],none⟩
 else
 (cl fu d fn_flux_Move [V.agg ([C.v (.int .i64 a0_0),a0_1,a0_2]),V.c (nrm c3)] []).bind λout1=>
 rT out1.r λxs1=>
 uncV xs1 λx3 ys3=>
 rA x3 λcs=>
 need (Nat.beq cs.length 3)<|
 unc cs λc6 r3=>
 asI .i64 c6 λi4=>
 unc r3 λc7 r4=>
 unc r4 λc8 _=>
 uncV ys3 λx4 ys4=>
 rC x4 λc9=>
 asI .i64 c9 λi5=>
 nilV ys4<|
 some ⟨V.tup [V.agg ([C.v (.int .i64 i4),c7,c8,c4]),I i5],[],none⟩):=by kernel_rfl
/- synoptic/flux.Amounts -/
theorem eq_flux_Amounts (fu d:Nat) (a0_0:Int) (a0_1:Int) (a0_2:Int) (a1_0:Int) (a1_1:C) (a1_2:C):
 cl fu (d+1) fn_flux_Amounts [V.agg ([C.v (.int .i64 a0_0),C.v (.int .i64 a0_1),C.v (.int .i64 a0_2)]),V.agg ([C.v (.int .i64 a1_0),a1_1,a1_2])] []=(
 (cl fu d fn_flux_CheckScheme [V.agg ([C.v (.int .i64 a0_0),C.v (.int .i64 a0_1),C.v (.int .i64 a0_2)])] []).bind λout=>
 rC out.r λc=>
 asI .i64 c λi=>
 bif i !=0 then
 some ⟨V.tup [V.c C.nl,V.c C.nl,I i],[],none⟩
 else
 (cl fu d fn_flux_Check [V.agg ([C.v (.int .i64 a1_0),a1_1,a1_2])] []).bind λout1=>
 rC out1.r λc1=>
 asI .i64 c1 λi1=>
 bif i1 !=0 then
 some ⟨V.tup [V.c C.nl,V.c C.nl,I i1],[],none⟩
 else
 (cl fu d fn_flux_Degrees [I a1_0] []).bind λout2=>
 rT out2.r λxs=>
 uncV xs λx ys=>
 rC x λc2=>
 uncV ys λx1 ys1=>
 rC x1 λc3=>
 asI .i64 c3 λi2=>
 nilV ys1<|
 bif i2 !=0 then
 some ⟨V.tup [V.c C.nl,V.c C.nl,I i2],[],none⟩
 else
 (cl fu d fn_flux_edges [I a1_0] []).bind λout3=>
 rC out3.r λc4=>
 asFn c4 λf cs=>
 (prim.iter d f cs).bind λxs1=>
 (overK (λit (y:(List C×Unit)×(List C×Unit)×Unit)=>
 uncV it λx2 r=>
 rC x2 λc5=>
 asI .i64 c5 λi3=>
 uncV r λx3 r1=>
 rA x3 λcs1=>
 need (Nat.beq cs1.length 2)<|
 unc cs1 λc6 r2=>
 asI .i64 c6 λi4=>
 unc r2 λc7 _=>
 asI .i64 c7 λi5=>
 nilV r1<|
 asSl a1_1 λn cs2=>
 need (inR i4 n)<|
 unc (List.drop (i4.toNat*1) cs2) λc8 _=>
 asI .i64 c8 λi6=>
 asSl c2 λn2 cs3=>
 need (inR i4 n2)<|
 unc (List.drop (i4.toNat*1) cs3) λc9 _=>
 asI .i64 c9 λi7=>
 need (!(i7==0))<|
 asSl a1_1 λn3 cs4=>
 need (inR i5 n3)<|
 unc (List.drop (i5.toNat*1) cs4) λc10 _=>
 asI .i64 c10 λi8=>
 asSl c2 λn4 cs5=>
 need (inR i5 n4)<|
 unc (List.drop (i5.toNat*1) cs5) λc11 _=>
 asI .i64 c11 λi9=>
 need (!(i9==0))<|
 asSl a1_2 λn5 cs6=>
 need (inR i3 n5)<|
 unc (List.drop (i3.toNat*1) cs6) λc12 _=>
 asI .i64 c12 λi10=>
 need (!(decide (a0_2<0)))<|
 bif decide (Int.fdiv i10 (2^(min a0_2.toNat (IntKind.bits .i64)))>IntKind.i64.wrap (Int.tdiv i6 i7))then
 need ((((Nat.beq ((y.1.1.length/1)*1) y.1.1.length)&&true)&&(Nat.ble (((y.1.1.length/1)+1)*8) 140737488355328))&&(Nat.ble ((y.1.1.length/1)+1) 140737488355328))<|
 need ((((Nat.beq ((y.2.1.1.length/1)*1) y.2.1.1.length)&&true)&&(Nat.ble (((y.2.1.1.length/1)+1)*8) 140737488355328))&&(Nat.ble ((y.2.1.1.length/1)+1) 140737488355328))<|
 need (((Nat.beq (((y.1.1.length/1)+1)*1) ((y.1.1++([C.v (.int .i64 (IntKind.i64.wrap (Int.tdiv i6 i7)))])).length))&&true)&&true)<|
 need (((Nat.beq (((y.2.1.1.length/1)+1)*1) ((y.2.1.1++([C.v (.int .i64 1)])).length))&&true)&&true)<|
 some (0,((y.1.1++([C.v (.int .i64 (IntKind.i64.wrap (Int.tdiv i6 i7)))]),()),(y.2.1.1++([C.v (.int .i64 1)]),()),()))
 else
 bd (decide (Int.fdiv i10 (2^(min a0_2.toNat (IntKind.bits .i64)))<IntKind.i64.wrap (0-(IntKind.i64.wrap (Int.tdiv i8 i9))))) λz=>
 bif z then
 need ((((Nat.beq ((y.1.1.length/1)*1) y.1.1.length)&&true)&&(Nat.ble (((y.1.1.length/1)+1)*8) 140737488355328))&&(Nat.ble ((y.1.1.length/1)+1) 140737488355328))<|
 need ((((Nat.beq ((y.2.1.1.length/1)*1) y.2.1.1.length)&&true)&&(Nat.ble (((y.2.1.1.length/1)+1)*8) 140737488355328))&&(Nat.ble ((y.2.1.1.length/1)+1) 140737488355328))<|
 need (((Nat.beq (((y.1.1.length/1)+1)*1) ((y.1.1++([C.v (.int .i64 (IntKind.i64.wrap (0-(IntKind.i64.wrap (Int.tdiv i8 i9)))))])).length))&&true)&&true)<|
 need (((Nat.beq (((y.2.1.1.length/1)+1)*1) ((y.2.1.1++([C.v (.int .i64 (-1))])).length))&&true)&&true)<|
 some (0,((y.1.1++([C.v (.int .i64 (IntKind.i64.wrap (0-(IntKind.i64.wrap (Int.tdiv i8 i9)))))]),()),(y.2.1.1++([C.v (.int .i64 (-1))]),()),()))
 else
 need ((((Nat.beq ((y.1.1.length/1)*1) y.1.1.length)&&true)&&(Nat.ble (((y.1.1.length/1)+1)*8) 140737488355328))&&(Nat.ble ((y.1.1.length/1)+1) 140737488355328))<|
 need ((((Nat.beq ((y.2.1.1.length/1)*1) y.2.1.1.length)&&true)&&(Nat.ble (((y.2.1.1.length/1)+1)*8) 140737488355328))&&(Nat.ble ((y.2.1.1.length/1)+1) 140737488355328))<|
 need (((Nat.beq (((y.1.1.length/1)+1)*1) ((y.1.1++([C.v (.int .i64 (Int.fdiv i10 (2^(min a0_2.toNat (IntKind.bits .i64)))))])).length))&&true)&&true)<|
 need (((Nat.beq (((y.2.1.1.length/1)+1)*1) ((y.2.1.1++([C.v (.int .i64 0)])).length))&&true)&&true)<|
 some (0,((y.1.1++([C.v (.int .i64 (Int.fdiv i10 (2^(min a0_2.toNat (IntKind.bits .i64)))))]),()),(y.2.1.1++([C.v (.int .i64 0)]),()),()))) xs1 (([],()),([],()),())).bind λp=>
 need (Nat.ble (0+((p.2.1.1.length/1)*1)) p.2.1.1.length)<|
 need (Nat.ble (0+((p.2.2.1.1.length/1)*1)) p.2.2.1.1.length)<|
 some ⟨V.tup [V.c (C.sl (p.2.1.1.length/1) (List.take ((p.2.1.1.length/1)*1) p.2.1.1)),V.c (C.sl (p.2.2.1.1.length/1) (List.take ((p.2.2.1.1.length/1)*1) p.2.2.1.1)),I 0],[],none⟩):=by kernel_rfl
/- synoptic/flux.Move -/
theorem eq_flux_Move (fu d:Nat) (a0_0:Int) (a0_1:C) (a0_2:C) (n1:Nat) (a1:List C):
 cl fu (d+1) fn_flux_Move [V.agg ([C.v (.int .i64 a0_0),a0_1,a0_2]),V.c (C.sl n1 a1)] []=(
 (cl fu d fn_flux_Check [V.agg ([C.v (.int .i64 a0_0),a0_1,a0_2])] []).bind λout=>
 rC out.r λc=>
 asI .i64 c λi=>
 bif i !=0 then
 some ⟨V.tup [V.agg ([C.v (.int .i64 0),C.nl,C.nl]),I i],[],none⟩
 else
 asSl a0_2 λn cs=>
 bif ((n1:Nat):Int) !=((n:Nat):Int)then
 some ⟨V.tup [V.agg ([C.v (.int .i64 0),C.nl,C.nl]),I 1],[],none⟩
 else
 (cl fu d fn_flux_outside [V.c (C.sl n1 a1),I (-16777216),I 16777216] []).bind λout1=>
 rC out1.r λc1=>
 asB c1 λb=>
 bif b then
 some ⟨V.tup [V.agg ([C.v (.int .i64 0),C.nl,C.nl]),I 1],[],none⟩
 else
 need (noYl [V.c (nrm a0_1)])<|
 (cl fu d fn_slices_Clone_sint_int [V.c (nrm a0_1)] []).bind λout2=>
 rW out2.r 0 λn2=>
 uncO out2.objs λo os=>
 rS o ty_int 0 λcs1=>
 need ((Nat.beq (n2*1) cs1.length)&&true)<|
 need (noYl [V.c (nrm a0_2)])<|
 (cl fu d fn_slices_Clone_sint_int [V.c (nrm a0_2)] []).bind λout3=>
 rW out3.r 0 λn3=>
 uncO out3.objs λo1 os1=>
 rS o1 ty_int 0 λcs2=>
 need ((Nat.beq (n3*1) cs2.length)&&true)<|
 (cl fu d fn_flux_edges [I a0_0] []).bind λout4=>
 rC out4.r λc2=>
 asFn c2 λf cs3=>
 (prim.iter d f cs3).bind λxs=>
 need (((Nat.beq (n2*1) cs1.length)&&true)&&true)<|
 need (((Nat.beq (n3*1) cs2.length)&&true)&&true)<|
 (overK (λit (y:(Int×C×C×Unit)×(Int×List C×List C×Unit)×Unit)=>
 uncV it λx r=>
 rC x λc3=>
 asI .i64 c3 λi1=>
 uncV r λx1 r1=>
 rA x1 λcs4=>
 need (Nat.beq cs4.length 2)<|
 unc cs4 λc4 r2=>
 asI .i64 c4 λi2=>
 unc r2 λc5 _=>
 asI .i64 c5 λi3=>
 nilV r1<|
 need (inR i2 (y.2.1.2.1.length/1))<|
 unc (List.drop (0+(i2.toNat*1)) y.2.1.2.1) λc6 _=>
 asI .i64 c6 λi4=>
 need (inR i1 n1)<|
 unc (List.drop (i1.toNat*1) a1) λc7 _=>
 asI .i64 c7 λi5=>
 need (inR i2 (y.2.1.2.1.length/1))<|
 need (((Nat.ble 0 (0+(i2.toNat*1)))&&(Nat.ble ((0+(i2.toNat*1))+1) y.2.1.2.1.length))&&true)<|
 need (inR i3 (y.2.1.2.1.length/1))<|
 unc (List.drop (0+(i3.toNat*1)) (putAt y.2.1.2.1 (0+(i2.toNat*1)) ([C.v (.int .i64 (IntKind.i64.wrap (i4-i5)))]))) λc8 _=>
 asI .i64 c8 λi6=>
 need (inR i1 n1)<|
 unc (List.drop (i1.toNat*1) a1) λc9 _=>
 asI .i64 c9 λi7=>
 need (inR i3 (y.2.1.2.1.length/1))<|
 need (((Nat.ble 0 (0+(i3.toNat*1)))&&(Nat.ble ((0+(i3.toNat*1))+1) ((putAt y.2.1.2.1 (0+(i2.toNat*1)) ([C.v (.int .i64 (IntKind.i64.wrap (i4-i5)))])).length)))&&true)<|
 bd (putAt (putAt y.2.1.2.1 (0+(i2.toNat*1)) ([C.v (.int .i64 (IntKind.i64.wrap (i4-i5)))])) (0+(i3.toNat*1)) ([C.v (.int .i64 (IntKind.i64.wrap (i6+i7)))])) λcs5=>
 need (((Nat.beq ((y.2.1.2.1.length/1)*1) cs5.length)&&true)&&true)<|
 need (((Nat.beq ((y.2.1.2.2.1.length/1)*1) y.2.1.2.2.1.length)&&true)&&true)<|
 some (0,((y.1.1,y.1.2.1,y.1.2.2.1,()),(y.2.1.1,cs5,y.2.1.2.2.1,()),()))) xs ((0,C.nl,C.nl,()),(a0_0,cs1,cs2,()),())).bind λp=>
 need (Nat.ble (0+((p.2.2.1.2.1.length/1)*1)) p.2.2.1.2.1.length)<|
 (cl fu d fn_flux_outside [V.c (C.sl (p.2.2.1.2.1.length/1) (List.take ((p.2.2.1.2.1.length/1)*1) p.2.2.1.2.1)),I 0,I 16777216] []).bind λout5=>
 rC out5.r λc10=>
 asB c10 λb1=>
 bif b1 then
 some ⟨V.tup [V.agg ([C.v (.int .i64 0),C.nl,C.nl]),I 7],[],none⟩
 else
 need (Nat.ble (0+((p.2.2.1.2.1.length/1)*1)) p.2.2.1.2.1.length)<|
 need (Nat.ble (0+((p.2.2.1.2.2.1.length/1)*1)) p.2.2.1.2.2.1.length)<|
 some ⟨V.tup [V.agg ([C.v (.int .i64 p.2.2.1.1),C.sl (p.2.2.1.2.1.length/1) (List.take ((p.2.2.1.2.1.length/1)*1) p.2.2.1.2.1),C.sl (p.2.2.1.2.2.1.length/1) (List.take ((p.2.2.1.2.2.1.length/1)*1) p.2.2.1.2.2.1)]),I 0],[],none⟩):=by kernel_rfl
/- synoptic/model.Slopes -/
theorem eq_model_Slopes (fu d:Nat) (a0_0:Int) (a0_1:C) (a0_2:C):
 cl fu (d+1) fn_model_Slopes [V.agg ([C.v (.int .i64 a0_0),a0_1,a0_2])] []=(
 (cl fu d fn_flux_Check [V.agg ([C.v (.int .i64 a0_0),a0_1,a0_2])] []).bind λout=>
 rC out.r λc=>
 asI .i64 c λi=>
 bif i !=0 then
 some ⟨V.tup [V.c C.nl,I i],[],none⟩
 else
 (cl fu d fn_grid_Edges [I a0_0] []).bind λout1=>
 rT out1.r λxs=>
 uncV xs λx ys=>
 rC x λc1=>
 uncV ys λx1 ys1=>
 rC x1 λc2=>
 asI .i64 c2 λi1=>
 nilV ys1<|
 bif i1 !=0 then
 some ⟨V.tup [V.c C.nl,I i1],[],none⟩
 else
 asSl c1 λn cs=>
 (iter (λ(y:List C×Int×Unit)=>
 bif decide (y.2.1<((n:Nat):Int))then
 asSl c1 λn1 cs1=>
 need (inR y.2.1 n1)<|
 unc (List.drop (y.2.1.toNat*2) cs1) λc3 r=>
 asI .i64 c3 λi2=>
 unc r λc4 _=>
 asI .i64 c4 λi3=>
 asSl a0_1 λn2 cs2=>
 need (inR i2 n2)<|
 unc (List.drop (i2.toNat*1) cs2) λc5 _=>
 asI .i64 c5 λi4=>
 asSl a0_1 λn3 cs3=>
 need (inR i3 n3)<|
 unc (List.drop (i3.toNat*1) cs3) λc6 _=>
 asI .i64 c6 λi5=>
 need ((((Nat.beq ((y.1.length/1)*1) y.1.length)&&true)&&(Nat.ble (((y.1.length/1)+1)*8) 140737488355328))&&(Nat.ble ((y.1.length/1)+1) 140737488355328))<|
 need (((Nat.beq (((y.1.length/1)+1)*1) ((y.1++([C.v (.int .i64 (IntKind.i64.wrap (i4-i5)))])).length))&&true)&&true)<|
 some (0,(y.1++([C.v (.int .i64 (IntKind.i64.wrap (i4-i5)))]),IntKind.i64.wrap (y.2.1+1),()))
 else
 need (((Nat.beq ((y.1.length/1)*1) y.1.length)&&true)&&true)<|
 some (1,(y.1,y.2.1,()))) fu ([],0,())).bind λp=>
 need (Nat.ble (0+((p.2.1.length/1)*1)) p.2.1.length)<|
 some ⟨V.tup [V.c (C.sl (p.2.1.length/1) (List.take ((p.2.1.length/1)*1) p.2.1)),I 0],[],none⟩):=by kernel_rfl
/- synoptic/synopticref03.Cells -/
theorem eq_synopticref03_Cells (fu d:Nat) (a0:Int):
 cl fu (d+1) fn_synopticref03_Cells [I a0] []=(
 (cl fu d fn_synopticref03_Nodes [I a0] []).bind λout=>
 rT out.r λxs=>
 uncV xs λx ys=>
 rC x λc=>
 uncV ys λx1 ys1=>
 rC x1 λc1=>
 asI .i64 c1 λi=>
 nilV ys1<|
 bif i !=0 then
 some ⟨V.tup [V.c C.nl,I i],[],none⟩
 else
 need (!(a0==0))<|
 (iter (λ(y:List C×Int×Unit)=>
 bif decide (y.2.1<20)then
 need (((Nat.beq ((y.1.length/3)*3) y.1.length)&&true)&&true)<|
 (iter (λ(y1:List C×Int×Unit)=>
 bif decide (y1.2.1≤IntKind.i64.wrap (840-(IntKind.i64.wrap (Int.tdiv 840 a0))))then
 need (((Nat.beq ((y1.1.length/3)*3) y1.1.length)&&true)&&true)<|
 (iter (λ(y2:List C×Int×Unit)=>
 bif decide (IntKind.i64.wrap (y1.2.1+y2.2.1)≤IntKind.i64.wrap (840-(IntKind.i64.wrap (Int.tdiv 840 a0))))then
 need (noYl [V.c (nrm c)])<|
 (cl fu d fn_synopticref03_at [V.c (nrm c),I y.2.1,I (IntKind.i64.wrap (y1.2.1+(IntKind.i64.wrap (Int.tdiv 840 a0)))),I y2.2.1] []).bind λout1=>
 rC out1.r λc2=>
 asI .i64 c2 λi1=>
 need (noYl [V.c (nrm c)])<|
 (cl fu d fn_synopticref03_at [V.c (nrm c),I y.2.1,I y1.2.1,I (IntKind.i64.wrap (y2.2.1+(IntKind.i64.wrap (Int.tdiv 840 a0))))] []).bind λout2=>
 rC out2.r λc3=>
 asI .i64 c3 λi2=>
 need (noYl [V.c (nrm c)])<|
 (cl fu d fn_synopticref03_at [V.c (nrm c),I y.2.1,I y1.2.1,I y2.2.1] []).bind λout3=>
 rC out3.r λc4=>
 asI .i64 c4 λi3=>
 (cl fu d fn_synopticref03_cell [I i1,I i2,I i3] []).bind λout4=>
 rA out4.r λcs=>
 need (Nat.beq cs.length 3)<|
 unc cs λc5 r=>
 asI .i64 c5 λi4=>
 unc r λc6 r1=>
 asI .i64 c6 λi5=>
 unc r1 λc7 _=>
 asI .i64 c7 λi6=>
 (cl fu d fn_synopticref03_insert [V.own 1000000 0 (y2.1.length/3),V.agg ([C.v (.int .i64 i4),C.v (.int .i64 i5),C.v (.int .i64 i6)])] [.sb ty_api_Cell 0 y2.1]).bind λout5=>
 uncO out5.objs λ_ os=>
 rW out5.r 1 λn=>
 uncO os λo os1=>
 rS o ty_api_Cell 0 λcs1=>
 need ((Nat.beq (n*3) cs1.length)&&true)<|
 bd (decide (IntKind.i64.wrap (y1.2.1+y2.2.1)≤IntKind.i64.wrap (840-(IntKind.i64.wrap (2*(IntKind.i64.wrap (Int.tdiv 840 a0))))))) λz=>
 bif z then
 need (noYl [V.c (nrm c)])<|
 (cl fu d fn_synopticref03_at [V.c (nrm c),I y.2.1,I y1.2.1,I (IntKind.i64.wrap (y2.2.1+(IntKind.i64.wrap (Int.tdiv 840 a0))))] []).bind λout6=>
 rC out6.r λc8=>
 asI .i64 c8 λi7=>
 need (noYl [V.c (nrm c)])<|
 (cl fu d fn_synopticref03_at [V.c (nrm c),I y.2.1,I (IntKind.i64.wrap (y1.2.1+(IntKind.i64.wrap (Int.tdiv 840 a0)))),I y2.2.1] []).bind λout7=>
 rC out7.r λc9=>
 asI .i64 c9 λi8=>
 need (noYl [V.c (nrm c)])<|
 (cl fu d fn_synopticref03_at [V.c (nrm c),I y.2.1,I (IntKind.i64.wrap (y1.2.1+(IntKind.i64.wrap (Int.tdiv 840 a0)))),I (IntKind.i64.wrap (y2.2.1+(IntKind.i64.wrap (Int.tdiv 840 a0))))] []).bind λout8=>
 rC out8.r λc10=>
 asI .i64 c10 λi9=>
 (cl fu d fn_synopticref03_cell [I i7,I i8,I i9] []).bind λout9=>
 rA out9.r λcs2=>
 need (Nat.beq cs2.length 3)<|
 unc cs2 λc11 r3=>
 asI .i64 c11 λi10=>
 unc r3 λc12 r4=>
 asI .i64 c12 λi11=>
 unc r4 λc13 _=>
 asI .i64 c13 λi12=>
 (cl fu d fn_synopticref03_insert [V.own 1000000 0 n,V.agg ([C.v (.int .i64 i10),C.v (.int .i64 i11),C.v (.int .i64 i12)])] [.sb ty_api_Cell 0 cs1]).bind λout10=>
 uncO out10.objs λ_ os2=>
 rW out10.r 1 λn1=>
 uncO os2 λo1 os3=>
 rS o1 ty_api_Cell 0 λcs3=>
 need ((Nat.beq (n1*3) cs3.length)&&true)<|
 need (((Nat.beq (n1*3) cs3.length)&&true)&&true)<|
 some (0,(cs3,IntKind.i64.wrap (y2.2.1+(IntKind.i64.wrap (Int.tdiv 840 a0))),()))
 else
 need (((Nat.beq (n*3) cs1.length)&&true)&&true)<|
 some (0,(cs1,IntKind.i64.wrap (y2.2.1+(IntKind.i64.wrap (Int.tdiv 840 a0))),()))
 else
 need (((Nat.beq ((y2.1.length/3)*3) y2.1.length)&&true)&&true)<|
 some (1,(y2.1,y2.2.1,()))) fu (y1.1,0,())).bind λp=>
 need (((Nat.beq ((p.2.1.length/3)*3) p.2.1.length)&&true)&&true)<|
 some (0,(p.2.1,IntKind.i64.wrap (y1.2.1+(IntKind.i64.wrap (Int.tdiv 840 a0))),()))
 else
 need (((Nat.beq ((y1.1.length/3)*3) y1.1.length)&&true)&&true)<|
 some (1,(y1.1,y1.2.1,()))) fu (y.1,0,())).bind λp1=>
 need (((Nat.beq ((p1.2.1.length/3)*3) p1.2.1.length)&&true)&&true)<|
 some (0,(p1.2.1,IntKind.i64.wrap (y.2.1+1),()))
 else
 need (((Nat.beq ((y.1.length/3)*3) y.1.length)&&true)&&true)<|
 some (1,(y.1,y.2.1,()))) fu ([],0,())).bind λp2=>
 need (Nat.ble (0+((p2.2.1.length/3)*3)) p2.2.1.length)<|
 some ⟨V.tup [V.c (C.sl (p2.2.1.length/3) (List.take ((p2.2.1.length/3)*3) p2.2.1)),I 0],[],none⟩):=by kernel_rfl
/- synoptic/flux.edges$1 -/
theorem eq_flux_edges_1 (fu d:Nat) (l:Nat) (go:Nat→Bool) (yxs:List (List V)) (e0:List C):
 cl fu (d+1) fn_flux_edges_1 [V.c (C.yl l go yxs),V.c (C.cp e0)] []=(
 unc e0 λc r=>
 asI .i64 c λi=>
 (cl fu d fn_grid_Edges [I i] []).bind λout=>
 rT out.r λxs=>
 uncV xs λx ys=>
 rC x λc1=>
 uncV ys λx1 ys1=>
 rC x1 λc2=>
 asI .i64 c2 λi1=>
 nilV ys1<|
 asSl c1 λn cs=>
 (iter (λ(y:Int×Log×Unit)=>
 bif decide (y.1<((n:Nat):Int))then
 asSl c1 λn1 cs1=>
 need (inR y.1 n1)<|
 unc (List.drop (y.1.toNat*2) cs1) λc3 r1=>
 asI .i64 c3 λi2=>
 unc r1 λc4 _=>
 asI .i64 c4 λi3=>
 need ((Nat.beq y.2.1.l l)&&(!y.2.1.st))<|
 unI y.2.1.rest λx2 rest=>
 need (eqV [I y.1,V.agg ([C.v (.int .i64 i2),C.v (.int .i64 i3)])] x2)<|
 bif !(y.2.1.go y.2.1.i)then
 some (2,(y.1,⟨y.2.1.l,y.2.1.go,Nat.succ y.2.1.i,rest, !(y.2.1.go y.2.1.i)⟩,()))
 else
 some (0,(IntKind.i64.wrap (y.1+1),⟨y.2.1.l,y.2.1.go,Nat.succ y.2.1.i,rest, !(y.2.1.go y.2.1.i)⟩,()))
 else
 some (1,(y.1,y.2.1,()))) fu (0,⟨l,go,0,yxs,false⟩,())).bind λp=>
 natD p.1 (
 some ⟨V.tup [],[],some p.2.2.1⟩) λm=>
 some ⟨V.tup [],[],some p.2.2.1⟩):=by kernel_rfl
/- synoptic/mesh.Points -/
theorem eq_mesh_Points (fu d:Nat) (a0:Int):
 cl fu (d+1) fn_mesh_Points [I a0] []=(
 need (!(a0==0))<|
 (iter (λ(y:Int×(Int×Int×List C×(List (List C×List C))×C×C×C×Unit)×Unit)=>
 bif decide (y.1<20)then
 need (((Nat.beq ((y.2.1.2.2.1.length/4)*4) y.2.1.2.2.1.length)&&true)&&true)<|
 (iter (λ(y1:Int×(Int×Int×List C×(List (List C×List C))×C×C×C×Unit)×Unit)=>
 bif decide (y1.1≤a0)then
 need (((Nat.beq ((y1.2.1.2.2.1.length/4)*4) y1.2.1.2.2.1.length)&&true)&&true)<|
 (iter (λ(y2:Int×(Int×Int×List C×(List (List C×List C))×C×C×C×Unit)×Unit)=>
 bif decide (IntKind.i64.wrap (y1.1+y2.1)≤a0)then
 (cl fu d fn_place_Normal [V.agg ([C.v (.int .i64 y.1),C.v (.int .i64 (IntKind.i64.wrap (y1.1*y2.2.1.2.1))),C.v (.int .i64 (IntKind.i64.wrap (y2.1*y2.2.1.2.1))),C.v (.int .i64 (IntKind.i64.wrap ((IntKind.i64.wrap ((IntKind.i64.wrap (a0-y1.1))-y2.1))*y2.2.1.2.1)))])] []).bind λout=>
 rT out.r λxs=>
 uncV xs λx ys=>
 rA x λcs=>
 need (Nat.beq cs.length 4)<|
 unc cs λc r=>
 asI .i64 c λi=>
 unc r λc1 r1=>
 asI .i64 c1 λi1=>
 unc r1 λc2 r2=>
 asI .i64 c2 λi2=>
 unc r2 λc3 _=>
 asI .i64 c3 λi3=>
 uncV ys λx1 ys1=>
 rC x1 λc4=>
 asI .i64 c4 λi4=>
 nilV ys1<|
 bd ((i==y.1)&&((i1==(IntKind.i64.wrap (y1.1*y2.2.1.2.1)))&&((i2==(IntKind.i64.wrap (y2.1*y2.2.1.2.1)))&&((i3==(IntKind.i64.wrap ((IntKind.i64.wrap ((IntKind.i64.wrap (a0-y1.1))-y2.1))*y2.2.1.2.1)))&&true)))) λz=>
 bif z then
 (mfd ty_api_Place ([C.v (.int .i64 y.1),C.v (.int .i64 (IntKind.i64.wrap (y1.1*y2.2.1.2.1))),C.v (.int .i64 (IntKind.i64.wrap (y2.1*y2.2.1.2.1))),C.v (.int .i64 (IntKind.i64.wrap ((IntKind.i64.wrap ((IntKind.i64.wrap (a0-y1.1))-y2.1))*y2.2.1.2.1)))]) y2.2.1.2.2.2.1).bind λq=>
 need ((((Nat.beq ((y2.2.1.2.2.1.length/4)*4) y2.2.1.2.2.1.length)&&true)&&(Nat.ble (((y2.2.1.2.2.1.length/4)+1)*32) 140737488355328))&&(Nat.ble ((y2.2.1.2.2.1.length/4)+1) 140737488355328))<|
 bd (y2.2.1.2.2.1++([C.v (.int .i64 y.1),C.v (.int .i64 (IntKind.i64.wrap (y1.1*y2.2.1.2.1))),C.v (.int .i64 (IntKind.i64.wrap (y2.1*y2.2.1.2.1))),C.v (.int .i64 (IntKind.i64.wrap ((IntKind.i64.wrap ((IntKind.i64.wrap (a0-y1.1))-y2.1))*y2.2.1.2.1)))])) λcs1=>
 need (((Nat.beq (((y2.2.1.2.2.1.length/4)+1)*4) cs1.length)&&true)&&true)<|
 some (0,(IntKind.i64.wrap (y2.1+1),(y2.2.1.1,y2.2.1.2.1,cs1,mput y2.2.1.2.2.2.1 q ([C.v (.int .i64 y.1),C.v (.int .i64 (IntKind.i64.wrap (y1.1*y2.2.1.2.1))),C.v (.int .i64 (IntKind.i64.wrap (y2.1*y2.2.1.2.1))),C.v (.int .i64 (IntKind.i64.wrap ((IntKind.i64.wrap ((IntKind.i64.wrap (a0-y1.1))-y2.1))*y2.2.1.2.1)))]) ([C.v (.int .i64 ((y2.2.1.2.2.1.length/4:Nat):Int))]),y2.2.1.2.2.2.2.1,y2.2.1.2.2.2.2.2.1,y2.2.1.2.2.2.2.2.2.1,()),()))
 else
 need (((Nat.beq ((y2.2.1.2.2.1.length/4)*4) y2.2.1.2.2.1.length)&&true)&&true)<|
 some (0,(IntKind.i64.wrap (y2.1+1),(y2.2.1.1,y2.2.1.2.1,y2.2.1.2.2.1,y2.2.1.2.2.2.1,y2.2.1.2.2.2.2.1,y2.2.1.2.2.2.2.2.1,y2.2.1.2.2.2.2.2.2.1,()),()))
 else
 need (((Nat.beq ((y2.2.1.2.2.1.length/4)*4) y2.2.1.2.2.1.length)&&true)&&true)<|
 some (1,(y2.1,(y2.2.1.1,y2.2.1.2.1,y2.2.1.2.2.1,y2.2.1.2.2.2.1,y2.2.1.2.2.2.2.1,y2.2.1.2.2.2.2.2.1,y2.2.1.2.2.2.2.2.2.1,()),()))) fu (0,(y1.2.1.1,y1.2.1.2.1,y1.2.1.2.2.1,y1.2.1.2.2.2.1,y1.2.1.2.2.2.2.1,y1.2.1.2.2.2.2.2.1,y1.2.1.2.2.2.2.2.2.1,()),())).bind λp=>
 need (((Nat.beq ((p.2.2.1.2.2.1.length/4)*4) p.2.2.1.2.2.1.length)&&true)&&true)<|
 some (0,(IntKind.i64.wrap (y1.1+1),(p.2.2.1.1,p.2.2.1.2.1,p.2.2.1.2.2.1,p.2.2.1.2.2.2.1,p.2.2.1.2.2.2.2.1,p.2.2.1.2.2.2.2.2.1,p.2.2.1.2.2.2.2.2.2.1,()),()))
 else
 need (((Nat.beq ((y1.2.1.2.2.1.length/4)*4) y1.2.1.2.2.1.length)&&true)&&true)<|
 some (1,(y1.1,(y1.2.1.1,y1.2.1.2.1,y1.2.1.2.2.1,y1.2.1.2.2.2.1,y1.2.1.2.2.2.2.1,y1.2.1.2.2.2.2.2.1,y1.2.1.2.2.2.2.2.2.1,()),()))) fu (0,(y.2.1.1,y.2.1.2.1,y.2.1.2.2.1,y.2.1.2.2.2.1,y.2.1.2.2.2.2.1,y.2.1.2.2.2.2.2.1,y.2.1.2.2.2.2.2.2.1,()),())).bind λp1=>
 need (((Nat.beq ((p1.2.2.1.2.2.1.length/4)*4) p1.2.2.1.2.2.1.length)&&true)&&true)<|
 some (0,(IntKind.i64.wrap (y.1+1),(p1.2.2.1.1,p1.2.2.1.2.1,p1.2.2.1.2.2.1,p1.2.2.1.2.2.2.1,p1.2.2.1.2.2.2.2.1,p1.2.2.1.2.2.2.2.2.1,p1.2.2.1.2.2.2.2.2.2.1,()),()))
 else
 need (((Nat.beq ((y.2.1.2.2.1.length/4)*4) y.2.1.2.2.1.length)&&true)&&true)<|
 some (1,(y.1,(y.2.1.1,y.2.1.2.1,y.2.1.2.2.1,y.2.1.2.2.2.1,y.2.1.2.2.2.2.1,y.2.1.2.2.2.2.2.1,y.2.1.2.2.2.2.2.2.1,()),()))) fu (0,(a0,IntKind.i64.wrap (Int.tdiv 840 a0),[],[],C.nl,C.nl,C.nl,()),())).bind λp2=>
 need (Nat.ble (0+((p2.2.2.1.2.2.1.length/4)*4)) p2.2.2.1.2.2.1.length)<|
 some ⟨V.ptr 1000000 0,[.ob ty_mesh_Net 0 ([C.v (.int .i64 p2.2.2.1.1),C.v (.int .i64 p2.2.2.1.2.1),C.sl (p2.2.2.1.2.2.1.length/4) (List.take ((p2.2.2.1.2.2.1.length/4)*4) p2.2.2.1.2.2.1),C.mp ty_api_Place ty_int (some 4) none p2.2.2.1.2.2.2.1,p2.2.2.1.2.2.2.2.1,p2.2.2.1.2.2.2.2.2.1,p2.2.2.1.2.2.2.2.2.2.1])],none⟩):=by kernel_rfl
/- (*synoptic/mesh.Net).cells -/
theorem eqp_mesh_Net_cells (fu d:Nat) (a0_0:Int) (a0_1:Int) (a0_2:C) (a0_3:List (List C×List C)) (a0_4:List C) (a0_5:C) (a0_6:C) (g0:Nat) (a1_0:Int) (a1_1:Int) (a1_2:Int) (a1_3:Int):
 cl fu (d+1) fn_mesh_Net_cells [V.ptr 1000000 0,V.agg ([C.v (.int .i64 a1_0),C.v (.int .i64 a1_1),C.v (.int .i64 a1_2),C.v (.int .i64 a1_3)])] [.pk g0 ty_mesh_Net (.ps [PC.c (C.v (.int .i64 a0_0)),PC.c (C.v (.int .i64 a0_1)),PC.c a0_2,PC.c (C.mp ty_api_Place ty_int (some 4) none a0_3),PC.r ty_api_Cell a0_4,PC.c a0_5,PC.c a0_6]) none]=(
 (cl fu d fn_mesh_Net_upward [V.ptr 1000000 0,V.agg ([C.v (.int .i64 a1_0),C.v (.int .i64 a1_1),C.v (.int .i64 a1_2),C.v (.int .i64 a1_3)])] [.pk g0 ty_mesh_Net (.ps [PC.c (C.v (.int .i64 a0_0)),PC.c (C.v (.int .i64 a0_1)),PC.c a0_2,PC.c (C.mp ty_api_Place ty_int (some 4) none a0_3),PC.r ty_api_Cell a0_4,PC.c a0_5,PC.c a0_6]) none]).bind λout=>
 uncO out.objs λo os=>
 rPk o ty_mesh_Net λps=>
 uncP ps λp ps1=>
 asPc p λc=>
 asI .i64 c λi=>
 uncP ps1 λp1 ps2=>
 asPc p1 λc1=>
 asI .i64 c1 λi1=>
 uncP ps2 λp2 ps3=>
 asPc p2 λc2=>
 uncP ps3 λp3 ps4=>
 asPc p3 λc3=>
 uncP ps4 λp4 ps5=>
 asRw ty_api_Cell p4 λcs=>
 uncP ps5 λp5 ps6=>
 asPc p5 λc4=>
 uncP ps6 λp6 ps7=>
 asPc p6 λc5=>
 nilP ps7<|
 rA out.r λcs1=>
 (cl fu d fn_mesh_Net_cell [V.ptr 1000000 0,V.agg cs1] [.pk (Nat.succ g0) ty_mesh_Net (.ps [PC.c (C.v (.int .i64 i)),PC.c (C.v (.int .i64 i1)),PC.c c2,PC.c c3,PC.r ty_api_Cell cs,PC.c c4,PC.c c5]) none]).bind λout1=>
 uncO out1.objs λo1 os1=>
 rPk o1 ty_mesh_Net λps8=>
 uncP ps8 λp7 ps9=>
 asPc p7 λc6=>
 asI .i64 c6 λi2=>
 uncP ps9 λp8 ps10=>
 asPc p8 λc7=>
 asI .i64 c7 λi3=>
 uncP ps10 λp9 ps11=>
 asPc p9 λc8=>
 uncP ps11 λp10 ps12=>
 asPc p10 λc9=>
 uncP ps12 λp11 ps13=>
 asRw ty_api_Cell p11 λcs2=>
 uncP ps13 λp12 ps14=>
 asPc p12 λc10=>
 uncP ps14 λp13 ps15=>
 asPc p13 λc11=>
 nilP ps15<|
 bif decide (a1_3≥i3)then
 (cl fu d fn_mesh_moved [V.agg ([C.v (.int .i64 a1_0),C.v (.int .i64 a1_1),C.v (.int .i64 a1_2),C.v (.int .i64 a1_3)]),I 0,I 0,I (IntKind.i64.wrap (0-i3))] []).bind λout2=>
 rA out2.r λcs3=>
 need (Nat.beq cs3.length 4)<|
 unc cs3 λc12 r=>
 asI .i64 c12 λi4=>
 unc r λc13 r1=>
 asI .i64 c13 λi5=>
 unc r1 λc14 r2=>
 asI .i64 c14 λi6=>
 unc r2 λc15 _=>
 asI .i64 c15 λi7=>
 (cl fu d fn_mesh_Net_downward [V.ptr 1000000 0,V.agg ([C.v (.int .i64 i4),C.v (.int .i64 i5),C.v (.int .i64 i6),C.v (.int .i64 i7)])] [.pk (Nat.succ (Nat.succ g0)) ty_mesh_Net (.ps [PC.c (C.v (.int .i64 i2)),PC.c (C.v (.int .i64 i3)),PC.c c8,PC.c c9,PC.r ty_api_Cell cs2,PC.c c10,PC.c c11]) none]).bind λout3=>
 uncO out3.objs λo2 os2=>
 rPk o2 ty_mesh_Net λps16=>
 uncP ps16 λp14 ps17=>
 asPc p14 λc16=>
 asI .i64 c16 λi8=>
 uncP ps17 λp15 ps18=>
 asPc p15 λc17=>
 asI .i64 c17 λi9=>
 uncP ps18 λp16 ps19=>
 asPc p16 λc18=>
 uncP ps19 λp17 ps20=>
 asPc p17 λc19=>
 uncP ps20 λp18 ps21=>
 asRw ty_api_Cell p18 λcs4=>
 uncP ps21 λp19 ps22=>
 asPc p19 λc20=>
 uncP ps22 λp20 ps23=>
 asPc p20 λc21=>
 nilP ps23<|
 rA out3.r λcs5=>
 (cl fu d fn_mesh_Net_cell [V.ptr 1000000 0,V.agg cs5] [.pk (Nat.succ (Nat.succ (Nat.succ g0))) ty_mesh_Net (.ps [PC.c (C.v (.int .i64 i8)),PC.c (C.v (.int .i64 i9)),PC.c c18,PC.c c19,PC.r ty_api_Cell cs4,PC.c c20,PC.c c21]) none]).bind λout4=>
 uncO out4.objs λo3 os3=>
 rPk o3 ty_mesh_Net λps24=>
 uncP ps24 λp21 ps25=>
 asPc p21 λc22=>
 asI .i64 c22 λi10=>
 uncP ps25 λp22 ps26=>
 asPc p22 λc23=>
 asI .i64 c23 λi11=>
 uncP ps26 λp23 ps27=>
 asPc p23 λc24=>
 uncP ps27 λp24 ps28=>
 asPc p24 λc25=>
 uncP ps28 λp25 ps29=>
 asRw ty_api_Cell p25 λcs6=>
 uncP ps29 λp26 ps30=>
 asPc p26 λc26=>
 uncP ps30 λp27 ps31=>
 asPc p27 λc27=>
 nilP ps31<|
 some ⟨V.tup [],[.pk (Nat.succ (Nat.succ (Nat.succ (Nat.succ g0)))) ty_mesh_Net (.ps [PC.c (C.v (.int .i64 i10)),PC.c (C.v (.int .i64 i11)),PC.c c24,PC.c c25,PC.r ty_api_Cell cs6,PC.c c26,PC.c c27]) none],none⟩
 else
 some ⟨V.tup [],[.pk (Nat.succ (Nat.succ g0)) ty_mesh_Net (.ps [PC.c (C.v (.int .i64 i2)),PC.c (C.v (.int .i64 i3)),PC.c c8,PC.c c9,PC.r ty_api_Cell cs2,PC.c c10,PC.c c11]) none],none⟩):=by kernel_rfl
/- synoptic/flux.outside$1 -/
theorem eq_flux_outside_1 (fu d:Nat) (a0:Int) (e0:List C) (e1:List C):
 cl fu (d+1) fn_flux_outside_1 [I a0,V.c (C.cp e0),V.c (C.cp e1)] []=(
 unc e0 λc r=>
 asI .i64 c λi=>
 unc e1 λc1 _=>
 asI .i64 c1 λi1=>
 (cl fu d fn_flux_within [I a0,I i,I i1] []).bind λout=>
 rC out.r λc2=>
 asB c2 λb=>
 some ⟨B (!b),[],none⟩):=by kernel_rfl
/- slices.IndexFunc[[]int,int] -/
theorem eq1_slices_IndexFunc_sint_int (fu d:Nat) (n0:Nat) (a0:List C) (k1:Nat) (a1_0:C):
 cl fu (d+1) fn_slices_IndexFunc_sint_int [V.c (C.sl n0 a0),V.c (C.fn k1 ([a1_0]))] []=(
 (iter (λ(y:Int×Int×Unit)=>
 bif decide (y.2.1<((n0:Nat):Int))then
 need (inR y.2.1 n0)<|
 unc (List.drop (y.2.1.toNat*1) a0) λc r=>
 asI .i64 c λi=>
 (cl fu d k1 [I i,V.c a1_0] []).bind λout=>
 rC out.r λc1=>
 asB c1 λb=>
 bif b then
 some (2,(y.2.1,y.2.1,()))
 else
 some (0,(y.1,IntKind.i64.wrap (y.2.1+1),()))
 else
 some (1,(y.1,y.2.1,()))) fu (0,0,())).bind λp=>
 natD p.1 (
 some ⟨I (-1),[],none⟩) λm=>
 some ⟨I p.2.1,[],none⟩):=by kernel_rfl
/- slices.IndexFunc[[]int,int] -/
theorem eq2_slices_IndexFunc_sint_int (fu d:Nat) (n0:Nat) (a0:List C) (k1:Nat) (a1_0:C) (a1_1:C):
 cl fu (d+1) fn_slices_IndexFunc_sint_int [V.c (C.sl n0 a0),V.c (C.fn k1 ([a1_0,a1_1]))] []=(
 (iter (λ(y:Int×Int×Unit)=>
 bif decide (y.2.1<((n0:Nat):Int))then
 need (inR y.2.1 n0)<|
 unc (List.drop (y.2.1.toNat*1) a0) λc r=>
 asI .i64 c λi=>
 (cl fu d k1 [I i,V.c a1_0,V.c a1_1] []).bind λout=>
 rC out.r λc1=>
 asB c1 λb=>
 bif b then
 some (2,(y.2.1,y.2.1,()))
 else
 some (0,(y.1,IntKind.i64.wrap (y.2.1+1),()))
 else
 some (1,(y.1,y.2.1,()))) fu (0,0,())).bind λp=>
 natD p.1 (
 some ⟨I (-1),[],none⟩) λm=>
 some ⟨I p.2.1,[],none⟩):=by kernel_rfl
/- synoptic/precision.total$1 -/
theorem eq_precision_total_1 (fu d:Nat) (a0:Int) (a1:Int) (e0_0:Int) (e0_1:Int):
 cl fu (d+1) fn_precision_total_1 [I a0,I a1,V.ptr 1000000 0] [.ob ty_api_Wide 0 ([C.v (.int .i64 e0_0),C.v (.int .u64 e0_1)])]=(
 (cl fu d fn_precision_Product [I a0,I a1] []).bind λout=>
 rA out.r λcs=>
 need (Nat.beq cs.length 2)<|
 unc cs λc r=>
 asI .i64 c λi=>
 unc r λc1 _=>
 asI .u64 c1 λi1=>
 (cl fu d fn_precision_Add [V.agg ([C.v (.int .i64 e0_0),C.v (.int .u64 e0_1)]),V.agg ([C.v (.int .i64 i),C.v (.int .u64 i1)])] []).bind λout1=>
 rA out1.r λcs1=>
 need (Nat.beq cs1.length 2)<|
 unc cs1 λc2 r2=>
 asI .i64 c2 λi2=>
 unc r2 λc3 _=>
 asI .u64 c3 λi3=>
 some ⟨V.agg ([C.v (.int .i64 i2),C.v (.int .u64 i3)]),[.ob ty_api_Wide 0 ([C.v (.int .i64 i2),C.v (.int .u64 i3)])],none⟩):=by kernel_rfl
/- synoptic/precision.Product -/
theorem eq_precision_Product (fu d:Nat) (a0:Int) (a1:Int):
 cl fu (d+1) fn_precision_Product [I a0,I a1] []=(
 (cl fu d fn_bits_Mul64 [V.c (C.v (.int .u64 (IntKind.u64.wrap a0))),V.c (C.v (.int .u64 (IntKind.u64.wrap a1)))] []).bind λout=>
 rT out.r λxs=>
 uncV xs λx ys=>
 rC x λc=>
 asI .u64 c λi=>
 uncV ys λx1 ys1=>
 rC x1 λc1=>
 asI .u64 c1 λi1=>
 nilV ys1<|
 bif decide (a0<0)then
 bif decide (a1<0)then
 some ⟨V.agg ([C.v (.int .i64 (IntKind.i64.wrap (IntKind.u64.wrap ((IntKind.u64.wrap (i-(IntKind.u64.wrap a1)))-(IntKind.u64.wrap a0))))),C.v (.int .u64 i1)]),[],none⟩
 else
 some ⟨V.agg ([C.v (.int .i64 (IntKind.i64.wrap (IntKind.u64.wrap (i-(IntKind.u64.wrap a1))))),C.v (.int .u64 i1)]),[],none⟩
 else
 bif decide (a1<0)then
 some ⟨V.agg ([C.v (.int .i64 (IntKind.i64.wrap (IntKind.u64.wrap (i-(IntKind.u64.wrap a0))))),C.v (.int .u64 i1)]),[],none⟩
 else
 some ⟨V.agg ([C.v (.int .i64 (IntKind.i64.wrap i)),C.v (.int .u64 i1)]),[],none⟩):=by kernel_rfl
/- math/bits.Mul64 -/
theorem eq_bits_Mul64 (fu d:Nat) (a0:Int) (a1:Int):
 cl fu (d+1) fn_bits_Mul64 [V.c (C.v (.int .u64 a0)),V.c (C.v (.int .u64 a1))] []=(
 bd (IntKind.u64.wrap ((IntKind.u64.wrap (BitVec.ofInt (IntKind.bits .u64) a0&&&BitVec.ofInt (IntKind.bits .u64) 4294967295).toNat)*(IntKind.u64.wrap (BitVec.ofInt (IntKind.bits .u64) a1&&&BitVec.ofInt (IntKind.bits .u64) 4294967295).toNat))) λz=>
 bd (IntKind.u64.wrap ((Int.fdiv a0 (2^32))*(IntKind.u64.wrap (BitVec.ofInt (IntKind.bits .u64) a1&&&BitVec.ofInt (IntKind.bits .u64) 4294967295).toNat))) λz1=>
 bd (IntKind.u64.wrap (BitVec.ofInt (IntKind.bits .u64) (IntKind.u64.wrap (z1+(Int.fdiv z (2^32))))&&&BitVec.ofInt (IntKind.bits .u64) 4294967295).toNat) λz2=>
 bd (IntKind.u64.wrap ((IntKind.u64.wrap (BitVec.ofInt (IntKind.bits .u64) a0&&&BitVec.ofInt (IntKind.bits .u64) 4294967295).toNat)*(Int.fdiv a1 (2^32)))) λz3=>
 bd (IntKind.u64.wrap ((IntKind.u64.wrap ((Int.fdiv a0 (2^32))*(Int.fdiv a1 (2^32))))+(Int.fdiv (IntKind.u64.wrap (z1+(Int.fdiv z (2^32)))) (2^32)))) λz4=>
 some ⟨V.tup [V.c (C.v (.int .u64 (IntKind.u64.wrap (z4+(Int.fdiv (IntKind.u64.wrap (z2+z3)) (2^32)))))),V.c (C.v (.int .u64 (IntKind.u64.wrap (a0*a1))))],[],none⟩):=by kernel_rfl
/- synoptic/synopticref03.Nodes -/
theorem eq_synopticref03_Nodes (fu d:Nat) (a0:Int):
 cl fu (d+1) fn_synopticref03_Nodes [I a0] []=(
 (cl fu d fn_synopticref03_Count [I a0] []).bind λout=>
 rC out.r λc=>
 asI .i64 c λi=>
 bif i==0 then
 some ⟨V.tup [V.c C.nl,I 1],[],none⟩
 else
 need (!(a0==0))<|
 (iter (λ(y:List C×Int×Unit)=>
 bif decide (y.2.1<20)then
 need (((Nat.beq ((y.1.length/4)*4) y.1.length)&&true)&&true)<|
 (iter (λ(y1:List C×Int×Unit)=>
 bif decide (y1.2.1≤840)then
 need (((Nat.beq ((y1.1.length/4)*4) y1.1.length)&&true)&&true)<|
 (iter (λ(y2:List C×Int×Unit)=>
 bif decide (IntKind.i64.wrap (y1.2.1+y2.2.1)≤840)then
 bif decide (y1.2.1>0)then
 bif decide (y2.2.1>0)then
 bif decide (IntKind.i64.wrap ((IntKind.i64.wrap (840-y1.2.1))-y2.2.1)>0)then
 need ((((Nat.beq ((y2.1.length/4)*4) y2.1.length)&&true)&&(Nat.ble (((y2.1.length/4)+1)*32) 140737488355328))&&(Nat.ble ((y2.1.length/4)+1) 140737488355328))<|
 bd (y2.1++([C.v (.int .i64 y.2.1),C.v (.int .i64 y1.2.1),C.v (.int .i64 y2.2.1),C.v (.int .i64 (IntKind.i64.wrap ((IntKind.i64.wrap (840-y1.2.1))-y2.2.1)))])) λcs=>
 need (((Nat.beq (((y2.1.length/4)+1)*4) cs.length)&&true)&&true)<|
 some (0,(cs,IntKind.i64.wrap (y2.2.1+(IntKind.i64.wrap (Int.tdiv 840 a0))),()))
 else
 (cl fu d fn_synopticref02_IsNormal [V.agg ([C.v (.int .i64 y.2.1),C.v (.int .i64 y1.2.1),C.v (.int .i64 y2.2.1),C.v (.int .i64 (IntKind.i64.wrap ((IntKind.i64.wrap (840-y1.2.1))-y2.2.1)))])] []).bind λout1=>
 rC out1.r λc1=>
 asB c1 λb=>
 bif b then
 need ((((Nat.beq ((y2.1.length/4)*4) y2.1.length)&&true)&&(Nat.ble (((y2.1.length/4)+1)*32) 140737488355328))&&(Nat.ble ((y2.1.length/4)+1) 140737488355328))<|
 bd (y2.1++([C.v (.int .i64 y.2.1),C.v (.int .i64 y1.2.1),C.v (.int .i64 y2.2.1),C.v (.int .i64 (IntKind.i64.wrap ((IntKind.i64.wrap (840-y1.2.1))-y2.2.1)))])) λcs1=>
 need (((Nat.beq (((y2.1.length/4)+1)*4) cs1.length)&&true)&&true)<|
 some (0,(cs1,IntKind.i64.wrap (y2.2.1+(IntKind.i64.wrap (Int.tdiv 840 a0))),()))
 else
 need (((Nat.beq ((y2.1.length/4)*4) y2.1.length)&&true)&&true)<|
 some (0,(y2.1,IntKind.i64.wrap (y2.2.1+(IntKind.i64.wrap (Int.tdiv 840 a0))),()))
 else
 (cl fu d fn_synopticref02_IsNormal [V.agg ([C.v (.int .i64 y.2.1),C.v (.int .i64 y1.2.1),C.v (.int .i64 y2.2.1),C.v (.int .i64 (IntKind.i64.wrap ((IntKind.i64.wrap (840-y1.2.1))-y2.2.1)))])] []).bind λout2=>
 rC out2.r λc2=>
 asB c2 λb1=>
 bif b1 then
 need ((((Nat.beq ((y2.1.length/4)*4) y2.1.length)&&true)&&(Nat.ble (((y2.1.length/4)+1)*32) 140737488355328))&&(Nat.ble ((y2.1.length/4)+1) 140737488355328))<|
 bd (y2.1++([C.v (.int .i64 y.2.1),C.v (.int .i64 y1.2.1),C.v (.int .i64 y2.2.1),C.v (.int .i64 (IntKind.i64.wrap ((IntKind.i64.wrap (840-y1.2.1))-y2.2.1)))])) λcs2=>
 need (((Nat.beq (((y2.1.length/4)+1)*4) cs2.length)&&true)&&true)<|
 some (0,(cs2,IntKind.i64.wrap (y2.2.1+(IntKind.i64.wrap (Int.tdiv 840 a0))),()))
 else
 need (((Nat.beq ((y2.1.length/4)*4) y2.1.length)&&true)&&true)<|
 some (0,(y2.1,IntKind.i64.wrap (y2.2.1+(IntKind.i64.wrap (Int.tdiv 840 a0))),()))
 else
 (cl fu d fn_synopticref02_IsNormal [V.agg ([C.v (.int .i64 y.2.1),C.v (.int .i64 y1.2.1),C.v (.int .i64 y2.2.1),C.v (.int .i64 (IntKind.i64.wrap ((IntKind.i64.wrap (840-y1.2.1))-y2.2.1)))])] []).bind λout3=>
 rC out3.r λc3=>
 asB c3 λb2=>
 bif b2 then
 need ((((Nat.beq ((y2.1.length/4)*4) y2.1.length)&&true)&&(Nat.ble (((y2.1.length/4)+1)*32) 140737488355328))&&(Nat.ble ((y2.1.length/4)+1) 140737488355328))<|
 bd (y2.1++([C.v (.int .i64 y.2.1),C.v (.int .i64 y1.2.1),C.v (.int .i64 y2.2.1),C.v (.int .i64 (IntKind.i64.wrap ((IntKind.i64.wrap (840-y1.2.1))-y2.2.1)))])) λcs3=>
 need (((Nat.beq (((y2.1.length/4)+1)*4) cs3.length)&&true)&&true)<|
 some (0,(cs3,IntKind.i64.wrap (y2.2.1+(IntKind.i64.wrap (Int.tdiv 840 a0))),()))
 else
 need (((Nat.beq ((y2.1.length/4)*4) y2.1.length)&&true)&&true)<|
 some (0,(y2.1,IntKind.i64.wrap (y2.2.1+(IntKind.i64.wrap (Int.tdiv 840 a0))),()))
 else
 need (((Nat.beq ((y2.1.length/4)*4) y2.1.length)&&true)&&true)<|
 some (1,(y2.1,y2.2.1,()))) fu (y1.1,0,())).bind λp=>
 need (((Nat.beq ((p.2.1.length/4)*4) p.2.1.length)&&true)&&true)<|
 some (0,(p.2.1,IntKind.i64.wrap (y1.2.1+(IntKind.i64.wrap (Int.tdiv 840 a0))),()))
 else
 need (((Nat.beq ((y1.1.length/4)*4) y1.1.length)&&true)&&true)<|
 some (1,(y1.1,y1.2.1,()))) fu (y.1,0,())).bind λp1=>
 need (((Nat.beq ((p1.2.1.length/4)*4) p1.2.1.length)&&true)&&true)<|
 some (0,(p1.2.1,IntKind.i64.wrap (y.2.1+1),()))
 else
 need (((Nat.beq ((y.1.length/4)*4) y.1.length)&&true)&&true)<|
 some (1,(y.1,y.2.1,()))) fu ([],0,())).bind λp2=>
 need (Nat.ble (0+((p2.2.1.length/4)*4)) p2.2.1.length)<|
 some ⟨V.tup [V.c (C.sl (p2.2.1.length/4) (List.take ((p2.2.1.length/4)*4) p2.2.1)),I 0],[],none⟩):=by kernel_rfl
/- synoptic/synopticref03.insert -/
theorem eq_synopticref03_insert (fu d:Nat) (n0:Nat) (a0:List C) (a1_0:Int) (a1_1:Int) (a1_2:Int):
 cl fu (d+1) fn_synopticref03_insert [V.own 1000000 0 n0,V.agg ([C.v (.int .i64 a1_0),C.v (.int .i64 a1_1),C.v (.int .i64 a1_2)])] [.sb ty_api_Cell 0 a0]=(
 (iter (λ(y:(Nat×List C)×Int×Unit)=>
 bif decide (y.2.1>0)then
 need (inR (IntKind.i64.wrap (y.2.1-1)) y.1.1)<|
 unc (List.drop (0+(((IntKind.i64.wrap (y.2.1-1)).toNat)*3)) y.1.2) λc _=>
 asI .i64 c λi=>
 bif decide (a1_0<i)then
 some (0,((y.1.1,y.1.2),IntKind.i64.wrap (y.2.1-1),()))
 else
 need (inR (IntKind.i64.wrap (y.2.1-1)) y.1.1)<|
 unc (List.drop (0+(((IntKind.i64.wrap (y.2.1-1)).toNat)*3)) y.1.2) λc1 _=>
 asI .i64 c1 λi1=>
 bif a1_0==i1 then
 need (inR (IntKind.i64.wrap (y.2.1-1)) y.1.1)<|
 unc (List.drop ((0+(((IntKind.i64.wrap (y.2.1-1)).toNat)*3))+1) y.1.2) λc2 _=>
 asI .i64 c2 λi2=>
 bif decide (a1_1<i2)then
 some (0,((y.1.1,y.1.2),IntKind.i64.wrap (y.2.1-1),()))
 else
 need (inR (IntKind.i64.wrap (y.2.1-1)) y.1.1)<|
 unc (List.drop ((0+(((IntKind.i64.wrap (y.2.1-1)).toNat)*3))+1) y.1.2) λc3 _=>
 asI .i64 c3 λi3=>
 bif a1_1==i3 then
 need (inR (IntKind.i64.wrap (y.2.1-1)) y.1.1)<|
 unc (List.drop ((0+(((IntKind.i64.wrap (y.2.1-1)).toNat)*3))+2) y.1.2) λc4 _=>
 asI .i64 c4 λi4=>
 bif decide (a1_2<i4)then
 some (0,((y.1.1,y.1.2),IntKind.i64.wrap (y.2.1-1),()))
 else
 some (1,((y.1.1,y.1.2),y.2.1,()))
 else
 some (1,((y.1.1,y.1.2),y.2.1,()))
 else
 some (1,((y.1.1,y.1.2),y.2.1,()))
 else
 some (1,((y.1.1,y.1.2),y.2.1,()))) fu ((n0,a0),((n0:Nat):Int),())).bind λp=>
 need ((((Nat.beq (p.2.1.1*3) p.2.1.2.length)&&true)&&(Nat.ble ((p.2.1.1+1)*24) 140737488355328))&&(Nat.ble (p.2.1.1+1) 140737488355328))<|
 need ((decide (0≤IntKind.i64.wrap (p.2.2.1+1)))&&(decide (IntKind.i64.wrap (p.2.2.1+1)≤((p.2.1.1+1:Nat):Int))))<|
 need ((decide (0≤p.2.2.1))&&(decide (p.2.2.1≤((p.2.1.1+1:Nat):Int))))<|
 natD (Nat.min ((p.2.1.1+1)-p.2.2.1.toNat) ((p.2.1.1+1)-((IntKind.i64.wrap (p.2.2.1+1)).toNat))) (
 need (inR p.2.2.1 (p.2.1.1+1))<|
 need (((Nat.ble 0 (0+(p.2.2.1.toNat*3)))&&(Nat.ble ((0+(p.2.2.1.toNat*3))+3) ((p.2.1.2++([C.v (.int .i64 0),C.v (.int .i64 0),C.v (.int .i64 0)])).length)))&&true)<|
 bd (putAt (p.2.1.2++([C.v (.int .i64 0),C.v (.int .i64 0),C.v (.int .i64 0)])) (0+(p.2.2.1.toNat*3)) ([C.v (.int .i64 a1_0),C.v (.int .i64 a1_1),C.v (.int .i64 a1_2)])) λcs=>
 need (((Nat.ble ((p.2.1.1+1)*3) cs.length)&&true)&&true)<|
 some ⟨V.own 1000001 0 (p.2.1.1+1),[.dead, .sb ty_api_Cell 0 (List.take ((p.2.1.1+1)*3) cs)],none⟩) λq=>
 need ((((Nat.ble 0 (0+(((IntKind.i64.wrap (p.2.2.1+1)).toNat)*3)))&&(Nat.ble ((0+(((IntKind.i64.wrap (p.2.2.1+1)).toNat)*3))+((q+1)*3)) ((p.2.1.2++([C.v (.int .i64 0),C.v (.int .i64 0),C.v (.int .i64 0)])).length)))&&(Nat.ble ((0+(p.2.2.1.toNat*3))+((q+1)*3)) ((p.2.1.2++([C.v (.int .i64 0),C.v (.int .i64 0),C.v (.int .i64 0)])).length)))&&true)<|
 bd (putAt (p.2.1.2++([C.v (.int .i64 0),C.v (.int .i64 0),C.v (.int .i64 0)])) (0+(((IntKind.i64.wrap (p.2.2.1+1)).toNat)*3)) (List.take ((q+1)*3) (List.drop (0+(p.2.2.1.toNat*3)) (p.2.1.2++([C.v (.int .i64 0),C.v (.int .i64 0),C.v (.int .i64 0)]))))) λcs1=>
 need (inR p.2.2.1 (p.2.1.1+1))<|
 need (((Nat.ble 0 (0+(p.2.2.1.toNat*3)))&&(Nat.ble ((0+(p.2.2.1.toNat*3))+3) cs1.length))&&true)<|
 need (((Nat.ble ((p.2.1.1+1)*3) ((putAt cs1 (0+(p.2.2.1.toNat*3)) ([C.v (.int .i64 a1_0),C.v (.int .i64 a1_1),C.v (.int .i64 a1_2)])).length))&&true)&&true)<|
 some ⟨V.own 1000001 0 (p.2.1.1+1),[.dead, .sb ty_api_Cell 0 (List.take ((p.2.1.1+1)*3) (putAt cs1 (0+(p.2.2.1.toNat*3)) ([C.v (.int .i64 a1_0),C.v (.int .i64 a1_1),C.v (.int .i64 a1_2)])))],none⟩):=by kernel_rfl
/- synoptic/synopticref03.cell -/
theorem eq_synopticref03_cell (fu d:Nat) (a0:Int) (a1:Int) (a2:Int):
 cl fu (d+1) fn_synopticref03_cell [I a0,I a1,I a2] []=(
 bd (IntKind.i64.wrap ((IntKind.i64.wrap ((IntKind.i64.wrap (a0+a1))+a2))-(if a2<(if a1<a0 then a1 else a0)then a2 else(if a1<a0 then a1 else a0)))) λz=>
 some ⟨V.agg ([C.v (.int .i64 (if a2<(if a1<a0 then a1 else a0)then a2 else(if a1<a0 then a1 else a0))),C.v (.int .i64 (IntKind.i64.wrap (z-(if a2>(if a1>a0 then a1 else a0)then a2 else(if a1>a0 then a1 else a0))))),C.v (.int .i64 (if a2>(if a1>a0 then a1 else a0)then a2 else(if a1>a0 then a1 else a0)))]),[],none⟩):=by kernel_rfl
/- synoptic/synopticref03.at -/
theorem eq_synopticref03_at (fu d:Nat) (n0:Nat) (a0:List C) (a1:Int) (a2:Int) (a3:Int):
 cl fu (d+1) fn_synopticref03_at [V.c (C.sl n0 a0),I a1,I a2,I a3] []=(
 (cl fu d fn_synopticref02_Normal [V.agg ([C.v (.int .i64 a1),C.v (.int .i64 a2),C.v (.int .i64 a3),C.v (.int .i64 (IntKind.i64.wrap ((IntKind.i64.wrap (840-a2))-a3)))])] []).bind λout=>
 rT out.r λxs=>
 uncV xs λx ys=>
 rA x λcs=>
 need (Nat.beq cs.length 4)<|
 unc cs λc r=>
 asI .i64 c λi=>
 unc r λc1 r1=>
 asI .i64 c1 λi1=>
 unc r1 λc2 r2=>
 asI .i64 c2 λi2=>
 unc r2 λc3 _=>
 asI .i64 c3 λi3=>
 uncV ys λx1 ys1=>
 rC x1 λc4=>
 asI .i64 c4 λi4=>
 nilV ys1<|
 (cl fu d fn_synopticref03_find [V.c (C.sl n0 a0),V.agg ([C.v (.int .i64 i),C.v (.int .i64 i1),C.v (.int .i64 i2),C.v (.int .i64 i3)])] []).bind λout1=>
 rC out1.r λc5=>
 asI .i64 c5 λi5=>
 some ⟨I i5,[],none⟩):=by kernel_rfl
/- synoptic/place.Normal -/
theorem eq_place_Normal (fu d:Nat) (a0_0:Int) (a0_1:Int) (a0_2:Int) (a0_3:Int):
 cl fu (d+1) fn_place_Normal [V.agg ([C.v (.int .i64 a0_0),C.v (.int .i64 a0_1),C.v (.int .i64 a0_2),C.v (.int .i64 a0_3)])] []=(
 (cl fu d fn_place_Valid [V.agg ([C.v (.int .i64 a0_0),C.v (.int .i64 a0_1),C.v (.int .i64 a0_2),C.v (.int .i64 a0_3)])] []).bind λout=>
 rC out.r λc=>
 asB c λb=>
 bif !b then
 some ⟨V.tup [V.agg ([C.v (.int .i64 0),C.v (.int .i64 0),C.v (.int .i64 0),C.v (.int .i64 0)]),I 1],[],none⟩
 else
 (cl fu d fn_place_of [V.agg ([C.v (.int .i64 a0_0),C.v (.int .i64 a0_1),C.v (.int .i64 a0_2),C.v (.int .i64 a0_3)])] []).bind λout1=>
 rA out1.r λcs=>
 need ((((Nat.beq cs.length 12)&&true)&&(Nat.ble (0+cs.length) 12))&&true)<|
 bd (putAt ([C.v (.int .i64 0),C.v (.int .i64 0),C.v (.int .i64 0),C.v (.int .i64 0),C.v (.int .i64 0),C.v (.int .i64 0),C.v (.int .i64 0),C.v (.int .i64 0),C.v (.int .i64 0),C.v (.int .i64 0),C.v (.int .i64 0),C.v (.int .i64 0)]) 0 cs) λcs1=>
 (iter (λ(y:Int×Int×(Int×Int×Int×Int×Unit)×Unit)=>
 bif decide (y.2.1<20)then
 need (Nat.ble 12 cs1.length)<|
 (cl fu d fn_place_on [I y.2.1,V.agg (List.take 12 cs1)] []).bind λout2=>
 rT out2.r λxs=>
 uncV xs λx ys=>
 rA x λcs2=>
 need (Nat.beq cs2.length 4)<|
 unc cs2 λc1 r=>
 asI .i64 c1 λi=>
 unc r λc2 r1=>
 asI .i64 c2 λi1=>
 unc r1 λc3 r2=>
 asI .i64 c3 λi2=>
 unc r2 λc4 _=>
 asI .i64 c4 λi3=>
 uncV ys λx1 ys1=>
 rC x1 λc5=>
 asB c5 λb1=>
 nilV ys1<|
 bif b1 then
 some (2,(0,y.2.1,(i,i1,i2,i3,()),()))
 else
 some (0,(y.1,IntKind.i64.wrap (y.2.1+1),(y.2.2.1.1,y.2.2.1.2.1,y.2.2.1.2.2.1,y.2.2.1.2.2.2.1,()),()))
 else
 some (1,(y.1,y.2.1,(y.2.2.1.1,y.2.2.1.2.1,y.2.2.1.2.2.1,y.2.2.1.2.2.2.1,()),()))) fu (0,0,(0,0,0,0,()),())).bind λp=>
 natD p.1 (
 some ⟨V.tup [V.agg ([C.v (.int .i64 a0_0),C.v (.int .i64 a0_1),C.v (.int .i64 a0_2),C.v (.int .i64 a0_3)]),I 0],[],none⟩) λm=>
 some ⟨V.tup [V.agg ([C.v (.int .i64 p.2.2.2.1.1),C.v (.int .i64 p.2.2.2.1.2.1),C.v (.int .i64 p.2.2.2.1.2.2.1),C.v (.int .i64 p.2.2.2.1.2.2.2.1)]),I p.2.1],[],none⟩):=by kernel_rfl
/- (*synoptic/mesh.Net).cell -/
theorem eqp_mesh_Net_cell (fu d:Nat) (a0_0:Int) (a0_1:Int) (a0_2:C) (a0_3:List (List C×List C)) (a0_4:List C) (a0_5:C) (a0_6:C) (g0:Nat) (a1:List C):
 cl fu (d+1) fn_mesh_Net_cell [V.ptr 1000000 0,V.agg a1] [.pk g0 ty_mesh_Net (.ps [PC.c (C.v (.int .i64 a0_0)),PC.c (C.v (.int .i64 a0_1)),PC.c a0_2,PC.c (C.mp ty_api_Place ty_int (some 4) none a0_3),PC.r ty_api_Cell a0_4,PC.c a0_5,PC.c a0_6]) none]=(
 need (Nat.ble 12 a1.length)<|
 (iter (λ(y:Int×List C×(Int×Int×C×C×List C×C×C×Unit)×Unit)=>
 bif decide (y.1<3)then
 need (inR y.1 3)<|
 unc (List.drop (y.1.toNat*4) (List.take 12 a1)) λc r=>
 asI .i64 c λi=>
 unc r λc1 r1=>
 asI .i64 c1 λi1=>
 unc r1 λc2 r2=>
 asI .i64 c2 λi2=>
 unc r2 λc3 _=>
 asI .i64 c3 λi3=>
 (cl fu d fn_mesh_Net_at [V.ptr 1000000 0,V.agg ([C.v (.int .i64 i),C.v (.int .i64 i1),C.v (.int .i64 i2),C.v (.int .i64 i3)])] [.pk 0 ty_mesh_Net (.ps [PC.c (C.v (.int .i64 y.2.2.1.1)),PC.c (C.v (.int .i64 y.2.2.1.2.1)),PC.c y.2.2.1.2.2.1,PC.c y.2.2.1.2.2.2.1,PC.r ty_api_Cell y.2.2.1.2.2.2.2.1,PC.c y.2.2.1.2.2.2.2.2.1,PC.c y.2.2.1.2.2.2.2.2.2.1]) none]).bind λout=>
 uncO out.objs λo os=>
 rPk o ty_mesh_Net λps=>
 uncP ps λp ps1=>
 asPc p λc4=>
 asI .i64 c4 λi4=>
 uncP ps1 λp1 ps2=>
 asPc p1 λc5=>
 asI .i64 c5 λi5=>
 uncP ps2 λp2 ps3=>
 asPc p2 λc6=>
 uncP ps3 λp3 ps4=>
 asPc p3 λc7=>
 uncP ps4 λp4 ps5=>
 asRw ty_api_Cell p4 λcs=>
 uncP ps5 λp5 ps6=>
 asPc p5 λc8=>
 uncP ps6 λp6 ps7=>
 asPc p6 λc9=>
 nilP ps7<|
 rC out.r λc10=>
 asI .i64 c10 λi6=>
 need (inR y.1 3)<|
 need (((Nat.ble 0 (0+(y.1.toNat*1)))&&(Nat.ble ((0+(y.1.toNat*1))+1) y.2.1.length))&&true)<|
 some (0,(IntKind.i64.wrap (y.1+1),putAt y.2.1 (0+(y.1.toNat*1)) ([C.v (.int .i64 i6)]),(i4,i5,c6,c7,cs,c8,c9,()),()))
 else
 some (1,(y.1,y.2.1,(y.2.2.1.1,y.2.2.1.2.1,y.2.2.1.2.2.1,y.2.2.1.2.2.2.1,y.2.2.1.2.2.2.2.1,y.2.2.1.2.2.2.2.2.1,y.2.2.1.2.2.2.2.2.2.1,()),()))) fu (0,[C.v (.int .i64 0),C.v (.int .i64 0),C.v (.int .i64 0)],(a0_0,a0_1,a0_2,C.mp ty_api_Place ty_int (some 4) none a0_3,a0_4,a0_5,a0_6,()),())).bind λp7=>
 need ((((Nat.beq 3 p7.2.2.1.length)&&true)&&true)&&true)<|
 (cl fu d fn_slices_Sort_sint_int [V.ws 1000000 3] [.ob ty_3_int 0 p7.2.2.1]).bind λout1=>
 uncO out1.objs λo1 os1=>
 rO o1 ty_3_int 0 λcs1=>
 need (Nat.beq cs1.length p7.2.2.1.length)<|
 unc cs1 λc11 _=>
 asI .i64 c11 λi7=>
 unc (List.drop 1 cs1) λc12 _=>
 asI .i64 c12 λi8=>
 unc (List.drop 2 cs1) λc13 _=>
 asI .i64 c13 λi9=>
 need ((((Nat.beq ((p7.2.2.2.1.2.2.2.2.1.length/3)*3) p7.2.2.2.1.2.2.2.2.1.length)&&true)&&(Nat.ble (((p7.2.2.2.1.2.2.2.2.1.length/3)+1)*24) 140737488355328))&&(Nat.ble ((p7.2.2.2.1.2.2.2.2.1.length/3)+1) 140737488355328))<|
 need (Nat.beq (((p7.2.2.2.1.2.2.2.2.1.length/3)+1)*3) ((p7.2.2.2.1.2.2.2.2.1++([C.v (.int .i64 i7),C.v (.int .i64 i8),C.v (.int .i64 i9)])).length))<|
 some ⟨V.tup [],[.pk 1 ty_mesh_Net (.ps [PC.c (C.v (.int .i64 p7.2.2.2.1.1)),PC.c (C.v (.int .i64 p7.2.2.2.1.2.1)),PC.c p7.2.2.2.1.2.2.1,PC.c p7.2.2.2.1.2.2.2.1,PC.r ty_api_Cell (p7.2.2.2.1.2.2.2.2.1++([C.v (.int .i64 i7),C.v (.int .i64 i8),C.v (.int .i64 i9)])),PC.c p7.2.2.2.1.2.2.2.2.2.1,PC.c p7.2.2.2.1.2.2.2.2.2.2.1]) none],none⟩):=by kernel_rfl
/- (*synoptic/mesh.Net).upward -/
theorem eqp_mesh_Net_upward (fu d:Nat) (a0_0:Int) (a0_1:Int) (a0_2:C) (a0_3:List (List C×List C)) (a0_4:List C) (a0_5:C) (a0_6:C) (g0:Nat) (a1_0:Int) (a1_1:Int) (a1_2:Int) (a1_3:Int):
 cl fu (d+1) fn_mesh_Net_upward [V.ptr 1000000 0,V.agg ([C.v (.int .i64 a1_0),C.v (.int .i64 a1_1),C.v (.int .i64 a1_2),C.v (.int .i64 a1_3)])] [.pk g0 ty_mesh_Net (.ps [PC.c (C.v (.int .i64 a0_0)),PC.c (C.v (.int .i64 a0_1)),PC.c a0_2,PC.c (C.mp ty_api_Place ty_int (some 4) none a0_3),PC.r ty_api_Cell a0_4,PC.c a0_5,PC.c a0_6]) none]=(
 (cl fu d fn_mesh_moved [V.agg ([C.v (.int .i64 a1_0),C.v (.int .i64 a1_1),C.v (.int .i64 a1_2),C.v (.int .i64 a1_3)]),I a0_1,I 0,I 0] []).bind λout=>
 rA out.r λcs=>
 need (Nat.beq cs.length 4)<|
 unc cs λc r=>
 asI .i64 c λi=>
 unc r λc1 r1=>
 asI .i64 c1 λi1=>
 unc r1 λc2 r2=>
 asI .i64 c2 λi2=>
 unc r2 λc3 _=>
 asI .i64 c3 λi3=>
 (cl fu d fn_mesh_moved [V.agg ([C.v (.int .i64 a1_0),C.v (.int .i64 a1_1),C.v (.int .i64 a1_2),C.v (.int .i64 a1_3)]),I 0,I a0_1,I 0] []).bind λout1=>
 rA out1.r λcs1=>
 need (Nat.beq cs1.length 4)<|
 unc cs1 λc4 r4=>
 asI .i64 c4 λi4=>
 unc r4 λc5 r5=>
 asI .i64 c5 λi5=>
 unc r5 λc6 r6=>
 asI .i64 c6 λi6=>
 unc r6 λc7 _=>
 asI .i64 c7 λi7=>
 (cl fu d fn_mesh_moved [V.agg ([C.v (.int .i64 a1_0),C.v (.int .i64 a1_1),C.v (.int .i64 a1_2),C.v (.int .i64 a1_3)]),I 0,I 0,I a0_1] []).bind λout2=>
 rA out2.r λcs2=>
 need (Nat.beq cs2.length 4)<|
 unc cs2 λc8 r8=>
 asI .i64 c8 λi8=>
 unc r8 λc9 r9=>
 asI .i64 c9 λi9=>
 unc r9 λc10 r10=>
 asI .i64 c10 λi10=>
 unc r10 λc11 _=>
 asI .i64 c11 λi11=>
 some ⟨V.agg ([C.v (.int .i64 i),C.v (.int .i64 i1),C.v (.int .i64 i2),C.v (.int .i64 i3),C.v (.int .i64 i4),C.v (.int .i64 i5),C.v (.int .i64 i6),C.v (.int .i64 i7),C.v (.int .i64 i8),C.v (.int .i64 i9),C.v (.int .i64 i10),C.v (.int .i64 i11)]),[.pk g0 ty_mesh_Net (.ps [PC.c (C.v (.int .i64 a0_0)),PC.c (C.v (.int .i64 a0_1)),PC.c a0_2,PC.c (C.mp ty_api_Place ty_int (some 4) none a0_3),PC.r ty_api_Cell a0_4,PC.c a0_5,PC.c a0_6]) none],none⟩):=by kernel_rfl
/- (*synoptic/mesh.Net).downward -/
theorem eqp_mesh_Net_downward (fu d:Nat) (a0_0:Int) (a0_1:Int) (a0_2:C) (a0_3:List (List C×List C)) (a0_4:List C) (a0_5:C) (a0_6:C) (g0:Nat) (a1_0:Int) (a1_1:Int) (a1_2:Int) (a1_3:Int):
 cl fu (d+1) fn_mesh_Net_downward [V.ptr 1000000 0,V.agg ([C.v (.int .i64 a1_0),C.v (.int .i64 a1_1),C.v (.int .i64 a1_2),C.v (.int .i64 a1_3)])] [.pk g0 ty_mesh_Net (.ps [PC.c (C.v (.int .i64 a0_0)),PC.c (C.v (.int .i64 a0_1)),PC.c a0_2,PC.c (C.mp ty_api_Place ty_int (some 4) none a0_3),PC.r ty_api_Cell a0_4,PC.c a0_5,PC.c a0_6]) none]=(
 (cl fu d fn_mesh_moved [V.agg ([C.v (.int .i64 a1_0),C.v (.int .i64 a1_1),C.v (.int .i64 a1_2),C.v (.int .i64 a1_3)]),I 0,I a0_1,I a0_1] []).bind λout=>
 rA out.r λcs=>
 need (Nat.beq cs.length 4)<|
 unc cs λc r=>
 asI .i64 c λi=>
 unc r λc1 r1=>
 asI .i64 c1 λi1=>
 unc r1 λc2 r2=>
 asI .i64 c2 λi2=>
 unc r2 λc3 _=>
 asI .i64 c3 λi3=>
 (cl fu d fn_mesh_moved [V.agg ([C.v (.int .i64 a1_0),C.v (.int .i64 a1_1),C.v (.int .i64 a1_2),C.v (.int .i64 a1_3)]),I a0_1,I 0,I a0_1] []).bind λout1=>
 rA out1.r λcs1=>
 need (Nat.beq cs1.length 4)<|
 unc cs1 λc4 r4=>
 asI .i64 c4 λi4=>
 unc r4 λc5 r5=>
 asI .i64 c5 λi5=>
 unc r5 λc6 r6=>
 asI .i64 c6 λi6=>
 unc r6 λc7 _=>
 asI .i64 c7 λi7=>
 (cl fu d fn_mesh_moved [V.agg ([C.v (.int .i64 a1_0),C.v (.int .i64 a1_1),C.v (.int .i64 a1_2),C.v (.int .i64 a1_3)]),I a0_1,I a0_1,I 0] []).bind λout2=>
 rA out2.r λcs2=>
 need (Nat.beq cs2.length 4)<|
 unc cs2 λc8 r8=>
 asI .i64 c8 λi8=>
 unc r8 λc9 r9=>
 asI .i64 c9 λi9=>
 unc r9 λc10 r10=>
 asI .i64 c10 λi10=>
 unc r10 λc11 _=>
 asI .i64 c11 λi11=>
 some ⟨V.agg ([C.v (.int .i64 i),C.v (.int .i64 i1),C.v (.int .i64 i2),C.v (.int .i64 i3),C.v (.int .i64 i4),C.v (.int .i64 i5),C.v (.int .i64 i6),C.v (.int .i64 i7),C.v (.int .i64 i8),C.v (.int .i64 i9),C.v (.int .i64 i10),C.v (.int .i64 i11)]),[.pk g0 ty_mesh_Net (.ps [PC.c (C.v (.int .i64 a0_0)),PC.c (C.v (.int .i64 a0_1)),PC.c a0_2,PC.c (C.mp ty_api_Place ty_int (some 4) none a0_3),PC.r ty_api_Cell a0_4,PC.c a0_5,PC.c a0_6]) none],none⟩):=by kernel_rfl
/- synoptic/mesh.moved -/
theorem eq_mesh_moved (fu d:Nat) (a0_0:Int) (a0_1:Int) (a0_2:Int) (a0_3:Int) (a1:Int) (a2:Int) (a3:Int):
 cl fu (d+1) fn_mesh_moved [V.agg ([C.v (.int .i64 a0_0),C.v (.int .i64 a0_1),C.v (.int .i64 a0_2),C.v (.int .i64 a0_3)]),I a1,I a2,I a3] []=(
 some ⟨V.agg ([C.v (.int .i64 a0_0),C.v (.int .i64 (IntKind.i64.wrap (a0_1+a1))),C.v (.int .i64 (IntKind.i64.wrap (a0_2+a2))),C.v (.int .i64 (IntKind.i64.wrap (a0_3+a3)))]),[],none⟩):=by kernel_rfl
/- synoptic/synopticref02.IsNormal -/
theorem eq_synopticref02_IsNormal (fu d:Nat) (a0_0:Int) (a0_1:Int) (a0_2:Int) (a0_3:Int):
 cl fu (d+1) fn_synopticref02_IsNormal [V.agg ([C.v (.int .i64 a0_0),C.v (.int .i64 a0_1),C.v (.int .i64 a0_2),C.v (.int .i64 a0_3)])] []=(
 (cl fu d fn_synopticref02_Normal [V.agg ([C.v (.int .i64 a0_0),C.v (.int .i64 a0_1),C.v (.int .i64 a0_2),C.v (.int .i64 a0_3)])] []).bind λout=>
 rT out.r λxs=>
 uncV xs λx ys=>
 rA x λcs=>
 need (Nat.beq cs.length 4)<|
 unc cs λc r=>
 asI .i64 c λi=>
 unc r λc1 r1=>
 asI .i64 c1 λi1=>
 unc r1 λc2 r2=>
 asI .i64 c2 λi2=>
 unc r2 λc3 _=>
 asI .i64 c3 λi3=>
 uncV ys λx1 ys1=>
 rC x1 λc4=>
 asI .i64 c4 λi4=>
 nilV ys1<|
 bif i4==0 then
 some ⟨B ((a0_0==i)&&((a0_1==i1)&&((a0_2==i2)&&((a0_3==i3)&&true)))),[],none⟩
 else
 some ⟨B false,[],none⟩):=by kernel_rfl
/- synoptic/synopticref02.Normal -/
theorem eq_synopticref02_Normal (fu d:Nat) (a0_0:Int) (a0_1:Int) (a0_2:Int) (a0_3:Int):
 cl fu (d+1) fn_synopticref02_Normal [V.agg ([C.v (.int .i64 a0_0),C.v (.int .i64 a0_1),C.v (.int .i64 a0_2),C.v (.int .i64 a0_3)])] []=(
 (cl fu d fn_synopticref02_Addresses [V.agg ([C.v (.int .i64 a0_0),C.v (.int .i64 a0_1),C.v (.int .i64 a0_2),C.v (.int .i64 a0_3)])] []).bind λout=>
 rT out.r λxs=>
 uncV xs λx ys=>
 rC x λc=>
 uncV ys λx1 ys1=>
 rC x1 λc1=>
 asI .i64 c1 λi=>
 nilV ys1<|
 bif i !=0 then
 some ⟨V.tup [V.agg ([C.v (.int .i64 0),C.v (.int .i64 0),C.v (.int .i64 0),C.v (.int .i64 0)]),I i],[],none⟩
 else
 asSl c λn cs=>
 need (inR 0 n)<|
 unc cs λc2 r=>
 asI .i64 c2 λi1=>
 unc r λc3 r1=>
 asI .i64 c3 λi2=>
 unc r1 λc4 r2=>
 asI .i64 c4 λi3=>
 unc r2 λc5 _=>
 asI .i64 c5 λi4=>
 some ⟨V.tup [V.agg ([C.v (.int .i64 i1),C.v (.int .i64 i2),C.v (.int .i64 i3),C.v (.int .i64 i4)]),I 0],[],none⟩):=by kernel_rfl
/- synoptic/synopticref03.find -/
theorem eq_synopticref03_find (fu d:Nat) (n0:Nat) (a0:List C) (a1_0:Int) (a1_1:Int) (a1_2:Int) (a1_3:Int):
 cl fu (d+1) fn_synopticref03_find [V.c (C.sl n0 a0),V.agg ([C.v (.int .i64 a1_0),C.v (.int .i64 a1_1),C.v (.int .i64 a1_2),C.v (.int .i64 a1_3)])] []=(
 (iter (λ(y:Int×Int×Unit)=>
 bif decide (y.1<y.2.1)then
 need (inR (IntKind.i64.wrap (Int.tdiv (IntKind.i64.wrap (y.1+y.2.1)) 2)) n0)<|
 unc (List.drop (((IntKind.i64.wrap (Int.tdiv (IntKind.i64.wrap (y.1+y.2.1)) 2)).toNat)*4) a0) λc r=>
 asI .i64 c λi=>
 unc r λc1 r1=>
 asI .i64 c1 λi1=>
 unc r1 λc2 r2=>
 asI .i64 c2 λi2=>
 unc r2 λc3 _=>
 asI .i64 c3 λi3=>
 (cl fu d fn_synopticref03_less [V.agg ([C.v (.int .i64 i),C.v (.int .i64 i1),C.v (.int .i64 i2),C.v (.int .i64 i3)]),V.agg ([C.v (.int .i64 a1_0),C.v (.int .i64 a1_1),C.v (.int .i64 a1_2),C.v (.int .i64 a1_3)])] []).bind λout=>
 rC out.r λc4=>
 asB c4 λb=>
 bif b then
 some (0,(IntKind.i64.wrap ((IntKind.i64.wrap (Int.tdiv (IntKind.i64.wrap (y.1+y.2.1)) 2))+1),y.2.1,()))
 else
 some (0,(y.1,IntKind.i64.wrap (Int.tdiv (IntKind.i64.wrap (y.1+y.2.1)) 2),()))
 else
 some (1,(y.1,y.2.1,()))) fu (0,((n0:Nat):Int),())).bind λp=>
 bif decide (p.2.1<((n0:Nat):Int))then
 need (inR p.2.1 n0)<|
 unc (List.drop (p.2.1.toNat*4) a0) λc5 r4=>
 asI .i64 c5 λi4=>
 unc r4 λc6 r5=>
 asI .i64 c6 λi5=>
 unc r5 λc7 r6=>
 asI .i64 c7 λi6=>
 unc r6 λc8 _=>
 asI .i64 c8 λi7=>
 bif (i4==a1_0)&&((i5==a1_1)&&((i6==a1_2)&&((i7==a1_3)&&true)))then
 some ⟨I p.2.1,[],none⟩
 else
 some ⟨I (-1),[],none⟩
 else
 some ⟨I (-1),[],none⟩):=by kernel_rfl
/- synoptic/place.Valid -/
theorem eq_place_Valid (fu d:Nat) (a0_0:Int) (a0_1:Int) (a0_2:Int) (a0_3:Int):
 cl fu (d+1) fn_place_Valid [V.agg ([C.v (.int .i64 a0_0),C.v (.int .i64 a0_1),C.v (.int .i64 a0_2),C.v (.int .i64 a0_3)])] []=(
 (iter (λ(y:Bool×Int×Unit)=>
 bif decide (y.2.1<3)then
 need (inR y.2.1 3)<|
 unc (List.drop (y.2.1.toNat*1) ([C.v (.int .i64 a0_1),C.v (.int .i64 a0_2),C.v (.int .i64 a0_3)])) λc _=>
 asI .i64 c λi=>
 bif decide (i<0)then
 some (2,(false,y.2.1,()))
 else
 bif decide (i>840)then
 some (2,(false,y.2.1,()))
 else
 some (0,(y.1,IntKind.i64.wrap (y.2.1+1),()))
 else
 some (1,(y.1,y.2.1,()))) fu (false,0,())).bind λp=>
 natD p.1 (
 (cl fu d fn_place_face [I a0_0] []).bind λout=>
 rC out.r λc1=>
 asB c1 λb=>
 bif b then
 some ⟨B ((IntKind.i64.wrap ((IntKind.i64.wrap (a0_1+a0_2))+a0_3))==840),[],none⟩
 else
 some ⟨B false,[],none⟩) λm=>
 some ⟨B p.2.1,[],none⟩):=by kernel_rfl
/- synoptic/place.of -/
theorem eq_place_of (fu d:Nat) (a0_0:Int) (a0_1:Int) (a0_2:Int) (a0_3:Int):
 cl fu (d+1) fn_place_of [V.agg ([C.v (.int .i64 a0_0),C.v (.int .i64 a0_1),C.v (.int .i64 a0_2),C.v (.int .i64 a0_3)])] []=(
 need (inR a0_0 20)<|
 need (Nat.ble 3 ((List.drop (a0_0.toNat*3) gl_place_corners).length))<|
 need ((((Nat.beq ((List.take 3 (List.drop (a0_0.toNat*3) gl_place_corners)).length) 3)&&true)&&(Nat.ble (0+((List.take 3 (List.drop (a0_0.toNat*3) gl_place_corners)).length)) 3))&&true)<|
 unc (putAt ([C.v (.int .i64 0),C.v (.int .i64 0),C.v (.int .i64 0)]) 0 (List.take 3 (List.drop (a0_0.toNat*3) gl_place_corners))) λc _=>
 asI .i64 c λi=>
 unc (List.drop 1 (putAt ([C.v (.int .i64 0),C.v (.int .i64 0),C.v (.int .i64 0)]) 0 (List.take 3 (List.drop (a0_0.toNat*3) gl_place_corners)))) λc1 _=>
 asI .i64 c1 λi1=>
 unc (List.drop 2 (putAt ([C.v (.int .i64 0),C.v (.int .i64 0),C.v (.int .i64 0)]) 0 (List.take 3 (List.drop (a0_0.toNat*3) gl_place_corners)))) λc2 _=>
 asI .i64 c2 λi2=>
 need (inR i 12)<|
 need (((Nat.ble 0 (0+(i.toNat*1)))&&(Nat.ble ((0+(i.toNat*1))+1) 12))&&true)<|
 bd (putAt ([C.v (.int .i64 0),C.v (.int .i64 0),C.v (.int .i64 0),C.v (.int .i64 0),C.v (.int .i64 0),C.v (.int .i64 0),C.v (.int .i64 0),C.v (.int .i64 0),C.v (.int .i64 0),C.v (.int .i64 0),C.v (.int .i64 0),C.v (.int .i64 0)]) (0+(i.toNat*1)) ([C.v (.int .i64 a0_1)])) λcs=>
 need (inR i1 12)<|
 need (((Nat.ble 0 (0+(i1.toNat*1)))&&(Nat.ble ((0+(i1.toNat*1))+1) cs.length))&&true)<|
 need (inR i2 12)<|
 need (((Nat.ble 0 (0+(i2.toNat*1)))&&(Nat.ble ((0+(i2.toNat*1))+1) ((putAt cs (0+(i1.toNat*1)) ([C.v (.int .i64 a0_2)])).length)))&&true)<|
 need (Nat.ble 12 ((putAt (putAt cs (0+(i1.toNat*1)) ([C.v (.int .i64 a0_2)])) (0+(i2.toNat*1)) ([C.v (.int .i64 a0_3)])).length))<|
 need ((((Nat.beq ((List.take 12 (putAt (putAt cs (0+(i1.toNat*1)) ([C.v (.int .i64 a0_2)])) (0+(i2.toNat*1)) ([C.v (.int .i64 a0_3)]))).length) 12)&&true)&&(Nat.ble (0+((List.take 12 (putAt (putAt cs (0+(i1.toNat*1)) ([C.v (.int .i64 a0_2)])) (0+(i2.toNat*1)) ([C.v (.int .i64 a0_3)]))).length)) 12))&&true)<|
 bd (putAt ([C.v (.int .i64 0),C.v (.int .i64 0),C.v (.int .i64 0),C.v (.int .i64 0),C.v (.int .i64 0),C.v (.int .i64 0),C.v (.int .i64 0),C.v (.int .i64 0),C.v (.int .i64 0),C.v (.int .i64 0),C.v (.int .i64 0),C.v (.int .i64 0)]) 0 (List.take 12 (putAt (putAt cs (0+(i1.toNat*1)) ([C.v (.int .i64 a0_2)])) (0+(i2.toNat*1)) ([C.v (.int .i64 a0_3)])))) λcs1=>
 need (Nat.ble 12 cs1.length)<|
 some ⟨V.agg (List.take 12 cs1),[],none⟩):=by kernel_rfl
/- synoptic/place.on -/
theorem eq_place_on (fu d:Nat) (a0:Int) (a1:List C):
 cl fu (d+1) fn_place_on [I a0,V.agg a1] []=(
 need (inR a0 20)<|
 need (Nat.ble 3 ((List.drop (a0.toNat*3) gl_place_corners).length))<|
 need ((((Nat.beq ((List.take 3 (List.drop (a0.toNat*3) gl_place_corners)).length) 3)&&true)&&(Nat.ble (0+((List.take 3 (List.drop (a0.toNat*3) gl_place_corners)).length)) 3))&&true)<|
 unc (putAt ([C.v (.int .i64 0),C.v (.int .i64 0),C.v (.int .i64 0)]) 0 (List.take 3 (List.drop (a0.toNat*3) gl_place_corners))) λc r=>
 asI .i64 c λi=>
 need (inR i 12)<|
 unc (List.drop (i.toNat*1) a1) λc1 _=>
 asI .i64 c1 λi1=>
 unc (List.drop 1 (putAt ([C.v (.int .i64 0),C.v (.int .i64 0),C.v (.int .i64 0)]) 0 (List.take 3 (List.drop (a0.toNat*3) gl_place_corners)))) λc2 _=>
 asI .i64 c2 λi2=>
 need (inR i2 12)<|
 unc (List.drop (i2.toNat*1) a1) λc3 _=>
 asI .i64 c3 λi3=>
 unc (List.drop 2 (putAt ([C.v (.int .i64 0),C.v (.int .i64 0),C.v (.int .i64 0)]) 0 (List.take 3 (List.drop (a0.toNat*3) gl_place_corners)))) λc4 _=>
 asI .i64 c4 λi4=>
 need (inR i4 12)<|
 unc (List.drop (i4.toNat*1) a1) λc5 _=>
 asI .i64 c5 λi5=>
 (cl fu d fn_place_Valid [V.agg ([C.v (.int .i64 a0),C.v (.int .i64 i1),C.v (.int .i64 i3),C.v (.int .i64 i5)])] []).bind λout=>
 rC out.r λc6=>
 asB c6 λb=>
 some ⟨V.tup [V.agg ([C.v (.int .i64 a0),C.v (.int .i64 i1),C.v (.int .i64 i3),C.v (.int .i64 i5)]),B b],[],none⟩):=by kernel_rfl
/- (*synoptic/mesh.Net).at -/
theorem eqp_mesh_Net_at (fu d:Nat) (a0_0:Int) (a0_1:Int) (a0_2:C) (a0_3:List (List C×List C)) (a0_4:List C) (a0_5:C) (a0_6:C) (g0:Nat) (a1_0:Int) (a1_1:Int) (a1_2:Int) (a1_3:Int):
 cl fu (d+1) fn_mesh_Net_at [V.ptr 1000000 0,V.agg ([C.v (.int .i64 a1_0),C.v (.int .i64 a1_1),C.v (.int .i64 a1_2),C.v (.int .i64 a1_3)])] [.pk g0 ty_mesh_Net (.ps [PC.c (C.v (.int .i64 a0_0)),PC.c (C.v (.int .i64 a0_1)),PC.c a0_2,PC.c (C.mp ty_api_Place ty_int (some 4) none a0_3),PC.r ty_api_Cell a0_4,PC.c a0_5,PC.c a0_6]) none]=(
 (cl fu d fn_place_Normal [V.agg ([C.v (.int .i64 a1_0),C.v (.int .i64 a1_1),C.v (.int .i64 a1_2),C.v (.int .i64 a1_3)])] []).bind λout=>
 rT out.r λxs=>
 uncV xs λx ys=>
 rA x λcs=>
 need (Nat.beq cs.length 4)<|
 unc cs λc r=>
 asI .i64 c λi=>
 unc r λc1 r1=>
 asI .i64 c1 λi1=>
 unc r1 λc2 r2=>
 asI .i64 c2 λi2=>
 unc r2 λc3 _=>
 asI .i64 c3 λi3=>
 uncV ys λx1 ys1=>
 rC x1 λc4=>
 asI .i64 c4 λi4=>
 nilV ys1<|
 (mfd ty_api_Place ([C.v (.int .i64 i),C.v (.int .i64 i1),C.v (.int .i64 i2),C.v (.int .i64 i3)]) a0_3).bind λq=>
 unc (orZ q ([C.v (.int .i64 0)])) λc5 _=>
 asI .i64 c5 λi5=>
 some ⟨I i5,[.pk g0 ty_mesh_Net (.ps [PC.c (C.v (.int .i64 a0_0)),PC.c (C.v (.int .i64 a0_1)),PC.c a0_2,PC.c (C.mp ty_api_Place ty_int (some 4) none a0_3),PC.r ty_api_Cell a0_4,PC.c a0_5,PC.c a0_6]) none],none⟩):=by kernel_rfl
/- synoptic/synopticref02.Addresses -/
theorem eq_synopticref02_Addresses (fu d:Nat) (a0_0:Int) (a0_1:Int) (a0_2:Int) (a0_3:Int):
 cl fu (d+1) fn_synopticref02_Addresses [V.agg ([C.v (.int .i64 a0_0),C.v (.int .i64 a0_1),C.v (.int .i64 a0_2),C.v (.int .i64 a0_3)])] []=(
 (cl fu d fn_synopticref02_Valid [V.agg ([C.v (.int .i64 a0_0),C.v (.int .i64 a0_1),C.v (.int .i64 a0_2),C.v (.int .i64 a0_3)])] []).bind λout=>
 rC out.r λc=>
 asB c λb=>
 bif !b then
 some ⟨V.tup [V.c C.nl,I 1],[],none⟩
 else
 (cl fu d fn_synopticref02_Weights [V.agg ([C.v (.int .i64 a0_0),C.v (.int .i64 a0_1),C.v (.int .i64 a0_2),C.v (.int .i64 a0_3)])] []).bind λout1=>
 rA out1.r λcs=>
 need ((((Nat.beq cs.length 12)&&true)&&(Nat.ble (0+cs.length) 12))&&true)<|
 bd (putAt ([C.v (.int .i64 0),C.v (.int .i64 0),C.v (.int .i64 0),C.v (.int .i64 0),C.v (.int .i64 0),C.v (.int .i64 0),C.v (.int .i64 0),C.v (.int .i64 0),C.v (.int .i64 0),C.v (.int .i64 0),C.v (.int .i64 0),C.v (.int .i64 0)]) 0 cs) λcs1=>
 (iter (λ(y:List C×Int×Unit)=>
 bif decide (y.2.1<20)then
 need (Nat.ble 12 cs1.length)<|
 (cl fu d fn_synopticref02_On [I y.2.1,V.agg (List.take 12 cs1)] []).bind λout2=>
 rT out2.r λxs=>
 uncV xs λx ys=>
 rA x λcs2=>
 need (Nat.beq cs2.length 4)<|
 unc cs2 λc1 r=>
 asI .i64 c1 λi=>
 unc r λc2 r1=>
 asI .i64 c2 λi1=>
 unc r1 λc3 r2=>
 asI .i64 c3 λi2=>
 unc r2 λc4 _=>
 asI .i64 c4 λi3=>
 uncV ys λx1 ys1=>
 rC x1 λc5=>
 asB c5 λb1=>
 nilV ys1<|
 bif b1 then
 need ((((Nat.beq ((y.1.length/4)*4) y.1.length)&&true)&&(Nat.ble (((y.1.length/4)+1)*32) 140737488355328))&&(Nat.ble ((y.1.length/4)+1) 140737488355328))<|
 need (((Nat.beq (((y.1.length/4)+1)*4) ((y.1++([C.v (.int .i64 i),C.v (.int .i64 i1),C.v (.int .i64 i2),C.v (.int .i64 i3)])).length))&&true)&&true)<|
 some (0,(y.1++([C.v (.int .i64 i),C.v (.int .i64 i1),C.v (.int .i64 i2),C.v (.int .i64 i3)]),IntKind.i64.wrap (y.2.1+1),()))
 else
 need (((Nat.beq ((y.1.length/4)*4) y.1.length)&&true)&&true)<|
 some (0,(y.1,IntKind.i64.wrap (y.2.1+1),()))
 else
 need (((Nat.beq ((y.1.length/4)*4) y.1.length)&&true)&&true)<|
 some (1,(y.1,y.2.1,()))) fu ([],0,())).bind λp=>
 need (Nat.ble (0+((p.2.1.length/4)*4)) p.2.1.length)<|
 some ⟨V.tup [V.c (C.sl (p.2.1.length/4) (List.take ((p.2.1.length/4)*4) p.2.1)),I 0],[],none⟩):=by kernel_rfl
/- synoptic/synopticref03.less -/
theorem eq_synopticref03_less (fu d:Nat) (a0_0:Int) (a0_1:Int) (a0_2:Int) (a0_3:Int) (a1_0:Int) (a1_1:Int) (a1_2:Int) (a1_3:Int):
 cl fu (d+1) fn_synopticref03_less [V.agg ([C.v (.int .i64 a0_0),C.v (.int .i64 a0_1),C.v (.int .i64 a0_2),C.v (.int .i64 a0_3)]),V.agg ([C.v (.int .i64 a1_0),C.v (.int .i64 a1_1),C.v (.int .i64 a1_2),C.v (.int .i64 a1_3)])] []=(
 bif a0_0 !=a1_0 then
 some ⟨B (decide (a0_0<a1_0)),[],none⟩
 else
 bif a0_1 !=a1_1 then
 some ⟨B (decide (a0_1<a1_1)),[],none⟩
 else
 some ⟨B (decide (a0_2<a1_2)),[],none⟩):=by kernel_rfl
/- synoptic/place.face -/
theorem eq_place_face (fu d:Nat) (a0:Int):
 cl fu (d+1) fn_place_face [I a0] []=(
 bif decide (a0≥0)then
 some ⟨B (decide (a0<20)),[],none⟩
 else
 some ⟨B false,[],none⟩):=by kernel_rfl
/- synoptic/synopticref02.Valid -/
theorem eq_synopticref02_Valid (fu d:Nat) (a0_0:Int) (a0_1:Int) (a0_2:Int) (a0_3:Int):
 cl fu (d+1) fn_synopticref02_Valid [V.agg ([C.v (.int .i64 a0_0),C.v (.int .i64 a0_1),C.v (.int .i64 a0_2),C.v (.int .i64 a0_3)])] []=(
 bif decide (a0_0≥0)then
 bif decide (a0_0<20)then
 bif decide (a0_1≥0)then
 bif decide (a0_1≤840)then
 bif decide (a0_2≥0)then
 bif decide (a0_2≤840)then
 bif decide (a0_3≥0)then
 bif decide (a0_3≤840)then
 some ⟨B ((IntKind.i64.wrap ((IntKind.i64.wrap (a0_1+a0_2))+a0_3))==840),[],none⟩
 else
 some ⟨B false,[],none⟩
 else
 some ⟨B false,[],none⟩
 else
 some ⟨B false,[],none⟩
 else
 some ⟨B false,[],none⟩
 else
 some ⟨B false,[],none⟩
 else
 some ⟨B false,[],none⟩
 else
 some ⟨B false,[],none⟩
 else
 some ⟨B false,[],none⟩):=by kernel_rfl
/- synoptic/synopticref02.Weights -/
theorem eq_synopticref02_Weights (fu d:Nat) (a0_0:Int) (a0_1:Int) (a0_2:Int) (a0_3:Int):
 cl fu (d+1) fn_synopticref02_Weights [V.agg ([C.v (.int .i64 a0_0),C.v (.int .i64 a0_1),C.v (.int .i64 a0_2),C.v (.int .i64 a0_3)])] []=(
 (cl fu d fn_synopticref02_Corners [I a0_0] []).bind λout=>
 rT out.r λxs=>
 uncV xs λx ys=>
 rA x λcs=>
 uncV ys λx1 ys1=>
 rC x1 λc=>
 asI .i64 c λi=>
 nilV ys1<|
 need ((((Nat.beq cs.length 3)&&true)&&(Nat.ble (0+cs.length) 3))&&true)<|
 unc (putAt ([C.v (.int .i64 0),C.v (.int .i64 0),C.v (.int .i64 0)]) 0 cs) λc1 _=>
 asI .i64 c1 λi1=>
 unc (List.drop 1 (putAt ([C.v (.int .i64 0),C.v (.int .i64 0),C.v (.int .i64 0)]) 0 cs)) λc2 _=>
 asI .i64 c2 λi2=>
 unc (List.drop 2 (putAt ([C.v (.int .i64 0),C.v (.int .i64 0),C.v (.int .i64 0)]) 0 cs)) λc3 _=>
 asI .i64 c3 λi3=>
 need (inR i1 12)<|
 need (((Nat.ble 0 (0+(i1.toNat*1)))&&(Nat.ble ((0+(i1.toNat*1))+1) 12))&&true)<|
 bd (putAt ([C.v (.int .i64 0),C.v (.int .i64 0),C.v (.int .i64 0),C.v (.int .i64 0),C.v (.int .i64 0),C.v (.int .i64 0),C.v (.int .i64 0),C.v (.int .i64 0),C.v (.int .i64 0),C.v (.int .i64 0),C.v (.int .i64 0),C.v (.int .i64 0)]) (0+(i1.toNat*1)) ([C.v (.int .i64 a0_1)])) λcs1=>
 need (inR i2 12)<|
 need (((Nat.ble 0 (0+(i2.toNat*1)))&&(Nat.ble ((0+(i2.toNat*1))+1) cs1.length))&&true)<|
 need (inR i3 12)<|
 need (((Nat.ble 0 (0+(i3.toNat*1)))&&(Nat.ble ((0+(i3.toNat*1))+1) ((putAt cs1 (0+(i2.toNat*1)) ([C.v (.int .i64 a0_2)])).length)))&&true)<|
 need (Nat.ble 12 ((putAt (putAt cs1 (0+(i2.toNat*1)) ([C.v (.int .i64 a0_2)])) (0+(i3.toNat*1)) ([C.v (.int .i64 a0_3)])).length))<|
 need ((((Nat.beq ((List.take 12 (putAt (putAt cs1 (0+(i2.toNat*1)) ([C.v (.int .i64 a0_2)])) (0+(i3.toNat*1)) ([C.v (.int .i64 a0_3)]))).length) 12)&&true)&&(Nat.ble (0+((List.take 12 (putAt (putAt cs1 (0+(i2.toNat*1)) ([C.v (.int .i64 a0_2)])) (0+(i3.toNat*1)) ([C.v (.int .i64 a0_3)]))).length)) 12))&&true)<|
 bd (putAt ([C.v (.int .i64 0),C.v (.int .i64 0),C.v (.int .i64 0),C.v (.int .i64 0),C.v (.int .i64 0),C.v (.int .i64 0),C.v (.int .i64 0),C.v (.int .i64 0),C.v (.int .i64 0),C.v (.int .i64 0),C.v (.int .i64 0),C.v (.int .i64 0)]) 0 (List.take 12 (putAt (putAt cs1 (0+(i2.toNat*1)) ([C.v (.int .i64 a0_2)])) (0+(i3.toNat*1)) ([C.v (.int .i64 a0_3)])))) λcs2=>
 need (Nat.ble 12 cs2.length)<|
 some ⟨V.agg (List.take 12 cs2),[],none⟩):=by kernel_rfl
/- synoptic/synopticref02.On -/
theorem eq_synopticref02_On (fu d:Nat) (a0:Int) (a1:List C):
 cl fu (d+1) fn_synopticref02_On [I a0,V.agg a1] []=(
 (cl fu d fn_synopticref02_Corners [I a0] []).bind λout=>
 rT out.r λxs=>
 uncV xs λx ys=>
 rA x λcs=>
 uncV ys λx1 ys1=>
 rC x1 λc=>
 asI .i64 c λi=>
 nilV ys1<|
 need ((((Nat.beq cs.length 3)&&true)&&(Nat.ble (0+cs.length) 3))&&true)<|
 unc (putAt ([C.v (.int .i64 0),C.v (.int .i64 0),C.v (.int .i64 0)]) 0 cs) λc1 _=>
 asI .i64 c1 λi1=>
 need (inR i1 12)<|
 unc (List.drop (i1.toNat*1) a1) λc2 _=>
 asI .i64 c2 λi2=>
 unc (List.drop 1 (putAt ([C.v (.int .i64 0),C.v (.int .i64 0),C.v (.int .i64 0)]) 0 cs)) λc3 _=>
 asI .i64 c3 λi3=>
 need (inR i3 12)<|
 unc (List.drop (i3.toNat*1) a1) λc4 _=>
 asI .i64 c4 λi4=>
 unc (List.drop 2 (putAt ([C.v (.int .i64 0),C.v (.int .i64 0),C.v (.int .i64 0)]) 0 cs)) λc5 _=>
 asI .i64 c5 λi5=>
 need (inR i5 12)<|
 unc (List.drop (i5.toNat*1) a1) λc6 _=>
 asI .i64 c6 λi6=>
 some ⟨V.tup [V.agg ([C.v (.int .i64 a0),C.v (.int .i64 i2),C.v (.int .i64 i4),C.v (.int .i64 i6)]),B ((IntKind.i64.wrap ((IntKind.i64.wrap (i2+i4))+i6))==840)],[],none⟩):=by kernel_rfl
/- synoptic/synopticref02.Corners -/
theorem eq_synopticref02_Corners (fu d:Nat) (a0:Int):
 cl fu (d+1) fn_synopticref02_Corners [I a0] []=(
 bif decide (a0<0)then
 some ⟨V.tup [V.agg ([C.v (.int .i64 0),C.v (.int .i64 0),C.v (.int .i64 0)]),I 1],[],none⟩
 else
 bif decide (a0≥20)then
 some ⟨V.tup [V.agg ([C.v (.int .i64 0),C.v (.int .i64 0),C.v (.int .i64 0)]),I 1],[],none⟩
 else
 bif (IntKind.i64.wrap (Int.tdiv a0 5))==0 then
 some ⟨V.tup [V.agg ([C.v (.int .i64 0),C.v (.int .i64 (IntKind.i64.wrap (1+(Int.tmod a0 5)))),C.v (.int .i64 (IntKind.i64.wrap (1+(Int.tmod (IntKind.i64.wrap ((Int.tmod a0 5)+1)) 5))))]),I 0],[],none⟩
 else
 bif (IntKind.i64.wrap (Int.tdiv a0 5))==1 then
 some ⟨V.tup [V.agg ([C.v (.int .i64 (IntKind.i64.wrap (1+(Int.tmod a0 5)))),C.v (.int .i64 (IntKind.i64.wrap (6+(Int.tmod a0 5)))),C.v (.int .i64 (IntKind.i64.wrap (1+(Int.tmod (IntKind.i64.wrap ((Int.tmod a0 5)+1)) 5))))]),I 0],[],none⟩
 else
 bif (IntKind.i64.wrap (Int.tdiv a0 5))==2 then
 some ⟨V.tup [V.agg ([C.v (.int .i64 (IntKind.i64.wrap (6+(Int.tmod a0 5)))),C.v (.int .i64 (IntKind.i64.wrap (6+(Int.tmod (IntKind.i64.wrap ((Int.tmod a0 5)+1)) 5)))),C.v (.int .i64 (IntKind.i64.wrap (1+(Int.tmod (IntKind.i64.wrap ((Int.tmod a0 5)+1)) 5))))]),I 0],[],none⟩
 else
 some ⟨V.tup [V.agg ([C.v (.int .i64 11),C.v (.int .i64 (IntKind.i64.wrap (6+(Int.tmod (IntKind.i64.wrap ((Int.tmod a0 5)+1)) 5)))),C.v (.int .i64 (IntKind.i64.wrap (6+(Int.tmod a0 5))))]),I 0],[],none⟩):=by kernel_rfl
end Go.Proofs.YtjmempcalaliiaaGreatDoor
