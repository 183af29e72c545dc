/- The hints under which the pure machine runs this program's functions. -/
import Derived.Test.YtoaanfjcjbghaaaGreatDoorJ6
import Derived.Test.YtoaanfjcjbghaaaGreatDoorProg
import Derived.KernelRfl
set_option linter.unusedVariables false
set_option linter.unusedSimpArgs false
namespace Go.Proofs.YtoaanfjcjbghaaaGreatDoor
open Go Go.PM
def fn_bits_Mul:Nat:=96
def fn_bits_Mul64:Nat:=124
def fn_cmp_Compare_int:Nat:=105
def fn_cmp_Or_int:Nat:=104
def fn_cmp_isNaN_int:Nat:=133
def fn_flux_Amounts:Nat:=93
def fn_flux_Check:Nat:=34
def fn_flux_CheckScheme:Nat:=58
def fn_flux_Degrees:Nat:=121
def fn_flux_Move:Nat:=94
def fn_flux_edges:Nat:=122
def fn_flux_edges_1:Nat:=142
def fn_flux_outside:Nat:=70
def fn_flux_outside_1:Nat:=98
def fn_flux_within:Nat:=99
def fn_grid_Count:Nat:=68
def fn_grid_Edges:Nat:=36
def fn_mesh_Build:Nat:=73
def fn_mesh_Build_1:Nat:=103
def fn_mesh_Build_2:Nat:=107
def fn_mesh_Frequency:Nat:=72
def fn_mesh_Net_at:Nat:=146
def fn_mesh_Net_cell:Nat:=127
def fn_mesh_Net_cells:Nat:=101
def fn_mesh_Net_downward:Nat:=129
def fn_mesh_Net_upward:Nat:=128
def fn_mesh_Points:Nat:=100
def fn_mesh_moved:Nat:=130
def fn_model_Accelerate:Nat:=21
def fn_model_FromField:Nat:=31
def fn_model_Rest:Nat:=29
def fn_model_Run:Nat:=26
def fn_model_Slopes:Nat:=18
def fn_model_Step:Nat:=23
def fn_model_accelerate:Nat:=61
def fn_model_accelerate_1:Nat:=91
def fn_model_chain_model_progress_do:Nat:=63
def fn_model_check:Nat:=66
def fn_model_move:Nat:=62
def fn_model_move_1:Nat:=92
def fn_place_Normal:Nat:=126
def fn_place_Valid:Nat:=143
def fn_place_face:Nat:=176
def fn_place_of:Nat:=144
def fn_place_on:Nat:=145
def fn_slices_Clone_sint_int:Nat:=59
def fn_slices_Compact_sapi_Edge_api_Edge:Nat:=108
def fn_slices_ContainsFunc_sint_int:Nat:=97
def fn_slices_IndexFunc_sint_int:Nat:=125
def fn_slices_Repeat_sint_int:Nat:=67
def fn_slices_SortFunc_sapi_Cell_api_Cell:Nat:=102
def fn_slices_SortFunc_sapi_Edge_api_Edge:Nat:=106
def fn_slices_Sort_sint_int:Nat:=109
def fn_synopticfield_Codes_Frequency:Nat:=15
def fn_synopticfield_Codes_Int:Nat:=43
def fn_synopticfield_Codes_Left:Nat:=71
def fn_synopticfield_Codes_Next:Nat:=35
def fn_synopticfield_Codes_Scheme:Nat:=16
def fn_synopticfield_Codes_Signed:Nat:=80
def fn_synopticfield_Codes_SpoilState:Nat:=17
def fn_synopticfield_Codes_State:Nat:=14
def fn_synopticfield_Codes_Vector:Nat:=54
def fn_synopticfield_Mod:Nat:=28
def fn_synopticfield_New:Nat:=13
def fn_synopticlaw30_ModelSteps:Nat:=3
def fn_synopticlaw30_awake:Nat:=12
def fn_synopticref02_Addresses:Nat:=174
def fn_synopticref02_Corners:Nat:=193
def fn_synopticref02_IsNormal:Nat:=137
def fn_synopticref02_Normal:Nat:=138
def fn_synopticref02_On:Nat:=189
def fn_synopticref02_Valid:Nat:=111
def fn_synopticref02_Weights:Nat:=188
def fn_synopticref03_Cells:Nat:=120
def fn_synopticref03_Count:Nat:=87
def fn_synopticref03_Edges:Nat:=53
def fn_synopticref03_Nodes:Nat:=112
def fn_synopticref03_around:Nat:=88
def fn_synopticref03_at:Nat:=114
def fn_synopticref03_cell:Nat:=141
def fn_synopticref03_find:Nat:=139
def fn_synopticref03_insert:Nat:=140
def fn_synopticref03_less:Nat:=175
def fn_synopticref22_Nodes:Nat:=55
def fn_synopticref22_Small:Nat:=90
def fn_synopticref25_Ints:Nat:=20
def fn_synopticref28_Clip:Nat:=56
def fn_synopticref29_Amounts:Nat:=64
def fn_synopticref29_Check:Nat:=57
def fn_synopticref29_CheckScheme:Nat:=60
def fn_synopticref29_Degrees:Nat:=95
def fn_synopticref29_Frequency:Nat:=69
def fn_synopticref29_Move:Nat:=65
def fn_synopticref29_Same:Nat:=25
def fn_synopticref29_depths:Nat:=89
def fn_synopticref30_Accelerate:Nat:=22
def fn_synopticref30_FromField:Nat:=32
def fn_synopticref30_Rest:Nat:=30
def fn_synopticref30_Run:Nat:=27
def fn_synopticref30_Slopes:Nat:=19
def fn_synopticref30_Step:Nat:=24
def ty_3_int:Nat:=129
def ty_api_Cell:Nat:=138
def ty_api_Edge:Nat:=63
def ty_api_Place:Nat:=120
def ty_int:Nat:=3
def ty_mesh_Net:Nat:=111
def ty_synopticfield_Codes:Nat:=86
def gl_place_corners:List C:=[.v (.int .i64 0), .v (.int .i64 1), .v (.int .i64 2), .v (.int .i64 0), .v (.int .i64 2), .v (.int .i64 3), .v (.int .i64 0), .v (.int .i64 3), .v (.int .i64 4), .v (.int .i64 0), .v (.int .i64 4), .v (.int .i64 5), .v (.int .i64 0), .v (.int .i64 5), .v (.int .i64 1), .v (.int .i64 1), .v (.int .i64 6), .v (.int .i64 2), .v (.int .i64 2), .v (.int .i64 7), .v (.int .i64 3), .v (.int .i64 3), .v (.int .i64 8), .v (.int .i64 4), .v (.int .i64 4), .v (.int .i64 9), .v (.int .i64 5), .v (.int .i64 5), .v (.int .i64 10), .v (.int .i64 1), .v (.int .i64 6), .v (.int .i64 7), .v (.int .i64 2), .v (.int .i64 7), .v (.int .i64 8), .v (.int .i64 3), .v (.int .i64 8), .v (.int .i64 9), .v (.int .i64 4), .v (.int .i64 9), .v (.int .i64 10), .v (.int .i64 5), .v (.int .i64 10), .v (.int .i64 6), .v (.int .i64 1), .v (.int .i64 11), .v (.int .i64 7), .v (.int .i64 6), .v (.int .i64 11), .v (.int .i64 8), .v (.int .i64 7), .v (.int .i64 11), .v (.int .i64 9), .v (.int .i64 8), .v (.int .i64 11), .v (.int .i64 10), .v (.int .i64 9), .v (.int .i64 11), .v (.int .i64 6), .v (.int .i64 10)]
def globs:Nat→Option (List C):=fun g=>bif Nat.beq g 0 then some gl_place_corners else none
def primfn:FuncId→Option (List V→List PM.Obj→Option Out):=fun f=>bif Nat.beq f fn_slices_SortFunc_sapi_Cell_api_Cell then some (sortFuncP 138 3 103 (lexZ [0,1,2])) else bif Nat.beq f fn_slices_SortFunc_sapi_Edge_api_Edge then some (sortFuncP 63 2 107 (lexZ [0,1])) else bif Nat.beq f fn_slices_Compact_sapi_Edge_api_Edge then some (compactEP ty_api_Edge) else bif Nat.beq f fn_slices_Sort_sint_int then some (orP (sortP ty_int) (sortWsP ty_3_int)) else none
/-- The edges of a grid, one by one, as flux.edges yields them. -/
def edgesL (n:Nat):List (List V):=((Grid.edg n).zipIdx).map fun p=>[I ((p.2:Nat):Int),V.agg [C.v (.int .i64 p.1.1),C.v (.int .i64 p.1.2)]]
def iterC (f:FuncId) (caps:List C):Option (List (List V)):=
  bif Nat.beq f fn_flux_edges_1 then match caps with
    | [c]=>asP c fun cs=>unc cs fun c _=>asI .i64 c fun n=>need (decide (1≤n)&&decide (n≤8)) (some (edgesL n.toNat))
    |_=>none
  else none
def prim:Prims:={fn:=primfn,iter:=fun d f caps=>bif Nat.ble 10 d then iterC f caps else none,glob:=globs}
noncomputable def laid:FuncId→Laid:=fun f=>
  bif Nat.beq f 3 then {keep:=fun n=>bif Nat.beq n 9 then {ks:=[.lf 12 .b, .lf 68 (.i .i64)],fz:=[14,15],ex:=[.exit 0, .ret]} else bif Nat.beq n 16 then {ks:=[.lf 12 .b, .lf 95 (.i .i64), .ob 17 30 [.i .i64, .o, .o] [(17,0)]],ex:=[.exit 2, .ret]} else bif Nat.beq n 34 then {ks:=[.lf 12 .b, .lf 190 (.i .i64)],ex:=[.exit 4, .ret]} else default,join:=fun n=>bif Nat.beq n 157 then some {ks:=[.lf 34 (.i .i64), .ob 17 30 [.i .i64, .o, .o] [(17,0)], .ob 23 24 [.i .i64, .i .i64, .i .i64] [(23,0)], .ob 24 30 [.i .i64, .o, .o] [(24,0)], .ob 26 30 [.i .i64, .o, .o] [(26,0)]],ex:=[.normal]} else none,hand:=[2,0,0,0,0,2],loud:=fun d=>Nat.beq d 65,lh:=[55],bar:=fun d=>Nat.beq d 1000064||Nat.beq d 1000067} else
  bif Nat.beq f 13 then {own:=fun d=>Nat.beq d 14,exp:=[some 86],hand:=[2,0]} else
  bif Nat.beq f 14 then {keep:=fun n=>bif Nat.beq n 5 then {ks:=[.lf 44 (.i .i64), .ob 4 30 [.i .i64, .o, .o] [(4,0)], .mx 7 30 [.lf (.i .i64), .ow 200449 3, .lf .o] [(7,0)] [], .ob 1000000 86 [.o, .i .i64] []],ex:=[.exit 0]} else default,loud:=fun d=>Nat.beq d 30||Nat.beq d 35,lh:=[1000000],bar:=fun d=>Nat.beq d 55||Nat.beq d 1000036||Nat.beq d 1000037,mix:=fun d=>Nat.beq d 7} else
  bif Nat.beq f 17 then {own:=fun d=>Nat.beq d 3,loud:=fun d=>Nat.beq d 33||Nat.beq d 35||Nat.beq d 38||Nat.beq d 54||Nat.beq d 56||Nat.beq d 59,lh:=[1000000],bar:=fun d=>Nat.beq d 1000030||Nat.beq d 1000031||Nat.beq d 1000032||Nat.beq d 1000039||Nat.beq d 1000040||Nat.beq d 1000041||Nat.beq d 1000051||Nat.beq d 1000052||Nat.beq d 1000053||Nat.beq d 1000060||Nat.beq d 1000061||Nat.beq d 1000062,mix:=fun d=>Nat.beq d 3} else
  bif Nat.beq f 18 then {keep:=fun n=>bif Nat.beq n 9 then {ks:=[.ow 7 7 3, .lf 26 (.i .i64)],ex:=[.exit 0]} else default,bar:=fun d=>Nat.beq d 45} else
  bif Nat.beq f 19 then {keep:=fun n=>bif Nat.beq n 7 then {ks:=[.ow 7 7 3, .lf 8 (.i .i64)],ex:=[.exit 0]} else default,bar:=fun d=>Nat.beq d 47} else
  bif Nat.beq f 20 then {keep:=fun n=>bif Nat.beq n 4 then {ks:=[.lf 4 .b, .lf 5 (.i .i64)],ex:=[.exit 0, .ret]} else default,hand:=[2,2]} else
  bif Nat.beq f 21 then {keep:=fun n=>bif Nat.beq n 9 then {ks:=[.lf 36 (.i .i64), .ob 4 30 [.i .i64, .o, .o] [(4,0)], .mx 9 30 [.lf (.i .i64), .ow 200577 3, .ow 200578 3] [(9,0)] []],ex:=[.exit 0]} else default,bar:=fun d=>Nat.beq d 31||Nat.beq d 32||Nat.beq d 3000027||Nat.beq d 3000028,mix:=fun d=>Nat.beq d 9||Nat.beq d 32} else
  bif Nat.beq f 22 then {keep:=fun n=>bif Nat.beq n 9 then {ks:=[.lf 10 (.i .i64), .ob 4 30 [.i .i64, .o, .o] [(4,0)], .mx 9 30 [.lf (.i .i64), .lf .o, .ow 200578 3] [(9,0)] []],ex:=[.exit 0]} else default,bar:=fun d=>Nat.beq d 31||Nat.beq d 32||Nat.beq d 68||Nat.beq d 3000027||Nat.beq d 3000028,mix:=fun d=>Nat.beq d 9} else
  bif Nat.beq f 23 then {loud:=fun d=>Nat.beq d 1000004,lh:=[4],bar:=fun d=>Nat.beq d 11||Nat.beq d 13||Nat.beq d 17||Nat.beq d 1000020||Nat.beq d 1000021||Nat.beq d 3000012||Nat.beq d 3000015||Nat.beq d 3000016} else
  bif Nat.beq f 26 then {keep:=fun n=>bif Nat.beq n 8 then {ks:=[.lf 7 (.i .i64), .lf 35 (.i .i64), .ob 6 30 [.i .i64, .o, .o] [(6,0)], .ob 9 30 [.i .i64, .o, .o] [(9,0)]],ex:=[.exit 0, .ret]} else default,bar:=fun d=>Nat.beq d 29||Nat.beq d 32||Nat.beq d 33||Nat.beq d 3000025||Nat.beq d 3000026||Nat.beq d 3000030||Nat.beq d 3000031} else
  bif Nat.beq f 27 then {own:=fun d=>Nat.beq d 4,keep:=fun n=>bif Nat.beq n 7 then {ks:=[.lf 7 (.i .i64), .lf 10 (.i .i64), .ob 4 30 [.i .i64, .o, .o] [(4,0)], .ob 6 30 [.i .i64, .o, .o] [(6,0)]],ex:=[.exit 0, .ret]} else default} else
  bif Nat.beq f 30 then {keep:=fun n=>bif Nat.beq n 5 then {ks:=[.ow 6 6 3, .lf 7 (.i .i64), .ob 4 30 [.i .i64, .o, .o] [(4,0)]],ex:=[.exit 0]} else default} else
  bif Nat.beq f 31 then {hand:=[0,2],bar:=fun d=>Nat.beq d 20||Nat.beq d 24||Nat.beq d 3000022||Nat.beq d 3000023} else
  bif Nat.beq f 32 then {join:=fun n=>bif Nat.beq n 15 then some {ks:=[.ob 4 30 [.i .i64, .o, .o] [(4,0)], .ob 6 30 [.i .i64, .o, .o] [(6,0)]],ex:=[.normal]} else none,hand:=[0,2]} else
  bif Nat.beq f 34 then {bar:=fun d=>Nat.beq d 33||Nat.beq d 38} else
  bif Nat.beq f 53 then {keep:=fun n=>bif Nat.beq n 6 then {ks:=[.ow 4 4 63, .lf 6 (.i .i64)],ex:=[.exit 0]} else bif Nat.beq n 9 then {ks:=[.ow 4 4 63, .lf 25 (.i .i64)],ex:=[.exit 2]} else default} else
  bif Nat.beq f 54 then {keep:=fun n=>bif Nat.beq n 4 then {ks:=[.ow 8 8 3, .lf 9 (.i .i64), .ob 1000000 86 [.o, .i .i64] [(0,0)]],ex:=[.exit 0]} else default} else
  bif Nat.beq f 57 then {bar:=fun d=>Nat.beq d 20||Nat.beq d 33||Nat.beq d 39||Nat.beq d 3000015||Nat.beq d 3000016||Nat.beq d 3000017} else
  bif Nat.beq f 59 then {own:=fun d=>Nat.beq d 5,exp:=[some 3],hand:=[2]} else
  bif Nat.beq f 60 then {keep:=fun n=>bif Nat.beq n 2 then {ks:=[.lf 2 (.i .i64), .lf 12 (.i .i64)],ex:=[.exit 0, .ret]} else default} else
  bif Nat.beq f 63 then {own:=fun d=>Nat.beq d 3,keep:=fun n=>bif Nat.beq n 2 then {ks:=[.lf 5 (.i .i64), .lf 12 (.i .i64), .ob 3 93 [.i .i64, .o, .o, .o] [(3,0)], .ob 4 93 [.i .i64, .o, .o, .o] [(4,0)]],ex:=[.exit 0, .ret]} else default,hand:=[2,0],unr:=fun n=>bif Nat.beq n 2 then 3 else 0} else
  bif Nat.beq f 64 then {keep:=fun n=>bif Nat.beq n 12 then {ks:=[.ow 13 13 3, .ow 14 14 3, .lf 15 (.i .i64)],ex:=[.exit 0]} else default} else
  bif Nat.beq f 65 then {keep:=fun n=>bif Nat.beq n 9 then {ks:=[.lf 10 (.i .i64), .ob 4 30 [.i .i64, .o, .o] [(4,0)], .mx 7 30 [.lf (.i .i64), .ow 200449 3, .ow 200450 3] [(7,0)] []],ex:=[.exit 0]} else default,hand:=[0,2],bar:=fun d=>Nat.beq d 33||Nat.beq d 36||Nat.beq d 37||Nat.beq d 3000029||Nat.beq d 3000030||Nat.beq d 3000034||Nat.beq d 3000035,mix:=fun d=>Nat.beq d 7||Nat.beq d 37} else
  bif Nat.beq f 67 then {keep:=fun n=>bif Nat.beq n 8 then {ks:=[.ow 7 7 3, .lf 8 (.i .i64)],ex:=[.exit 0]} else default,join:=fun n=>bif Nat.beq n 10 then some {ks:=[],ex:=[.normal]} else bif Nat.beq n 26 then some {ks:=[],ex:=[.normal]} else none,hand:=[2,0],bar:=fun d=>Nat.beq d 45} else
  bif Nat.beq f 70 then {hand:=[2,0,0]} else
  bif Nat.beq f 73 then {keep:=fun n=>bif Nat.beq n 3 then {ks:=[.lf 15 (.i .i64), .pk 14 111 [.lf (.i .i64), .lf (.i .i64), .lf .o, .lf .o, .rw 138, .lf .o, .lf .o] [(3,0)]],ex:=[.exit 0]} else bif Nat.beq n 6 then {ks:=[.lf 5 (.i .i64), .pk 14 111 [.lf (.i .i64), .lf (.i .i64), .lf .o, .lf .o, .rw 138, .lf .o, .lf .o] [(3,0)]],ex:=[.exit 2]} else bif Nat.beq n 9 then {ks:=[.lf 6 (.i .i64), .pk 14 111 [.lf (.i .i64), .lf (.i .i64), .lf .o, .lf .o, .rw 138, .lf .o, .lf .o] [(3,0)]],ex:=[.exit 4]} else bif Nat.beq n 15 then {ks:=[.lf 68 (.i .i64), .pk 14 111 [.lf (.i .i64), .lf (.i .i64), .lf .o, .lf .o, .lf .o, .rw 63, .lf .o] [(3,0)]],fz:=[66],ex:=[.exit 6]} else bif Nat.beq n 23 then {ks:=[.lf 124 (.i .i64), .mx 14 111 [.lf (.i .i64), .lf (.i .i64), .lf .o, .lf .o, .lf .o, .lf .o, .ws 116 25 3] [(3,0)] []],ex:=[.exit 8]} else bif Nat.beq n 29 then {ks:=[.lf 172 (.i .i64), .mx 14 111 [.lf (.i .i64), .lf (.i .i64), .lf .o, .lf .o, .lf .o, .lf .o, .ws 116 25 3] [(3,0)] [(170,6)]],ex:=[.exit 10]} else default,exp:=[some 111],loud:=fun d=>Nat.beq d 145||Nat.beq d 164||Nat.beq d 1000146||Nat.beq d 1000165,lh:=[116],bar:=fun d=>Nat.beq d 56||Nat.beq d 93||Nat.beq d 1000135||Nat.beq d 1000136||Nat.beq d 1000137||Nat.beq d 1000138||Nat.beq d 1000139||Nat.beq d 1000140||Nat.beq d 1000141||Nat.beq d 1000142||Nat.beq d 1000143||Nat.beq d 1000146||Nat.beq d 1000154||Nat.beq d 1000155||Nat.beq d 1000156||Nat.beq d 1000157||Nat.beq d 1000158||Nat.beq d 1000159||Nat.beq d 1000160||Nat.beq d 1000161||Nat.beq d 1000162||Nat.beq d 1000165,mix:=fun d=>Nat.beq d 116} else
  bif Nat.beq f 88 then {keep:=fun n=>bif Nat.beq n 4 then {ks:=[.ow 5 5 25, .lf 22 (.i .i64)],ex:=[.exit 0]} else bif Nat.beq n 7 then {ks:=[.ow 5 5 25, .lf 58 (.i .i64)],ex:=[.exit 2]} else bif Nat.beq n 10 then {ks:=[.ow 5 5 25, .lf 10 (.i .i64), .oo 9 79 [(9,0)]],ex:=[.exit 4]} else default,bar:=fun d=>Nat.beq d 116,mix:=fun d=>Nat.beq d 108} else
  bif Nat.beq f 89 then {keep:=fun n=>bif Nat.beq n 2 then {ks:=[.lf 2 .b, .lf 3 (.i .i64)],ex:=[.exit 0, .ret]} else default,hand:=[2]} else
  bif Nat.beq f 90 then {keep:=fun n=>bif Nat.beq n 2 then {ks:=[.lf 4 .b, .lf 5 (.i .i64)],ex:=[.exit 0, .ret]} else default,hand:=[2,0]} else
  bif Nat.beq f 93 then {keep:=fun n=>bif Nat.beq n 15 then {ks:=[.mx 11 25 [.ow 200704 3] [(11,0)] [], .mx 12 43 [.ow 200768 3] [(12,0)] []],fz:=[9],ex:=[],sh:=[.s (.i .i64), .a [.i .i64, .i .i64]]} else default,bar:=fun d=>Nat.beq d 77||Nat.beq d 80||Nat.beq d 90||Nat.beq d 93||Nat.beq d 105||Nat.beq d 108||Nat.beq d 3000079||Nat.beq d 3000092||Nat.beq d 3000107,rd:=fun n=>bif Nat.beq n 78 then [12,200768] else bif Nat.beq n 91 then [12,200768] else bif Nat.beq n 106 then [12,200768] else [],pr:=fun n=>bif Nat.beq n 77 then [12,200768] else bif Nat.beq n 90 then [12,200768] else bif Nat.beq n 105 then [12,200768] else []} else
  bif Nat.beq f 94 then {keep:=fun n=>bif Nat.beq n 10 then {ks:=[.ob 4 30 [.i .i64, .o, .o] [(4,0)], .mx 7 30 [.lf (.i .i64), .ow 200449 3, .ow 200450 3] [(7,0)] []],ex:=[],sh:=[.s (.i .i64), .a [.i .i64, .i .i64]]} else default,hand:=[0,2],bar:=fun d=>Nat.beq d 31||Nat.beq d 34||Nat.beq d 35||Nat.beq d 3000027||Nat.beq d 3000028||Nat.beq d 3000032||Nat.beq d 3000033,mix:=fun d=>Nat.beq d 7||Nat.beq d 35} else
  bif Nat.beq f 95 then {keep:=fun n=>bif Nat.beq n 6 then {ks:=[.ow 4 4 3, .lf 7 (.i .i64)],ex:=[.exit 0]} else default} else
  bif Nat.beq f 97 then {hand:=[2,0]} else
  bif Nat.beq f 100 then {own:=fun d=>Nat.beq d 15,keep:=fun n=>bif Nat.beq n 3 then {ks:=[.lf 16 (.i .i64), .mx 15 111 [.lf (.i .i64), .lf (.i .i64), .ow 200962 120, .mp 13 120 3, .lf .o, .lf .o, .lf .o] [(3,0)] []],ex:=[.exit 0]} else bif Nat.beq n 6 then {ks:=[.lf 5 (.i .i64), .mx 15 111 [.lf (.i .i64), .lf (.i .i64), .ow 200962 120, .mp 13 120 3, .lf .o, .lf .o, .lf .o] [(3,0)] []],ex:=[.exit 2]} else bif Nat.beq n 9 then {ks:=[.lf 6 (.i .i64), .mx 15 111 [.lf (.i .i64), .lf (.i .i64), .ow 200962 120, .mp 13 120 3, .lf .o, .lf .o, .lf .o] [(3,0)] []],ex:=[.exit 4]} else default,exp:=[some 111],bar:=fun d=>Nat.beq d 80||Nat.beq d 2000066,mix:=fun d=>Nat.beq d 14||Nat.beq d 15} else
  bif Nat.beq f 101 then {bar:=fun d=>Nat.beq d 24||Nat.beq d 25||Nat.beq d 26} else
  bif Nat.beq f 102 then {hand:=[1,0]} else
  bif Nat.beq f 103 then {bar:=fun d=>Nat.beq d 9||Nat.beq d 14||Nat.beq d 19||Nat.beq d 21||Nat.beq d 3000010||Nat.beq d 3000011||Nat.beq d 3000012||Nat.beq d 3000013||Nat.beq d 3000015||Nat.beq d 3000016||Nat.beq d 3000017||Nat.beq d 3000018} else
  bif Nat.beq f 104 then {keep:=fun n=>bif Nat.beq n 3 then {ks:=[.lf 2 (.i .i64), .lf 8 (.i .i64)],ex:=[.exit 0, .ret]} else default,hand:=[2]} else
  bif Nat.beq f 106 then {hand:=[1,0]} else
  bif Nat.beq f 107 then {bar:=fun d=>Nat.beq d 9||Nat.beq d 14||Nat.beq d 16||Nat.beq d 3000010||Nat.beq d 3000011||Nat.beq d 3000012||Nat.beq d 3000013} else
  bif Nat.beq f 108 then {hand:=[1],fzb:=true} else
  bif Nat.beq f 109 then {hand:=[1]} else
  bif Nat.beq f 112 then {keep:=fun n=>bif Nat.beq n 6 then {ks:=[.ow 5 5 120, .lf 6 (.i .i64)],ex:=[.exit 0]} else bif Nat.beq n 9 then {ks:=[.ow 5 5 120, .lf 7 (.i .i64)],ex:=[.exit 2]} else bif Nat.beq n 12 then {ks:=[.ow 5 5 120, .lf 8 (.i .i64)],ex:=[.exit 4]} else default} else
  bif Nat.beq f 114 then {hand:=[2,0,0,0]} else
  bif Nat.beq f 120 then {keep:=fun n=>bif Nat.beq n 7 then {ks:=[.ow 7 7 138, .lf 8 (.i .i64)],ex:=[.exit 0]} else bif Nat.beq n 10 then {ks:=[.ow 7 7 138, .lf 9 (.i .i64)],ex:=[.exit 2]} else bif Nat.beq n 13 then {ks:=[.ow 7 7 138, .lf 10 (.i .i64)],ex:=[.exit 4]} else default} else
  bif Nat.beq f 121 then {keep:=fun n=>bif Nat.beq n 6 then {ks:=[.mx 4 25 [.ow 200256 3] [(4,0)] []],ex:=[],sh:=[.s (.i .i64), .a [.i .i64, .i .i64]]} else default} else
  bif Nat.beq f 125 then {keep:=fun n=>bif Nat.beq n 2 then {ks:=[.lf 4 (.i .i64), .lf 8 (.i .i64)],ex:=[.exit 0, .ret]} else default,hand:=[2,0]} else
  bif Nat.beq f 126 then {keep:=fun n=>bif Nat.beq n 5 then {ks:=[.lf 3 (.i .i64), .lf 14 (.i .i64), .ob 2 120 [.i .i64, .i .i64, .i .i64, .i .i64] [(2,0)]],fz:=[4],ex:=[.exit 0, .ret]} else default} else
  bif Nat.beq f 127 then {keep:=fun n=>bif Nat.beq n 3 then {ks:=[.lf 8 (.i .i64), .oo 4 129 [(4,0)], .pk 1000000 111 [.lf (.i .i64), .lf (.i .i64), .lf .o, .lf .o, .rw 138, .lf .o, .lf .o] [(0,0)]],ex:=[.exit 0]} else default,bar:=fun d=>Nat.beq d 33} else
  bif Nat.beq f 128 then {bar:=fun d=>Nat.beq d 22} else
  bif Nat.beq f 129 then {bar:=fun d=>Nat.beq d 34} else
  bif Nat.beq f 139 then {keep:=fun n=>bif Nat.beq n 2 then {ks:=[.lf 5 (.i .i64), .lf 6 (.i .i64)],ex:=[.exit 0]} else default,hand:=[2,0],bar:=fun d=>Nat.beq d 22} else
  bif Nat.beq f 140 then {keep:=fun n=>bif Nat.beq n 2 then {ks:=[.us 0 1000000 138, .lf 5 (.i .i64)],ex:=[.exit 0]} else default,exp:=[some 138],hand:=[1,0],lost:=true,bar:=fun d=>Nat.beq d 78} else
  bif Nat.beq f 142 then {keep:=fun n=>bif Nat.beq n 2 then {ks:=[.lf 14 (.i .i64), .lg],ex:=[.exit 0, .ret]} else default} else
  bif Nat.beq f 143 then {keep:=fun n=>bif Nat.beq n 2 then {ks:=[.lf 2 .b, .lf 12 (.i .i64)],ex:=[.exit 0, .ret]} else default} else
  bif Nat.beq f 144 then {loud:=fun d=>Nat.beq d 1000021||Nat.beq d 1000022,lh:=[3],bar:=fun d=>Nat.beq d 1000009||Nat.beq d 1000010||Nat.beq d 1000015||Nat.beq d 1000016||Nat.beq d 1000021||Nat.beq d 1000022||Nat.beq d 1000023} else
  bif Nat.beq f 146 then {bar:=fun d=>Nat.beq d 17} else
  bif Nat.beq f 174 then {keep:=fun n=>bif Nat.beq n 6 then {ks:=[.ow 5 5 120, .lf 6 (.i .i64)],fz:=[4],ex:=[.exit 0]} else default} else
  bif Nat.beq f 188 then {loud:=fun d=>Nat.beq d 1000024||Nat.beq d 1000025,lh:=[3],bar:=fun d=>Nat.beq d 1000012||Nat.beq d 1000013||Nat.beq d 1000018||Nat.beq d 1000019||Nat.beq d 1000024||Nat.beq d 1000025||Nat.beq d 1000026} else
  bif Nat.beq f 189 then {loud:=fun d=>Nat.beq d 1000004,lh:=[4],bar:=fun d=>Nat.beq d 1000028} else
  {}
def kb0:ByteArray:=⟨#[0,1,2,2,3,3,3,3,4,4,4,4,4,4,4,4,5,5,5,5,5,5,5,5,5,5,5,5,5,5,5,5,6,6,6,6,6,6,6,6,6,6,6,6,6,6,6,6,6,6,6,6,6,6,6,6,6,6,6,6,6,6,6,6,7,7,7,7,7,7,7,7,7,7,7,7,7,7,7,7,7,7,7,7,7,7,7,7,7,7,7,7,7,7,7,7,7,7,7,7,7,7,7,7,7,7,7,7,7,7,7,7,7,7,7,7,7,7,7,7,7,7,7,7,7,7,7,7,8,8,8,8,8,8,8,8,8,8,8,8,8,8,8,8,8,8,8,8,8,8,8,8,8,8,8,8,8,8,8,8,8,8,8,8,8,8,8,8,8,8,8,8,8,8,8,8,8,8,8,8,8,8,8,8,8,8,8,8,8,8,8,8,8,8,8,8,8,8,8,8,8,8,8,8,8,8,8,8,8,8,8,8,8,8,8,8,8,8,8,8,8,8,8,8,8,8,8,8,8,8,8,8,8,8,8,8,8,8,8,8,8,8,8,8,8,8,8,8,8,8,8,8,8,8,8,8]⟩
noncomputable def mfd (kt:TypeId) (kc:List C) (es:List (List C×List C)):Option (Option (Nat×List C)):=mfind Tryz.prog kt kc es 0
noncomputable def cl (fu d:Nat) (f:FuncId) (args:List V) (objs:List PM.Obj):Option Out:=callN Tryz.prog prim laid fu d f args objs
end Go.Proofs.YtoaanfjcjbghaaaGreatDoor
