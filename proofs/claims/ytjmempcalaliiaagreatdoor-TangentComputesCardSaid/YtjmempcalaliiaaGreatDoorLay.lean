/- The hints under which the pure machine runs this program's functions. -/
import Derived.Test.YtjmempcalaliiaaGreatDoorJ6
import Derived.Test.YtjmempcalaliiaaGreatDoorProg
import Derived.KernelRfl
set_option linter.unusedVariables false
set_option linter.unusedSimpArgs false
namespace Go.Proofs.YtjmempcalaliiaaGreatDoor
open Go Go.PM
def fn_bits_Add64:Nat:=93
def fn_bits_Mul64:Nat:=117
def fn_cmp_Compare_int:Nat:=108
def fn_cmp_Or_int:Nat:=107
def fn_cmp_isNaN_int:Nat:=131
def fn_flux_Check:Nat:=72
def fn_flux_CheckScheme:Nat:=52
def fn_flux_Degrees:Nat:=50
def fn_flux_edges:Nat:=83
def fn_flux_edges_1:Nat:=102
def fn_flux_outside:Nat:=86
def fn_flux_outside_1:Nat:=113
def fn_flux_within:Nat:=82
def fn_grid_Count:Nat:=59
def fn_grid_Edges:Nat:=51
def fn_mesh_Build:Nat:=85
def fn_mesh_Build_1:Nat:=106
def fn_mesh_Build_2:Nat:=110
def fn_mesh_Frequency:Nat:=84
def fn_mesh_Net_at:Nat:=140
def fn_mesh_Net_cell:Nat:=125
def fn_mesh_Net_cells:Nat:=104
def fn_mesh_Net_downward:Nat:=127
def fn_mesh_Net_upward:Nat:=126
def fn_mesh_Points:Nat:=103
def fn_mesh_moved:Nat:=128
def fn_place_Normal:Nat:=124
def fn_place_Valid:Nat:=137
def fn_place_face:Nat:=170
def fn_place_of:Nat:=138
def fn_place_on:Nat:=139
def fn_precision_Add:Nat:=68
def fn_precision_Dot:Nat:=67
def fn_precision_Product:Nat:=116
def fn_precision_total:Nat:=92
def fn_precision_total_1:Nat:=115
def fn_slices_Backward_sapi_Branch_api_Branch_1:Nat:=89
def fn_slices_Clone_sint_int:Nat:=57
def fn_slices_Compact_sapi_Edge_api_Edge:Nat:=111
def fn_slices_ContainsFunc_sint_int:Nat:=90
def fn_slices_IndexFunc_sint_int:Nat:=114
def fn_slices_SortFunc_sapi_Cell_api_Cell:Nat:=105
def fn_slices_SortFunc_sapi_Edge_api_Edge:Nat:=109
def fn_slices_Sort_sint_int:Nat:=112
def fn_synopticfield_Codes_Branch:Nat:=16
def fn_synopticfield_Codes_Change:Nat:=17
def fn_synopticfield_Codes_Frequency:Nat:=14
def fn_synopticfield_Codes_Int:Nat:=24
def fn_synopticfield_Codes_Left:Nat:=55
def fn_synopticfield_Codes_Next:Nat:=23
def fn_synopticfield_Codes_Scheme:Nat:=15
def fn_synopticfield_Codes_Signed:Nat:=81
def fn_synopticfield_Codes_State:Nat:=31
def fn_synopticfield_Codes_Vector:Nat:=48
def fn_synopticfield_Mod:Nat:=18
def fn_synopticfield_New:Nat:=13
def fn_synopticlaw31_TangentComputes:Nat:=6
def fn_synopticlaw31_awake:Nat:=12
def fn_synopticref02_Addresses:Nat:=168
def fn_synopticref02_Corners:Nat:=188
def fn_synopticref02_IsNormal:Nat:=134
def fn_synopticref02_Normal:Nat:=135
def fn_synopticref02_On:Nat:=184
def fn_synopticref02_Valid:Nat:=182
def fn_synopticref02_Weights:Nat:=183
def fn_synopticref03_Cells:Nat:=101
def fn_synopticref03_Count:Nat:=79
def fn_synopticref03_Edges:Nat:=47
def fn_synopticref03_Nodes:Nat:=120
def fn_synopticref03_around:Nat:=80
def fn_synopticref03_at:Nat:=123
def fn_synopticref03_cell:Nat:=122
def fn_synopticref03_find:Nat:=136
def fn_synopticref03_insert:Nat:=121
def fn_synopticref03_less:Nat:=169
def fn_synopticref22_Add:Nat:=70
def fn_synopticref22_Dot:Nat:=69
def fn_synopticref22_Negate:Nat:=119
def fn_synopticref22_Nodes:Nat:=49
def fn_synopticref22_Product:Nat:=94
def fn_synopticref22_Small:Nat:=64
def fn_synopticref22_size:Nat:=118
def fn_synopticref25_Ints:Nat:=44
def fn_synopticref28_Clip:Nat:=61
def fn_synopticref29_Check:Nat:=73
def fn_synopticref29_CheckScheme:Nat:=62
def fn_synopticref29_Degrees:Nat:=56
def fn_synopticref29_Frequency:Nat:=60
def fn_synopticref29_Same:Nat:=42
def fn_synopticref29_depths:Nat:=95
def fn_synopticref31_Apply:Nat:=33
def fn_synopticref31_Check:Nat:=35
def fn_synopticref31_Compose:Nat:=37
def fn_synopticref31_Dot:Nat:=39
def fn_synopticref31_Same:Nat:=26
def fn_synopticref31_Scale:Nat:=32
def fn_synopticref31_Shift:Nat:=41
def fn_synopticref31_moved:Nat:=74
def fn_tangent_Apply:Nat:=19
def fn_tangent_Check:Nat:=34
def fn_tangent_Compose:Nat:=36
def fn_tangent_Compose_1:Nat:=66
def fn_tangent_Dot:Nat:=38
def fn_tangent_Scale:Nat:=20
def fn_tangent_Shift:Nat:=40
def fn_tangent_fold_api_Change_api_Branch:Nat:=65
def fn_tangent_outside:Nat:=63
def fn_tangent_outside_1:Nat:=91
def fn_tangent_within:Nat:=71
def ty_3_int:Nat:=127
def ty_api_Cell:Nat:=141
def ty_api_Edge:Nat:=83
def ty_api_Place:Nat:=145
def ty_api_Wide:Nat:=59
def ty_int:Nat:=3
def ty_mesh_Net:Nat:=121
def ty_synopticfield_Codes:Nat:=75
def gl_place_corners:List C:=[.v (.int .i64 0), .v (.int .i64 1), .v (.int .i64 2), .v (.int .i64 0), .v (.int .i64 2), .v (.int .i64 3), .v (.int .i64 0), .v (.int .i64 3), .v (.int .i64 4), .v (.int .i64 0), .v (.int .i64 4), .v (.int .i64 5), .v (.int .i64 0), .v (.int .i64 5), .v (.int .i64 1), .v (.int .i64 1), .v (.int .i64 6), .v (.int .i64 2), .v (.int .i64 2), .v (.int .i64 7), .v (.int .i64 3), .v (.int .i64 3), .v (.int .i64 8), .v (.int .i64 4), .v (.int .i64 4), .v (.int .i64 9), .v (.int .i64 5), .v (.int .i64 5), .v (.int .i64 10), .v (.int .i64 1), .v (.int .i64 6), .v (.int .i64 7), .v (.int .i64 2), .v (.int .i64 7), .v (.int .i64 8), .v (.int .i64 3), .v (.int .i64 8), .v (.int .i64 9), .v (.int .i64 4), .v (.int .i64 9), .v (.int .i64 10), .v (.int .i64 5), .v (.int .i64 10), .v (.int .i64 6), .v (.int .i64 1), .v (.int .i64 11), .v (.int .i64 7), .v (.int .i64 6), .v (.int .i64 11), .v (.int .i64 8), .v (.int .i64 7), .v (.int .i64 11), .v (.int .i64 9), .v (.int .i64 8), .v (.int .i64 11), .v (.int .i64 10), .v (.int .i64 9), .v (.int .i64 11), .v (.int .i64 6), .v (.int .i64 10)]
def globs:Nat→Option (List C):=fun g=>bif Nat.beq g 0 then some gl_place_corners else none
def primfn:FuncId→Option (List V→List PM.Obj→Option Out):=fun f=>bif Nat.beq f fn_slices_SortFunc_sapi_Cell_api_Cell then some (sortFuncP 141 3 106 (lexZ [0,1,2])) else bif Nat.beq f fn_slices_SortFunc_sapi_Edge_api_Edge then some (sortFuncP 83 2 110 (lexZ [0,1])) else bif Nat.beq f fn_slices_Compact_sapi_Edge_api_Edge then some (compactEP ty_api_Edge) else bif Nat.beq f fn_slices_Sort_sint_int then some (orP (sortP ty_int) (sortWsP ty_3_int)) else none
/-- The edges of a grid, one by one, as flux.edges yields them. -/
def edgesL (n:Nat):List (List V):=((Grid.edg n).zipIdx).map fun p=>[I ((p.2:Nat):Int),V.agg [C.v (.int .i64 p.1.1),C.v (.int .i64 p.1.2)]]
/-- The elements of a slice from behind, with their places. -/
def backL (cs:List C):List (List V):=(cs.zipIdx.reverse).map fun p=>[I ((p.2:Nat):Int),V.c p.1]
def iterC (f:FuncId) (caps:List C):Option (List (List V)):=
  bif Nat.beq f fn_flux_edges_1 then match caps with
    | [c]=>asP c fun cs=>unc cs fun c _=>asI .i64 c fun n=>need (decide (1≤n)&&decide (n≤8)) (some (edgesL n.toNat))
    |_=>none
  else bif Nat.beq f fn_slices_Backward_sapi_Branch_api_Branch_1 then match caps with
    | [c]=>asP c fun cs=>unc cs fun c _=>asSl c fun n l=>need (Nat.beq n l.length&&Nat.ble n 1000000) (some (backL l))
    |_=>none
  else none
def prim:Prims:={fn:=primfn,iter:=fun d f caps=>bif Nat.ble 10 d then iterC f caps else none,glob:=globs,add:=some fn_bits_Add64}
noncomputable def laid:FuncId→Laid:=fun f=>
  bif Nat.beq f 6 then {keep:=fun n=>bif Nat.beq n 12 then {ks:=[.lf 8 .b, .lf 97 (.i .i64), .ob 65 75 [.o, .i .i64] [(9,0)]],fz:=[11,13,14],ex:=[.exit 0, .ret]} else bif Nat.beq n 19 then {ks:=[.lf 8 .b, .lf 123 (.i .i64), .ob 16 28 [.i .i64, .i .i64, .i .i64] [(16,0)], .ob 65 75 [.o, .i .i64] [(9,0)]],ex:=[.exit 2, .ret]} else bif Nat.beq n 22 then {ks:=[.lf 8 .b, .lf 131 (.i .i64), .ob 16 28 [.i .i64, .i .i64, .i .i64] [(16,0)], .ob 22 34 [.o, .o] [(22,0)], .ob 65 75 [.o, .i .i64] [(9,0)]],ex:=[.exit 4, .ret]} else default,hand:=[2,0,0,0],loud:=fun d=>Nat.beq d 94,lh:=[65],bar:=fun d=>Nat.beq d 157||Nat.beq d 168||Nat.beq d 179||Nat.beq d 277||Nat.beq d 286||Nat.beq d 1000096} else
  bif Nat.beq f 13 then {own:=fun d=>Nat.beq d 14,exp:=[some 75],hand:=[2,0]} else
  bif Nat.beq f 16 then {keep:=fun n=>bif Nat.beq n 4 then {ks:=[.ow 7 7 3, .lf 15 (.i .i64), .ob 1000000 75 [.o, .i .i64] [(0,0)]],ex:=[.exit 0]} else default} else
  bif Nat.beq f 19 then {keep:=fun n=>bif Nat.beq n 15 then {ks:=[.lf 60 (.i .i64), .ob 8 34 [.o, .o] [(8,0)], .mx 15 34 [.ow 200960 3, .ow 200961 3] [(15,0)] []],ex:=[.exit 0]} else bif Nat.beq n 20 then {ks:=[.lf 75 (.i .i64), .ob 8 34 [.o, .o] [(8,0)], .mx 15 34 [.ow 200960 3, .ow 200961 3] [(15,0)] []],ex:=[.exit 2]} else default,join:=fun n=>bif Nat.beq n 119 then some {ks:=[.lf 21 (.i .i64), .ob 8 34 [.o, .o] [(8,0)], .mx 15 34 [.ow 200960 3, .ow 200961 3] [(15,0)] [], .ob 19 83 [.i .i64, .i .i64] [(19,0)]],ex:=[.normal]} else bif Nat.beq n 135 then some {ks:=[.lf 21 (.i .i64), .ob 8 34 [.o, .o] [(8,0)], .mx 15 34 [.ow 200960 3, .ow 200961 3] [(15,0)] [], .ob 19 83 [.i .i64, .i .i64] [(19,0)]],ex:=[.normal]} else none,hand:=[0,0,2,0],mix:=fun d=>Nat.beq d 15} else
  bif Nat.beq f 31 then {keep:=fun n=>bif Nat.beq n 5 then {ks:=[.lf 44 (.i .i64), .ob 4 54 [.i .i64, .o, .o] [(4,0)], .mx 7 54 [.lf (.i .i64), .ow 200449 3, .lf .o] [(7,0)] [], .ob 1000000 75 [.o, .i .i64] []],ex:=[.exit 0]} else default,loud:=fun d=>Nat.beq d 30||Nat.beq d 35,lh:=[1000000],bar:=fun d=>Nat.beq d 55||Nat.beq d 1000036||Nat.beq d 1000037,mix:=fun d=>Nat.beq d 7} else
  bif Nat.beq f 33 then {keep:=fun n=>bif Nat.beq n 11 then {ks:=[.lf 18 (.i .i64), .ob 8 34 [.o, .o] [(8,0)], .mx 17 34 [.ow 201088 3, .ow 201089 3] [(17,0)] []],ex:=[.exit 0]} else bif Nat.beq n 15 then {ks:=[.lf 19 (.i .i64), .ob 8 34 [.o, .o] [(8,0)], .mx 17 34 [.ow 201088 3, .ow 201089 3] [(17,0)] []],ex:=[.exit 2]} else default,join:=fun n=>bif Nat.beq n 132 then some {ks:=[.lf 23 (.i .i64), .ob 8 34 [.o, .o] [(8,0)], .mx 17 34 [.ow 201088 3, .ow 201089 3] [(17,0)] []],ex:=[.normal]} else bif Nat.beq n 146 then some {ks:=[.lf 23 (.i .i64), .ob 8 34 [.o, .o] [(8,0)], .mx 17 34 [.ow 201088 3, .ow 201089 3] [(17,0)] []],ex:=[.normal]} else none,hand:=[0,0,2,0],bar:=fun d=>Nat.beq d 68,mix:=fun d=>Nat.beq d 17} else
  bif Nat.beq f 34 then {hand:=[0,2,0],bar:=fun d=>Nat.beq d 41||Nat.beq d 46||Nat.beq d 51} else
  bif Nat.beq f 35 then {hand:=[0,2,0],bar:=fun d=>Nat.beq d 21||Nat.beq d 40||Nat.beq d 46||Nat.beq d 52||Nat.beq d 3000017||Nat.beq d 3000018||Nat.beq d 3000019} else
  bif Nat.beq f 36 then {hand:=[0,0,2,0],bar:=fun d=>Nat.beq d 13||Nat.beq d 16||Nat.beq d 17||Nat.beq d 3000014||Nat.beq d 3000015} else
  bif Nat.beq f 37 then {own:=fun d=>Nat.beq d 7,keep:=fun n=>bif Nat.beq n 2 then {ks:=[.lf 9 (.i .i64), .lf 10 (.i .i64), .ob 7 34 [.o, .o] [(7,0)], .ob 8 34 [.o, .o] [(8,0)]],ex:=[.exit 0, .ret]} else default,hand:=[0,0,2,0],bar:=fun d=>Nat.beq d 26} else
  bif Nat.beq f 40 then {keep:=fun n=>bif Nat.beq n 8 then {ks:=[.lf 65 (.i .i64), .ob 6 54 [.i .i64, .o, .o] [(6,0)], .mx 9 54 [.lf (.i .i64), .ow 200577 3, .ow 200578 3] [(9,0)] []],ex:=[.exit 0]} else bif Nat.beq n 13 then {ks:=[.lf 84 (.i .i64), .ob 6 54 [.i .i64, .o, .o] [(6,0)], .mx 9 54 [.lf (.i .i64), .ow 200577 3, .ow 200578 3] [(9,0)] []],ex:=[.exit 2]} else default,bar:=fun d=>Nat.beq d 57||Nat.beq d 60||Nat.beq d 61||Nat.beq d 3000053||Nat.beq d 3000054||Nat.beq d 3000058||Nat.beq d 3000059,mix:=fun d=>Nat.beq d 9||Nat.beq d 61} else
  bif Nat.beq f 41 then {bar:=fun d=>Nat.beq d 61||Nat.beq d 67||Nat.beq d 3000054||Nat.beq d 3000055||Nat.beq d 3000062||Nat.beq d 3000063||Nat.beq d 3000064||Nat.beq d 3000065} else
  bif Nat.beq f 44 then {keep:=fun n=>bif Nat.beq n 4 then {ks:=[.lf 4 .b, .lf 5 (.i .i64)],ex:=[.exit 0, .ret]} else default,hand:=[2,2]} else
  bif Nat.beq f 47 then {keep:=fun n=>bif Nat.beq n 6 then {ks:=[.ow 4 4 83, .lf 6 (.i .i64)],ex:=[.exit 0]} else bif Nat.beq n 9 then {ks:=[.ow 4 4 83, .lf 25 (.i .i64)],ex:=[.exit 2]} else default} else
  bif Nat.beq f 48 then {keep:=fun n=>bif Nat.beq n 4 then {ks:=[.ow 8 8 3, .lf 9 (.i .i64), .ob 1000000 75 [.o, .i .i64] [(0,0)]],ex:=[.exit 0]} else default} else
  bif Nat.beq f 50 then {keep:=fun n=>bif Nat.beq n 6 then {ks:=[.mx 4 30 [.ow 200256 3] [(4,0)] []],ex:=[],sh:=[.s (.i .i64), .a [.i .i64, .i .i64]]} else default} else
  bif Nat.beq f 56 then {keep:=fun n=>bif Nat.beq n 6 then {ks:=[.ow 4 4 3, .lf 7 (.i .i64)],ex:=[.exit 0]} else default} else
  bif Nat.beq f 57 then {own:=fun d=>Nat.beq d 5,exp:=[some 3],hand:=[2]} else
  bif Nat.beq f 62 then {keep:=fun n=>bif Nat.beq n 2 then {ks:=[.lf 2 (.i .i64), .lf 12 (.i .i64)],ex:=[.exit 0, .ret]} else default} else
  bif Nat.beq f 63 then {hand:=[2,0]} else
  bif Nat.beq f 64 then {keep:=fun n=>bif Nat.beq n 2 then {ks:=[.lf 4 .b, .lf 5 (.i .i64)],ex:=[.exit 0, .ret]} else default,hand:=[2,0]} else
  bif Nat.beq f 65 then {own:=fun d=>Nat.beq d 4,keep:=fun n=>bif Nat.beq n 2 then {ks:=[.lf 7 (.i .i64), .lf 14 (.i .i64), .ob 4 34 [.o, .o] [(4,0)], .ob 6 34 [.o, .o] [(6,0)]],ex:=[.exit 0, .ret]} else default,hand:=[2,0,0]} else
  bif Nat.beq f 66 then {hand:=[0,2]} else
  bif Nat.beq f 67 then {keep:=fun n=>bif Nat.beq n 6 then {ks:=[.lf 20 (.i .i64), .ob 4 59 [.i .i64, .i .u64] [(4,0)], .ob 7 59 [.i .i64, .i .u64] [(7,0)], .ob 15 59 [.i .i64, .i .u64] [(6,1000000115)]],ex:=[.exit 0]} else default,hand:=[2,2],bar:=fun d=>Nat.beq d 32} else
  bif Nat.beq f 69 then {keep:=fun n=>bif Nat.beq n 5 then {ks:=[.lf 7 (.i .i64), .ob 4 59 [.i .i64, .i .u64] [(4,0)], .ob 6 59 [.i .i64, .i .u64] [(6,0)]],ex:=[.exit 0]} else default,hand:=[2,2],bar:=fun d=>Nat.beq d 30} else
  bif Nat.beq f 72 then {bar:=fun d=>Nat.beq d 33||Nat.beq d 38} else
  bif Nat.beq f 73 then {bar:=fun d=>Nat.beq d 20||Nat.beq d 33||Nat.beq d 39||Nat.beq d 3000015||Nat.beq d 3000016||Nat.beq d 3000017} else
  bif Nat.beq f 74 then {keep:=fun n=>bif Nat.beq n 3 then {ks:=[.ow 7 7 3, .lf 8 (.i .i64)],ex:=[.exit 0]} else default,hand:=[2,2,0],bar:=fun d=>Nat.beq d 28} else
  bif Nat.beq f 80 then {keep:=fun n=>bif Nat.beq n 4 then {ks:=[.ow 5 5 30, .lf 22 (.i .i64)],ex:=[.exit 0]} else bif Nat.beq n 7 then {ks:=[.ow 5 5 30, .lf 58 (.i .i64)],ex:=[.exit 2]} else bif Nat.beq n 10 then {ks:=[.ow 5 5 30, .lf 10 (.i .i64), .oo 9 49 [(9,0)]],ex:=[.exit 4]} else default,bar:=fun d=>Nat.beq d 116,mix:=fun d=>Nat.beq d 108} else
  bif Nat.beq f 85 then {keep:=fun n=>bif Nat.beq n 3 then {ks:=[.lf 15 (.i .i64), .pk 14 121 [.lf (.i .i64), .lf (.i .i64), .lf .o, .lf .o, .rw 141, .lf .o, .lf .o] [(3,0)]],ex:=[.exit 0]} else bif Nat.beq n 6 then {ks:=[.lf 5 (.i .i64), .pk 14 121 [.lf (.i .i64), .lf (.i .i64), .lf .o, .lf .o, .rw 141, .lf .o, .lf .o] [(3,0)]],ex:=[.exit 2]} else bif Nat.beq n 9 then {ks:=[.lf 6 (.i .i64), .pk 14 121 [.lf (.i .i64), .lf (.i .i64), .lf .o, .lf .o, .rw 141, .lf .o, .lf .o] [(3,0)]],ex:=[.exit 4]} else bif Nat.beq n 15 then {ks:=[.lf 68 (.i .i64), .pk 14 121 [.lf (.i .i64), .lf (.i .i64), .lf .o, .lf .o, .lf .o, .rw 83, .lf .o] [(3,0)]],fz:=[66],ex:=[.exit 6]} else bif Nat.beq n 23 then {ks:=[.lf 124 (.i .i64), .mx 14 121 [.lf (.i .i64), .lf (.i .i64), .lf .o, .lf .o, .lf .o, .lf .o, .ws 116 30 3] [(3,0)] []],ex:=[.exit 8]} else bif Nat.beq n 29 then {ks:=[.lf 172 (.i .i64), .mx 14 121 [.lf (.i .i64), .lf (.i .i64), .lf .o, .lf .o, .lf .o, .lf .o, .ws 116 30 3] [(3,0)] [(170,6)]],ex:=[.exit 10]} else default,exp:=[some 121],loud:=fun d=>Nat.beq d 145||Nat.beq d 164||Nat.beq d 1000146||Nat.beq d 1000165,lh:=[116],bar:=fun d=>Nat.beq d 56||Nat.beq d 93||Nat.beq d 1000135||Nat.beq d 1000136||Nat.beq d 1000137||Nat.beq d 1000138||Nat.beq d 1000139||Nat.beq d 1000140||Nat.beq d 1000141||Nat.beq d 1000142||Nat.beq d 1000143||Nat.beq d 1000146||Nat.beq d 1000154||Nat.beq d 1000155||Nat.beq d 1000156||Nat.beq d 1000157||Nat.beq d 1000158||Nat.beq d 1000159||Nat.beq d 1000160||Nat.beq d 1000161||Nat.beq d 1000162||Nat.beq d 1000165,mix:=fun d=>Nat.beq d 116} else
  bif Nat.beq f 86 then {hand:=[2,0,0]} else
  bif Nat.beq f 89 then {keep:=fun n=>bif Nat.beq n 1 then {ks:=[.lf 3 (.i .i64), .lg],ex:=[.exit 0, .ret]} else default} else
  bif Nat.beq f 90 then {hand:=[2,0]} else
  bif Nat.beq f 92 then {own:=fun d=>Nat.beq d 2,exp:=[some 115000000059]} else
  bif Nat.beq f 95 then {keep:=fun n=>bif Nat.beq n 2 then {ks:=[.lf 2 .b, .lf 3 (.i .i64)],ex:=[.exit 0, .ret]} else default,hand:=[2]} else
  bif Nat.beq f 101 then {keep:=fun n=>bif Nat.beq n 7 then {ks:=[.ow 7 7 141, .lf 8 (.i .i64)],ex:=[.exit 0]} else bif Nat.beq n 10 then {ks:=[.ow 7 7 141, .lf 9 (.i .i64)],ex:=[.exit 2]} else bif Nat.beq n 13 then {ks:=[.ow 7 7 141, .lf 10 (.i .i64)],ex:=[.exit 4]} else default} else
  bif Nat.beq f 102 then {keep:=fun n=>bif Nat.beq n 2 then {ks:=[.lf 14 (.i .i64), .lg],ex:=[.exit 0, .ret]} else default} else
  bif Nat.beq f 103 then {own:=fun d=>Nat.beq d 15,keep:=fun n=>bif Nat.beq n 3 then {ks:=[.lf 16 (.i .i64), .mx 15 121 [.lf (.i .i64), .lf (.i .i64), .ow 200962 145, .mp 13 145 3, .lf .o, .lf .o, .lf .o] [(3,0)] []],ex:=[.exit 0]} else bif Nat.beq n 6 then {ks:=[.lf 5 (.i .i64), .mx 15 121 [.lf (.i .i64), .lf (.i .i64), .ow 200962 145, .mp 13 145 3, .lf .o, .lf .o, .lf .o] [(3,0)] []],ex:=[.exit 2]} else bif Nat.beq n 9 then {ks:=[.lf 6 (.i .i64), .mx 15 121 [.lf (.i .i64), .lf (.i .i64), .ow 200962 145, .mp 13 145 3, .lf .o, .lf .o, .lf .o] [(3,0)] []],ex:=[.exit 4]} else default,exp:=[some 121],bar:=fun d=>Nat.beq d 80||Nat.beq d 2000066,mix:=fun d=>Nat.beq d 14||Nat.beq d 15} else
  bif Nat.beq f 104 then {bar:=fun d=>Nat.beq d 24||Nat.beq d 25||Nat.beq d 26} else
  bif Nat.beq f 105 then {hand:=[1,0]} else
  bif Nat.beq f 106 then {bar:=fun d=>Nat.beq d 9||Nat.beq d 14||Nat.beq d 19||Nat.beq d 21||Nat.beq d 3000010||Nat.beq d 3000011||Nat.beq d 3000012||Nat.beq d 3000013||Nat.beq d 3000015||Nat.beq d 3000016||Nat.beq d 3000017||Nat.beq d 3000018} else
  bif Nat.beq f 107 then {keep:=fun n=>bif Nat.beq n 3 then {ks:=[.lf 2 (.i .i64), .lf 8 (.i .i64)],ex:=[.exit 0, .ret]} else default,hand:=[2]} else
  bif Nat.beq f 109 then {hand:=[1,0]} else
  bif Nat.beq f 110 then {bar:=fun d=>Nat.beq d 9||Nat.beq d 14||Nat.beq d 16||Nat.beq d 3000010||Nat.beq d 3000011||Nat.beq d 3000012||Nat.beq d 3000013} else
  bif Nat.beq f 111 then {hand:=[1],fzb:=true} else
  bif Nat.beq f 112 then {hand:=[1]} else
  bif Nat.beq f 114 then {keep:=fun n=>bif Nat.beq n 2 then {ks:=[.lf 4 (.i .i64), .lf 8 (.i .i64)],ex:=[.exit 0, .ret]} else default,hand:=[2,0]} else
  bif Nat.beq f 115 then {bar:=fun d=>Nat.beq d 10} else
  bif Nat.beq f 120 then {keep:=fun n=>bif Nat.beq n 6 then {ks:=[.ow 5 5 145, .lf 6 (.i .i64)],ex:=[.exit 0]} else bif Nat.beq n 9 then {ks:=[.ow 5 5 145, .lf 7 (.i .i64)],ex:=[.exit 2]} else bif Nat.beq n 12 then {ks:=[.ow 5 5 145, .lf 8 (.i .i64)],ex:=[.exit 4]} else default} else
  bif Nat.beq f 121 then {keep:=fun n=>bif Nat.beq n 2 then {ks:=[.us 0 1000000 141, .lf 5 (.i .i64)],ex:=[.exit 0]} else default,exp:=[some 141],hand:=[1,0],lost:=true,bar:=fun d=>Nat.beq d 78} else
  bif Nat.beq f 123 then {hand:=[2,0,0,0]} else
  bif Nat.beq f 124 then {keep:=fun n=>bif Nat.beq n 5 then {ks:=[.lf 3 (.i .i64), .lf 14 (.i .i64), .ob 2 145 [.i .i64, .i .i64, .i .i64, .i .i64] [(2,0)]],fz:=[4],ex:=[.exit 0, .ret]} else default} else
  bif Nat.beq f 125 then {keep:=fun n=>bif Nat.beq n 3 then {ks:=[.lf 8 (.i .i64), .oo 4 127 [(4,0)], .pk 1000000 121 [.lf (.i .i64), .lf (.i .i64), .lf .o, .lf .o, .rw 141, .lf .o, .lf .o] [(0,0)]],ex:=[.exit 0]} else default,bar:=fun d=>Nat.beq d 33} else
  bif Nat.beq f 126 then {bar:=fun d=>Nat.beq d 22} else
  bif Nat.beq f 127 then {bar:=fun d=>Nat.beq d 34} else
  bif Nat.beq f 136 then {keep:=fun n=>bif Nat.beq n 2 then {ks:=[.lf 5 (.i .i64), .lf 6 (.i .i64)],ex:=[.exit 0]} else default,hand:=[2,0],bar:=fun d=>Nat.beq d 22} else
  bif Nat.beq f 137 then {keep:=fun n=>bif Nat.beq n 2 then {ks:=[.lf 2 .b, .lf 12 (.i .i64)],ex:=[.exit 0, .ret]} else default} else
  bif Nat.beq f 138 then {loud:=fun d=>Nat.beq d 1000021||Nat.beq d 1000022,lh:=[3],bar:=fun d=>Nat.beq d 1000009||Nat.beq d 1000010||Nat.beq d 1000015||Nat.beq d 1000016||Nat.beq d 1000021||Nat.beq d 1000022||Nat.beq d 1000023} else
  bif Nat.beq f 140 then {bar:=fun d=>Nat.beq d 17} else
  bif Nat.beq f 168 then {keep:=fun n=>bif Nat.beq n 6 then {ks:=[.ow 5 5 145, .lf 6 (.i .i64)],fz:=[4],ex:=[.exit 0]} else default} else
  bif Nat.beq f 183 then {loud:=fun d=>Nat.beq d 1000024||Nat.beq d 1000025,lh:=[3],bar:=fun d=>Nat.beq d 1000012||Nat.beq d 1000013||Nat.beq d 1000018||Nat.beq d 1000019||Nat.beq d 1000024||Nat.beq d 1000025||Nat.beq d 1000026} else
  bif Nat.beq f 184 then {loud:=fun d=>Nat.beq d 1000004,lh:=[4],bar:=fun d=>Nat.beq d 1000028} else
  {}
def kb0:ByteArray:=⟨#[0,1,2,2,3,3,3,3,4,4,4,4,4,4,4,4,5,5,5,5,5,5,5,5,5,5,5,5,5,5,5,5,6,6,6,6,6,6,6,6,6,6,6,6,6,6,6,6,6,6,6,6,6,6,6,6,6,6,6,6,6,6,6,6,7,7,7,7,7,7,7,7,7,7,7,7,7,7,7,7,7,7,7,7,7,7,7,7,7,7,7,7,7,7,7,7,7,7,7,7,7,7,7,7,7,7,7,7,7,7,7,7,7,7,7,7,7,7,7,7,7,7,7,7,7,7,7,7,8,8,8,8,8,8,8,8,8,8,8,8,8,8,8,8,8,8,8,8,8,8,8,8,8,8,8,8,8,8,8,8,8,8,8,8,8,8,8,8,8,8,8,8,8,8,8,8,8,8,8,8,8,8,8,8,8,8,8,8,8,8,8,8,8,8,8,8,8,8,8,8,8,8,8,8,8,8,8,8,8,8,8,8,8,8,8,8,8,8,8,8,8,8,8,8,8,8,8,8,8,8,8,8,8,8,8,8,8,8,8,8,8,8,8,8,8,8,8,8,8,8,8,8,8,8,8,8]⟩
noncomputable def mfd (kt:TypeId) (kc:List C) (es:List (List C×List C)):Option (Option (Nat×List C)):=mfind Tryz.prog kt kc es 0
noncomputable def cl (fu d:Nat) (f:FuncId) (args:List V) (objs:List PM.Obj):Option Out:=callN Tryz.prog prim laid fu d f args objs
end Go.Proofs.YtjmempcalaliiaaGreatDoor
