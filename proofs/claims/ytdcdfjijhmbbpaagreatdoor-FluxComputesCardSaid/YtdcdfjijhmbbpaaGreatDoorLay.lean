/- The hints under which the pure machine runs this program's functions. -/
import Derived.Test.YtdcdfjijhmbbpaaGreatDoorJ6
import Derived.Test.YtdcdfjijhmbbpaaGreatDoorProg
import Derived.KernelRfl
set_option linter.unusedVariables false
set_option linter.unusedSimpArgs false
namespace Go.Proofs.YtdcdfjijhmbbpaaGreatDoor
open Go Go.PM
def fn_cmp_Compare_int:Nat:=59
def fn_cmp_Or_int:Nat:=58
def fn_cmp_isNaN_int:Nat:=74
def fn_flux_Amounts:Nat:=12
def fn_flux_Check:Nat:=20
def fn_flux_CheckScheme:Nat:=27
def fn_flux_Degrees:Nat:=13
def fn_flux_Mass:Nat:=19
def fn_flux_Move:Nat:=17
def fn_flux_Same:Nat:=24
def fn_flux_edges:Nat:=36
def fn_flux_edges_1:Nat:=53
def fn_flux_outside:Nat:=43
def fn_flux_outside_1:Nat:=65
def fn_flux_within:Nat:=37
def fn_grid_Count:Nat:=38
def fn_grid_Edges:Nat:=14
def fn_mesh_Build:Nat:=40
def fn_mesh_Build_1:Nat:=57
def fn_mesh_Build_2:Nat:=61
def fn_mesh_Frequency:Nat:=39
def fn_mesh_Net_at:Nat:=85
def fn_mesh_Net_cell:Nat:=68
def fn_mesh_Net_cells:Nat:=55
def fn_mesh_Net_downward:Nat:=70
def fn_mesh_Net_upward:Nat:=69
def fn_mesh_Points:Nat:=54
def fn_mesh_moved:Nat:=71
def fn_place_Normal:Nat:=67
def fn_place_Valid:Nat:=82
def fn_place_face:Nat:=116
def fn_place_of:Nat:=83
def fn_place_on:Nat:=84
def fn_slices_Clone_sint_int:Nat:=44
def fn_slices_Compact_sapi_Edge_api_Edge:Nat:=62
def fn_slices_ContainsFunc_sint_int:Nat:=64
def fn_slices_Equal_sint_int:Nat:=50
def fn_slices_IndexFunc_sint_int:Nat:=77
def fn_slices_SortFunc_sapi_Cell_api_Cell:Nat:=56
def fn_slices_SortFunc_sapi_Edge_api_Edge:Nat:=60
def fn_slices_Sort_sint_int:Nat:=63
def fn_synopticfield_Codes_Frequency:Nat:=9
def fn_synopticfield_Codes_Int:Nat:=46
def fn_synopticfield_Codes_Left:Nat:=42
def fn_synopticfield_Codes_Next:Nat:=16
def fn_synopticfield_Codes_Scheme:Nat:=11
def fn_synopticfield_Codes_Signed:Nat:=41
def fn_synopticfield_Codes_SpoilState:Nat:=22
def fn_synopticfield_Codes_State:Nat:=10
def fn_synopticfield_Codes_Vector:Nat:=15
def fn_synopticfield_Mod:Nat:=30
def fn_synopticfield_New:Nat:=8
def fn_synopticlaw29_FluxComputes:Nat:=6
def fn_synopticlaw29_awake:Nat:=7
def fn_synopticref02_Addresses:Nat:=128
def fn_synopticref02_Corners:Nat:=136
def fn_synopticref02_IsNormal:Nat:=113
def fn_synopticref02_Normal:Nat:=114
def fn_synopticref02_On:Nat:=135
def fn_synopticref02_Valid:Nat:=133
def fn_synopticref02_Weights:Nat:=134
def fn_synopticref03_Cells:Nat:=66
def fn_synopticref03_Count:Nat:=51
def fn_synopticref03_Edges:Nat:=33
def fn_synopticref03_Nodes:Nat:=78
def fn_synopticref03_around:Nat:=52
def fn_synopticref03_at:Nat:=81
def fn_synopticref03_cell:Nat:=80
def fn_synopticref03_find:Nat:=115
def fn_synopticref03_insert:Nat:=79
def fn_synopticref03_less:Nat:=129
def fn_synopticref22_Nodes:Nat:=34
def fn_synopticref22_Small:Nat:=49
def fn_synopticref25_Ints:Nat:=26
def fn_synopticref28_Clip:Nat:=35
def fn_synopticref29_Amounts:Nat:=25
def fn_synopticref29_Check:Nat:=23
def fn_synopticref29_CheckScheme:Nat:=28
def fn_synopticref29_Degrees:Nat:=31
def fn_synopticref29_Frequency:Nat:=47
def fn_synopticref29_Mass:Nat:=32
def fn_synopticref29_Move:Nat:=29
def fn_synopticref29_Same:Nat:=18
def fn_synopticref29_depths:Nat:=48
def ty_3_int:Nat:=84
def ty_api_Cell:Nat:=92
def ty_api_Edge:Nat:=44
def ty_api_Place:Nat:=89
def ty_int:Nat:=3
def ty_mesh_Net:Nat:=76
def ty_synopticfield_Codes:Nat:=63
def gl_place_corners:List C:=[.v (.int .i64 0), .v (.int .i64 1), .v (.int .i64 2), .v (.int .i64 0), .v (.int .i64 2), .v (.int .i64 3), .v (.int .i64 0), .v (.int .i64 3), .v (.int .i64 4), .v (.int .i64 0), .v (.int .i64 4), .v (.int .i64 5), .v (.int .i64 0), .v (.int .i64 5), .v (.int .i64 1), .v (.int .i64 1), .v (.int .i64 6), .v (.int .i64 2), .v (.int .i64 2), .v (.int .i64 7), .v (.int .i64 3), .v (.int .i64 3), .v (.int .i64 8), .v (.int .i64 4), .v (.int .i64 4), .v (.int .i64 9), .v (.int .i64 5), .v (.int .i64 5), .v (.int .i64 10), .v (.int .i64 1), .v (.int .i64 6), .v (.int .i64 7), .v (.int .i64 2), .v (.int .i64 7), .v (.int .i64 8), .v (.int .i64 3), .v (.int .i64 8), .v (.int .i64 9), .v (.int .i64 4), .v (.int .i64 9), .v (.int .i64 10), .v (.int .i64 5), .v (.int .i64 10), .v (.int .i64 6), .v (.int .i64 1), .v (.int .i64 11), .v (.int .i64 7), .v (.int .i64 6), .v (.int .i64 11), .v (.int .i64 8), .v (.int .i64 7), .v (.int .i64 11), .v (.int .i64 9), .v (.int .i64 8), .v (.int .i64 11), .v (.int .i64 10), .v (.int .i64 9), .v (.int .i64 11), .v (.int .i64 6), .v (.int .i64 10)]
def globs:Nat→Option (List C):=fun g=>bif Nat.beq g 0 then some gl_place_corners else none
def primfn:FuncId→Option (List V→List PM.Obj→Option Out):=fun f=>bif Nat.beq f fn_slices_SortFunc_sapi_Cell_api_Cell then some (sortFuncP 92 3 57 (lexZ [0,1,2])) else bif Nat.beq f fn_slices_SortFunc_sapi_Edge_api_Edge then some (sortFuncP 44 2 61 (lexZ [0,1])) else bif Nat.beq f fn_slices_Compact_sapi_Edge_api_Edge then some (compactEP ty_api_Edge) else bif Nat.beq f fn_slices_Sort_sint_int then some (orP (sortP ty_int) (sortWsP ty_3_int)) else none
/-- The edges of a grid, one by one, as flux.edges yields them. -/
def edgesL (n:Nat):List (List V):=((Grid.edg n).zipIdx).map fun p=>[I ((p.2:Nat):Int),V.agg [C.v (.int .i64 p.1.1),C.v (.int .i64 p.1.2)]]
def iterC (f:FuncId) (caps:List C):Option (List (List V)):=
  bif Nat.beq f fn_flux_edges_1 then match caps with
    | [c]=>asP c fun cs=>unc cs fun c _=>asI .i64 c fun n=>need (decide (1≤n)&&decide (n≤8)) (some (edgesL n.toNat))
    |_=>none
  else none
def prim:Prims:={fn:=primfn,iter:=fun d f caps=>bif Nat.ble 10 d then iterC f caps else none,glob:=globs}
noncomputable def laid:FuncId→Laid:=fun f=>
  bif Nat.beq f 6 then {keep:=fun n=>bif Nat.beq n 11 then {ks:=[.lf 8 .b, .lf 64 (.i .i64), .ob 48 63 [.o, .i .i64] [(9,0)]],fz:=[11,12],ex:=[.exit 0, .ret]} else bif Nat.beq n 16 then {ks:=[.lf 8 .b, .lf 92 (.i .i64), .ob 15 29 [.i .i64, .o, .o] [(15,0)], .ob 48 63 [.o, .i .i64] [(9,0)]],ex:=[.exit 2, .ret]} else bif Nat.beq n 30 then {ks:=[.lf 8 .b, .lf 170 (.i .i64)],ex:=[.exit 4, .ret]} else default,hand:=[2,0,0,0],loud:=fun d=>Nat.beq d 139||Nat.beq d 142,lh:=[48],bar:=fun d=>Nat.beq d 71||Nat.beq d 76||Nat.beq d 85||Nat.beq d 116||Nat.beq d 122||Nat.beq d 129||Nat.beq d 197||Nat.beq d 1000140||Nat.beq d 1000141} else
  bif Nat.beq f 7 then {keep:=fun n=>bif Nat.beq n 3 then {ks:=[.lf 2 (.i .i64), .mx 1 29 [.lf (.i .i64), .ow 200065 3, .ow 200066 3] [(1,0)] []],ex:=[.exit 0]} else bif Nat.beq n 7 then {ks:=[.lf 3 (.i .i64), .mx 1 29 [.lf (.i .i64), .ow 200065 3, .ow 200066 3] [(1,0)] []],ex:=[.exit 2]} else default,mix:=fun d=>Nat.beq d 1} else
  bif Nat.beq f 8 then {own:=fun d=>Nat.beq d 14,exp:=[some 63],hand:=[2,0]} else
  bif Nat.beq f 10 then {keep:=fun n=>bif Nat.beq n 5 then {ks:=[.lf 44 (.i .i64), .ob 4 29 [.i .i64, .o, .o] [(4,0)], .mx 7 29 [.lf (.i .i64), .ow 200449 3, .lf .o] [(7,0)] [], .ob 1000000 63 [.o, .i .i64] []],ex:=[.exit 0]} else default,loud:=fun d=>Nat.beq d 30||Nat.beq d 35,lh:=[1000000],bar:=fun d=>Nat.beq d 55||Nat.beq d 1000036||Nat.beq d 1000037,mix:=fun d=>Nat.beq d 7} else
  bif Nat.beq f 12 then {keep:=fun n=>bif Nat.beq n 15 then {ks:=[.mx 11 27 [.ow 200704 3] [(11,0)] [], .mx 12 34 [.ow 200768 3] [(12,0)] []],fz:=[9],ex:=[],sh:=[.s (.i .i64), .a [.i .i64, .i .i64]]} else default,bar:=fun d=>Nat.beq d 77||Nat.beq d 80||Nat.beq d 90||Nat.beq d 93||Nat.beq d 105||Nat.beq d 108||Nat.beq d 3000079||Nat.beq d 3000092||Nat.beq d 3000107,rd:=fun n=>bif Nat.beq n 78 then [12,200768] else bif Nat.beq n 91 then [12,200768] else bif Nat.beq n 106 then [12,200768] else [],pr:=fun n=>bif Nat.beq n 77 then [12,200768] else bif Nat.beq n 90 then [12,200768] else bif Nat.beq n 105 then [12,200768] else []} else
  bif Nat.beq f 13 then {keep:=fun n=>bif Nat.beq n 6 then {ks:=[.mx 4 27 [.ow 200256 3] [(4,0)] []],ex:=[],sh:=[.s (.i .i64), .a [.i .i64, .i .i64]]} else default} else
  bif Nat.beq f 15 then {keep:=fun n=>bif Nat.beq n 4 then {ks:=[.ow 8 8 3, .lf 9 (.i .i64), .ob 1000000 63 [.o, .i .i64] [(0,0)]],ex:=[.exit 0]} else default} else
  bif Nat.beq f 17 then {keep:=fun n=>bif Nat.beq n 10 then {ks:=[.ob 4 29 [.i .i64, .o, .o] [(4,0)], .mx 7 29 [.lf (.i .i64), .ow 200449 3, .ow 200450 3] [(7,0)] []],ex:=[],sh:=[.s (.i .i64), .a [.i .i64, .i .i64]]} else default,hand:=[0,2],bar:=fun d=>Nat.beq d 31||Nat.beq d 34||Nat.beq d 35||Nat.beq d 3000027||Nat.beq d 3000028||Nat.beq d 3000032||Nat.beq d 3000033,mix:=fun d=>Nat.beq d 7||Nat.beq d 35} else
  bif Nat.beq f 19 then {keep:=fun n=>bif Nat.beq n 3 then {ks:=[.lf 3 (.i .i64), .lf 9 (.i .i64)],ex:=[.exit 0]} else default} else
  bif Nat.beq f 20 then {bar:=fun d=>Nat.beq d 33||Nat.beq d 38} else
  bif Nat.beq f 22 then {own:=fun d=>Nat.beq d 3,loud:=fun d=>Nat.beq d 33||Nat.beq d 35||Nat.beq d 38||Nat.beq d 54||Nat.beq d 56||Nat.beq d 59,lh:=[1000000],bar:=fun d=>Nat.beq d 1000030||Nat.beq d 1000031||Nat.beq d 1000032||Nat.beq d 1000039||Nat.beq d 1000040||Nat.beq d 1000041||Nat.beq d 1000051||Nat.beq d 1000052||Nat.beq d 1000053||Nat.beq d 1000060||Nat.beq d 1000061||Nat.beq d 1000062,mix:=fun d=>Nat.beq d 3} else
  bif Nat.beq f 23 then {bar:=fun d=>Nat.beq d 33||Nat.beq d 39} else
  bif Nat.beq f 25 then {keep:=fun n=>bif Nat.beq n 12 then {ks:=[.ow 13 13 3, .ow 14 14 3, .lf 15 (.i .i64)],ex:=[.exit 0]} else default} else
  bif Nat.beq f 26 then {keep:=fun n=>bif Nat.beq n 4 then {ks:=[.lf 4 .b, .lf 5 (.i .i64)],ex:=[.exit 0, .ret]} else default,hand:=[2,2]} else
  bif Nat.beq f 28 then {keep:=fun n=>bif Nat.beq n 2 then {ks:=[.lf 2 (.i .i64), .lf 12 (.i .i64)],ex:=[.exit 0, .ret]} else default} else
  bif Nat.beq f 29 then {keep:=fun n=>bif Nat.beq n 9 then {ks:=[.lf 10 (.i .i64), .ob 4 29 [.i .i64, .o, .o] [(4,0)], .mx 7 29 [.lf (.i .i64), .ow 200449 3, .ow 200450 3] [(7,0)] []],ex:=[.exit 0]} else default,hand:=[0,2],bar:=fun d=>Nat.beq d 33||Nat.beq d 36||Nat.beq d 37||Nat.beq d 3000029||Nat.beq d 3000030||Nat.beq d 3000034||Nat.beq d 3000035,mix:=fun d=>Nat.beq d 7||Nat.beq d 37} else
  bif Nat.beq f 31 then {keep:=fun n=>bif Nat.beq n 6 then {ks:=[.ow 4 4 3, .lf 7 (.i .i64)],ex:=[.exit 0]} else default} else
  bif Nat.beq f 32 then {keep:=fun n=>bif Nat.beq n 3 then {ks:=[.lf 3 (.i .i64), .lf 4 (.i .i64)],ex:=[.exit 0]} else default} else
  bif Nat.beq f 33 then {keep:=fun n=>bif Nat.beq n 6 then {ks:=[.ow 4 4 44, .lf 6 (.i .i64)],ex:=[.exit 0]} else bif Nat.beq n 9 then {ks:=[.ow 4 4 44, .lf 25 (.i .i64)],ex:=[.exit 2]} else default} else
  bif Nat.beq f 40 then {keep:=fun n=>bif Nat.beq n 3 then {ks:=[.lf 15 (.i .i64), .pk 14 76 [.lf (.i .i64), .lf (.i .i64), .lf .o, .lf .o, .rw 92, .lf .o, .lf .o] [(3,0)]],ex:=[.exit 0]} else bif Nat.beq n 6 then {ks:=[.lf 5 (.i .i64), .pk 14 76 [.lf (.i .i64), .lf (.i .i64), .lf .o, .lf .o, .rw 92, .lf .o, .lf .o] [(3,0)]],ex:=[.exit 2]} else bif Nat.beq n 9 then {ks:=[.lf 6 (.i .i64), .pk 14 76 [.lf (.i .i64), .lf (.i .i64), .lf .o, .lf .o, .rw 92, .lf .o, .lf .o] [(3,0)]],ex:=[.exit 4]} else bif Nat.beq n 15 then {ks:=[.lf 68 (.i .i64), .pk 14 76 [.lf (.i .i64), .lf (.i .i64), .lf .o, .lf .o, .lf .o, .rw 44, .lf .o] [(3,0)]],fz:=[66],ex:=[.exit 6]} else bif Nat.beq n 23 then {ks:=[.lf 124 (.i .i64), .mx 14 76 [.lf (.i .i64), .lf (.i .i64), .lf .o, .lf .o, .lf .o, .lf .o, .ws 116 27 3] [(3,0)] []],ex:=[.exit 8]} else bif Nat.beq n 29 then {ks:=[.lf 172 (.i .i64), .mx 14 76 [.lf (.i .i64), .lf (.i .i64), .lf .o, .lf .o, .lf .o, .lf .o, .ws 116 27 3] [(3,0)] [(170,6)]],ex:=[.exit 10]} else default,exp:=[some 76],loud:=fun d=>Nat.beq d 145||Nat.beq d 164||Nat.beq d 1000146||Nat.beq d 1000165,lh:=[116],bar:=fun d=>Nat.beq d 56||Nat.beq d 93||Nat.beq d 1000135||Nat.beq d 1000136||Nat.beq d 1000137||Nat.beq d 1000138||Nat.beq d 1000139||Nat.beq d 1000140||Nat.beq d 1000141||Nat.beq d 1000142||Nat.beq d 1000143||Nat.beq d 1000146||Nat.beq d 1000154||Nat.beq d 1000155||Nat.beq d 1000156||Nat.beq d 1000157||Nat.beq d 1000158||Nat.beq d 1000159||Nat.beq d 1000160||Nat.beq d 1000161||Nat.beq d 1000162||Nat.beq d 1000165,mix:=fun d=>Nat.beq d 116} else
  bif Nat.beq f 43 then {hand:=[2,0,0]} else
  bif Nat.beq f 44 then {own:=fun d=>Nat.beq d 5,exp:=[some 3],hand:=[2]} else
  bif Nat.beq f 48 then {keep:=fun n=>bif Nat.beq n 2 then {ks:=[.lf 2 .b, .lf 3 (.i .i64)],ex:=[.exit 0, .ret]} else default,hand:=[2]} else
  bif Nat.beq f 49 then {keep:=fun n=>bif Nat.beq n 2 then {ks:=[.lf 4 .b, .lf 5 (.i .i64)],ex:=[.exit 0, .ret]} else default,hand:=[2,0]} else
  bif Nat.beq f 50 then {keep:=fun n=>bif Nat.beq n 4 then {ks:=[.lf 4 .b, .lf 13 (.i .i64)],ex:=[.exit 0, .ret]} else default,hand:=[2,2]} else
  bif Nat.beq f 52 then {keep:=fun n=>bif Nat.beq n 4 then {ks:=[.ow 5 5 27, .lf 22 (.i .i64)],ex:=[.exit 0]} else bif Nat.beq n 7 then {ks:=[.ow 5 5 27, .lf 58 (.i .i64)],ex:=[.exit 2]} else bif Nat.beq n 10 then {ks:=[.ow 5 5 27, .lf 10 (.i .i64), .oo 9 68 [(9,0)]],ex:=[.exit 4]} else default,bar:=fun d=>Nat.beq d 116,mix:=fun d=>Nat.beq d 108} else
  bif Nat.beq f 53 then {keep:=fun n=>bif Nat.beq n 2 then {ks:=[.lf 14 (.i .i64), .lg],ex:=[.exit 0, .ret]} else default} else
  bif Nat.beq f 54 then {own:=fun d=>Nat.beq d 15,keep:=fun n=>bif Nat.beq n 3 then {ks:=[.lf 16 (.i .i64), .mx 15 76 [.lf (.i .i64), .lf (.i .i64), .ow 200962 89, .mp 13 89 3, .lf .o, .lf .o, .lf .o] [(3,0)] []],ex:=[.exit 0]} else bif Nat.beq n 6 then {ks:=[.lf 5 (.i .i64), .mx 15 76 [.lf (.i .i64), .lf (.i .i64), .ow 200962 89, .mp 13 89 3, .lf .o, .lf .o, .lf .o] [(3,0)] []],ex:=[.exit 2]} else bif Nat.beq n 9 then {ks:=[.lf 6 (.i .i64), .mx 15 76 [.lf (.i .i64), .lf (.i .i64), .ow 200962 89, .mp 13 89 3, .lf .o, .lf .o, .lf .o] [(3,0)] []],ex:=[.exit 4]} else default,exp:=[some 76],bar:=fun d=>Nat.beq d 80||Nat.beq d 2000066,mix:=fun d=>Nat.beq d 14||Nat.beq d 15} else
  bif Nat.beq f 55 then {bar:=fun d=>Nat.beq d 24||Nat.beq d 25||Nat.beq d 26} else
  bif Nat.beq f 56 then {hand:=[1,0]} else
  bif Nat.beq f 57 then {bar:=fun d=>Nat.beq d 9||Nat.beq d 14||Nat.beq d 19||Nat.beq d 21||Nat.beq d 3000010||Nat.beq d 3000011||Nat.beq d 3000012||Nat.beq d 3000013||Nat.beq d 3000015||Nat.beq d 3000016||Nat.beq d 3000017||Nat.beq d 3000018} else
  bif Nat.beq f 58 then {keep:=fun n=>bif Nat.beq n 3 then {ks:=[.lf 2 (.i .i64), .lf 8 (.i .i64)],ex:=[.exit 0, .ret]} else default,hand:=[2]} else
  bif Nat.beq f 60 then {hand:=[1,0]} else
  bif Nat.beq f 61 then {bar:=fun d=>Nat.beq d 9||Nat.beq d 14||Nat.beq d 16||Nat.beq d 3000010||Nat.beq d 3000011||Nat.beq d 3000012||Nat.beq d 3000013} else
  bif Nat.beq f 62 then {hand:=[1],fzb:=true} else
  bif Nat.beq f 63 then {hand:=[1]} else
  bif Nat.beq f 64 then {hand:=[2,0]} else
  bif Nat.beq f 66 then {keep:=fun n=>bif Nat.beq n 7 then {ks:=[.ow 7 7 92, .lf 8 (.i .i64)],ex:=[.exit 0]} else bif Nat.beq n 10 then {ks:=[.ow 7 7 92, .lf 9 (.i .i64)],ex:=[.exit 2]} else bif Nat.beq n 13 then {ks:=[.ow 7 7 92, .lf 10 (.i .i64)],ex:=[.exit 4]} else default} else
  bif Nat.beq f 67 then {keep:=fun n=>bif Nat.beq n 5 then {ks:=[.lf 3 (.i .i64), .lf 14 (.i .i64), .ob 2 89 [.i .i64, .i .i64, .i .i64, .i .i64] [(2,0)]],fz:=[4],ex:=[.exit 0, .ret]} else default} else
  bif Nat.beq f 68 then {keep:=fun n=>bif Nat.beq n 3 then {ks:=[.lf 8 (.i .i64), .oo 4 84 [(4,0)], .pk 1000000 76 [.lf (.i .i64), .lf (.i .i64), .lf .o, .lf .o, .rw 92, .lf .o, .lf .o] [(0,0)]],ex:=[.exit 0]} else default,bar:=fun d=>Nat.beq d 33} else
  bif Nat.beq f 69 then {bar:=fun d=>Nat.beq d 22} else
  bif Nat.beq f 70 then {bar:=fun d=>Nat.beq d 34} else
  bif Nat.beq f 77 then {keep:=fun n=>bif Nat.beq n 2 then {ks:=[.lf 4 (.i .i64), .lf 8 (.i .i64)],ex:=[.exit 0, .ret]} else default,hand:=[2,0]} else
  bif Nat.beq f 78 then {keep:=fun n=>bif Nat.beq n 6 then {ks:=[.ow 5 5 89, .lf 6 (.i .i64)],ex:=[.exit 0]} else bif Nat.beq n 9 then {ks:=[.ow 5 5 89, .lf 7 (.i .i64)],ex:=[.exit 2]} else bif Nat.beq n 12 then {ks:=[.ow 5 5 89, .lf 8 (.i .i64)],ex:=[.exit 4]} else default} else
  bif Nat.beq f 79 then {keep:=fun n=>bif Nat.beq n 2 then {ks:=[.us 0 1000000 92, .lf 5 (.i .i64)],ex:=[.exit 0]} else default,exp:=[some 92],hand:=[1,0],lost:=true,bar:=fun d=>Nat.beq d 78} else
  bif Nat.beq f 81 then {hand:=[2,0,0,0]} else
  bif Nat.beq f 82 then {keep:=fun n=>bif Nat.beq n 2 then {ks:=[.lf 2 .b, .lf 12 (.i .i64)],ex:=[.exit 0, .ret]} else default} else
  bif Nat.beq f 83 then {loud:=fun d=>Nat.beq d 1000021||Nat.beq d 1000022,lh:=[3],bar:=fun d=>Nat.beq d 1000009||Nat.beq d 1000010||Nat.beq d 1000015||Nat.beq d 1000016||Nat.beq d 1000021||Nat.beq d 1000022||Nat.beq d 1000023} else
  bif Nat.beq f 85 then {bar:=fun d=>Nat.beq d 17} else
  bif Nat.beq f 115 then {keep:=fun n=>bif Nat.beq n 2 then {ks:=[.lf 5 (.i .i64), .lf 6 (.i .i64)],ex:=[.exit 0]} else default,hand:=[2,0],bar:=fun d=>Nat.beq d 22} else
  bif Nat.beq f 128 then {keep:=fun n=>bif Nat.beq n 6 then {ks:=[.ow 5 5 89, .lf 6 (.i .i64)],fz:=[4],ex:=[.exit 0]} else default} else
  bif Nat.beq f 134 then {loud:=fun d=>Nat.beq d 1000024||Nat.beq d 1000025,lh:=[3],bar:=fun d=>Nat.beq d 1000012||Nat.beq d 1000013||Nat.beq d 1000018||Nat.beq d 1000019||Nat.beq d 1000024||Nat.beq d 1000025||Nat.beq d 1000026} else
  bif Nat.beq f 135 then {loud:=fun d=>Nat.beq d 1000004,lh:=[4],bar:=fun d=>Nat.beq d 1000028} else
  {}
def kb0:ByteArray:=⟨#[0,1,2,2,3,3,3,3,4,4,4,4,4,4,4,4,5,5,5,5,5,5,5,5,5,5,5,5,5,5,5,5,6,6,6,6,6,6,6,6,6,6,6,6,6,6,6,6,6,6,6,6,6,6,6,6,6,6,6,6,6,6,6,6,7,7,7,7,7,7,7,7,7,7,7,7,7,7,7,7,7,7,7,7,7,7,7,7,7,7,7,7,7,7,7,7,7,7,7,7,7,7,7,7,7,7,7,7,7,7,7,7,7,7,7,7,7,7,7,7,7,7,7,7,7,7,7,7,8,8,8,8,8,8,8,8,8,8,8,8,8,8,8,8,8,8,8,8,8,8,8,8,8,8,8,8,8,8,8,8,8,8,8,8,8,8,8,8,8,8,8,8,8,8,8,8,8,8,8,8,8,8,8,8,8,8,8,8,8,8,8,8,8,8,8,8,8,8,8,8,8,8,8,8,8,8,8,8,8,8,8,8,8,8,8,8,8,8,8,8,8,8,8,8,8,8,8,8,8,8,8,8,8,8,8,8,8,8,8,8,8,8,8,8,8,8,8,8,8,8,8,8,8,8,8,8]⟩
noncomputable def mfd (kt:TypeId) (kc:List C) (es:List (List C×List C)):Option (Option (Nat×List C)):=mfind Tryz.prog kt kc es 0
noncomputable def cl (fu d:Nat) (f:FuncId) (args:List V) (objs:List PM.Obj):Option Out:=callN Tryz.prog prim laid fu d f args objs
end Go.Proofs.YtdcdfjijhmbbpaaGreatDoor
