/- The hints under which the pure machine runs this program's functions. -/
import Derived.Test.YtobmbacppbkgeaaGreatDoorJ5
import Derived.Test.YtobmbacppbkgeaaGreatDoorProg
import Derived.KernelRfl
set_option linter.unusedVariables false
set_option linter.unusedSimpArgs false
namespace Go.Proofs.YtobmbacppbkgeaaGreatDoor
open Go Go.PM
def fn_bits_Len:Nat:=82
def fn_bits_Len64:Nat:=97
def fn_element_Describe:Nat:=29
def fn_element_Find:Nat:=33
def fn_element_Find_1:Nat:=58
def fn_element_Validate:Nat:=31
def fn_element_Validate_1:Nat:=52
def fn_element_Validate_1_1:Nat:=54
def fn_element_check:Nat:=55
def fn_mesh_Frequency:Nat:=28
def fn_mesh_Net_Locate:Nat:=35
def fn_mesh_Net_Locate_1:Nat:=65
def fn_mesh_Net_at:Nat:=61
def fn_mesh_Net_downward:Nat:=63
def fn_mesh_Net_upward:Nat:=62
def fn_mesh_Points:Nat:=32
def fn_mesh_moved:Nat:=60
def fn_operator_Apply:Nat:=17
def fn_operator_Departures:Nat:=18
def fn_operator_Rows:Nat:=12
def fn_operator_Same:Nat:=15
def fn_operator_Same_1:Nat:=43
def fn_operator_invalid:Nat:=45
def fn_operator_invalid_1:Nat:=72
def fn_operator_small:Nat:=46
def fn_operator_small_1:Nat:=75
def fn_operator_valid:Nat:=73
def fn_operator_value:Nat:=47
def fn_operator_weighted:Nat:=30
def fn_place_Normal:Nat:=56
def fn_place_Valid:Nat:=34
def fn_place_face:Nat:=59
def fn_place_of:Nat:=79
def fn_place_on:Nat:=80
def fn_slices_ContainsFunc_sapi_Reading_api_Reading:Nat:=53
def fn_slices_ContainsFunc_sapi_Row_api_Row:Nat:=71
def fn_slices_ContainsFunc_sint_int:Nat:=74
def fn_slices_EqualFunc_sapi_Row_sapi_Row_api_Row_api_Row:Nat:=42
def fn_slices_Equal_sapi_Share_api_Share:Nat:=44
def fn_slices_IndexFunc_sapi_Reading_api_Reading:Nat:=57
def fn_slices_IndexFunc_sapi_Row_api_Row:Nat:=85
def fn_slices_IndexFunc_sint_int:Nat:=86
def fn_slices_SortFunc_sapi_Share_api_Share:Nat:=64
def fn_slices_breakPatternsCmpFunc_api_Share:Nat:=90
def fn_slices_choosePivotCmpFunc_api_Share:Nat:=91
def fn_slices_heapSortCmpFunc_api_Share:Nat:=89
def fn_slices_insertionSortCmpFunc_api_Share:Nat:=88
def fn_slices_medianAdjacentCmpFunc_api_Share:Nat:=102
def fn_slices_medianCmpFunc_api_Share:Nat:=103
def fn_slices_nextPowerOfTwo:Nat:=100
def fn_slices_order2CmpFunc_api_Share:Nat:=104
def fn_slices_partialInsertionSortCmpFunc_api_Share:Nat:=93
def fn_slices_partitionCmpFunc_api_Share:Nat:=95
def fn_slices_partitionEqualCmpFunc_api_Share:Nat:=94
def fn_slices_pdqsortCmpFunc_api_Share:Nat:=81
def fn_slices_reverseRangeCmpFunc_api_Share:Nat:=92
def fn_slices_siftDownCmpFunc_api_Share:Nat:=99
def fn_slices_xorshift_Next:Nat:=101
def fn_synopticdata_Bent:Nat:=10
def fn_synopticdata_Crowd:Nat:=7
def fn_synopticdata_Name:Nat:=49
def fn_synopticdata_Near:Nat:=50
def fn_synopticdata_Place:Nat:=20
def fn_synopticdata_Report:Nat:=25
def fn_synopticdata_Reports:Nat:=8
def fn_synopticdata_Small:Nat:=16
def fn_synopticdata_SmallAll:Nat:=4
def fn_synopticdata_clamp:Nat:=24
def fn_synoptickeep_Ints:Nat:=19
def fn_synoptickeep_Mod:Nat:=26
def fn_synoptickeep_New:Nat:=6
def fn_synoptickeep_Src_N:Nat:=9
def fn_synoptickeep_Src_Pick:Nat:=23
def fn_synoptickeep_Src_Range:Nat:=11
def fn_synoptickeep_Src_Raw:Nat:=27
def fn_synoptickeep_Src_Text:Nat:=21
def fn_synopticlaw21_OperatorRows:Nat:=3
def fn_synopticlaw21_awake:Nat:=5
def fn_synopticref02_Addresses:Nat:=48
def fn_synopticref02_Corners:Nat:=87
def fn_synopticref02_IsNormal:Nat:=83
def fn_synopticref02_Normal:Nat:=22
def fn_synopticref02_On:Nat:=77
def fn_synopticref02_Valid:Nat:=39
def fn_synopticref02_Weights:Nat:=76
def fn_synopticref03_Count:Nat:=67
def fn_synopticref03_Locate:Nat:=40
def fn_synopticref03_Nodes:Nat:=68
def fn_synopticref03_Shares:Nat:=41
def fn_synopticref03_at:Nat:=70
def fn_synopticref03_find:Nat:=84
def fn_synopticref03_less:Nat:=98
def fn_synopticref03_share:Nat:=69
def fn_synopticref04_Describe:Nat:=36
def fn_synopticref04_Find:Nat:=38
def fn_synopticref04_List:Nat:=51
def fn_synopticref04_Some:Nat:=78
def fn_synopticref04_Validate:Nat:=37
def fn_synopticref04_in:Nat:=66
def fn_synopticref21_Rows:Nat:=13
def fn_synopticref21_Same:Nat:=14
def ty_api_Place:Nat:=31
def ty_api_Report:Nat:=34
def ty_api_Share:Nat:=51
def ty_int:Nat:=3
def ty_slices_xorshift:Nat:=149
def ty_synoptickeep_Src:Nat:=56
def gl_place_corners:List C:=[.v (.int .i64 0), .v (.int .i64 1), .v (.int .i64 2), .v (.int .i64 0), .v (.int .i64 2), .v (.int .i64 3), .v (.int .i64 0), .v (.int .i64 3), .v (.int .i64 4), .v (.int .i64 0), .v (.int .i64 4), .v (.int .i64 5), .v (.int .i64 0), .v (.int .i64 5), .v (.int .i64 1), .v (.int .i64 1), .v (.int .i64 6), .v (.int .i64 2), .v (.int .i64 2), .v (.int .i64 7), .v (.int .i64 3), .v (.int .i64 3), .v (.int .i64 8), .v (.int .i64 4), .v (.int .i64 4), .v (.int .i64 9), .v (.int .i64 5), .v (.int .i64 5), .v (.int .i64 10), .v (.int .i64 1), .v (.int .i64 6), .v (.int .i64 7), .v (.int .i64 2), .v (.int .i64 7), .v (.int .i64 8), .v (.int .i64 3), .v (.int .i64 8), .v (.int .i64 9), .v (.int .i64 4), .v (.int .i64 9), .v (.int .i64 10), .v (.int .i64 5), .v (.int .i64 10), .v (.int .i64 6), .v (.int .i64 1), .v (.int .i64 11), .v (.int .i64 7), .v (.int .i64 6), .v (.int .i64 11), .v (.int .i64 8), .v (.int .i64 7), .v (.int .i64 11), .v (.int .i64 9), .v (.int .i64 8), .v (.int .i64 11), .v (.int .i64 10), .v (.int .i64 9), .v (.int .i64 11), .v (.int .i64 6), .v (.int .i64 10)]
def gl_element_bounds:List C:=[.v (.int .i64 8000), .v (.int .i64 11000), .v (.int .i64 1800), .v (.int .i64 3300), .v (.int .i64 1800), .v (.int .i64 3300), .v (.int .i64 (-1000)), .v (.int .i64 1000), .v (.int .i64 (-1000)), .v (.int .i64 1000), .v (.int .i64 900), .v (.int .i64 1700), .v (.int .i64 2000), .v (.int .i64 3200), .v (.int .i64 2400), .v (.int .i64 3400), .v (.int .i64 2000), .v (.int .i64 3000), .v (.int .i64 4400), .v (.int .i64 6200), .v (.int .i64 2000), .v (.int .i64 2900)]
def globs:Nat→Option (List C):=fun g=>bif Nat.beq g 1 then some gl_place_corners else bif Nat.beq g 0 then some gl_element_bounds else none
def primfn:FuncId→Option (List V→List PM.Obj→Option Out):=fun f=>none
def prim:Prims:={fn:=primfn,iter:=fun _ _ _=>none,glob:=globs}
noncomputable def laid:FuncId→Laid:=fun f=>
  bif Nat.beq f 3 then {own:=fun d=>Nat.beq d 38,keep:=fun n=>bif Nat.beq n 10 then {ks:=[.lf 10 .b, .lf 62 (.i .i64), .ob 32 56 [.o, .i .i64] [(11,0)]],ex:=[.exit 0, .ret]} else bif Nat.beq n 13 then {ks:=[.lf 10 .b, .lf 71 (.i .i64), .ob 32 56 [.o, .i .i64] [(11,0)]],ex:=[.exit 2, .ret]} else bif Nat.beq n 16 then {ks:=[.lf 10 .b, .lf 80 (.i .i64), .ob 32 56 [.o, .i .i64] [(11,0)]],ex:=[.exit 4, .ret]} else bif Nat.beq n 19 then {ks:=[.lf 10 .b, .lf 89 (.i .i64), .ob 32 56 [.o, .i .i64] [(11,0)]],ex:=[.exit 6, .ret]} else default,join:=fun n=>bif Nat.beq n 43 then some {ks:=[.ow 12 12 34, .ow 13 13 34, .ob 32 56 [.o, .i .i64] [(11,0)]],ex:=[.normal]} else none,hand:=[2,2,0,0,0],bar:=fun d=>Nat.beq d 115||Nat.beq d 124||Nat.beq d 141} else
  bif Nat.beq f 4 then {keep:=fun n=>bif Nat.beq n 4 then {ks:=[.lf 4 .b, .lf 5 (.i .i64)],ex:=[.exit 0, .ret]} else default,hand:=[2,0]} else
  bif Nat.beq f 6 then {own:=fun d=>Nat.beq d 9,exp:=[some 56],hand:=[2]} else
  bif Nat.beq f 7 then {keep:=fun n=>bif Nat.beq n 5 then {ks:=[.ow 7 7 34, .lf 10 (.i .i64), .ob 1000000 56 [.o, .i .i64] [(0,0)]],fz:=[8],ex:=[.exit 0]} else bif Nat.beq n 15 then {ks:=[.ow 7 7 34, .lf 13 (.i .i64), .mx 11 34 [.lf (.i .i64), .lf .s, .lf (.i .i64), .lf (.i .i64), .lf (.i .i64), .lf (.i .i64), .lf (.i .i64), .ow 200711 46] [(11,0)] [], .ob 1000000 56 [.o, .i .i64] [(0,0)]],ex:=[.exit 3]} else default,join:=fun n=>bif Nat.beq n 39 then some {ks:=[.ow 7 7 34, .mx 11 34 [.lf (.i .i64), .lf .s, .lf (.i .i64), .lf (.i .i64), .lf (.i .i64), .lf (.i .i64), .lf (.i .i64), .ow 200711 46] [(11,0)] [], .ob 1000000 56 [.o, .i .i64] [(0,0)]],ex:=[.normal]} else bif Nat.beq n 44 then some {ks:=[.ow 7 7 34, .mx 11 34 [.lf (.i .i64), .lf .s, .lf (.i .i64), .lf (.i .i64), .lf (.i .i64), .lf (.i .i64), .lf (.i .i64), .ow 200711 46] [(11,0)] [], .ob 1000000 56 [.o, .i .i64] [(0,0)]],ex:=[.normal]} else none,exp:=[some 34],loud:=fun d=>Nat.beq d 27||Nat.beq d 30||Nat.beq d 33||Nat.beq d 81||Nat.beq d 83||Nat.beq d 85,lh:=[1000000],bar:=fun d=>Nat.beq d 95,mix:=fun d=>Nat.beq d 11} else
  bif Nat.beq f 8 then {keep:=fun n=>bif Nat.beq n 3 then {ks:=[.ow 7 7 34, .lf 8 (.i .i64), .ob 1000000 56 [.o, .i .i64] [(0,0)]],ex:=[.exit 0]} else default} else
  bif Nat.beq f 10 then {own:=fun d=>Nat.beq d 3||Nat.beq d 5,loud:=fun d=>Nat.beq d 55||Nat.beq d 57||Nat.beq d 74||Nat.beq d 77,lh:=[1000000],bar:=fun d=>Nat.beq d 60||Nat.beq d 1000061||Nat.beq d 1000071||Nat.beq d 1000072||Nat.beq d 1000073||Nat.beq d 1000078||Nat.beq d 1000079,mix:=fun d=>Nat.beq d 3} else
  bif Nat.beq f 12 then {keep:=fun n=>bif Nat.beq n 9 then {ks:=[.ow 8 8 49, .lf 9 (.i .i64), .lf 37 (.i .i64)],ex:=[.exit 0, .ret]} else bif Nat.beq n 18 then {ks:=[.ow 8 8 49, .lf 9 (.i .i64), .ow 16 16 49, .lf 52 (.i .i64)],ex:=[.exit 2, .ret]} else default,hand:=[0,2,0,0]} else
  bif Nat.beq f 13 then {keep:=fun n=>bif Nat.beq n 9 then {ks:=[.ow 8 8 49, .lf 9 (.i .i64), .lf 44 (.i .i64)],ex:=[.exit 0, .ret]} else bif Nat.beq n 17 then {ks:=[.ow 8 8 49, .lf 9 (.i .i64), .ow 15 15 49, .lf 57 (.i .i64)],ex:=[.exit 2, .ret]} else default,hand:=[0,2,0,0]} else
  bif Nat.beq f 14 then {keep:=fun n=>bif Nat.beq n 4 then {ks:=[.lf 4 .b, .lf 5 (.i .i64)],ex:=[.exit 0, .ret]} else default,hand:=[2,2],bar:=fun d=>Nat.beq d 65} else
  bif Nat.beq f 15 then {hand:=[2,2]} else
  bif Nat.beq f 17 then {keep:=fun n=>bif Nat.beq n 7 then {ks:=[.ow 6 6 3, .lf 30 (.i .i64)],ex:=[.exit 1]} else default,exp:=[some 3,none],hand:=[2,2]} else
  bif Nat.beq f 18 then {keep:=fun n=>bif Nat.beq n 3 then {ks:=[.ow 6 6 3, .lf 17 (.i .i64)],ex:=[.exit 0]} else default,hand:=[2,2]} else
  bif Nat.beq f 19 then {keep:=fun n=>bif Nat.beq n 4 then {ks:=[.lf 4 .b, .lf 5 (.i .i64)],ex:=[.exit 0, .ret]} else default,hand:=[2,2]} else
  bif Nat.beq f 20 then {join:=fun n=>bif Nat.beq n 13 then some {ks:=[.ob 2 31 [.i .i64, .i .i64, .i .i64, .i .i64] [(2,0)], .ob 3 31 [.i .i64, .i .i64, .i .i64, .i .i64] [(3,0)], .ob 1000000 56 [.o, .i .i64] [(0,0)]],ex:=[.normal]} else bif Nat.beq n 19 then some {ks:=[.ob 2 31 [.i .i64, .i .i64, .i .i64, .i .i64] [(2,0)], .ob 3 31 [.i .i64, .i .i64, .i .i64, .i .i64] [(3,0)], .ob 1000000 56 [.o, .i .i64] [(0,0)]],ex:=[.normal]} else bif Nat.beq n 34 then some {ks:=[.ob 2 31 [.i .i64, .i .i64, .i .i64, .i .i64] [(2,0)], .ob 3 31 [.i .i64, .i .i64, .i .i64, .i .i64] [(3,0)], .ob 1000000 56 [.o, .i .i64] []],ex:=[.normal]} else none} else
  bif Nat.beq f 21 then {hand:=[0,2]} else
  bif Nat.beq f 23 then {hand:=[0,2]} else
  bif Nat.beq f 31 then {keep:=fun n=>bif Nat.beq n 7 then {ks:=[.lf 2 (.i .i64), .lf 4 (.i .i64)],ex:=[.exit 1, .ret]} else default,hand:=[2]} else
  bif Nat.beq f 32 then {own:=fun d=>Nat.beq d 15,keep:=fun n=>bif Nat.beq n 3 then {ks:=[.lf 16 (.i .i64), .mx 15 104 [.lf (.i .i64), .lf (.i .i64), .ow 200962 31, .mp 13 31 3, .lf .o, .lf .o, .lf .o] [(3,0)] []],ex:=[.exit 0]} else bif Nat.beq n 6 then {ks:=[.lf 5 (.i .i64), .mx 15 104 [.lf (.i .i64), .lf (.i .i64), .ow 200962 31, .mp 13 31 3, .lf .o, .lf .o, .lf .o] [(3,0)] []],ex:=[.exit 2]} else bif Nat.beq n 9 then {ks:=[.lf 6 (.i .i64), .mx 15 104 [.lf (.i .i64), .lf (.i .i64), .ow 200962 31, .mp 13 31 3, .lf .o, .lf .o, .lf .o] [(3,0)] []],ex:=[.exit 4]} else default,bar:=fun d=>Nat.beq d 80||Nat.beq d 2000066,mix:=fun d=>Nat.beq d 14||Nat.beq d 15} else
  bif Nat.beq f 33 then {hand:=[2,0]} else
  bif Nat.beq f 34 then {keep:=fun n=>bif Nat.beq n 2 then {ks:=[.lf 2 .b, .lf 12 (.i .i64)],ex:=[.exit 0, .ret]} else default} else
  bif Nat.beq f 35 then {own:=fun d=>Nat.beq d 97,keep:=fun n=>bif Nat.beq n 13 then {ks:=[.ow 11 11 51, .lf 108 (.i .i64)],fz:=[10],ex:=[.exit 1]} else default,join:=fun n=>bif Nat.beq n 91 then some {ks:=[.ow 4 4 51, .oo 9 108 [(9,0)], .oo 10 106 [(10,0)]],ex:=[.ret, .normal]} else bif Nat.beq n 98 then some {ks:=[.oo 9 108 [(9,0)], .oo 10 106 [(10,0)]],ex:=[.normal]} else none,bar:=fun d=>Nat.beq d 75||Nat.beq d 125} else
  bif Nat.beq f 37 then {keep:=fun n=>bif Nat.beq n 2 then {ks:=[.lf 2 (.i .i64), .lf 3 (.i .i64)],ex:=[.exit 0, .ret]} else bif Nat.beq n 8 then {ks:=[.lf 2 (.i .i64), .lf 6 (.i .i64)],ex:=[.exit 2, .ret]} else bif Nat.beq n 13 then {ks:=[.lf 2 (.i .i64), .lf 7 (.i .i64)],ex:=[.exit 4, .ret]} else default,hand:=[2]} else
  bif Nat.beq f 38 then {keep:=fun n=>bif Nat.beq n 2 then {ks:=[.lf 4 (.i .i64), .lf 5 .b, .lf 6 (.i .i64)],ex:=[.exit 0, .ret]} else default,hand:=[2,0]} else
  bif Nat.beq f 41 then {keep:=fun n=>bif Nat.beq n 4 then {ks:=[.lf 4 .b, .lf 5 (.i .i64)],ex:=[.exit 0, .ret]} else default,hand:=[2,2]} else
  bif Nat.beq f 42 then {keep:=fun n=>bif Nat.beq n 4 then {ks:=[.lf 6 .b, .lf 17 (.i .i64)],ex:=[.exit 0, .ret]} else default,hand:=[2,2,0]} else
  bif Nat.beq f 44 then {keep:=fun n=>bif Nat.beq n 4 then {ks:=[.lf 4 .b, .lf 13 (.i .i64)],ex:=[.exit 0, .ret]} else default,hand:=[2,2]} else
  bif Nat.beq f 45 then {hand:=[2,0]} else
  bif Nat.beq f 46 then {hand:=[2]} else
  bif Nat.beq f 47 then {keep:=fun n=>bif Nat.beq n 3 then {ks:=[.lf 5 (.i .i64), .lf 11 (.i .i64)],ex:=[.exit 0]} else default,hand:=[0,2]} else
  bif Nat.beq f 48 then {keep:=fun n=>bif Nat.beq n 6 then {ks:=[.ow 5 5 31, .lf 6 (.i .i64)],fz:=[4],ex:=[.exit 0]} else default} else
  bif Nat.beq f 51 then {keep:=fun n=>bif Nat.beq n 3 then {ks:=[.ow 3 3 46, .lf 4 (.i .i64), .ob 1000000 56 [.o, .i .i64] [(0,0)]],ex:=[.exit 0]} else default} else
  bif Nat.beq f 53 then {hand:=[2,0]} else
  bif Nat.beq f 56 then {keep:=fun n=>bif Nat.beq n 5 then {ks:=[.lf 3 (.i .i64), .lf 14 (.i .i64), .ob 2 31 [.i .i64, .i .i64, .i .i64, .i .i64] [(2,0)]],fz:=[4],ex:=[.exit 0, .ret]} else default} else
  bif Nat.beq f 57 then {keep:=fun n=>bif Nat.beq n 2 then {ks:=[.lf 4 (.i .i64), .lf 8 (.i .i64)],ex:=[.exit 0, .ret]} else default,hand:=[2,0]} else
  bif Nat.beq f 61 then {bar:=fun d=>Nat.beq d 17} else
  bif Nat.beq f 62 then {bar:=fun d=>Nat.beq d 22} else
  bif Nat.beq f 63 then {bar:=fun d=>Nat.beq d 34} else
  bif Nat.beq f 64 then {hand:=[1,0]} else
  bif Nat.beq f 68 then {keep:=fun n=>bif Nat.beq n 6 then {ks:=[.ow 5 5 31, .lf 6 (.i .i64)],ex:=[.exit 0]} else bif Nat.beq n 9 then {ks:=[.ow 5 5 31, .lf 7 (.i .i64)],ex:=[.exit 2]} else bif Nat.beq n 12 then {ks:=[.ow 5 5 31, .lf 8 (.i .i64)],ex:=[.exit 4]} else default} else
  bif Nat.beq f 69 then {own:=fun d=>Nat.beq d 30||Nat.beq d 40,keep:=fun n=>bif Nat.beq n 4 then {ks:=[.lf 7 (.i .i64)],ex:=[.exit 0]} else default} else
  bif Nat.beq f 70 then {hand:=[2,0,0,0]} else
  bif Nat.beq f 71 then {hand:=[2,0]} else
  bif Nat.beq f 73 then {keep:=fun n=>bif Nat.beq n 3 then {ks:=[.lf 4 .b, .lf 5 (.i .i64), .lf 11 (.i .i64)],ex:=[.exit 0, .ret]} else default} else
  bif Nat.beq f 74 then {hand:=[2,0]} else
  bif Nat.beq f 76 then {loud:=fun d=>Nat.beq d 1000024||Nat.beq d 1000025,lh:=[3],bar:=fun d=>Nat.beq d 1000012||Nat.beq d 1000013||Nat.beq d 1000018||Nat.beq d 1000019||Nat.beq d 1000024||Nat.beq d 1000025||Nat.beq d 1000026} else
  bif Nat.beq f 77 then {loud:=fun d=>Nat.beq d 1000004,lh:=[4],bar:=fun d=>Nat.beq d 1000028} else
  bif Nat.beq f 78 then {join:=fun n=>bif Nat.beq n 33 then some {ks:=[.lf 33 .b, .ob 4 46 [.i .i64, .i .i64] [(4,0)], .ob 5 68 [.s, .i .i64, .i .i64, .i .i64] [(5,0)], .ob 7 46 [.i .i64, .i .i64] [(7,0)], .ob 1000000 56 [.o, .i .i64] [(0,0)]],ex:=[.normal]} else none,loud:=fun d=>Nat.beq d 43,lh:=[1000000],bar:=fun d=>Nat.beq d 1000045} else
  bif Nat.beq f 79 then {loud:=fun d=>Nat.beq d 1000021||Nat.beq d 1000022,lh:=[3],bar:=fun d=>Nat.beq d 1000009||Nat.beq d 1000010||Nat.beq d 1000015||Nat.beq d 1000016||Nat.beq d 1000021||Nat.beq d 1000022||Nat.beq d 1000023} else
  bif Nat.beq f 81 then {keep:=fun n=>bif Nat.beq n 2 then {ks:=[.us 0 1000000 51, .lf 1 (.i .i64), .lf 2 (.i .i64), .lf 3 (.i .i64), .lf 10 .b, .lf 11 .b],ex:=[.ret]} else default,join:=fun n=>bif Nat.beq n 39 then some {ks:=[.us 0 1000000 51, .lf 3 (.i .i64)],ex:=[.normal]} else bif Nat.beq n 56 then some {ks:=[.us 0 1000000 51, .lf 13 (.i .i64), .lf 14 (.i .i64)],ex:=[.normal]} else bif Nat.beq n 75 then some {ks:=[.us 0 1000000 51],ex:=[.ret, .normal]} else none,hand:=[1,0,0,0,0]} else
  bif Nat.beq f 84 then {keep:=fun n=>bif Nat.beq n 2 then {ks:=[.lf 5 (.i .i64), .lf 6 (.i .i64)],ex:=[.exit 0]} else default,hand:=[2,0],bar:=fun d=>Nat.beq d 22} else
  bif Nat.beq f 85 then {keep:=fun n=>bif Nat.beq n 2 then {ks:=[.lf 4 (.i .i64), .lf 8 (.i .i64)],ex:=[.exit 0, .ret]} else default,hand:=[2,0]} else
  bif Nat.beq f 86 then {keep:=fun n=>bif Nat.beq n 2 then {ks:=[.lf 4 (.i .i64), .lf 8 (.i .i64)],ex:=[.exit 0, .ret]} else default,hand:=[2,0]} else
  bif Nat.beq f 88 then {keep:=fun n=>bif Nat.beq n 1 then {ks:=[.us 0 1000000 51, .lf 8 (.i .i64)],ex:=[.exit 0]} else bif Nat.beq n 4 then {ks:=[.us 0 1000000 51, .lf 9 (.i .i64)],ex:=[.exit 2]} else default,hand:=[1,0,0,0]} else
  bif Nat.beq f 89 then {keep:=fun n=>bif Nat.beq n 4 then {ks:=[.us 0 1000000 51, .lf 11 (.i .i64)],ex:=[.exit 0]} else bif Nat.beq n 8 then {ks:=[.us 0 1000000 51, .lf 12 (.i .i64)],ex:=[.exit 2]} else default,hand:=[1,0,0,0]} else
  bif Nat.beq f 90 then {keep:=fun n=>bif Nat.beq n 5 then {ks:=[.us 0 1000000 51, .lf 11 (.i .i64)],fz:=[9],ex:=[.exit 0]} else default,join:=fun n=>bif Nat.beq n 45 then some {ks:=[.us 0 1000000 51, .lf 12 (.i .i64)],ex:=[.normal]} else none,hand:=[1,0,0,0]} else
  bif Nat.beq f 91 then {join:=fun n=>bif Nat.beq n 34 then some {ks:=[.lf 13 (.i .i64), .ob 11 3 [.i .i64] [(11,0)]],ex:=[.normal]} else bif Nat.beq n 36 then some {ks:=[.lf 12 (.i .i64), .lf 13 (.i .i64), .lf 14 (.i .i64), .ob 11 3 [.i .i64] [(11,0)]],ex:=[.normal]} else none,hand:=[2,0,0,0]} else
  bif Nat.beq f 92 then {keep:=fun n=>bif Nat.beq n 2 then {ks:=[.us 0 1000000 51, .lf 8 (.i .i64), .lf 9 (.i .i64)],ex:=[.exit 0]} else default,hand:=[1,0,0,0]} else
  bif Nat.beq f 93 then {keep:=fun n=>bif Nat.beq n 3 then {ks:=[.us 0 1000000 51, .lf 8 .b, .lf 9 (.i .i64), .lf 10 (.i .i64)],ex:=[.exit 0, .ret]} else bif Nat.beq n 5 then {ks:=[.us 0 1000000 51, .lf 9 (.i .i64)],ex:=[.exit 2]} else bif Nat.beq n 14 then {ks:=[.us 0 1000000 51, .lf 11 (.i .i64)],ex:=[.exit 4]} else bif Nat.beq n 20 then {ks:=[.us 0 1000000 51, .lf 12 (.i .i64)],ex:=[.exit 6]} else default,join:=fun n=>bif Nat.beq n 65 then some {ks:=[.us 0 1000000 51],ex:=[.normal]} else none,hand:=[1,0,0,0]} else
  bif Nat.beq f 94 then {keep:=fun n=>bif Nat.beq n 3 then {ks:=[.us 0 1000000 51, .lf 11 (.i .i64)],ex:=[.exit 2]} else bif Nat.beq n 5 then {ks:=[.us 0 1000000 51, .lf 12 (.i .i64)],ex:=[.exit 4]} else bif Nat.beq n 100003 then {ks:=[.us 0 1000000 51, .lf 11 (.i .i64), .lf 12 (.i .i64)],ex:=[.exit 0]} else default,hand:=[1,0,0,0,0]} else
  bif Nat.beq f 95 then {keep:=fun n=>bif Nat.beq n 3 then {ks:=[.us 0 1000000 51, .lf 12 (.i .i64)],ex:=[.exit 0]} else bif Nat.beq n 5 then {ks:=[.us 0 1000000 51, .lf 13 (.i .i64)],ex:=[.exit 2]} else bif Nat.beq n 13 then {ks:=[.us 0 1000000 51, .lf 12 (.i .i64)],ex:=[.exit 6]} else bif Nat.beq n 15 then {ks:=[.us 0 1000000 51, .lf 13 (.i .i64)],ex:=[.exit 8]} else bif Nat.beq n 100013 then {ks:=[.us 0 1000000 51, .lf 12 (.i .i64), .lf 13 (.i .i64)],ex:=[.exit 4]} else default,hand:=[1,0,0,0,0]} else
  bif Nat.beq f 97 then {join:=fun n=>bif Nat.beq n 4 then some {ks:=[.lf 0 (.i .u64), .lf 2 (.i .i64)],ex:=[.normal]} else bif Nat.beq n 8 then some {ks:=[.lf 0 (.i .u64), .lf 2 (.i .i64)],ex:=[.normal]} else none} else
  bif Nat.beq f 99 then {keep:=fun n=>bif Nat.beq n 1 then {ks:=[.us 0 1000000 51, .lf 10 (.i .i64)],ex:=[.exit 0, .ret]} else default,join:=fun n=>bif Nat.beq n 40 then some {ks:=[.us 0 1000000 51, .lf 11 (.i .i64)],ex:=[.normal]} else none,hand:=[1,0,0,0,0]} else
  bif Nat.beq f 102 then {hand:=[2,0,0,0]} else
  bif Nat.beq f 103 then {hand:=[2,0,0,0,0,0]} else
  bif Nat.beq f 104 then {hand:=[2,0,0,0,0]} else
  {}
def kb0:ByteArray:=⟨#[0,1,2,2,3,3,3,3,4,4,4,4,4,4,4,4,5,5,5,5,5,5,5,5,5,5,5,5,5,5,5,5,6,6,6,6,6,6,6,6,6,6,6,6,6,6,6,6,6,6,6,6,6,6,6,6,6,6,6,6,6,6,6,6,7,7,7,7,7,7,7,7,7,7,7,7,7,7,7,7,7,7,7,7,7,7,7,7,7,7,7,7,7,7,7,7,7,7,7,7,7,7,7,7,7,7,7,7,7,7,7,7,7,7,7,7,7,7,7,7,7,7,7,7,7,7,7,7,8,8,8,8,8,8,8,8,8,8,8,8,8,8,8,8,8,8,8,8,8,8,8,8,8,8,8,8,8,8,8,8,8,8,8,8,8,8,8,8,8,8,8,8,8,8,8,8,8,8,8,8,8,8,8,8,8,8,8,8,8,8,8,8,8,8,8,8,8,8,8,8,8,8,8,8,8,8,8,8,8,8,8,8,8,8,8,8,8,8,8,8,8,8,8,8,8,8,8,8,8,8,8,8,8,8,8,8,8,8,8,8,8,8,8,8,8,8,8,8,8,8,8,8,8,8,8,8]⟩
noncomputable def mfd (kt:TypeId) (kc:List C) (es:List (List C×List C)):Option (Option (Nat×List C)):=mfind Tryz.prog kt kc es 0
noncomputable def cl (fu d:Nat) (f:FuncId) (args:List V) (objs:List PM.Obj):Option Out:=callN Tryz.prog prim laid fu d f args objs
end Go.Proofs.YtobmbacppbkgeaaGreatDoor
