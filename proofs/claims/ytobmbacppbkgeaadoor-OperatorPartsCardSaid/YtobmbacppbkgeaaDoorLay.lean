/- The hints under which the pure machine runs this program's functions. -/
import Derived.Test.YtobmbacppbkgeaaDoorJ4
import Derived.Test.YtobmbacppbkgeaaDoorProg
import Derived.KernelRfl
set_option linter.unusedVariables false
set_option linter.unusedSimpArgs false
namespace Go.Proofs.YtobmbacppbkgeaaDoor
open Go Go.PM
def fn_bits_Len : Nat := 89
def fn_bits_Len32 : Nat := 99
def fn_bits_Len64 : Nat := 100
def fn_element_Describe : Nat := 41
def fn_element_Find : Nat := 45
def fn_element_Find_1 : Nat := 72
def fn_element_Validate : Nat := 43
def fn_element_Validate_1 : Nat := 66
def fn_element_Validate_1_1 : Nat := 68
def fn_element_check : Nat := 69
def fn_mesh_Frequency : Nat := 40
def fn_mesh_Net_Locate : Nat := 47
def fn_mesh_Net_Locate_1 : Nat := 79
def fn_mesh_Net_at : Nat := 75
def fn_mesh_Net_downward : Nat := 77
def fn_mesh_Net_upward : Nat := 76
def fn_mesh_Points : Nat := 44
def fn_mesh_moved : Nat := 74
def fn_operator_Apply : Nat := 12
def fn_operator_Departures : Nat := 13
def fn_operator_Rows : Nat := 18
def fn_operator_Transpose : Nat := 28
def fn_operator_invalid : Nat := 35
def fn_operator_invalid_1 : Nat := 62
def fn_operator_small : Nat := 36
def fn_operator_small_1 : Nat := 65
def fn_operator_valid : Nat := 63
def fn_operator_value : Nat := 37
def fn_operator_weighted : Nat := 42
def fn_place_Normal : Nat := 70
def fn_place_Valid : Nat := 46
def fn_place_face : Nat := 73
def fn_place_of : Nat := 86
def fn_place_on : Nat := 87
def fn_slices_ContainsFunc_sapi_Reading_api_Reading : Nat := 67
def fn_slices_ContainsFunc_sapi_Row_api_Row : Nat := 61
def fn_slices_ContainsFunc_sint_int : Nat := 64
def fn_slices_IndexFunc_sapi_Reading_api_Reading : Nat := 71
def fn_slices_IndexFunc_sapi_Row_api_Row : Nat := 84
def fn_slices_IndexFunc_sint_int : Nat := 85
def fn_slices_SortFunc_sapi_Share_api_Share : Nat := 78
def fn_slices_breakPatternsCmpFunc_api_Share : Nat := 93
def fn_slices_choosePivotCmpFunc_api_Share : Nat := 94
def fn_slices_heapSortCmpFunc_api_Share : Nat := 92
def fn_slices_insertionSortCmpFunc_api_Share : Nat := 91
def fn_slices_medianAdjacentCmpFunc_api_Share : Nat := 105
def fn_slices_medianCmpFunc_api_Share : Nat := 106
def fn_slices_nextPowerOfTwo : Nat := 103
def fn_slices_order2CmpFunc_api_Share : Nat := 107
def fn_slices_partialInsertionSortCmpFunc_api_Share : Nat := 96
def fn_slices_partitionCmpFunc_api_Share : Nat := 98
def fn_slices_partitionEqualCmpFunc_api_Share : Nat := 97
def fn_slices_pdqsortCmpFunc_api_Share : Nat := 88
def fn_slices_reverseRangeCmpFunc_api_Share : Nat := 95
def fn_slices_siftDownCmpFunc_api_Share : Nat := 102
def fn_slices_xorshift_Next : Nat := 104
def fn_synopticdata_Crowd : Nat := 30
def fn_synopticdata_Place : Nat := 33
def fn_synopticdata_clamp : Nat := 57
def fn_synoptickeep_Ints : Nat := 27
def fn_synoptickeep_Mod : Nat := 11
def fn_synoptickeep_New : Nat := 8
def fn_synoptickeep_Src_N : Nat := 16
def fn_synoptickeep_Src_Pick : Nat := 24
def fn_synoptickeep_Src_Range : Nat := 15
def fn_synoptickeep_Src_Raw : Nat := 38
def fn_synoptickeep_Src_Text : Nat := 55
def fn_synoptickeep_Sum : Nat := 32
def fn_synopticlaw21_OperatorLinear : Nat := 3
def fn_synopticlaw21_OperatorParts : Nat := 7
def fn_synopticlaw21_OperatorPlaces : Nat := 4
def fn_synopticlaw21_OperatorTransposed : Nat := 6
def fn_synopticlaw21_awake : Nat := 14
def fn_synopticlaw21_rows : Nat := 9
def fn_synopticlaw21_small : Nat := 23
def fn_synopticlaw21_values : Nat := 10
def fn_synopticref02_Addresses : Nat := 19
def fn_synopticref02_Corners : Nat := 52
def fn_synopticref02_IsNormal : Nat := 51
def fn_synopticref02_Normal : Nat := 56
def fn_synopticref02_On : Nat := 49
def fn_synopticref02_Valid : Nat := 48
def fn_synopticref02_Weights : Nat := 22
def fn_synopticref03_Count : Nat := 31
def fn_synopticref03_Locate : Nat := 60
def fn_synopticref03_Nodes : Nat := 21
def fn_synopticref03_Shares : Nat := 50
def fn_synopticref03_at : Nat := 83
def fn_synopticref03_find : Nat := 90
def fn_synopticref03_less : Nat := 101
def fn_synopticref03_share : Nat := 82
def fn_synopticref04_Describe : Nat := 39
def fn_synopticref04_Find : Nat := 59
def fn_synopticref04_Some : Nat := 17
def fn_synopticref04_Validate : Nat := 58
def fn_synopticref04_in : Nat := 81
def fn_synopticref21_Apply : Nat := 25
def fn_synopticref21_Departures : Nat := 26
def fn_synopticref21_Rows : Nat := 34
def fn_synopticref21_Same : Nat := 20
def fn_synopticref21_Transpose : Nat := 29
def fn_synopticref21_Valid : Nat := 80
def fn_synopticref21_small : Nat := 54
def fn_synopticref21_valid : Nat := 53
def ty_api_Place : Nat := 40
def ty_api_Share : Nat := 61
def ty_int : Nat := 3
def ty_slices_xorshift : Nat := 146
def ty_synoptickeep_Src : Nat := 69
def gl_place_corners : List C := [.v (.int .i64 0), .v (.int .i64 1), .v (.int .i64 2), .v (.int .i64 0), .v (.int .i64 2), .v (.int .i64 3), .v (.int .i64 0), .v (.int .i64 3), .v (.int .i64 4), .v (.int .i64 0), .v (.int .i64 4), .v (.int .i64 5), .v (.int .i64 0), .v (.int .i64 5), .v (.int .i64 1), .v (.int .i64 1), .v (.int .i64 6), .v (.int .i64 2), .v (.int .i64 2), .v (.int .i64 7), .v (.int .i64 3), .v (.int .i64 3), .v (.int .i64 8), .v (.int .i64 4), .v (.int .i64 4), .v (.int .i64 9), .v (.int .i64 5), .v (.int .i64 5), .v (.int .i64 10), .v (.int .i64 1), .v (.int .i64 6), .v (.int .i64 7), .v (.int .i64 2), .v (.int .i64 7), .v (.int .i64 8), .v (.int .i64 3), .v (.int .i64 8), .v (.int .i64 9), .v (.int .i64 4), .v (.int .i64 9), .v (.int .i64 10), .v (.int .i64 5), .v (.int .i64 10), .v (.int .i64 6), .v (.int .i64 1), .v (.int .i64 11), .v (.int .i64 7), .v (.int .i64 6), .v (.int .i64 11), .v (.int .i64 8), .v (.int .i64 7), .v (.int .i64 11), .v (.int .i64 9), .v (.int .i64 8), .v (.int .i64 11), .v (.int .i64 10), .v (.int .i64 9), .v (.int .i64 11), .v (.int .i64 6), .v (.int .i64 10)]
def gl_element_bounds : List C := [.v (.int .i64 8000), .v (.int .i64 11000), .v (.int .i64 1800), .v (.int .i64 3300), .v (.int .i64 1800), .v (.int .i64 3300), .v (.int .i64 (-1000)), .v (.int .i64 1000), .v (.int .i64 (-1000)), .v (.int .i64 1000), .v (.int .i64 900), .v (.int .i64 1700), .v (.int .i64 2000), .v (.int .i64 3200), .v (.int .i64 2400), .v (.int .i64 3400), .v (.int .i64 2000), .v (.int .i64 3000), .v (.int .i64 4400), .v (.int .i64 6200), .v (.int .i64 2000), .v (.int .i64 2900)]
def globs : Nat → Option (List C) := fun g => bif Nat.beq g 1 then some gl_place_corners else bif Nat.beq g 0 then some gl_element_bounds else none
def primfn : FuncId → Option (List V → List PM.Obj → Option Out) := fun f =>  none
def prim : Prims := { fn := primfn, iter := fun _ _ _ => none, glob := globs }
noncomputable def laid : FuncId → Laid := fun f =>
  bif Nat.beq f 3 then { keep := fun n => bif Nat.beq n 7 then { ks := [.ow 11 11 3, .ow 12 12 3, .lf 47 (.i .i64)], ex := [.exit 0] } else bif Nat.beq n 19 then { ks := [.lf 4 .b, .lf 154 (.i .i64)], fz := [14, 16, 18, 20], ex := [.exit 2, .ret] } else default, hand := [2, 0], bar := fun d => Nat.beq d 42 || Nat.beq d 44 } else
  bif Nat.beq f 4 then { keep := fun n => bif Nat.beq n 10 then { ks := [.lf 2 .b, .lf 71 (.i .i64), .ob 6 46 [.i .i64, .s, .i .i64, .i .i64, .i .i64, .i .i64, .i .i64, .o] [(6, 0)], .ob 30 69 [.o, .i .i64] [(3, 0)]], fz := [5], ex := [.exit 0, .ret] } else bif Nat.beq n 19 then { ks := [.lf 93 (.i .i64), .oo 15 54 [(15, 0)], .ob 30 69 [.o, .i .i64] [(3, 0)]], ex := [.exit 2] } else bif Nat.beq n 26 then { ks := [.ow 19 19 3, .lf 111 (.i .i64)], fz := [15], ex := [.exit 4] } else bif Nat.beq n 29 then { ks := [.ow 19 19 3, .lf 118 (.i .i64)], ex := [.exit 6] } else bif Nat.beq n 36 then { ks := [.lf 24 (.i .i64), .lf 137 (.i .i64)], fz := [19], ex := [.exit 8] } else default, hand := [2], loud := fun d => Nat.beq d 54, lh := [30] } else
  bif Nat.beq f 6 then { keep := fun n => bif Nat.beq n 10 then { ks := [.lf 12 (.i .i64), .lf 64 (.i .i64)], fz := [8], ex := [.exit 0] } else bif Nat.beq n 15 then { ks := [.lf 13 (.i .i64), .lf 81 (.i .i64)], ex := [.exit 2] } else default, hand := [2] } else
  bif Nat.beq f 7 then { own := fun d => Nat.beq d 46, keep := fun n => bif Nat.beq n 10 then { ks := [.lf 2 .b, .lf 76 (.i .i64), .ob 25 69 [.o, .i .i64] [(3, 0)]], ex := [.exit 0, .ret] } else bif Nat.beq n 27 then { ks := [.lf 2 .b, .lf 167 (.i .i64)], ex := [.exit 2, .ret] } else default, hand := [2], bar := fun d => Nat.beq d 92 || Nat.beq d 113 } else
  bif Nat.beq f 8 then { own := fun d => Nat.beq d 9, exp := [some 69], hand := [2] } else
  bif Nat.beq f 9 then { keep := fun n => bif Nat.beq n 4 then { ks := [.ow 5 5 46, .lf 6 (.i .i64), .ob 1000000 69 [.o, .i .i64] [(0, 0)]], ex := [.exit 0] } else default } else
  bif Nat.beq f 10 then { keep := fun n => bif Nat.beq n 4 then { ks := [.ow 7 7 3, .lf 19 (.i .i64), .ob 1000000 69 [.o, .i .i64] [(0, 0)]], ex := [.exit 0] } else default } else
  bif Nat.beq f 12 then { keep := fun n => bif Nat.beq n 7 then { ks := [.ow 6 6 3, .lf 30 (.i .i64)], ex := [.exit 1] } else default, exp := [some 3, none], hand := [2, 2] } else
  bif Nat.beq f 13 then { keep := fun n => bif Nat.beq n 3 then { ks := [.ow 6 6 3, .lf 17 (.i .i64)], ex := [.exit 0] } else default, hand := [2, 2] } else
  bif Nat.beq f 17 then { join := fun n => bif Nat.beq n 33 then some { ks := [.lf 33 .b, .ob 4 42 [.i .i64, .i .i64] [(4, 0)], .ob 5 75 [.s, .i .i64, .i .i64, .i .i64] [(5, 0)], .ob 7 42 [.i .i64, .i .i64] [(7, 0)], .ob 1000000 69 [.o, .i .i64] [(0, 0)]], ex := [.normal] } else none, loud := fun d => Nat.beq d 43, lh := [1000000], bar := fun d => Nat.beq d 1000045 } else
  bif Nat.beq f 18 then { keep := fun n => bif Nat.beq n 9 then { ks := [.ow 8 8 35, .lf 9 (.i .i64), .lf 37 (.i .i64)], ex := [.exit 0, .ret] } else bif Nat.beq n 18 then { ks := [.ow 8 8 35, .lf 9 (.i .i64), .ow 16 16 35, .lf 52 (.i .i64)], ex := [.exit 2, .ret] } else default, hand := [0, 2, 0, 0] } else
  bif Nat.beq f 19 then { keep := fun n => bif Nat.beq n 6 then { ks := [.ow 5 5 40, .lf 6 (.i .i64)], fz := [4], ex := [.exit 0] } else default } else
  bif Nat.beq f 20 then { keep := fun n => bif Nat.beq n 4 then { ks := [.lf 4 .b, .lf 5 (.i .i64)], ex := [.exit 0, .ret] } else default, hand := [2, 2], bar := fun d => Nat.beq d 65 } else
  bif Nat.beq f 21 then { keep := fun n => bif Nat.beq n 6 then { ks := [.ow 5 5 40, .lf 6 (.i .i64)], ex := [.exit 0] } else bif Nat.beq n 9 then { ks := [.ow 5 5 40, .lf 7 (.i .i64)], ex := [.exit 2] } else bif Nat.beq n 12 then { ks := [.ow 5 5 40, .lf 8 (.i .i64)], ex := [.exit 4] } else default } else
  bif Nat.beq f 22 then { loud := fun d => Nat.beq d 1000024 || Nat.beq d 1000025, lh := [3], bar := fun d => Nat.beq d 1000012 || Nat.beq d 1000013 || Nat.beq d 1000018 || Nat.beq d 1000019 || Nat.beq d 1000024 || Nat.beq d 1000025 || Nat.beq d 1000026 } else
  bif Nat.beq f 23 then { keep := fun n => bif Nat.beq n 3 then { ks := [.lf 3 (.i .i64), .lf 4 (.i .i64)], ex := [.exit 0] } else default, hand := [2] } else
  bif Nat.beq f 24 then { hand := [0, 2] } else
  bif Nat.beq f 25 then { keep := fun n => bif Nat.beq n 7 then { ks := [.ow 6 6 3, .lf 34 (.i .i64)], ex := [.exit 0] } else bif Nat.beq n 10 then { ks := [.ow 6 6 3, .lf 42 (.i .i64)], ex := [.exit 2] } else default, exp := [some 3, none], hand := [2, 2] } else
  bif Nat.beq f 26 then { keep := fun n => bif Nat.beq n 5 then { ks := [.ow 6 6 3, .lf 21 (.i .i64)], ex := [.exit 0] } else default, hand := [2, 2] } else
  bif Nat.beq f 27 then { keep := fun n => bif Nat.beq n 4 then { ks := [.lf 4 .b, .lf 5 (.i .i64)], ex := [.exit 0, .ret] } else default, hand := [2, 2] } else
  bif Nat.beq f 28 then { keep := fun n => bif Nat.beq n 7 then { ks := [.ow 8 8 3, .lf 45 (.i .i64)], ex := [.exit 1] } else bif Nat.beq n 10 then { ks := [.ow 8 8 3, .lf 53 (.i .i64)], ex := [.exit 3] } else default, hand := [2, 0, 2] } else
  bif Nat.beq f 29 then { keep := fun n => bif Nat.beq n 7 then { ks := [.ow 8 8 3, .lf 44 (.i .i64)], ex := [.exit 0] } else bif Nat.beq n 10 then { ks := [.ow 8 8 3, .lf 52 (.i .i64)], ex := [.exit 2] } else default, hand := [2, 0, 2] } else
  bif Nat.beq f 30 then { keep := fun n => bif Nat.beq n 5 then { ks := [.ow 7 7 46, .lf 10 (.i .i64), .ob 1000000 69 [.o, .i .i64] [(0, 0)]], fz := [8], ex := [.exit 0] } else bif Nat.beq n 15 then { ks := [.ow 7 7 46, .lf 13 (.i .i64), .mx 11 46 [.lf (.i .i64), .lf .s, .lf (.i .i64), .lf (.i .i64), .lf (.i .i64), .lf (.i .i64), .lf (.i .i64), .ow 200711 42] [(11, 0)], .ob 1000000 69 [.o, .i .i64] [(0, 0)]], ex := [.exit 3] } else default, join := fun n => bif Nat.beq n 39 then some { ks := [.ow 7 7 46, .mx 11 46 [.lf (.i .i64), .lf .s, .lf (.i .i64), .lf (.i .i64), .lf (.i .i64), .lf (.i .i64), .lf (.i .i64), .ow 200711 42] [(11, 0)], .ob 1000000 69 [.o, .i .i64] [(0, 0)]], ex := [.normal] } else bif Nat.beq n 44 then some { ks := [.ow 7 7 46, .mx 11 46 [.lf (.i .i64), .lf .s, .lf (.i .i64), .lf (.i .i64), .lf (.i .i64), .lf (.i .i64), .lf (.i .i64), .ow 200711 42] [(11, 0)], .ob 1000000 69 [.o, .i .i64] [(0, 0)]], ex := [.normal] } else none, loud := fun d => Nat.beq d 27 || Nat.beq d 30 || Nat.beq d 33 || Nat.beq d 81 || Nat.beq d 83 || Nat.beq d 85, lh := [1000000], bar := fun d => Nat.beq d 95, mix := fun d => Nat.beq d 11 } else
  bif Nat.beq f 32 then { keep := fun n => bif Nat.beq n 3 then { ks := [.lf 3 (.i .i64), .lf 4 (.i .i64)], ex := [.exit 0] } else default, hand := [2] } else
  bif Nat.beq f 33 then { join := fun n => bif Nat.beq n 13 then some { ks := [.ob 2 40 [.i .i64, .i .i64, .i .i64, .i .i64] [(2, 0)], .ob 3 40 [.i .i64, .i .i64, .i .i64, .i .i64] [(3, 0)], .ob 1000000 69 [.o, .i .i64] [(0, 0)]], ex := [.normal] } else bif Nat.beq n 19 then some { ks := [.ob 2 40 [.i .i64, .i .i64, .i .i64, .i .i64] [(2, 0)], .ob 3 40 [.i .i64, .i .i64, .i .i64, .i .i64] [(3, 0)], .ob 1000000 69 [.o, .i .i64] [(0, 0)]], ex := [.normal] } else bif Nat.beq n 34 then some { ks := [.ob 2 40 [.i .i64, .i .i64, .i .i64, .i .i64] [(2, 0)], .ob 3 40 [.i .i64, .i .i64, .i .i64, .i .i64] [(3, 0)], .ob 1000000 69 [.o, .i .i64] []], ex := [.normal] } else none } else
  bif Nat.beq f 34 then { keep := fun n => bif Nat.beq n 9 then { ks := [.ow 8 8 35, .lf 9 (.i .i64), .lf 44 (.i .i64)], ex := [.exit 0, .ret] } else bif Nat.beq n 17 then { ks := [.ow 8 8 35, .lf 9 (.i .i64), .ow 15 15 35, .lf 57 (.i .i64)], ex := [.exit 2, .ret] } else default, hand := [0, 2, 0, 0] } else
  bif Nat.beq f 35 then { hand := [2, 0] } else
  bif Nat.beq f 36 then { hand := [2] } else
  bif Nat.beq f 37 then { keep := fun n => bif Nat.beq n 3 then { ks := [.lf 5 (.i .i64), .lf 11 (.i .i64)], ex := [.exit 0] } else default, hand := [0, 2] } else
  bif Nat.beq f 43 then { keep := fun n => bif Nat.beq n 7 then { ks := [.lf 2 (.i .i64), .lf 4 (.i .i64)], ex := [.exit 1, .ret] } else default, hand := [2] } else
  bif Nat.beq f 44 then { own := fun d => Nat.beq d 15, keep := fun n => bif Nat.beq n 3 then { ks := [.lf 16 (.i .i64), .mx 15 113 [.lf (.i .i64), .lf (.i .i64), .ow 200962 40, .mp 13 40 3, .lf .o, .lf .o, .lf .o] [(3, 0)]], ex := [.exit 0] } else bif Nat.beq n 6 then { ks := [.lf 5 (.i .i64), .mx 15 113 [.lf (.i .i64), .lf (.i .i64), .ow 200962 40, .mp 13 40 3, .lf .o, .lf .o, .lf .o] [(3, 0)]], ex := [.exit 2] } else bif Nat.beq n 9 then { ks := [.lf 6 (.i .i64), .mx 15 113 [.lf (.i .i64), .lf (.i .i64), .ow 200962 40, .mp 13 40 3, .lf .o, .lf .o, .lf .o] [(3, 0)]], ex := [.exit 4] } else default, bar := fun d => Nat.beq d 80 || Nat.beq d 2000066, mix := fun d => Nat.beq d 14 || Nat.beq d 15 } else
  bif Nat.beq f 45 then { hand := [2, 0] } else
  bif Nat.beq f 46 then { keep := fun n => bif Nat.beq n 2 then { ks := [.lf 2 .b, .lf 12 (.i .i64)], ex := [.exit 0, .ret] } else default } else
  bif Nat.beq f 47 then { own := fun d => Nat.beq d 97, keep := fun n => bif Nat.beq n 13 then { ks := [.ow 11 11 61, .lf 108 (.i .i64)], fz := [10], ex := [.exit 1] } else default, join := fun n => bif Nat.beq n 91 then some { ks := [.ow 4 4 61, .oo 9 116 [(9, 0)], .oo 10 89 [(10, 0)]], ex := [.ret, .normal] } else bif Nat.beq n 98 then some { ks := [.oo 9 116 [(9, 0)], .oo 10 89 [(10, 0)]], ex := [.normal] } else none, bar := fun d => Nat.beq d 125 } else
  bif Nat.beq f 49 then { loud := fun d => Nat.beq d 1000004, lh := [4], bar := fun d => Nat.beq d 1000028 } else
  bif Nat.beq f 50 then { keep := fun n => bif Nat.beq n 4 then { ks := [.lf 4 .b, .lf 5 (.i .i64)], ex := [.exit 0, .ret] } else default, hand := [2, 2] } else
  bif Nat.beq f 53 then { keep := fun n => bif Nat.beq n 2 then { ks := [.lf 4 .b, .lf 9 (.i .i64)], ex := [.exit 0, .ret] } else default, hand := [2, 0] } else
  bif Nat.beq f 54 then { keep := fun n => bif Nat.beq n 2 then { ks := [.lf 2 .b, .lf 7 (.i .i64)], ex := [.exit 0, .ret] } else default, hand := [2] } else
  bif Nat.beq f 55 then { hand := [0, 2] } else
  bif Nat.beq f 58 then { keep := fun n => bif Nat.beq n 2 then { ks := [.lf 2 (.i .i64), .lf 3 (.i .i64)], ex := [.exit 0, .ret] } else bif Nat.beq n 8 then { ks := [.lf 2 (.i .i64), .lf 6 (.i .i64)], ex := [.exit 2, .ret] } else bif Nat.beq n 13 then { ks := [.lf 2 (.i .i64), .lf 7 (.i .i64)], ex := [.exit 4, .ret] } else default, hand := [2] } else
  bif Nat.beq f 59 then { keep := fun n => bif Nat.beq n 2 then { ks := [.lf 4 (.i .i64), .lf 5 .b, .lf 6 (.i .i64)], ex := [.exit 0, .ret] } else default, hand := [2, 0] } else
  bif Nat.beq f 61 then { hand := [2, 0] } else
  bif Nat.beq f 63 then { keep := fun n => bif Nat.beq n 3 then { ks := [.lf 4 .b, .lf 5 (.i .i64), .lf 11 (.i .i64)], ex := [.exit 0, .ret] } else default } else
  bif Nat.beq f 64 then { hand := [2, 0] } else
  bif Nat.beq f 67 then { hand := [2, 0] } else
  bif Nat.beq f 70 then { keep := fun n => bif Nat.beq n 5 then { ks := [.lf 3 (.i .i64), .lf 14 (.i .i64), .ob 2 40 [.i .i64, .i .i64, .i .i64, .i .i64] [(2, 0)]], fz := [4], ex := [.exit 0, .ret] } else default } else
  bif Nat.beq f 71 then { keep := fun n => bif Nat.beq n 2 then { ks := [.lf 4 (.i .i64), .lf 8 (.i .i64)], ex := [.exit 0, .ret] } else default, hand := [2, 0] } else
  bif Nat.beq f 75 then { bar := fun d => Nat.beq d 17 } else
  bif Nat.beq f 76 then { bar := fun d => Nat.beq d 22 } else
  bif Nat.beq f 77 then { bar := fun d => Nat.beq d 34 } else
  bif Nat.beq f 78 then { hand := [1, 0] } else
  bif Nat.beq f 80 then { keep := fun n => bif Nat.beq n 3 then { ks := [.lf 4 .b, .lf 5 (.i .i64), .lf 11 (.i .i64)], ex := [.exit 0, .ret] } else default } else
  bif Nat.beq f 82 then { own := fun d => Nat.beq d 30 || Nat.beq d 40, keep := fun n => bif Nat.beq n 4 then { ks := [.lf 7 (.i .i64)], ex := [.exit 0] } else default } else
  bif Nat.beq f 83 then { hand := [2, 0, 0, 0] } else
  bif Nat.beq f 84 then { keep := fun n => bif Nat.beq n 2 then { ks := [.lf 4 (.i .i64), .lf 8 (.i .i64)], ex := [.exit 0, .ret] } else default, hand := [2, 0] } else
  bif Nat.beq f 85 then { keep := fun n => bif Nat.beq n 2 then { ks := [.lf 4 (.i .i64), .lf 8 (.i .i64)], ex := [.exit 0, .ret] } else default, hand := [2, 0] } else
  bif Nat.beq f 86 then { loud := fun d => Nat.beq d 1000021 || Nat.beq d 1000022, lh := [3], bar := fun d => Nat.beq d 1000009 || Nat.beq d 1000010 || Nat.beq d 1000015 || Nat.beq d 1000016 || Nat.beq d 1000021 || Nat.beq d 1000022 || Nat.beq d 1000023 } else
  bif Nat.beq f 88 then { keep := fun n => bif Nat.beq n 2 then { ks := [.us 0 1000000 61, .lf 1 (.i .i64), .lf 2 (.i .i64), .lf 3 (.i .i64), .lf 10 .b, .lf 11 .b], ex := [.ret] } else default, join := fun n => bif Nat.beq n 39 then some { ks := [.us 0 1000000 61, .lf 3 (.i .i64)], ex := [.normal] } else bif Nat.beq n 56 then some { ks := [.us 0 1000000 61, .lf 13 (.i .i64), .lf 14 (.i .i64)], ex := [.normal] } else bif Nat.beq n 75 then some { ks := [.us 0 1000000 61], ex := [.ret, .normal] } else none, hand := [1, 0, 0, 0, 0] } else
  bif Nat.beq f 90 then { keep := fun n => bif Nat.beq n 2 then { ks := [.lf 5 (.i .i64), .lf 6 (.i .i64)], ex := [.exit 0] } else default, hand := [2, 0], bar := fun d => Nat.beq d 22 } else
  bif Nat.beq f 91 then { keep := fun n => bif Nat.beq n 1 then { ks := [.us 0 1000000 61, .lf 8 (.i .i64)], ex := [.exit 0] } else bif Nat.beq n 4 then { ks := [.us 0 1000000 61, .lf 9 (.i .i64)], ex := [.exit 2] } else default, hand := [1, 0, 0, 0] } else
  bif Nat.beq f 92 then { keep := fun n => bif Nat.beq n 4 then { ks := [.us 0 1000000 61, .lf 11 (.i .i64)], ex := [.exit 0] } else bif Nat.beq n 8 then { ks := [.us 0 1000000 61, .lf 12 (.i .i64)], ex := [.exit 2] } else default, hand := [1, 0, 0, 0] } else
  bif Nat.beq f 93 then { keep := fun n => bif Nat.beq n 5 then { ks := [.us 0 1000000 61, .lf 11 (.i .i64)], fz := [9], ex := [.exit 0] } else default, join := fun n => bif Nat.beq n 45 then some { ks := [.us 0 1000000 61, .lf 12 (.i .i64)], ex := [.normal] } else none, hand := [1, 0, 0, 0] } else
  bif Nat.beq f 94 then { join := fun n => bif Nat.beq n 34 then some { ks := [.lf 13 (.i .i64), .ob 11 3 [.i .i64] [(11, 0)]], ex := [.normal] } else bif Nat.beq n 36 then some { ks := [.lf 12 (.i .i64), .lf 13 (.i .i64), .lf 14 (.i .i64), .ob 11 3 [.i .i64] [(11, 0)]], ex := [.normal] } else none, hand := [2, 0, 0, 0] } else
  bif Nat.beq f 95 then { keep := fun n => bif Nat.beq n 2 then { ks := [.us 0 1000000 61, .lf 8 (.i .i64), .lf 9 (.i .i64)], ex := [.exit 0] } else default, hand := [1, 0, 0, 0] } else
  bif Nat.beq f 96 then { keep := fun n => bif Nat.beq n 3 then { ks := [.us 0 1000000 61, .lf 8 .b, .lf 9 (.i .i64), .lf 10 (.i .i64)], ex := [.exit 0, .ret] } else bif Nat.beq n 5 then { ks := [.us 0 1000000 61, .lf 9 (.i .i64)], ex := [.exit 2] } else bif Nat.beq n 14 then { ks := [.us 0 1000000 61, .lf 11 (.i .i64)], ex := [.exit 4] } else bif Nat.beq n 20 then { ks := [.us 0 1000000 61, .lf 12 (.i .i64)], ex := [.exit 6] } else default, join := fun n => bif Nat.beq n 65 then some { ks := [.us 0 1000000 61], ex := [.normal] } else none, hand := [1, 0, 0, 0] } else
  bif Nat.beq f 97 then { keep := fun n => bif Nat.beq n 3 then { ks := [.us 0 1000000 61, .lf 11 (.i .i64)], ex := [.exit 2] } else bif Nat.beq n 5 then { ks := [.us 0 1000000 61, .lf 12 (.i .i64)], ex := [.exit 4] } else bif Nat.beq n 100003 then { ks := [.us 0 1000000 61, .lf 11 (.i .i64), .lf 12 (.i .i64)], ex := [.exit 0] } else default, hand := [1, 0, 0, 0, 0] } else
  bif Nat.beq f 98 then { keep := fun n => bif Nat.beq n 3 then { ks := [.us 0 1000000 61, .lf 12 (.i .i64)], ex := [.exit 0] } else bif Nat.beq n 5 then { ks := [.us 0 1000000 61, .lf 13 (.i .i64)], ex := [.exit 2] } else bif Nat.beq n 13 then { ks := [.us 0 1000000 61, .lf 12 (.i .i64)], ex := [.exit 6] } else bif Nat.beq n 15 then { ks := [.us 0 1000000 61, .lf 13 (.i .i64)], ex := [.exit 8] } else bif Nat.beq n 100013 then { ks := [.us 0 1000000 61, .lf 12 (.i .i64), .lf 13 (.i .i64)], ex := [.exit 4] } else default, hand := [1, 0, 0, 0, 0] } else
  bif Nat.beq f 99 then { join := fun n => bif Nat.beq n 4 then some { ks := [.lf 0 (.i .u32), .lf 2 (.i .i64)], ex := [.normal] } else none } else
  bif Nat.beq f 100 then { join := fun n => bif Nat.beq n 4 then some { ks := [.lf 0 (.i .u64), .lf 2 (.i .i64)], ex := [.normal] } else bif Nat.beq n 8 then some { ks := [.lf 0 (.i .u64), .lf 2 (.i .i64)], ex := [.normal] } else none } else
  bif Nat.beq f 102 then { keep := fun n => bif Nat.beq n 1 then { ks := [.us 0 1000000 61, .lf 10 (.i .i64)], ex := [.exit 0, .ret] } else default, join := fun n => bif Nat.beq n 40 then some { ks := [.us 0 1000000 61, .lf 11 (.i .i64)], ex := [.normal] } else none, hand := [1, 0, 0, 0, 0] } else
  bif Nat.beq f 105 then { hand := [2, 0, 0, 0] } else
  bif Nat.beq f 106 then { hand := [2, 0, 0, 0, 0, 0] } else
  bif Nat.beq f 107 then { hand := [2, 0, 0, 0, 0] } else
  {}
def kb0 : ByteArray := ⟨#[0, 1, 2, 2, 3, 3, 3, 3, 4, 4, 4, 4, 4, 4, 4, 4, 5, 5, 5, 5, 5, 5, 5, 5, 5, 5, 5, 5, 5, 5, 5, 5, 6, 6, 6, 6, 6, 6, 6, 6, 6, 6, 6, 6, 6, 6, 6, 6, 6, 6, 6, 6, 6, 6, 6, 6, 6, 6, 6, 6, 6, 6, 6, 6, 7, 7, 7, 7, 7, 7, 7, 7, 7, 7, 7, 7, 7, 7, 7, 7, 7, 7, 7, 7, 7, 7, 7, 7, 7, 7, 7, 7, 7, 7, 7, 7, 7, 7, 7, 7, 7, 7, 7, 7, 7, 7, 7, 7, 7, 7, 7, 7, 7, 7, 7, 7, 7, 7, 7, 7, 7, 7, 7, 7, 7, 7, 7, 7, 8, 8, 8, 8, 8, 8, 8, 8, 8, 8, 8, 8, 8, 8, 8, 8, 8, 8, 8, 8, 8, 8, 8, 8, 8, 8, 8, 8, 8, 8, 8, 8, 8, 8, 8, 8, 8, 8, 8, 8, 8, 8, 8, 8, 8, 8, 8, 8, 8, 8, 8, 8, 8, 8, 8, 8, 8, 8, 8, 8, 8, 8, 8, 8, 8, 8, 8, 8, 8, 8, 8, 8, 8, 8, 8, 8, 8, 8, 8, 8, 8, 8, 8, 8, 8, 8, 8, 8, 8, 8, 8, 8, 8, 8, 8, 8, 8, 8, 8, 8, 8, 8, 8, 8, 8, 8, 8, 8, 8, 8, 8, 8, 8, 8, 8, 8, 8, 8, 8, 8, 8, 8, 8, 8, 8, 8, 8, 8]⟩
noncomputable def mfd (kt : TypeId) (kc : List C) (es : List (List C × List C)) : Option (Option (Nat × List C)) := mfind Tryd.prog kt kc es 0
noncomputable def cl (fu d : Nat) (f : FuncId) (args : List V) (objs : List PM.Obj) : Option Out := callN Tryd.prog prim laid fu d f args objs
end Go.Proofs.YtobmbacppbkgeaaDoor
