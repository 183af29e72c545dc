/- The hints under which the pure machine runs this program's functions. -/
import Derived.Test.YtmbgnpgjdhlegaaDoorJ6
import Derived.Test.YtmbgnpgjdhlegaaDoorProg
import Derived.KernelRfl
set_option linter.unusedVariables false
set_option linter.unusedSimpArgs false
namespace Go.Proofs.YtmbgnpgjdhlegaaDoor
open Go Go.PM
def fn_bits_Len : Nat := 79
def fn_bits_Len32 : Nat := 98
def fn_bits_Len64 : Nat := 99
def fn_climate_Learn : Nat := 10
def fn_climate_Lookup : Nat := 14
def fn_climate_Same : Nat := 29
def fn_climate_Validate : Nat := 11
def fn_climate_Validate_1 : Nat := 42
def fn_climate_Validate_2 : Nat := 44
def fn_climate_compare : Nat := 40
def fn_climate_exists : Nat := 43
def fn_climate_floor : Nat := 75
def fn_climate_learned : Nat := 38
def fn_climate_valid : Nat := 45
def fn_clock_Date : Nat := 36
def fn_clock_first : Nat := 69
def fn_clock_in : Nat := 68
def fn_clock_lengths : Nat := 70
def fn_cmp_Compare_int : Nat := 81
def fn_cmp_Or_int : Nat := 80
def fn_cmp_isNaN_int : Nat := 100
def fn_element_Describe : Nat := 83
def fn_element_Validate : Nat := 37
def fn_element_Validate_1 : Nat := 71
def fn_element_Validate_1_1 : Nat := 73
def fn_element_check : Nat := 74
def fn_place_Normal : Nat := 35
def fn_place_Valid : Nat := 65
def fn_place_face : Nat := 88
def fn_place_of : Nat := 66
def fn_place_on : Nat := 67
def fn_slices_BinarySearchFunc_sapi_Normal_api_Normal_api_Normal : Nat := 46
def fn_slices_ContainsFunc_sapi_Normal_api_Normal : Nat := 41
def fn_slices_ContainsFunc_sapi_Reading_api_Reading : Nat := 72
def fn_slices_Equal_sapi_Normal_api_Normal : Nat := 60
def fn_slices_IndexFunc_sapi_Normal_api_Normal : Nat := 82
def fn_slices_IndexFunc_sapi_Reading_api_Reading : Nat := 89
def fn_slices_Max_sint_int : Nat := 76
def fn_slices_Min_sint_int : Nat := 77
def fn_slices_SortFunc_sapi_Normal_api_Normal : Nat := 39
def fn_slices_breakPatternsCmpFunc_api_Normal : Nat := 92
def fn_slices_choosePivotCmpFunc_api_Normal : Nat := 93
def fn_slices_heapSortCmpFunc_api_Normal : Nat := 91
def fn_slices_insertionSortCmpFunc_api_Normal : Nat := 90
def fn_slices_medianAdjacentCmpFunc_api_Normal : Nat := 104
def fn_slices_medianCmpFunc_api_Normal : Nat := 105
def fn_slices_nextPowerOfTwo : Nat := 102
def fn_slices_order2CmpFunc_api_Normal : Nat := 106
def fn_slices_partialInsertionSortCmpFunc_api_Normal : Nat := 95
def fn_slices_partitionCmpFunc_api_Normal : Nat := 97
def fn_slices_partitionEqualCmpFunc_api_Normal : Nat := 96
def fn_slices_pdqsortCmpFunc_api_Normal : Nat := 78
def fn_slices_reverseRangeCmpFunc_api_Normal : Nat := 94
def fn_slices_siftDownCmpFunc_api_Normal : Nat := 101
def fn_slices_xorshift_Next : Nat := 103
def fn_synopticdata_Bent : Nat := 25
def fn_synopticdata_Climate : Nat := 16
def fn_synopticdata_Minute : Nat := 8
def fn_synopticdata_Name : Nat := 55
def fn_synopticdata_Near : Nat := 56
def fn_synopticdata_Place : Nat := 17
def fn_synopticdata_Placed : Nat := 9
def fn_synopticdata_Report : Nat := 26
def fn_synopticdata_Small : Nat := 53
def fn_synopticdata_SmallAll : Nat := 24
def fn_synoptickeep_Mod : Nat := 32
def fn_synoptickeep_New : Nat := 7
def fn_synoptickeep_Src_N : Nat := 18
def fn_synoptickeep_Src_Order : Nat := 12
def fn_synoptickeep_Src_Pick : Nat := 34
def fn_synoptickeep_Src_Range : Nat := 20
def fn_synoptickeep_Src_Raw : Nat := 33
def fn_synoptickeep_Src_Text : Nat := 54
def fn_synopticlaw13_ClimateAnswers : Nat := 6
def fn_synopticlaw13_ClimateFaces : Nat := 5
def fn_synopticlaw13_ClimateLearns : Nat := 3
def fn_synopticlaw13_ClimatePlaces : Nat := 4
def fn_synopticlaw13_awake : Nat := 15
def fn_synopticlaw13_bent : Nat := 27
def fn_synopticref01_Date : Nat := 22
def fn_synopticref01_Days : Nat := 85
def fn_synopticref01_In : Nat := 50
def fn_synopticref01_Minutes : Nat := 23
def fn_synopticref01_Valid : Nat := 52
def fn_synopticref01_before : Nat := 51
def fn_synopticref02_Addresses : Nat := 21
def fn_synopticref02_Corners : Nat := 84
def fn_synopticref02_IsNormal : Nat := 61
def fn_synopticref02_Normal : Nat := 19
def fn_synopticref02_On : Nat := 49
def fn_synopticref02_Valid : Nat := 47
def fn_synopticref02_Weights : Nat := 48
def fn_synopticref04_Describe : Nat := 58
def fn_synopticref04_Find : Nat := 63
def fn_synopticref04_List : Nat := 57
def fn_synopticref04_Some : Nat := 86
def fn_synopticref04_Validate : Nat := 62
def fn_synopticref04_in : Nat := 87
def fn_synopticref13_Learn : Nat := 31
def fn_synopticref13_Lookup : Nat := 30
def fn_synopticref13_Same : Nat := 13
def fn_synopticref13_Validate : Nat := 28
def fn_synopticref13_floor : Nat := 64
def fn_synopticref13_less : Nat := 59
def ty_api_Normal : Nat := 46
def ty_api_Report : Nat := 40
def ty_int : Nat := 3
def ty_slices_xorshift : Nat := 140
def ty_synoptickeep_Src : Nat := 74
def gl_place_corners : List C := [.v (.int .i64 0), .v (.int .i64 1), .v (.int .i64 2), .v (.int .i64 0), .v (.int .i64 2), .v (.int .i64 3), .v (.int .i64 0), .v (.int .i64 3), .v (.int .i64 4), .v (.int .i64 0), .v (.int .i64 4), .v (.int .i64 5), .v (.int .i64 0), .v (.int .i64 5), .v (.int .i64 1), .v (.int .i64 1), .v (.int .i64 6), .v (.int .i64 2), .v (.int .i64 2), .v (.int .i64 7), .v (.int .i64 3), .v (.int .i64 3), .v (.int .i64 8), .v (.int .i64 4), .v (.int .i64 4), .v (.int .i64 9), .v (.int .i64 5), .v (.int .i64 5), .v (.int .i64 10), .v (.int .i64 1), .v (.int .i64 6), .v (.int .i64 7), .v (.int .i64 2), .v (.int .i64 7), .v (.int .i64 8), .v (.int .i64 3), .v (.int .i64 8), .v (.int .i64 9), .v (.int .i64 4), .v (.int .i64 9), .v (.int .i64 10), .v (.int .i64 5), .v (.int .i64 10), .v (.int .i64 6), .v (.int .i64 1), .v (.int .i64 11), .v (.int .i64 7), .v (.int .i64 6), .v (.int .i64 11), .v (.int .i64 8), .v (.int .i64 7), .v (.int .i64 11), .v (.int .i64 9), .v (.int .i64 8), .v (.int .i64 11), .v (.int .i64 10), .v (.int .i64 9), .v (.int .i64 11), .v (.int .i64 6), .v (.int .i64 10)]
def gl_element_bounds : List C := [.v (.int .i64 8000), .v (.int .i64 11000), .v (.int .i64 1800), .v (.int .i64 3300), .v (.int .i64 1800), .v (.int .i64 3300), .v (.int .i64 (-1000)), .v (.int .i64 1000), .v (.int .i64 (-1000)), .v (.int .i64 1000), .v (.int .i64 900), .v (.int .i64 1700), .v (.int .i64 2000), .v (.int .i64 3200), .v (.int .i64 2400), .v (.int .i64 3400), .v (.int .i64 2000), .v (.int .i64 3000), .v (.int .i64 4400), .v (.int .i64 6200), .v (.int .i64 2000), .v (.int .i64 2900)]
def globs : Nat → Option (List C) := fun g => bif Nat.beq g 0 then some gl_place_corners else bif Nat.beq g 1 then some gl_element_bounds else none
def primfn : FuncId → Option (List V → List PM.Obj → Option Out) := fun f => bif Nat.beq f fn_slices_SortFunc_sapi_Normal_api_Normal then some (sortFuncP 46 5 40 (lexZ [0, 1, 2])) else none
def prim : Prims := { fn := primfn, iter := fun _ _ _ => none, glob := globs }
noncomputable def laid : FuncId → Laid := fun f =>
  bif Nat.beq f 3 then { keep := fun n => bif Nat.beq n 9 then { ks := [.ow 8 8 40, .lf 46 (.i .i64)], fz := [5, 6], ex := [.exit 0] } else bif Nat.beq n 18 then { ks := [.lf 2 .b, .ow 13 13 4, .lf 77 (.i .i64)], ex := [.exit 2, .ret] } else bif Nat.beq n 21 then { ks := [.lf 2 .b, .ow 13 13 4, .lf 84 (.i .i64), .ob 15 40 [.i .i64, .s, .i .i64, .i .i64, .i .i64, .i .i64, .i .i64, .o] [(15, 0)]], ex := [.exit 4, .ret] } else bif Nat.beq n 27 then { ks := [.ow 13 13 4, .lf 120 (.i .i64), .ob 15 40 [.i .i64, .s, .i .i64, .i .i64, .i .i64, .i .i64, .i .i64, .o] [(15, 0)], .ob 17 44 [.i .i64, .i .i64] [(17, 0)], .ob 18 46 [.i .i64, .i .i64, .i .i64, .i .i64, .i .i64] [(18, 0)]], ex := [.exit 6] } else bif Nat.beq n 35 then { ks := [.lf 2 .b, .lf 154 (.i .i64)], fz := [13], ex := [.exit 8, .ret] } else default, hand := [2] } else
  bif Nat.beq f 4 then { keep := fun n => bif Nat.beq n 14 then { ks := [.lf 2 .b, .lf 85 (.i .i64)], fz := [5, 8], ex := [.exit 0, .ret] } else default, join := fun n => bif Nat.beq n 37 then some { ks := [.ob 5 30 [.o] [(5, 0)], .ob 6 37 [.i .i64, .i .i64, .i .i64, .i .i64] [(6, 0)], .ob 21 74 [.o, .i .i64] [(3, 0)]], ex := [.normal] } else none, hand := [2], loud := fun d => Nat.beq d 44, lh := [21], bar := fun d => Nat.beq d 1000041 || Nat.beq d 1000042 || Nat.beq d 1000043 || Nat.beq d 1000045 || Nat.beq d 1000046 || Nat.beq d 1000047 } else
  bif Nat.beq f 5 then { own := fun d => Nat.beq d 70 || Nat.beq d 108, keep := fun n => bif Nat.beq n 5 then { ks := [.ow 5 5 40, .ow 6 6 40, .lf 32 (.i .i64), .ob 21 74 [.o, .i .i64] [(3, 0)]], ex := [.exit 0] } else bif Nat.beq n 10 then { ks := [.ow 6 6 40, .lf 46 (.i .i64), .ob 21 74 [.o, .i .i64] [(3, 0)]], fz := [5], ex := [.exit 2] } else bif Nat.beq n 20 then { ks := [.lf 2 .b, .lf 104 (.i .i64)], fz := [9, 11], ex := [.exit 4, .ret] } else bif Nat.beq n 24 then { ks := [.lf 17 .b, .ow 114 114 46, .lf 116 (.i .i64), .ob 16 46 [.i .i64, .i .i64, .i .i64, .i .i64, .i .i64] [(16, 0)]], ex := [.exit 6] } else default, hand := [2], bar := fun d => Nat.beq d 108 || Nat.beq d 111 || Nat.beq d 114 || Nat.beq d 3000109 || Nat.beq d 3000110 || Nat.beq d 3000112 || Nat.beq d 3000113 } else
  bif Nat.beq f 6 then { own := fun d => Nat.beq d 62, keep := fun n => bif Nat.beq n 9 then { ks := [.lf 12 .b, .lf 79 (.i .i64), .ob 53 74 [.o, .i .i64] [(13, 0)]], fz := [15, 16, 17], ex := [.exit 0, .ret] } else bif Nat.beq n 14 then { ks := [.lf 12 .b, .lf 102 (.i .i64), .ob 19 30 [.o] [(19, 0)], .ob 53 74 [.o, .i .i64] [(13, 0)]], ex := [.exit 2, .ret] } else bif Nat.beq n 17 then { ks := [.lf 12 .b, .lf 111 (.i .i64), .ob 19 30 [.o] [(19, 0)], .ob 21 37 [.i .i64, .i .i64, .i .i64, .i .i64] [(21, 0)], .ob 53 74 [.o, .i .i64] [(13, 0)]], ex := [.exit 4, .ret] } else bif Nat.beq n 20 then { ks := [.lf 12 .b, .lf 119 (.i .i64), .ob 19 30 [.o] [(19, 0)], .ob 21 37 [.i .i64, .i .i64, .i .i64, .i .i64] [(21, 0)], .ob 53 74 [.o, .i .i64] [(13, 0)]], ex := [.exit 6, .ret] } else bif Nat.beq n 30 then { ks := [.lf 12 .b, .lf 158 (.i .i64), .ob 19 30 [.o] [(19, 0)], .ob 53 74 [.o, .i .i64] [(13, 0)]], ex := [.exit 8, .ret] } else bif Nat.beq n 39 then { ks := [.lf 12 .b, .lf 199 (.i .i64)], ex := [.exit 10, .ret] } else default, hand := [0, 2, 0, 2, 0, 0], loud := fun d => Nat.beq d 76 || Nat.beq d 99, lh := [53], bar := fun d => Nat.beq d 86 || Nat.beq d 94 || Nat.beq d 1000075 || Nat.beq d 1000078 || Nat.beq d 1000101 } else
  bif Nat.beq f 7 then { own := fun d => Nat.beq d 9, exp := [some 74], hand := [2] } else
  bif Nat.beq f 9 then { keep := fun n => bif Nat.beq n 4 then { ks := [.ow 7 7 40, .lf 9 (.i .i64), .ob 1000000 74 [.o, .i .i64] [(0, 0)]], fz := [8], ex := [.exit 0] } else default, exp := [some 40] } else
  bif Nat.beq f 10 then { own := fun d => Nat.beq d 18, keep := fun n => bif Nat.beq n 3 then { ks := [.lf 3 (.i .i64), .lf 21 (.i .i64), .ob 2 30 [.o] [(2, 0)], .mr 18 46 22 3 [4]], ex := [.exit 0, .ret] } else bif Nat.beq n 13 then { ks := [.lf 60 (.i .i64), .ob 2 30 [.o] [(2, 0)], .ob 7 37 [.i .i64, .i .i64, .i .i64, .i .i64] [(7, 0)], .ob 9 61 [.i .i64, .i .i64, .i .i64, .i .i64, .i .i64] [(9, 0)], .mr 18 46 22 3 [4]], ex := [.exit 2] } else bif Nat.beq n 23 then { ks := [.ob 2 30 [.o] [(2, 0)], .mx 15 30 [.ow 200960 46] [(15, 0)] []], ex := [.exit 4], sh := [.a [.i .i64, .i .i64, .i .i64, .i .i64, .i .i64], .s .o], rm := some 87 } else default, hand := [2], bar := fun d => Nat.beq d 99, mix := fun d => Nat.beq d 15 } else
  bif Nat.beq f 11 then { keep := fun n => bif Nat.beq n 8 then { ks := [.lf 2 (.i .i64), .lf 3 (.i .i64)], ex := [.exit 1, .ret] } else default, bar := fun d => Nat.beq d 35 } else
  bif Nat.beq f 12 then { own := fun d => Nat.beq d 20 || Nat.beq d 30, keep := fun n => bif Nat.beq n 3 then { ks := [.ow 5 5 3, .lf 6 (.i .i64), .ob 1000000 74 [.o, .i .i64] [(0, 0)]], ex := [.exit 0] } else default } else
  bif Nat.beq f 13 then { keep := fun n => bif Nat.beq n 4 then { ks := [.lf 4 .b, .lf 5 (.i .i64)], ex := [.exit 0, .ret] } else default } else
  bif Nat.beq f 16 then { keep := fun n => bif Nat.beq n 3 then { ks := [.lf 18 (.i .i64), .ob 4 30 [.o] [(4, 0)], .mx 5 30 [.ow 200320 46] [(5, 0)] [], .ob 1000000 74 [.o, .i .i64] [(0, 0)]], ex := [.exit 0] } else default, loud := fun d => Nat.beq d 29 || Nat.beq d 41, lh := [1000000], bar := fun d => Nat.beq d 1000030 || Nat.beq d 1000031 || Nat.beq d 1000043 || Nat.beq d 1000044, mix := fun d => Nat.beq d 5 } else
  bif Nat.beq f 17 then { join := fun n => bif Nat.beq n 13 then some { ks := [.ob 2 37 [.i .i64, .i .i64, .i .i64, .i .i64] [(2, 0)], .ob 3 37 [.i .i64, .i .i64, .i .i64, .i .i64] [(3, 0)], .ob 1000000 74 [.o, .i .i64] [(0, 0)]], ex := [.normal] } else bif Nat.beq n 19 then some { ks := [.ob 2 37 [.i .i64, .i .i64, .i .i64, .i .i64] [(2, 0)], .ob 3 37 [.i .i64, .i .i64, .i .i64, .i .i64] [(3, 0)], .ob 1000000 74 [.o, .i .i64] [(0, 0)]], ex := [.normal] } else bif Nat.beq n 34 then some { ks := [.ob 2 37 [.i .i64, .i .i64, .i .i64, .i .i64] [(2, 0)], .ob 3 37 [.i .i64, .i .i64, .i .i64, .i .i64] [(3, 0)], .ob 1000000 74 [.o, .i .i64] []], ex := [.normal] } else none } else
  bif Nat.beq f 21 then { keep := fun n => bif Nat.beq n 6 then { ks := [.ow 5 5 37, .lf 6 (.i .i64)], fz := [4], ex := [.exit 0] } else default } else
  bif Nat.beq f 22 then { keep := fun n => bif Nat.beq n 4 then { ks := [.ob 2 61 [.i .i64, .i .i64, .i .i64, .i .i64, .i .i64] [(2, 0)], .ob 4 61 [.i .i64, .i .i64, .i .i64, .i .i64, .i .i64] [(4, 0)]], ex := [.exit 0] } else bif Nat.beq n 6 then { ks := [.ob 2 61 [.i .i64, .i .i64, .i .i64, .i .i64, .i .i64] [(2, 0)], .ob 4 61 [.i .i64, .i .i64, .i .i64, .i .i64, .i .i64] [(4, 0)]], ex := [.exit 2] } else default } else
  bif Nat.beq f 24 then { keep := fun n => bif Nat.beq n 4 then { ks := [.lf 4 .b, .lf 5 (.i .i64)], ex := [.exit 0, .ret] } else default, hand := [2, 0] } else
  bif Nat.beq f 25 then { own := fun d => Nat.beq d 3 || Nat.beq d 5, loud := fun d => Nat.beq d 55 || Nat.beq d 57 || Nat.beq d 74 || Nat.beq d 77, lh := [1000000], bar := fun d => Nat.beq d 60 || Nat.beq d 1000061 || Nat.beq d 1000071 || Nat.beq d 1000072 || Nat.beq d 1000073 || Nat.beq d 1000078 || Nat.beq d 1000079, mix := fun d => Nat.beq d 3 } else
  bif Nat.beq f 27 then { own := fun d => Nat.beq d 7, loud := fun d => Nat.beq d 31, lh := [1000000], bar := fun d => Nat.beq d 42 || Nat.beq d 1000028 || Nat.beq d 1000029 || Nat.beq d 1000030 || Nat.beq d 1000032, mix := fun d => Nat.beq d 5 || Nat.beq d 11 } else
  bif Nat.beq f 28 then { keep := fun n => bif Nat.beq n 4 then { ks := [.lf 2 (.i .i64), .lf 17 (.i .i64)], ex := [.exit 0, .ret] } else bif Nat.beq n 11 then { ks := [.lf 2 (.i .i64), .lf 33 (.i .i64)], ex := [.exit 2, .ret] } else bif Nat.beq n 17 then { ks := [.lf 2 (.i .i64), .lf 9 (.i .i64)], ex := [.exit 4, .ret] } else default, bar := fun d => Nat.beq d 94 } else
  bif Nat.beq f 30 then { keep := fun n => bif Nat.beq n 9 then { ks := [.lf 9 (.i .i64), .lf 43 (.i .i64), .ob 8 46 [.i .i64, .i .i64, .i .i64, .i .i64, .i .i64] [(8, 0)]], fz := [11, 13], ex := [.exit 0, .ret] } else default } else
  bif Nat.beq f 31 then { keep := fun n => bif Nat.beq n 2 then { ks := [.lf 3 (.i .i64), .lf 24 (.i .i64), .mx 2 30 [.ow 200128 46] [(2, 0)] []], ex := [.exit 0, .ret] } else bif Nat.beq n 12 then { ks := [.lf 8 (.i .i64), .mx 2 30 [.ow 200128 46] [(2, 0)] [], .mx 7 30 [.ow 200448 46] [(7, 0)] []], ex := [.exit 2] } else bif Nat.beq n 15 then { ks := [.lf 9 (.i .i64), .mx 2 30 [.ow 200128 46] [(2, 0)] [], .mx 7 30 [.ow 200448 46] [(7, 0)] []], ex := [.exit 4] } else bif Nat.beq n 18 then { ks := [.lf 10 (.i .i64), .mx 2 30 [.ow 200128 46] [(2, 0)] [], .mx 7 30 [.ow 200448 46] [(7, 0)] []], ex := [.exit 6] } else bif Nat.beq n 23 then { ks := [.ow 11 11 3, .lf 12 (.i .i64), .lf 61 (.i .i64), .mx 2 30 [.ow 200128 46] [(2, 0)] [], .mx 7 30 [.ow 200448 46] [(7, 0)] []], ex := [.exit 8] } else bif Nat.beq n 34 then { ks := [.ow 111 111 3, .lf 113 (.i .i64), .mx 2 30 [.ow 200128 46] [(2, 0)] [], .mx 7 30 [.ow 200448 46] [(7, 0)] [], .ob 19 46 [.i .i64, .i .i64, .i .i64, .i .i64, .i .i64] [(19, 0)]], ex := [.exit 10] } else default, exp := [some 30, none], hand := [2], mix := fun d => Nat.beq d 2 || Nat.beq d 7 || Nat.beq d 141 } else
  bif Nat.beq f 34 then { hand := [0, 2] } else
  bif Nat.beq f 35 then { keep := fun n => bif Nat.beq n 5 then { ks := [.lf 3 (.i .i64), .lf 14 (.i .i64), .ob 2 37 [.i .i64, .i .i64, .i .i64, .i .i64] [(2, 0)]], fz := [4], ex := [.exit 0, .ret] } else default } else
  bif Nat.beq f 36 then { keep := fun n => bif Nat.beq n 4 then { ks := [.ob 2 61 [.i .i64, .i .i64, .i .i64, .i .i64, .i .i64] [(2, 0)], .ob 4 61 [.i .i64, .i .i64, .i .i64, .i .i64, .i .i64] [(4, 0)]], ex := [.exit 0] } else bif Nat.beq n 9 then { ks := [.lf 6 (.i .i64), .lf 34 (.i .i64), .ob 2 61 [.i .i64, .i .i64, .i .i64, .i .i64, .i .i64] [(2, 0)], .ob 4 61 [.i .i64, .i .i64, .i .i64, .i .i64, .i .i64] [(4, 0)]], ex := [.exit 2] } else default } else
  bif Nat.beq f 37 then { keep := fun n => bif Nat.beq n 7 then { ks := [.lf 2 (.i .i64), .lf 4 (.i .i64)], ex := [.exit 1, .ret] } else default, hand := [2] } else
  bif Nat.beq f 38 then { own := fun d => Nat.beq d 2, keep := fun n => bif Nat.beq n 3 then { ks := [.lf 5 (.i .i64), .lf 10 (.i .i64), .ob 2 46 [.i .i64, .i .i64, .i .i64, .i .i64, .i .i64] [(2, 0)], .ob 4 46 [.i .i64, .i .i64, .i .i64, .i .i64, .i .i64] [(4, 0)]], ex := [.exit 0] } else default, hand := [0, 2] } else
  bif Nat.beq f 39 then { hand := [1, 0] } else
  bif Nat.beq f 40 then { bar := fun d => Nat.beq d 9 || Nat.beq d 14 || Nat.beq d 19 || Nat.beq d 21 || Nat.beq d 3000010 || Nat.beq d 3000011 || Nat.beq d 3000012 || Nat.beq d 3000013 || Nat.beq d 3000015 || Nat.beq d 3000016 || Nat.beq d 3000017 || Nat.beq d 3000018 } else
  bif Nat.beq f 41 then { hand := [2, 0] } else
  bif Nat.beq f 46 then { keep := fun n => bif Nat.beq n 3 then { ks := [.lf 9 (.i .i64), .lf 10 (.i .i64)], ex := [.exit 0] } else default, hand := [2, 0, 0] } else
  bif Nat.beq f 48 then { loud := fun d => Nat.beq d 1000024 || Nat.beq d 1000025, lh := [3], bar := fun d => Nat.beq d 1000012 || Nat.beq d 1000013 || Nat.beq d 1000018 || Nat.beq d 1000019 || Nat.beq d 1000024 || Nat.beq d 1000025 || Nat.beq d 1000026 } else
  bif Nat.beq f 49 then { loud := fun d => Nat.beq d 1000004, lh := [4], bar := fun d => Nat.beq d 1000028 } else
  bif Nat.beq f 51 then { keep := fun n => bif Nat.beq n 3 then { ks := [.lf 5 (.i .i64), .lf 6 (.i .i64)], ex := [.exit 0] } else bif Nat.beq n 9 then { ks := [.lf 5 (.i .i64), .lf 7 (.i .i64)], ex := [.exit 2] } else default } else
  bif Nat.beq f 54 then { hand := [0, 2] } else
  bif Nat.beq f 57 then { keep := fun n => bif Nat.beq n 3 then { ks := [.ow 3 3 44, .lf 4 (.i .i64), .ob 1000000 74 [.o, .i .i64] [(0, 0)]], ex := [.exit 0] } else default } else
  bif Nat.beq f 60 then { keep := fun n => bif Nat.beq n 4 then { ks := [.lf 4 .b, .lf 13 (.i .i64)], ex := [.exit 0, .ret] } else default, hand := [2, 2] } else
  bif Nat.beq f 62 then { keep := fun n => bif Nat.beq n 2 then { ks := [.lf 2 (.i .i64), .lf 3 (.i .i64)], ex := [.exit 0, .ret] } else bif Nat.beq n 8 then { ks := [.lf 2 (.i .i64), .lf 6 (.i .i64)], ex := [.exit 2, .ret] } else bif Nat.beq n 13 then { ks := [.lf 2 (.i .i64), .lf 7 (.i .i64)], ex := [.exit 4, .ret] } else default, hand := [2] } else
  bif Nat.beq f 63 then { keep := fun n => bif Nat.beq n 2 then { ks := [.lf 4 (.i .i64), .lf 5 .b, .lf 6 (.i .i64)], ex := [.exit 0, .ret] } else default, hand := [2, 0] } else
  bif Nat.beq f 65 then { keep := fun n => bif Nat.beq n 2 then { ks := [.lf 2 .b, .lf 12 (.i .i64)], ex := [.exit 0, .ret] } else default } else
  bif Nat.beq f 66 then { loud := fun d => Nat.beq d 1000021 || Nat.beq d 1000022, lh := [3], bar := fun d => Nat.beq d 1000009 || Nat.beq d 1000010 || Nat.beq d 1000015 || Nat.beq d 1000016 || Nat.beq d 1000021 || Nat.beq d 1000022 || Nat.beq d 1000023 } else
  bif Nat.beq f 72 then { hand := [2, 0] } else
  bif Nat.beq f 76 then { keep := fun n => bif Nat.beq n 5 then { ks := [.lf 3 (.i .i64), .lf 4 (.i .i64)], ex := [.exit 0] } else default, join := fun n => bif Nat.beq n 7 then some { ks := [], ex := [.normal] } else none, hand := [2] } else
  bif Nat.beq f 77 then { keep := fun n => bif Nat.beq n 5 then { ks := [.lf 3 (.i .i64), .lf 4 (.i .i64)], ex := [.exit 0] } else default, join := fun n => bif Nat.beq n 7 then some { ks := [], ex := [.normal] } else none, hand := [2] } else
  bif Nat.beq f 78 then { keep := fun n => bif Nat.beq n 2 then { ks := [.us 0 1000000 46, .lf 1 (.i .i64), .lf 2 (.i .i64), .lf 3 (.i .i64), .lf 10 .b, .lf 11 .b], ex := [.ret] } else default, join := fun n => bif Nat.beq n 39 then some { ks := [.us 0 1000000 46, .lf 3 (.i .i64)], ex := [.normal] } else bif Nat.beq n 56 then some { ks := [.us 0 1000000 46, .lf 13 (.i .i64), .lf 14 (.i .i64)], ex := [.normal] } else bif Nat.beq n 75 then some { ks := [.us 0 1000000 46], ex := [.ret, .normal] } else none, hand := [1, 0, 0, 0, 0] } else
  bif Nat.beq f 80 then { keep := fun n => bif Nat.beq n 3 then { ks := [.lf 2 (.i .i64), .lf 8 (.i .i64)], ex := [.exit 0, .ret] } else default, hand := [2] } else
  bif Nat.beq f 82 then { keep := fun n => bif Nat.beq n 2 then { ks := [.lf 4 (.i .i64), .lf 8 (.i .i64)], ex := [.exit 0, .ret] } else default, hand := [2, 0] } else
  bif Nat.beq f 86 then { join := fun n => bif Nat.beq n 33 then some { ks := [.lf 33 .b, .ob 4 44 [.i .i64, .i .i64] [(4, 0)], .ob 5 101 [.s, .i .i64, .i .i64, .i .i64] [(5, 0)], .ob 7 44 [.i .i64, .i .i64] [(7, 0)], .ob 1000000 74 [.o, .i .i64] [(0, 0)]], ex := [.normal] } else none, loud := fun d => Nat.beq d 43, lh := [1000000], bar := fun d => Nat.beq d 1000045 } else
  bif Nat.beq f 89 then { keep := fun n => bif Nat.beq n 2 then { ks := [.lf 4 (.i .i64), .lf 8 (.i .i64)], ex := [.exit 0, .ret] } else default, hand := [2, 0] } else
  bif Nat.beq f 90 then { keep := fun n => bif Nat.beq n 1 then { ks := [.us 0 1000000 46, .lf 8 (.i .i64)], ex := [.exit 0] } else bif Nat.beq n 4 then { ks := [.us 0 1000000 46, .lf 9 (.i .i64)], ex := [.exit 2] } else default, hand := [1, 0, 0, 0] } else
  bif Nat.beq f 91 then { keep := fun n => bif Nat.beq n 4 then { ks := [.us 0 1000000 46, .lf 11 (.i .i64)], ex := [.exit 0] } else bif Nat.beq n 8 then { ks := [.us 0 1000000 46, .lf 12 (.i .i64)], ex := [.exit 2] } else default, hand := [1, 0, 0, 0] } else
  bif Nat.beq f 92 then { keep := fun n => bif Nat.beq n 5 then { ks := [.us 0 1000000 46, .lf 11 (.i .i64)], fz := [9], ex := [.exit 0] } else default, join := fun n => bif Nat.beq n 45 then some { ks := [.us 0 1000000 46, .lf 12 (.i .i64)], ex := [.normal] } else none, hand := [1, 0, 0, 0] } else
  bif Nat.beq f 93 then { join := fun n => bif Nat.beq n 34 then some { ks := [.lf 13 (.i .i64), .ob 11 3 [.i .i64] [(11, 0)]], ex := [.normal] } else bif Nat.beq n 36 then some { ks := [.lf 12 (.i .i64), .lf 13 (.i .i64), .lf 14 (.i .i64), .ob 11 3 [.i .i64] [(11, 0)]], ex := [.normal] } else none, hand := [2, 0, 0, 0] } else
  bif Nat.beq f 94 then { keep := fun n => bif Nat.beq n 2 then { ks := [.us 0 1000000 46, .lf 8 (.i .i64), .lf 9 (.i .i64)], ex := [.exit 0] } else default, hand := [1, 0, 0, 0] } else
  bif Nat.beq f 95 then { keep := fun n => bif Nat.beq n 3 then { ks := [.us 0 1000000 46, .lf 8 .b, .lf 9 (.i .i64), .lf 10 (.i .i64)], ex := [.exit 0, .ret] } else bif Nat.beq n 5 then { ks := [.us 0 1000000 46, .lf 9 (.i .i64)], ex := [.exit 2] } else bif Nat.beq n 14 then { ks := [.us 0 1000000 46, .lf 11 (.i .i64)], ex := [.exit 4] } else bif Nat.beq n 20 then { ks := [.us 0 1000000 46, .lf 12 (.i .i64)], ex := [.exit 6] } else default, join := fun n => bif Nat.beq n 65 then some { ks := [.us 0 1000000 46], ex := [.normal] } else none, hand := [1, 0, 0, 0] } else
  bif Nat.beq f 96 then { keep := fun n => bif Nat.beq n 3 then { ks := [.us 0 1000000 46, .lf 11 (.i .i64)], ex := [.exit 2] } else bif Nat.beq n 5 then { ks := [.us 0 1000000 46, .lf 12 (.i .i64)], ex := [.exit 4] } else bif Nat.beq n 100003 then { ks := [.us 0 1000000 46, .lf 11 (.i .i64), .lf 12 (.i .i64)], ex := [.exit 0] } else default, hand := [1, 0, 0, 0, 0] } else
  bif Nat.beq f 97 then { keep := fun n => bif Nat.beq n 3 then { ks := [.us 0 1000000 46, .lf 12 (.i .i64)], ex := [.exit 0] } else bif Nat.beq n 5 then { ks := [.us 0 1000000 46, .lf 13 (.i .i64)], ex := [.exit 2] } else bif Nat.beq n 13 then { ks := [.us 0 1000000 46, .lf 12 (.i .i64)], ex := [.exit 6] } else bif Nat.beq n 15 then { ks := [.us 0 1000000 46, .lf 13 (.i .i64)], ex := [.exit 8] } else bif Nat.beq n 100013 then { ks := [.us 0 1000000 46, .lf 12 (.i .i64), .lf 13 (.i .i64)], ex := [.exit 4] } else default, hand := [1, 0, 0, 0, 0] } else
  bif Nat.beq f 98 then { join := fun n => bif Nat.beq n 4 then some { ks := [.lf 0 (.i .u32), .lf 2 (.i .i64)], ex := [.normal] } else none } else
  bif Nat.beq f 99 then { join := fun n => bif Nat.beq n 4 then some { ks := [.lf 0 (.i .u64), .lf 2 (.i .i64)], ex := [.normal] } else bif Nat.beq n 8 then some { ks := [.lf 0 (.i .u64), .lf 2 (.i .i64)], ex := [.normal] } else none } else
  bif Nat.beq f 101 then { keep := fun n => bif Nat.beq n 1 then { ks := [.us 0 1000000 46, .lf 10 (.i .i64)], ex := [.exit 0, .ret] } else default, join := fun n => bif Nat.beq n 40 then some { ks := [.us 0 1000000 46, .lf 11 (.i .i64)], ex := [.normal] } else none, hand := [1, 0, 0, 0, 0] } else
  bif Nat.beq f 104 then { hand := [2, 0, 0, 0] } else
  bif Nat.beq f 105 then { hand := [2, 0, 0, 0, 0, 0] } else
  bif Nat.beq f 106 then { hand := [2, 0, 0, 0, 0] } else
  {}
def kb0 : ByteArray := ⟨#[0, 1, 2, 2, 3, 3, 3, 3, 4, 4, 4, 4, 4, 4, 4, 4, 5, 5, 5, 5, 5, 5, 5, 5, 5, 5, 5, 5, 5, 5, 5, 5, 6, 6, 6, 6, 6, 6, 6, 6, 6, 6, 6, 6, 6, 6, 6, 6, 6, 6, 6, 6, 6, 6, 6, 6, 6, 6, 6, 6, 6, 6, 6, 6, 7, 7, 7, 7, 7, 7, 7, 7, 7, 7, 7, 7, 7, 7, 7, 7, 7, 7, 7, 7, 7, 7, 7, 7, 7, 7, 7, 7, 7, 7, 7, 7, 7, 7, 7, 7, 7, 7, 7, 7, 7, 7, 7, 7, 7, 7, 7, 7, 7, 7, 7, 7, 7, 7, 7, 7, 7, 7, 7, 7, 7, 7, 7, 7, 8, 8, 8, 8, 8, 8, 8, 8, 8, 8, 8, 8, 8, 8, 8, 8, 8, 8, 8, 8, 8, 8, 8, 8, 8, 8, 8, 8, 8, 8, 8, 8, 8, 8, 8, 8, 8, 8, 8, 8, 8, 8, 8, 8, 8, 8, 8, 8, 8, 8, 8, 8, 8, 8, 8, 8, 8, 8, 8, 8, 8, 8, 8, 8, 8, 8, 8, 8, 8, 8, 8, 8, 8, 8, 8, 8, 8, 8, 8, 8, 8, 8, 8, 8, 8, 8, 8, 8, 8, 8, 8, 8, 8, 8, 8, 8, 8, 8, 8, 8, 8, 8, 8, 8, 8, 8, 8, 8, 8, 8, 8, 8, 8, 8, 8, 8, 8, 8, 8, 8, 8, 8, 8, 8, 8, 8, 8, 8]⟩
noncomputable def mfd (kt : TypeId) (kc : List C) (es : List (List C × List C)) : Option (Option (Nat × List C)) := mfind Tryd.prog kt kc es 0
noncomputable def cl (fu d : Nat) (f : FuncId) (args : List V) (objs : List PM.Obj) : Option Out := callN Tryd.prog prim laid fu d f args objs
end Go.Proofs.YtmbgnpgjdhlegaaDoor
