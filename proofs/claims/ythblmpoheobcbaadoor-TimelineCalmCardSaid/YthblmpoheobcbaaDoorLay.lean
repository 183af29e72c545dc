/- The hints under which the pure machine runs this program's functions. -/
import Derived.Test.YthblmpoheobcbaaDoorJ5
import Derived.Test.YthblmpoheobcbaaDoorProg
import Derived.KernelRfl
set_option linter.unusedVariables false
set_option linter.unusedSimpArgs false
namespace Go.Proofs.YthblmpoheobcbaaDoor
open Go Go.PM
def fn_bits_Len : Nat := 56
def fn_bits_Len32 : Nat := 76
def fn_bits_Len64 : Nat := 77
def fn_cmp_Compare_int : Nat := 40
def fn_cmp_Or_int : Nat := 39
def fn_cmp_isNaN_int : Nat := 57
def fn_element_Describe : Nat := 83
def fn_element_Validate : Nat := 48
def fn_element_Validate_1 : Nat := 62
def fn_element_Validate_1_1 : Nat := 64
def fn_element_check : Nat := 65
def fn_slices_ContainsFunc_sapi_Reading_api_Reading : Nat := 63
def fn_slices_ContainsFunc_sapi_Report_api_Report : Nat := 49
def fn_slices_ContainsFunc_sint_int : Nat := 60
def fn_slices_IndexFunc_sapi_Reading_api_Reading : Nat := 82
def fn_slices_IndexFunc_sapi_Report_api_Report : Nat := 66
def fn_slices_IndexFunc_sint_int : Nat := 81
def fn_slices_SortFunc_sapi_Flag_api_Flag : Nat := 37
def fn_slices_SortFunc_stimeline_point_timeline_point : Nat := 51
def fn_slices_breakPatternsCmpFunc_api_Flag : Nat := 70
def fn_slices_breakPatternsCmpFunc_timeline_point : Nat := 86
def fn_slices_choosePivotCmpFunc_api_Flag : Nat := 71
def fn_slices_choosePivotCmpFunc_timeline_point : Nat := 87
def fn_slices_heapSortCmpFunc_api_Flag : Nat := 69
def fn_slices_heapSortCmpFunc_timeline_point : Nat := 85
def fn_slices_insertionSortCmpFunc_api_Flag : Nat := 68
def fn_slices_insertionSortCmpFunc_timeline_point : Nat := 84
def fn_slices_medianAdjacentCmpFunc_api_Flag : Nat := 95
def fn_slices_medianAdjacentCmpFunc_timeline_point : Nat := 99
def fn_slices_medianCmpFunc_api_Flag : Nat := 96
def fn_slices_medianCmpFunc_timeline_point : Nat := 100
def fn_slices_nextPowerOfTwo : Nat := 93
def fn_slices_order2CmpFunc_api_Flag : Nat := 101
def fn_slices_order2CmpFunc_timeline_point : Nat := 102
def fn_slices_partialInsertionSortCmpFunc_api_Flag : Nat := 73
def fn_slices_partialInsertionSortCmpFunc_timeline_point : Nat := 89
def fn_slices_partitionCmpFunc_api_Flag : Nat := 75
def fn_slices_partitionCmpFunc_timeline_point : Nat := 91
def fn_slices_partitionEqualCmpFunc_api_Flag : Nat := 74
def fn_slices_partitionEqualCmpFunc_timeline_point : Nat := 90
def fn_slices_pdqsortCmpFunc_api_Flag : Nat := 55
def fn_slices_pdqsortCmpFunc_timeline_point : Nat := 67
def fn_slices_reverseRangeCmpFunc_api_Flag : Nat := 72
def fn_slices_reverseRangeCmpFunc_timeline_point : Nat := 88
def fn_slices_siftDownCmpFunc_api_Flag : Nat := 92
def fn_slices_siftDownCmpFunc_timeline_point : Nat := 98
def fn_slices_xorshift_Next : Nat := 94
def fn_synopticdata_Bent : Nat := 16
def fn_synopticdata_Control : Nat := 14
def fn_synopticdata_Minute : Nat := 13
def fn_synopticdata_Place : Nat := 32
def fn_synopticdata_Series : Nat := 12
def fn_synopticdata_Small : Nat := 26
def fn_synopticdata_SmallAll : Nat := 9
def fn_synopticdata_clamp : Nat := 30
def fn_synoptickeep_Mod : Nat := 22
def fn_synoptickeep_New : Nat := 11
def fn_synoptickeep_Src_N : Nat := 15
def fn_synoptickeep_Src_Order : Nat := 20
def fn_synoptickeep_Src_Pick : Nat := 29
def fn_synoptickeep_Src_Range : Nat := 23
def fn_synoptickeep_Src_Raw : Nat := 31
def fn_synoptickeep_Src_Text : Nat := 28
def fn_synopticlaw16_TimelineAnswers : Nat := 3
def fn_synopticlaw16_TimelineCalm : Nat := 5
def fn_synopticlaw16_TimelineElements : Nat := 8
def fn_synopticlaw16_TimelineOrder : Nat := 4
def fn_synopticlaw16_TimelineShifted : Nat := 7
def fn_synopticlaw16_TimelineSpike : Nat := 6
def fn_synopticlaw16_awake : Nat := 10
def fn_synopticlaw16_has : Nat := 21
def fn_synopticlaw16_three : Nat := 27
def fn_synopticref01_In : Nat := 41
def fn_synopticref02_Addresses : Nat := 59
def fn_synopticref02_Corners : Nat := 97
def fn_synopticref02_Normal : Nat := 46
def fn_synopticref02_On : Nat := 80
def fn_synopticref02_Valid : Nat := 78
def fn_synopticref02_Weights : Nat := 79
def fn_synopticref04_Describe : Nat := 44
def fn_synopticref04_Find : Nat := 24
def fn_synopticref04_Validate : Nat := 25
def fn_synopticref04_in : Nat := 45
def fn_synopticref16_Check : Nat := 18
def fn_synopticref16_Flags : Nat := 19
def fn_synopticref16_line : Nat := 42
def fn_synopticref16_rejected : Nat := 43
def fn_synopticref16_slow : Nat := 58
def fn_timeline_Check : Nat := 17
def fn_timeline_Check_1 : Nat := 38
def fn_timeline_examine : Nat := 33
def fn_timeline_examine_1 : Nat := 50
def fn_timeline_lines : Nat := 34
def fn_timeline_lines_1 : Nat := 52
def fn_timeline_possible : Nat := 47
def fn_timeline_possible_1 : Nat := 61
def fn_timeline_size : Nat := 54
def fn_timeline_slow : Nat := 53
def fn_timeline_spike : Nat := 36
def fn_timeline_steps : Nat := 35
def ty_api_Flag : Nat := 51
def ty_int : Nat := 3
def ty_slices_xorshift : Nat := 144
def ty_stimeline_point : Nat := 76
def ty_synoptickeep_Src : Nat := 65
def ty_timeline_moment : Nat := 104
def ty_timeline_point : Nat := 80
def ty_timeline_subject : Nat := 75
def gl_element_bounds : List C := [.v (.int .i64 8000), .v (.int .i64 11000), .v (.int .i64 1800), .v (.int .i64 3300), .v (.int .i64 1800), .v (.int .i64 3300), .v (.int .i64 (-1000)), .v (.int .i64 1000), .v (.int .i64 (-1000)), .v (.int .i64 1000), .v (.int .i64 900), .v (.int .i64 1700), .v (.int .i64 2000), .v (.int .i64 3200), .v (.int .i64 2400), .v (.int .i64 3400), .v (.int .i64 2000), .v (.int .i64 3000), .v (.int .i64 4400), .v (.int .i64 6200), .v (.int .i64 2000), .v (.int .i64 2900)]
def globs : Nat → Option (List C) := fun g => bif Nat.beq g 0 then some gl_element_bounds else none
def primfn : FuncId → Option (List V → List PM.Obj → Option Out) := fun f => bif Nat.beq f fn_slices_SortFunc_sapi_Flag_api_Flag then some (sortFuncP 51 3 38 (lexZ [0, 1])) else bif Nat.beq f fn_slices_SortFunc_stimeline_point_timeline_point then some (sortFuncP 80 3 52 (lexZ [1])) else none
def prim : Prims := { fn := primfn, iter := fun _ _ _ => none, glob := globs }
noncomputable def laid : FuncId → Laid := fun f =>
  bif Nat.beq f 3 then { own := fun d => Nat.beq d 32, keep := fun n => bif Nat.beq n 16 then { ks := [.lf 6 .b, .lf 74 (.i .i64)], fz := [9], ex := [.exit 1, .ret] } else bif Nat.beq n 19 then { ks := [.lf 6 .b, .lf 82 (.i .i64)], ex := [.exit 3, .ret] } else default, join := fun n => bif Nat.beq n 37 then some { ks := [.ow 10 10 39, .oo 9 25 [(9, 0)]], ex := [.normal] } else bif Nat.beq n 48 then some { ks := [.ow 10 10 39, .oo 9 25 [(9, 0)]], ex := [.normal] } else bif Nat.beq n 59 then some { ks := [.ow 10 10 39, .oo 9 25 [(9, 0)]], ex := [.normal] } else none, hand := [2, 0, 2] } else
  bif Nat.beq f 4 then { keep := fun n => bif Nat.beq n 8 then { ks := [.ow 7 7 39, .lf 40 (.i .i64)], fz := [5], ex := [.exit 0] } else bif Nat.beq n 13 then { ks := [.ow 8 8 39, .ow 9 9 3, .lf 54 (.i .i64)], fz := [7], ex := [.exit 2] } else bif Nat.beq n 24 then { ks := [.lf 2 .b, .lf 112 (.i .i64)], fz := [9], ex := [.exit 4, .ret] } else bif Nat.beq n 31 then { ks := [.lf 21 (.i .i64), .lf 144 (.i .i64)], ex := [.exit 6] } else bif Nat.beq n 37 then { ks := [.lf 2 .b, .lf 160 (.i .i64)], ex := [.exit 8, .ret] } else default, hand := [2], bar := fun d => Nat.beq d 138 || Nat.beq d 186 } else
  bif Nat.beq f 5 then { keep := fun n => bif Nat.beq n 5 then { ks := [.lf 8 (.i .i64), .oo 7 25 [(7, 0)], .ob 24 65 [.o, .i .i64] [(5, 0)]], ex := [.exit 0] } else bif Nat.beq n 11 then { ks := [.ow 9 9 39, .lf 10 (.i .i64), .lf 11 (.i .i64), .lf 12 (.i .i64), .oo 7 25 [(7, 0)], .ob 24 65 [.o, .i .i64] [(5, 0)]], ex := [.exit 2] } else bif Nat.beq n 22 then { ks := [.lf 18 (.i .i64), .oo 7 25 [(7, 0)], .ob 24 65 [.o, .i .i64] [(5, 0)]], fz := [9], ex := [.exit 4] } else bif Nat.beq n 27 then { ks := [.lf 4 .b, .lf 117 (.i .i64)], ex := [.exit 6, .ret] } else default, hand := [2, 0] } else
  bif Nat.beq f 6 then { keep := fun n => bif Nat.beq n 7 then { ks := [.ow 7 7 39, .lf 9 (.i .i64), .ob 17 65 [.o, .i .i64] [(5, 0)]], fz := [6], ex := [.exit 0] } else default, hand := [2, 0] } else
  bif Nat.beq f 7 then { keep := fun n => bif Nat.beq n 7 then { ks := [.lf 6 .b, .ow 12 12 39, .lf 35 (.i .i64)], fz := [9], ex := [.exit 0, .ret] } else bif Nat.beq n 13 then { ks := [.ow 12 12 39, .lf 49 (.i .i64), .mx 15 39 [.lf (.i .i64), .lf .s, .lf (.i .i64), .lf (.i .i64), .lf (.i .i64), .lf (.i .i64), .lf (.i .i64), .ow 200967 56] [(15, 0)]], ex := [.exit 2] } else default, hand := [2, 0, 0], mix := fun d => Nat.beq d 15 } else
  bif Nat.beq f 8 then { keep := fun n => bif Nat.beq n 7 then { ks := [.ow 9 9 39, .lf 32 (.i .i64)], fz := [7], ex := [.exit 0] } else bif Nat.beq n 19 then { ks := [.ow 18 18 51, .lf 69 (.i .i64)], ex := [.exit 2] } else default, hand := [2, 0] } else
  bif Nat.beq f 9 then { keep := fun n => bif Nat.beq n 4 then { ks := [.lf 4 .b, .lf 5 (.i .i64)], ex := [.exit 0, .ret] } else default, hand := [2, 0] } else
  bif Nat.beq f 10 then { bar := fun d => Nat.beq d 11 || Nat.beq d 17 } else
  bif Nat.beq f 11 then { own := fun d => Nat.beq d 9, exp := [some 65], hand := [2] } else
  bif Nat.beq f 12 then { keep := fun n => bif Nat.beq n 5 then { ks := [.ow 7 7 39, .lf 9 (.i .i64), .lf 10 (.i .i64), .oo 8 23 [(8, 0)], .ob 1000000 65 [.o, .i .i64] [(0, 0)]], ex := [.exit 0] } else bif Nat.beq n 10 then { ks := [.ow 7 7 39, .lf 12 (.i .i64), .oo 8 23 [(8, 0)], .mx 11 39 [.lf (.i .i64), .lf .s, .lf (.i .i64), .lf (.i .i64), .lf (.i .i64), .lf (.i .i64), .lf (.i .i64), .ow 200711 56] [(11, 0)], .ob 1000000 65 [.o, .i .i64] [(0, 0)]], ex := [.exit 2] } else default, join := fun n => bif Nat.beq n 47 then some { ks := [.ow 7 7 39, .lf 13 (.i .i64), .oo 8 23 [(8, 0)], .mx 11 39 [.lf (.i .i64), .lf .s, .lf (.i .i64), .lf (.i .i64), .lf (.i .i64), .lf (.i .i64), .lf (.i .i64), .ow 200711 56] [(11, 0)], .ob 1000000 65 [.o, .i .i64] [(0, 0)]], ex := [.normal] } else bif Nat.beq n 56 then some { ks := [.ow 7 7 39, .lf 13 (.i .i64), .oo 8 23 [(8, 0)], .mx 11 39 [.lf (.i .i64), .lf .s, .lf (.i .i64), .lf (.i .i64), .lf (.i .i64), .lf (.i .i64), .lf (.i .i64), .ow 200711 56] [(11, 0)], .ob 1000000 65 [.o, .i .i64] [(0, 0)]], ex := [.normal] } else bif Nat.beq n 62 then some { ks := [.ow 7 7 39, .lf 13 (.i .i64), .oo 8 23 [(8, 0)], .mx 11 39 [.lf (.i .i64), .lf .s, .lf (.i .i64), .lf (.i .i64), .lf (.i .i64), .lf (.i .i64), .lf (.i .i64), .ow 200711 56] [(11, 0)], .ob 1000000 65 [.o, .i .i64] [(0, 0)]], ex := [.normal] } else none, bar := fun d => Nat.beq d 80, mix := fun d => Nat.beq d 11 } else
  bif Nat.beq f 14 then { keep := fun n => bif Nat.beq n 3 then { ks := [.lf 4 (.i .i64), .oo 2 25 [(2, 0)], .oo 3 25 [(3, 0)], .ob 1000000 65 [.o, .i .i64] [(0, 0)]], ex := [.exit 0] } else default } else
  bif Nat.beq f 16 then { own := fun d => Nat.beq d 3 || Nat.beq d 5, loud := fun d => Nat.beq d 55 || Nat.beq d 57 || Nat.beq d 74 || Nat.beq d 77, lh := [1000000], bar := fun d => Nat.beq d 60 || Nat.beq d 1000061 || Nat.beq d 1000071 || Nat.beq d 1000072 || Nat.beq d 1000073 || Nat.beq d 1000078 || Nat.beq d 1000079, mix := fun d => Nat.beq d 3 } else
  bif Nat.beq f 17 then { keep := fun n => bif Nat.beq n 6 then { ks := [.ow 7 7 51], ex := [.exit 0], sh := [.a [.s, .i .i64], .s .o], rm := some 23 } else bif Nat.beq n 14 then { ks := [.ow 7 7 51, .lf 49 (.i .i64), .ob 8 75 [.s, .i .i64] [(8, 0)]], ex := [.exit 2] } else default, join := fun n => bif Nat.beq n 38 then some { ks := [.ow 7 7 51, .lf 10 .o, .ob 8 75 [.s, .i .i64] [(8, 0)]], fz := [10], ex := [.normal] } else none, hand := [2, 0], bar := fun d => Nat.beq d 85 } else
  bif Nat.beq f 18 then { keep := fun n => bif Nat.beq n 2 then { ks := [.ow 4 4 51, .lf 5 (.i .i64), .lf 6 (.i .i64)], ex := [.exit 0, .ret] } else bif Nat.beq n 7 then { ks := [.ow 4 4 51, .lf 5 (.i .i64), .lf 54 (.i .i64)], ex := [.exit 2, .ret] } else bif Nat.beq n 14 then { ks := [.ow 4 4 51, .lf 5 (.i .i64), .lf 67 (.i .i64)], ex := [.exit 4, .ret] } else bif Nat.beq n 20 then { ks := [.ow 4 4 51, .lf 5 (.i .i64), .lf 78 (.i .i64)], ex := [.exit 6, .ret] } else bif Nat.beq n 23 then { ks := [.ow 4 4 51, .lf 5 (.i .i64), .lf 13 (.i .i64)], ex := [.exit 8, .ret] } else bif Nat.beq n 30 then { ks := [.ow 14 14 51, .lf 113 (.i .i64)], ex := [.exit 10] } else bif Nat.beq n 33 then { ks := [.ow 14 14 51, .lf 121 (.i .i64), .ob 16 39 [.i .i64, .s, .i .i64, .i .i64, .i .i64, .i .i64, .i .i64, .o] [(16, 0)]], ex := [.exit 12] } else bif Nat.beq n 38 then { ks := [.ow 14 14 51, .lf 145 (.i .i64), .ob 16 39 [.i .i64, .s, .i .i64, .i .i64, .i .i64, .i .i64, .i .i64, .o] [(16, 0)], .ob 18 56 [.i .i64, .i .i64] [(18, 0)]], ex := [.exit 14] } else default, hand := [2, 0], bar := fun d => Nat.beq d 142 } else
  bif Nat.beq f 19 then { keep := fun n => bif Nat.beq n 4 then { ks := [.lf 4 .b, .lf 5 (.i .i64)], ex := [.exit 0, .ret] } else default, hand := [2, 2] } else
  bif Nat.beq f 20 then { own := fun d => Nat.beq d 20 || Nat.beq d 30, keep := fun n => bif Nat.beq n 3 then { ks := [.ow 5 5 3, .lf 6 (.i .i64), .ob 1000000 65 [.o, .i .i64] [(0, 0)]], ex := [.exit 0] } else default } else
  bif Nat.beq f 21 then { keep := fun n => bif Nat.beq n 2 then { ks := [.lf 4 .b, .lf 9 (.i .i64)], ex := [.exit 0, .ret] } else default, hand := [2, 0] } else
  bif Nat.beq f 24 then { keep := fun n => bif Nat.beq n 2 then { ks := [.lf 4 (.i .i64), .lf 5 .b, .lf 6 (.i .i64)], ex := [.exit 0, .ret] } else default, hand := [2, 0] } else
  bif Nat.beq f 25 then { keep := fun n => bif Nat.beq n 2 then { ks := [.lf 2 (.i .i64), .lf 3 (.i .i64)], ex := [.exit 0, .ret] } else bif Nat.beq n 8 then { ks := [.lf 2 (.i .i64), .lf 6 (.i .i64)], ex := [.exit 2, .ret] } else bif Nat.beq n 13 then { ks := [.lf 2 (.i .i64), .lf 7 (.i .i64)], ex := [.exit 4, .ret] } else default, hand := [2] } else
  bif Nat.beq f 27 then { keep := fun n => bif Nat.beq n 3 then { ks := [.ow 7 7 39, .lf 15 (.i .i64)], ex := [.exit 0] } else default } else
  bif Nat.beq f 28 then { hand := [0, 2] } else
  bif Nat.beq f 29 then { hand := [0, 2] } else
  bif Nat.beq f 32 then { join := fun n => bif Nat.beq n 13 then some { ks := [.ob 2 36 [.i .i64, .i .i64, .i .i64, .i .i64] [(2, 0)], .ob 3 36 [.i .i64, .i .i64, .i .i64, .i .i64] [(3, 0)], .ob 1000000 65 [.o, .i .i64] [(0, 0)]], ex := [.normal] } else bif Nat.beq n 19 then some { ks := [.ob 2 36 [.i .i64, .i .i64, .i .i64, .i .i64] [(2, 0)], .ob 3 36 [.i .i64, .i .i64, .i .i64, .i .i64] [(3, 0)], .ob 1000000 65 [.o, .i .i64] [(0, 0)]], ex := [.normal] } else bif Nat.beq n 34 then some { ks := [.ob 2 36 [.i .i64, .i .i64, .i .i64, .i .i64] [(2, 0)], .ob 3 36 [.i .i64, .i .i64, .i .i64, .i .i64] [(3, 0)], .ob 1000000 65 [.o, .i .i64] []], ex := [.normal] } else none } else
  bif Nat.beq f 33 then { keep := fun n => bif Nat.beq n 4 then { ks := [.lf 4 (.i .i64), .lf 23 (.i .i64)], ex := [.exit 0, .ret] } else bif Nat.beq n 14 then { ks := [.lf 39 (.i .i64), .mp 36 104 4 [8]], ex := [.exit 2] } else default, hand := [2, 0] } else
  bif Nat.beq f 34 then { own := fun d => Nat.beq d 11 || Nat.beq d 47, keep := fun n => bif Nat.beq n 3 then { ks := [.lf 14 (.i .i64), .mr 11 75 76 80 [3]], ex := [.exit 0] } else bif Nat.beq n 6 then { ks := [.lf 22 (.i .i64), .ob 5 39 [.i .i64, .s, .i .i64, .i .i64, .i .i64, .i .i64, .i .i64, .o] [(5, 0)], .mr 11 75 76 80 [3]], ex := [.exit 2] } else bif Nat.beq n 13 then { ks := [.mr 11 75 76 80 [3]], ex := [.exit 4], sh := [.a [.s, .i .i64], .s .o], rm := some 47 } else default, hand := [2] } else
  bif Nat.beq f 35 then { keep := fun n => bif Nat.beq n 4 then { ks := [.ow 5 5 4, .lf 6 (.i .i64), .lf 7 (.i .i64)], ex := [.exit 0] } else default, hand := [2, 0], bar := fun d => Nat.beq d 26 || Nat.beq d 44 } else
  bif Nat.beq f 37 then { hand := [1, 0] } else
  bif Nat.beq f 38 then { bar := fun d => Nat.beq d 14 || Nat.beq d 16 } else
  bif Nat.beq f 39 then { keep := fun n => bif Nat.beq n 3 then { ks := [.lf 2 (.i .i64), .lf 8 (.i .i64)], ex := [.exit 0, .ret] } else default, hand := [2] } else
  bif Nat.beq f 42 then { own := fun d => Nat.beq d 67, keep := fun n => bif Nat.beq n 3 then { ks := [.ow 7 7 90, .lf 16 (.i .i64)], ex := [.exit 0] } else bif Nat.beq n 8 then { ks := [.ow 7 7 90, .lf 12 (.i .i64), .ob 9 39 [.i .i64, .s, .i .i64, .i .i64, .i .i64, .i .i64, .i .i64, .o] [(9, 0)]], ex := [.exit 2] } else default, hand := [2, 0, 0], bar := fun d => Nat.beq d 61, mix := fun d => Nat.beq d 57 } else
  bif Nat.beq f 43 then { keep := fun n => bif Nat.beq n 4 then { ks := [.ow 7 7 4, .lf 8 (.i .i64), .lf 9 (.i .i64)], ex := [.exit 0] } else bif Nat.beq n 10 then { ks := [.ow 7 7 4, .lf 10 (.i .i64)], ex := [.exit 2] } else default, hand := [2, 0, 0], bar := fun d => Nat.beq d 36 || Nat.beq d 54 } else
  bif Nat.beq f 48 then { keep := fun n => bif Nat.beq n 7 then { ks := [.lf 2 (.i .i64), .lf 4 (.i .i64)], ex := [.exit 1, .ret] } else default, hand := [2] } else
  bif Nat.beq f 49 then { hand := [2, 0] } else
  bif Nat.beq f 51 then { hand := [1, 0] } else
  bif Nat.beq f 55 then { keep := fun n => bif Nat.beq n 2 then { ks := [.us 0 1000000 51, .lf 1 (.i .i64), .lf 2 (.i .i64), .lf 3 (.i .i64), .lf 10 .b, .lf 11 .b], ex := [.ret] } else default, join := fun n => bif Nat.beq n 39 then some { ks := [.us 0 1000000 51, .lf 3 (.i .i64)], ex := [.normal] } else bif Nat.beq n 56 then some { ks := [.us 0 1000000 51, .lf 13 (.i .i64), .lf 14 (.i .i64)], ex := [.normal] } else bif Nat.beq n 75 then some { ks := [.us 0 1000000 51], ex := [.ret, .normal] } else none, hand := [1, 0, 0, 0, 0] } else
  bif Nat.beq f 59 then { keep := fun n => bif Nat.beq n 6 then { ks := [.ow 5 5 36, .lf 6 (.i .i64)], fz := [4], ex := [.exit 0] } else default } else
  bif Nat.beq f 60 then { hand := [2, 0] } else
  bif Nat.beq f 63 then { hand := [2, 0] } else
  bif Nat.beq f 66 then { keep := fun n => bif Nat.beq n 2 then { ks := [.lf 4 (.i .i64), .lf 8 (.i .i64)], ex := [.exit 0, .ret] } else default, hand := [2, 0] } else
  bif Nat.beq f 67 then { keep := fun n => bif Nat.beq n 2 then { ks := [.us 0 1000000 80, .lf 1 (.i .i64), .lf 2 (.i .i64), .lf 3 (.i .i64), .lf 10 .b, .lf 11 .b], ex := [.ret] } else default, join := fun n => bif Nat.beq n 39 then some { ks := [.us 0 1000000 80, .lf 3 (.i .i64)], ex := [.normal] } else bif Nat.beq n 56 then some { ks := [.us 0 1000000 80, .lf 13 (.i .i64), .lf 14 (.i .i64)], ex := [.normal] } else bif Nat.beq n 75 then some { ks := [.us 0 1000000 80], ex := [.ret, .normal] } else none, hand := [1, 0, 0, 0, 0] } else
  bif Nat.beq f 68 then { keep := fun n => bif Nat.beq n 1 then { ks := [.us 0 1000000 51, .lf 8 (.i .i64)], ex := [.exit 0] } else bif Nat.beq n 4 then { ks := [.us 0 1000000 51, .lf 9 (.i .i64)], ex := [.exit 2] } else default, hand := [1, 0, 0, 0] } else
  bif Nat.beq f 69 then { keep := fun n => bif Nat.beq n 4 then { ks := [.us 0 1000000 51, .lf 11 (.i .i64)], ex := [.exit 0] } else bif Nat.beq n 8 then { ks := [.us 0 1000000 51, .lf 12 (.i .i64)], ex := [.exit 2] } else default, hand := [1, 0, 0, 0] } else
  bif Nat.beq f 70 then { keep := fun n => bif Nat.beq n 5 then { ks := [.us 0 1000000 51, .lf 11 (.i .i64)], fz := [9], ex := [.exit 0] } else default, join := fun n => bif Nat.beq n 45 then some { ks := [.us 0 1000000 51, .lf 12 (.i .i64)], ex := [.normal] } else none, hand := [1, 0, 0, 0] } else
  bif Nat.beq f 71 then { join := fun n => bif Nat.beq n 34 then some { ks := [.lf 13 (.i .i64), .ob 11 3 [.i .i64] [(11, 0)]], ex := [.normal] } else bif Nat.beq n 36 then some { ks := [.lf 12 (.i .i64), .lf 13 (.i .i64), .lf 14 (.i .i64), .ob 11 3 [.i .i64] [(11, 0)]], ex := [.normal] } else none, hand := [2, 0, 0, 0] } else
  bif Nat.beq f 72 then { keep := fun n => bif Nat.beq n 2 then { ks := [.us 0 1000000 51, .lf 8 (.i .i64), .lf 9 (.i .i64)], ex := [.exit 0] } else default, hand := [1, 0, 0, 0] } else
  bif Nat.beq f 73 then { keep := fun n => bif Nat.beq n 3 then { ks := [.us 0 1000000 51, .lf 8 .b, .lf 9 (.i .i64), .lf 10 (.i .i64)], ex := [.exit 0, .ret] } else bif Nat.beq n 5 then { ks := [.us 0 1000000 51, .lf 9 (.i .i64)], ex := [.exit 2] } else bif Nat.beq n 14 then { ks := [.us 0 1000000 51, .lf 11 (.i .i64)], ex := [.exit 4] } else bif Nat.beq n 20 then { ks := [.us 0 1000000 51, .lf 12 (.i .i64)], ex := [.exit 6] } else default, join := fun n => bif Nat.beq n 65 then some { ks := [.us 0 1000000 51], ex := [.normal] } else none, hand := [1, 0, 0, 0] } else
  bif Nat.beq f 74 then { keep := fun n => bif Nat.beq n 3 then { ks := [.us 0 1000000 51, .lf 11 (.i .i64)], ex := [.exit 2] } else bif Nat.beq n 5 then { ks := [.us 0 1000000 51, .lf 12 (.i .i64)], ex := [.exit 4] } else bif Nat.beq n 100003 then { ks := [.us 0 1000000 51, .lf 11 (.i .i64), .lf 12 (.i .i64)], ex := [.exit 0] } else default, hand := [1, 0, 0, 0, 0] } else
  bif Nat.beq f 75 then { keep := fun n => bif Nat.beq n 3 then { ks := [.us 0 1000000 51, .lf 12 (.i .i64)], ex := [.exit 0] } else bif Nat.beq n 5 then { ks := [.us 0 1000000 51, .lf 13 (.i .i64)], ex := [.exit 2] } else bif Nat.beq n 13 then { ks := [.us 0 1000000 51, .lf 12 (.i .i64)], ex := [.exit 6] } else bif Nat.beq n 15 then { ks := [.us 0 1000000 51, .lf 13 (.i .i64)], ex := [.exit 8] } else bif Nat.beq n 100013 then { ks := [.us 0 1000000 51, .lf 12 (.i .i64), .lf 13 (.i .i64)], ex := [.exit 4] } else default, hand := [1, 0, 0, 0, 0] } else
  bif Nat.beq f 76 then { join := fun n => bif Nat.beq n 4 then some { ks := [.lf 0 (.i .u32), .lf 2 (.i .i64)], ex := [.normal] } else none } else
  bif Nat.beq f 77 then { join := fun n => bif Nat.beq n 4 then some { ks := [.lf 0 (.i .u64), .lf 2 (.i .i64)], ex := [.normal] } else bif Nat.beq n 8 then some { ks := [.lf 0 (.i .u64), .lf 2 (.i .i64)], ex := [.normal] } else none } else
  bif Nat.beq f 79 then { loud := fun d => Nat.beq d 1000024 || Nat.beq d 1000025, lh := [3], bar := fun d => Nat.beq d 1000012 || Nat.beq d 1000013 || Nat.beq d 1000018 || Nat.beq d 1000019 || Nat.beq d 1000024 || Nat.beq d 1000025 || Nat.beq d 1000026 } else
  bif Nat.beq f 80 then { loud := fun d => Nat.beq d 1000004, lh := [4], bar := fun d => Nat.beq d 1000028 } else
  bif Nat.beq f 81 then { keep := fun n => bif Nat.beq n 2 then { ks := [.lf 4 (.i .i64), .lf 8 (.i .i64)], ex := [.exit 0, .ret] } else default, hand := [2, 0] } else
  bif Nat.beq f 82 then { keep := fun n => bif Nat.beq n 2 then { ks := [.lf 4 (.i .i64), .lf 8 (.i .i64)], ex := [.exit 0, .ret] } else default, hand := [2, 0] } else
  bif Nat.beq f 84 then { keep := fun n => bif Nat.beq n 1 then { ks := [.us 0 1000000 80, .lf 8 (.i .i64)], ex := [.exit 0] } else bif Nat.beq n 4 then { ks := [.us 0 1000000 80, .lf 9 (.i .i64)], ex := [.exit 2] } else default, hand := [1, 0, 0, 0] } else
  bif Nat.beq f 85 then { keep := fun n => bif Nat.beq n 4 then { ks := [.us 0 1000000 80, .lf 11 (.i .i64)], ex := [.exit 0] } else bif Nat.beq n 8 then { ks := [.us 0 1000000 80, .lf 12 (.i .i64)], ex := [.exit 2] } else default, hand := [1, 0, 0, 0] } else
  bif Nat.beq f 86 then { keep := fun n => bif Nat.beq n 5 then { ks := [.us 0 1000000 80, .lf 11 (.i .i64)], fz := [9], ex := [.exit 0] } else default, join := fun n => bif Nat.beq n 45 then some { ks := [.us 0 1000000 80, .lf 12 (.i .i64)], ex := [.normal] } else none, hand := [1, 0, 0, 0] } else
  bif Nat.beq f 87 then { join := fun n => bif Nat.beq n 34 then some { ks := [.lf 13 (.i .i64), .ob 11 3 [.i .i64] [(11, 0)]], ex := [.normal] } else bif Nat.beq n 36 then some { ks := [.lf 12 (.i .i64), .lf 13 (.i .i64), .lf 14 (.i .i64), .ob 11 3 [.i .i64] [(11, 0)]], ex := [.normal] } else none, hand := [2, 0, 0, 0] } else
  bif Nat.beq f 88 then { keep := fun n => bif Nat.beq n 2 then { ks := [.us 0 1000000 80, .lf 8 (.i .i64), .lf 9 (.i .i64)], ex := [.exit 0] } else default, hand := [1, 0, 0, 0] } else
  bif Nat.beq f 89 then { keep := fun n => bif Nat.beq n 3 then { ks := [.us 0 1000000 80, .lf 8 .b, .lf 9 (.i .i64), .lf 10 (.i .i64)], ex := [.exit 0, .ret] } else bif Nat.beq n 5 then { ks := [.us 0 1000000 80, .lf 9 (.i .i64)], ex := [.exit 2] } else bif Nat.beq n 14 then { ks := [.us 0 1000000 80, .lf 11 (.i .i64)], ex := [.exit 4] } else bif Nat.beq n 20 then { ks := [.us 0 1000000 80, .lf 12 (.i .i64)], ex := [.exit 6] } else default, join := fun n => bif Nat.beq n 65 then some { ks := [.us 0 1000000 80], ex := [.normal] } else none, hand := [1, 0, 0, 0] } else
  bif Nat.beq f 90 then { keep := fun n => bif Nat.beq n 3 then { ks := [.us 0 1000000 80, .lf 11 (.i .i64)], ex := [.exit 2] } else bif Nat.beq n 5 then { ks := [.us 0 1000000 80, .lf 12 (.i .i64)], ex := [.exit 4] } else bif Nat.beq n 100003 then { ks := [.us 0 1000000 80, .lf 11 (.i .i64), .lf 12 (.i .i64)], ex := [.exit 0] } else default, hand := [1, 0, 0, 0, 0] } else
  bif Nat.beq f 91 then { keep := fun n => bif Nat.beq n 3 then { ks := [.us 0 1000000 80, .lf 12 (.i .i64)], ex := [.exit 0] } else bif Nat.beq n 5 then { ks := [.us 0 1000000 80, .lf 13 (.i .i64)], ex := [.exit 2] } else bif Nat.beq n 13 then { ks := [.us 0 1000000 80, .lf 12 (.i .i64)], ex := [.exit 6] } else bif Nat.beq n 15 then { ks := [.us 0 1000000 80, .lf 13 (.i .i64)], ex := [.exit 8] } else bif Nat.beq n 100013 then { ks := [.us 0 1000000 80, .lf 12 (.i .i64), .lf 13 (.i .i64)], ex := [.exit 4] } else default, hand := [1, 0, 0, 0, 0] } else
  bif Nat.beq f 92 then { keep := fun n => bif Nat.beq n 1 then { ks := [.us 0 1000000 51, .lf 10 (.i .i64)], ex := [.exit 0, .ret] } else default, join := fun n => bif Nat.beq n 40 then some { ks := [.us 0 1000000 51, .lf 11 (.i .i64)], ex := [.normal] } else none, hand := [1, 0, 0, 0, 0] } else
  bif Nat.beq f 95 then { hand := [2, 0, 0, 0] } else
  bif Nat.beq f 96 then { hand := [2, 0, 0, 0, 0, 0] } else
  bif Nat.beq f 98 then { keep := fun n => bif Nat.beq n 1 then { ks := [.us 0 1000000 80, .lf 10 (.i .i64)], ex := [.exit 0, .ret] } else default, join := fun n => bif Nat.beq n 40 then some { ks := [.us 0 1000000 80, .lf 11 (.i .i64)], ex := [.normal] } else none, hand := [1, 0, 0, 0, 0] } else
  bif Nat.beq f 99 then { hand := [2, 0, 0, 0] } else
  bif Nat.beq f 100 then { hand := [2, 0, 0, 0, 0, 0] } else
  bif Nat.beq f 101 then { hand := [2, 0, 0, 0, 0] } else
  bif Nat.beq f 102 then { hand := [2, 0, 0, 0, 0] } else
  {}
def kb0 : ByteArray := ⟨#[0, 1, 2, 2, 3, 3, 3, 3, 4, 4, 4, 4, 4, 4, 4, 4, 5, 5, 5, 5, 5, 5, 5, 5, 5, 5, 5, 5, 5, 5, 5, 5, 6, 6, 6, 6, 6, 6, 6, 6, 6, 6, 6, 6, 6, 6, 6, 6, 6, 6, 6, 6, 6, 6, 6, 6, 6, 6, 6, 6, 6, 6, 6, 6, 7, 7, 7, 7, 7, 7, 7, 7, 7, 7, 7, 7, 7, 7, 7, 7, 7, 7, 7, 7, 7, 7, 7, 7, 7, 7, 7, 7, 7, 7, 7, 7, 7, 7, 7, 7, 7, 7, 7, 7, 7, 7, 7, 7, 7, 7, 7, 7, 7, 7, 7, 7, 7, 7, 7, 7, 7, 7, 7, 7, 7, 7, 7, 7, 8, 8, 8, 8, 8, 8, 8, 8, 8, 8, 8, 8, 8, 8, 8, 8, 8, 8, 8, 8, 8, 8, 8, 8, 8, 8, 8, 8, 8, 8, 8, 8, 8, 8, 8, 8, 8, 8, 8, 8, 8, 8, 8, 8, 8, 8, 8, 8, 8, 8, 8, 8, 8, 8, 8, 8, 8, 8, 8, 8, 8, 8, 8, 8, 8, 8, 8, 8, 8, 8, 8, 8, 8, 8, 8, 8, 8, 8, 8, 8, 8, 8, 8, 8, 8, 8, 8, 8, 8, 8, 8, 8, 8, 8, 8, 8, 8, 8, 8, 8, 8, 8, 8, 8, 8, 8, 8, 8, 8, 8, 8, 8, 8, 8, 8, 8, 8, 8, 8, 8, 8, 8, 8, 8, 8, 8, 8, 8]⟩
noncomputable def mfd (kt : TypeId) (kc : List C) (es : List (List C × List C)) : Option (Option (Nat × List C)) := mfind Tryd.prog kt kc es 0
noncomputable def cl (fu d : Nat) (f : FuncId) (args : List V) (objs : List PM.Obj) : Option Out := callN Tryd.prog prim laid fu d f args objs
end Go.Proofs.YthblmpoheobcbaaDoor
