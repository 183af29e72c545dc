/- The hints under which the pure machine runs this program's functions. -/
import Derived.Test.YtofalpngdbinbaaJ5
import Derived.Test.YtofalpngdbinbaaProg
import Derived.KernelRfl
set_option linter.unusedVariables false
set_option linter.unusedSimpArgs false
namespace Go.Proofs.Ytofalpngdbinbaa
open Go Go.PM
def fn_bits_Len : Nat := 72
def fn_bits_Len32 : Nat := 84
def fn_bits_Len64 : Nat := 85
def fn_blacklist_Listed : Nat := 20
def fn_blacklist_Push : Nat := 13
def fn_blacklist_Same : Nat := 28
def fn_blacklist_Same_1 : Nat := 57
def fn_blacklist_Validate : Nat := 27
def fn_blacklist_Validate_1 : Nat := 44
def fn_blacklist_Validate_2 : Nat := 45
def fn_blacklist_Validate_3 : Nat := 48
def fn_blacklist_Validate_4 : Nat := 50
def fn_blacklist_Validate_5 : Nat := 53
def fn_blacklist_ascending : Nat := 52
def fn_blacklist_copied : Nat := 31
def fn_blacklist_names : Nat := 54
def fn_blacklist_percent : Nat := 30
def fn_blacklist_some : Nat := 47
def fn_blacklist_some_1 : Nat := 67
def fn_blacklist_sums : Nat := 33
def fn_blacklist_valid : Nat := 51
def fn_cmp_Less_string : Nat := 81
def fn_cmp_isNaN_string : Nat := 92
def fn_group_Name : Nat := 46
def fn_group_Name_1 : Nat := 66
def fn_maps_Keys_map_string_api_Count_string_api_Count : Nat := 35
def fn_slices_AppendSeq_sstring_string : Nat := 70
def fn_slices_Clone_sapi_Count_api_Count : Nat := 32
def fn_slices_Clone_sstring_string : Nat := 59
def fn_slices_Collect_string : Nat := 60
def fn_slices_ContainsFunc_sapi_Count_api_Count : Nat := 68
def fn_slices_ContainsFunc_ssapi_Count_sapi_Count : Nat := 43
def fn_slices_ContainsFunc_sstring_string : Nat := 49
def fn_slices_Contains_sstring_string : Nat := 36
def fn_slices_EqualFunc_ssapi_Count_ssapi_Count_sapi_Count_sapi_Count : Nat := 56
def fn_slices_Equal_sapi_Count_api_Count : Nat := 58
def fn_slices_Equal_sstring_string : Nat := 55
def fn_slices_IndexFunc_sapi_Count_api_Count : Nat := 74
def fn_slices_IndexFunc_ssapi_Count_sapi_Count : Nat := 64
def fn_slices_IndexFunc_sstring_string : Nat := 69
def fn_slices_Index_sstring_string : Nat := 63
def fn_slices_Sort_sstring_string : Nat := 61
def fn_slices_Sorted_string : Nat := 34
def fn_slices_breakPatternsOrdered_string : Nat := 77
def fn_slices_choosePivotOrdered_string : Nat := 78
def fn_slices_heapSortOrdered_string : Nat := 76
def fn_slices_insertionSortOrdered_string : Nat := 75
def fn_slices_medianAdjacentOrdered_string : Nat := 90
def fn_slices_medianOrdered_string : Nat := 91
def fn_slices_nextPowerOfTwo : Nat := 88
def fn_slices_order2Ordered_string : Nat := 93
def fn_slices_partialInsertionSortOrdered_string : Nat := 80
def fn_slices_partitionEqualOrdered_string : Nat := 82
def fn_slices_partitionOrdered_string : Nat := 83
def fn_slices_pdqsortOrdered_string : Nat := 71
def fn_slices_reverseRangeOrdered_string : Nat := 79
def fn_slices_siftDownOrdered_string : Nat := 87
def fn_slices_xorshift_Next : Nat := 89
def fn_strings_ContainsFunc : Nat := 65
def fn_strings_IndexFunc : Nat := 73
def fn_strings_indexFunc : Nat := 86
def fn_synopticdata_Control : Nat := 12
def fn_synopticdata_Cycle : Nat := 11
def fn_synopticdata_History : Nat := 10
def fn_synopticdata_Name : Nat := 26
def fn_synopticdata_SmallHistory : Nat := 23
def fn_synoptickeep_Mod : Nat := 19
def fn_synoptickeep_New : Nat := 9
def fn_synoptickeep_Src_N : Nat := 21
def fn_synoptickeep_Src_Pick : Nat := 29
def fn_synoptickeep_Src_Range : Nat := 18
def fn_synoptickeep_Src_Raw : Nat := 40
def fn_synoptickeep_Src_Text : Nat := 41
def fn_synopticlaw19_BlacklistAlone : Nat := 7
def fn_synopticlaw19_BlacklistAnswers : Nat := 8
def fn_synopticlaw19_BlacklistForgets : Nat := 4
def fn_synopticlaw19_BlacklistKeeps : Nat := 3
def fn_synopticlaw19_BlacklistMore : Nat := 6
def fn_synopticlaw19_BlacklistReturns : Nat := 5
def fn_synopticlaw19_awake : Nat := 17
def fn_synopticlaw19_bent : Nat := 24
def fn_synopticlaw19_only : Nat := 22
def fn_synopticref05_Name : Nat := 37
def fn_synopticref19_Listed : Nat := 16
def fn_synopticref19_Push : Nat := 25
def fn_synopticref19_Same : Nat := 15
def fn_synopticref19_Validate : Nat := 14
def fn_synopticref19_in : Nat := 39
def fn_synopticref19_put : Nat := 42
def fn_synopticref19_sameCounts : Nat := 38
def ty_api_Count : Nat := 42
def ty_int : Nat := 3
def ty_sapi_Count : Nat := 30
def ty_slices_xorshift : Nat := 112
def ty_string : Nat := 9
def ty_synoptickeep_Src : Nat := 57
def globs : Nat → Option (List C) := fun g =>  none
def primfn : FuncId → Option (List V → List PM.Obj → Option Out) := fun f => bif Nat.beq f fn_slices_Sorted_string then some (sortedP 62) else bif Nat.beq f fn_maps_Keys_map_string_api_Count_string_api_Count then some (keysP 62) else bif Nat.beq f fn_strings_ContainsFunc then some (containsP 66 oddRune) else none
def prim : Prims := { fn := primfn, iter := fun _ _ _ => none, glob := globs }
noncomputable def laid : FuncId → Laid := fun f =>
  bif Nat.beq f 3 then { keep := fun n => bif Nat.beq n 12 then { ks := [.lf 2 .b, .lf 67 (.i .i64)], fz := [4, 7], ex := [.exit 0, .ret] } else bif Nat.beq n 16 then { ks := [.lf 12 (.i .i64), .lf 74 (.i .i64)], ex := [.exit 2] } else bif Nat.beq n 19 then { ks := [.lf 12 (.i .i64), .lf 80 (.i .i64)], ex := [.exit 4] } else default, hand := [2] } else
  bif Nat.beq f 4 then { keep := fun n => bif Nat.beq n 5 then { ks := [.lf 2 .b, .lf 7 (.i .i64), .ob 4 28 [.o, .o] [(4, 0)], .ob 5 28 [.o, .o] [(5, 0)], .ob 14 57 [.o, .i .i64] [(3, 0)]], fz := [6], ex := [.exit 0, .ret] } else default, hand := [2], loud := fun d => Nat.beq d 1000004, lh := [4], bar := fun d => Nat.beq d 1000047 } else
  bif Nat.beq f 5 then { join := fun n => bif Nat.beq n 27 then some { ks := [.lf 12 (.i .i64), .oo 10 34 [(10, 0)]], ex := [.normal] } else bif Nat.beq n 32 then some { ks := [.oo 10 34 [(10, 0)], .ob 13 28 [.o, .o] [(13, 0)]], ex := [.normal] } else bif Nat.beq n 56 then some { ks := [.lf 16 .b, .ob 14 28 [.o, .o] [(14, 0)]], ex := [.normal] } else none, hand := [0, 0, 0, 2] } else
  bif Nat.beq f 6 then { own := fun d => Nat.beq d 23, keep := fun n => bif Nat.beq n 7 then { ks := [.ow 7 7 42, .lf 28 (.i .i64), .ob 16 57 [.o, .i .i64] [(3, 0)]], fz := [4, 6], ex := [.exit 0] } else bif Nat.beq n 16 then { ks := [.lf 2 .b, .lf 77 (.i .i64)], fz := [11], ex := [.exit 2, .ret] } else default, hand := [2], loud := fun d => Nat.beq d 49, lh := [16], bar := fun d => Nat.beq d 1000039 || Nat.beq d 1000040 || Nat.beq d 1000041 || Nat.beq d 1000044 || Nat.beq d 1000045 || Nat.beq d 1000046 || Nat.beq d 1000051 || Nat.beq d 1000052 } else
  bif Nat.beq f 7 then { keep := fun n => bif Nat.beq n 9 then { ks := [.lf 2 .b, .lf 35 (.i .i64)], fz := [4, 6, 7], ex := [.exit 0, .ret] } else bif Nat.beq n 13 then { ks := [.lf 42 (.i .i64), .mx 11 28 [.ow 200704 30, .lf .o] [(11, 0)]], ex := [.exit 2] } else default, join := fun n => bif Nat.beq n 57 then some { ks := [.mx 11 28 [.lf .o, .lf .o] [(11, 0)]], ex := [.normal], fzc := [(11, 0)] } else none, hand := [2], bar := fun d => Nat.beq d 52 || Nat.beq d 78, mix := fun d => Nat.beq d 11 } else
  bif Nat.beq f 8 then { keep := fun n => bif Nat.beq n 10 then { ks := [.lf 10 .b, .lf 64 (.i .i64), .ob 42 57 [.o, .i .i64] [(11, 0)]], fz := [12, 13], ex := [.exit 0, .ret] } else bif Nat.beq n 13 then { ks := [.lf 10 .b, .lf 73 (.i .i64), .ob 16 28 [.o, .o] [(16, 0)], .ob 42 57 [.o, .i .i64] [(11, 0)]], ex := [.exit 2, .ret] } else bif Nat.beq n 16 then { ks := [.lf 10 .b, .lf 81 (.i .i64), .ob 16 28 [.o, .o] [(16, 0)], .ob 42 57 [.o, .i .i64] [(11, 0)]], ex := [.exit 4, .ret] } else bif Nat.beq n 25 then { ks := [.lf 10 .b, .lf 115 (.i .i64), .ob 16 28 [.o, .o] [(16, 0)], .ob 42 57 [.o, .i .i64] [(11, 0)]], ex := [.exit 6, .ret] } else default, join := fun n => bif Nat.beq n 49 then some { ks := [.ob 12 28 [.o, .o] [(12, 0)], .oo 13 34 [(13, 0)], .ob 42 57 [.o, .i .i64] [(11, 0)]], ex := [.normal] } else none, hand := [0, 2, 0, 2, 0], bar := fun d => Nat.beq d 124 || Nat.beq d 130 || Nat.beq d 138 } else
  bif Nat.beq f 9 then { own := fun d => Nat.beq d 9, exp := [some 57], hand := [2] } else
  bif Nat.beq f 10 then { keep := fun n => bif Nat.beq n 3 then { ks := [.lf 6 (.i .i64), .ob 4 28 [.o, .o] [(4, 0)], .ob 5 28 [.o, .o] [(5, 0)], .ob 1000000 57 [.o, .i .i64] [(0, 0)]], ex := [.exit 0] } else default, loud := fun d => Nat.beq d 20 || Nat.beq d 22, lh := [1000000] } else
  bif Nat.beq f 11 then { keep := fun n => bif Nat.beq n 3 then { ks := [.ow 3 3 42, .lf 9 (.i .i64), .ob 1000000 57 [.o, .i .i64] [(0, 0)]], ex := [.exit 0] } else default } else
  bif Nat.beq f 12 then { keep := fun n => bif Nat.beq n 3 then { ks := [.lf 4 (.i .i64), .oo 2 34 [(2, 0)], .oo 3 34 [(3, 0)], .ob 1000000 57 [.o, .i .i64] [(0, 0)]], ex := [.exit 0] } else default } else
  bif Nat.beq f 13 then { keep := fun n => bif Nat.beq n 16 then { ks := [.lf 71 (.i .i64), .ob 6 28 [.o, .o] [(6, 0)], .mx 10 28 [.lf .o, .ow 200641 9] [(10, 0)]], ex := [.exit 0], fzc := [(10, 0)] } else default, hand := [0, 2, 0], bar := fun d => Nat.beq d 54, mix := fun d => Nat.beq d 10 } else
  bif Nat.beq f 14 then { keep := fun n => bif Nat.beq n 3 then { ks := [.lf 3 .b, .lf 28 (.i .i64)], ex := [.exit 0] } else bif Nat.beq n 11 then { ks := [.lf 6 .b, .lf 7 .b, .lf 8 .b, .lf 43 (.i .i64)], ex := [.exit 2] } else bif Nat.beq n 14 then { ks := [.lf 6 .b, .lf 7 .b, .lf 8 .b, .lf 49 (.i .i64)], ex := [.exit 4] } else bif Nat.beq n 22 then { ks := [.lf 6 .b, .lf 8 .b, .lf 104 (.i .i64)], ex := [.exit 6] } else default } else
  bif Nat.beq f 15 then { keep := fun n => bif Nat.beq n 4 then { ks := [.lf 4 .b, .lf 5 (.i .i64)], ex := [.exit 0, .ret] } else bif Nat.beq n 9 then { ks := [.lf 4 .b, .lf 6 (.i .i64)], ex := [.exit 2, .ret] } else default, bar := fun d => Nat.beq d 40 } else
  bif Nat.beq f 17 then { keep := fun n => bif Nat.beq n 5 then { ks := [.lf 3 (.i .i64), .lf 5 (.i .i64), .ob 2 28 [.o, .o] [(2, 0)]], fz := [1], ex := [.exit 0] } else default } else
  bif Nat.beq f 22 then { keep := fun n => bif Nat.beq n 3 then { ks := [.ow 5 5 42, .lf 10 (.i .i64)], ex := [.exit 0] } else default, hand := [2, 0] } else
  bif Nat.beq f 23 then { keep := fun n => bif Nat.beq n 3 then { ks := [.lf 3 (.i .i64), .lf 4 (.i .i64)], ex := [.exit 0] } else default } else
  bif Nat.beq f 25 then { own := fun d => Nat.beq d 56 || Nat.beq d 60, keep := fun n => bif Nat.beq n 14 then { ks := [.lf 11 .o, .lf 77 (.i .i64), .ob 6 28 [.o, .o] [(6, 0)], .mx 10 28 [.lf .o, .ow 200641 9] [(10, 0)]], ex := [.exit 0] } else bif Nat.beq n 19 then { ks := [.lf 11 .o, .lf 88 (.i .i64), .ob 6 28 [.o, .o] [(6, 0)], .mx 10 28 [.lf .o, .ow 200641 9] [(10, 0)]], ex := [.exit 2] } else bif Nat.beq n 22 then { ks := [.lf 11 .o, .lf 94 (.i .i64), .ob 6 28 [.o, .o] [(6, 0)], .mx 10 28 [.lf .o, .ow 200641 9] [(10, 0)]], ex := [.exit 4] } else bif Nat.beq n 28 then { ks := [.lf 106 (.i .i64), .ob 6 28 [.o, .o] [(6, 0)], .mx 10 28 [.lf .o, .ow 200641 9] [(10, 0)]], ex := [.exit 6] } else bif Nat.beq n 32 then { ks := [.lf 20 (.i .i64), .lf 21 (.i .i64), .lf 113 (.i .i64), .ob 6 28 [.o, .o] [(6, 0)], .mx 10 28 [.lf .o, .ow 200641 9] [(10, 0)]], ex := [.exit 8] } else bif Nat.beq n 35 then { ks := [.lf 20 (.i .i64), .lf 21 (.i .i64), .lf 119 (.i .i64), .ob 6 28 [.o, .o] [(6, 0)], .mx 10 28 [.lf .o, .ow 200641 9] [(10, 0)]], ex := [.exit 10] } else default, hand := [0, 2, 0], mix := fun d => Nat.beq d 10 } else
  bif Nat.beq f 29 then { hand := [0, 2] } else
  bif Nat.beq f 31 then { keep := fun n => bif Nat.beq n 3 then { ks := [.lf 13 (.i .i64), .mx 2 28 [.lf .o, .lf .o] [(2, 0)], .mx 3 28 [.ow 200192 30, .ow 200193 9] [(3, 0)]], ex := [.exit 0] } else default, exp := [some 28], bar := fun d => Nat.beq d 22, mix := fun d => Nat.beq d 2 || Nat.beq d 3 || Nat.beq d 9 || Nat.beq d 25 } else
  bif Nat.beq f 32 then { own := fun d => Nat.beq d 5, hand := [2], nr := true } else
  bif Nat.beq f 33 then { keep := fun n => bif Nat.beq n 3 then { ks := [.lf 15 (.i .i64), .mp 11 9 42 [3]], ex := [.exit 0] } else bif Nat.beq n 8 then { ks := [.lf 26 (.i .i64), .mp 11 9 42 [3]], ex := [.exit 2] } else bif Nat.beq n 11 then { ks := [.lf 32 (.i .i64), .mp 11 9 42 [3]], ex := [.exit 4] } else default } else
  bif Nat.beq f 36 then { hand := [2, 0] } else
  bif Nat.beq f 37 then { keep := fun n => bif Nat.beq n 2 then { ks := [.lf 2 .b, .lf 3 (.i .i64)], ex := [.exit 0, .ret] } else default } else
  bif Nat.beq f 38 then { keep := fun n => bif Nat.beq n 4 then { ks := [.lf 4 .b, .lf 5 (.i .i64)], ex := [.exit 0, .ret] } else default, hand := [2, 2] } else
  bif Nat.beq f 39 then { keep := fun n => bif Nat.beq n 2 then { ks := [.lf 4 .b, .lf 5 (.i .i64)], ex := [.exit 0, .ret] } else default, hand := [2, 0] } else
  bif Nat.beq f 41 then { hand := [0, 2] } else
  bif Nat.beq f 42 then { own := fun d => Nat.beq d 34, keep := fun n => bif Nat.beq n 2 then { ks := [.lf 5 (.i .i64)], ex := [.exit 0] } else default } else
  bif Nat.beq f 43 then { hand := [2, 0] } else
  bif Nat.beq f 44 then { hand := [2] } else
  bif Nat.beq f 49 then { hand := [2, 0] } else
  bif Nat.beq f 52 then { keep := fun n => bif Nat.beq n 2 then { ks := [.lf 2 .b, .lf 3 (.i .i64)], ex := [.exit 0, .ret] } else default, hand := [2] } else
  bif Nat.beq f 53 then { hand := [2] } else
  bif Nat.beq f 54 then { keep := fun n => bif Nat.beq n 3 then { ks := [.ow 3 3 9, .lf 8 (.i .i64)], ex := [.exit 0] } else default, hand := [2] } else
  bif Nat.beq f 55 then { keep := fun n => bif Nat.beq n 4 then { ks := [.lf 4 .b, .lf 13 (.i .i64)], ex := [.exit 0, .ret] } else default, hand := [2, 2] } else
  bif Nat.beq f 56 then { keep := fun n => bif Nat.beq n 4 then { ks := [.lf 6 .b, .lf 17 (.i .i64)], ex := [.exit 0, .ret] } else default, hand := [2, 2, 0] } else
  bif Nat.beq f 57 then { hand := [2, 2] } else
  bif Nat.beq f 58 then { keep := fun n => bif Nat.beq n 4 then { ks := [.lf 4 .b, .lf 13 (.i .i64)], ex := [.exit 0, .ret] } else default, hand := [2, 2] } else
  bif Nat.beq f 59 then { own := fun d => Nat.beq d 5, exp := [some 9], hand := [2] } else
  bif Nat.beq f 60 then { exp := [some 9] } else
  bif Nat.beq f 61 then { hand := [1] } else
  bif Nat.beq f 63 then { keep := fun n => bif Nat.beq n 2 then { ks := [.lf 4 (.i .i64), .lf 8 (.i .i64)], ex := [.exit 0, .ret] } else default, hand := [2, 0] } else
  bif Nat.beq f 64 then { keep := fun n => bif Nat.beq n 2 then { ks := [.lf 4 (.i .i64), .lf 8 (.i .i64)], ex := [.exit 0, .ret] } else default, hand := [2, 0] } else
  bif Nat.beq f 67 then { hand := [2] } else
  bif Nat.beq f 68 then { hand := [2, 0] } else
  bif Nat.beq f 69 then { keep := fun n => bif Nat.beq n 2 then { ks := [.lf 4 (.i .i64), .lf 8 (.i .i64)], ex := [.exit 0, .ret] } else default, hand := [2, 0] } else
  bif Nat.beq f 70 then { own := fun d => Nat.beq d 2, keep := fun n => bif Nat.beq n 3 then { ks := [.mx 2 26 [.ow 200128 9] [(2, 0)]], ex := [], sh := [.s .s] } else default, exp := [some 9] } else
  bif Nat.beq f 71 then { keep := fun n => bif Nat.beq n 2 then { ks := [.us 0 1000000 9, .lf 1 (.i .i64), .lf 2 (.i .i64), .lf 3 (.i .i64), .lf 8 .b, .lf 9 .b], ex := [.ret] } else default, join := fun n => bif Nat.beq n 35 then some { ks := [.us 0 1000000 9, .lf 3 (.i .i64)], ex := [.normal] } else bif Nat.beq n 50 then some { ks := [.us 0 1000000 9, .lf 11 (.i .i64), .lf 12 (.i .i64)], ex := [.normal] } else bif Nat.beq n 68 then some { ks := [.us 0 1000000 9], ex := [.ret, .normal] } else none, hand := [1, 0, 0, 0], bar := fun d => Nat.beq d 85 } else
  bif Nat.beq f 74 then { keep := fun n => bif Nat.beq n 2 then { ks := [.lf 4 (.i .i64), .lf 8 (.i .i64)], ex := [.exit 0, .ret] } else default, hand := [2, 0] } else
  bif Nat.beq f 75 then { keep := fun n => bif Nat.beq n 1 then { ks := [.us 0 1000000 9, .lf 6 (.i .i64)], ex := [.exit 0] } else bif Nat.beq n 4 then { ks := [.us 0 1000000 9, .lf 7 (.i .i64)], ex := [.exit 2] } else default, hand := [1, 0, 0], bar := fun d => Nat.beq d 29 } else
  bif Nat.beq f 76 then { keep := fun n => bif Nat.beq n 4 then { ks := [.us 0 1000000 9, .lf 9 (.i .i64)], ex := [.exit 0] } else bif Nat.beq n 8 then { ks := [.us 0 1000000 9, .lf 10 (.i .i64)], ex := [.exit 2] } else default, hand := [1, 0, 0] } else
  bif Nat.beq f 77 then { keep := fun n => bif Nat.beq n 5 then { ks := [.us 0 1000000 9, .lf 9 (.i .i64)], fz := [7], ex := [.exit 0] } else default, join := fun n => bif Nat.beq n 43 then some { ks := [.us 0 1000000 9, .lf 10 (.i .i64)], ex := [.normal] } else none, hand := [1, 0, 0] } else
  bif Nat.beq f 78 then { join := fun n => bif Nat.beq n 32 then some { ks := [.lf 11 (.i .i64), .ob 9 3 [.i .i64] [(9, 0)]], ex := [.normal] } else bif Nat.beq n 34 then some { ks := [.lf 10 (.i .i64), .lf 11 (.i .i64), .lf 12 (.i .i64), .ob 9 3 [.i .i64] [(9, 0)]], ex := [.normal] } else none, hand := [2, 0, 0] } else
  bif Nat.beq f 79 then { keep := fun n => bif Nat.beq n 2 then { ks := [.us 0 1000000 9, .lf 6 (.i .i64), .lf 7 (.i .i64)], ex := [.exit 0] } else default, hand := [1, 0, 0] } else
  bif Nat.beq f 80 then { keep := fun n => bif Nat.beq n 3 then { ks := [.us 0 1000000 9, .lf 6 .b, .lf 7 (.i .i64), .lf 8 (.i .i64)], ex := [.exit 0, .ret] } else bif Nat.beq n 5 then { ks := [.us 0 1000000 9, .lf 7 (.i .i64)], ex := [.exit 2] } else bif Nat.beq n 14 then { ks := [.us 0 1000000 9, .lf 9 (.i .i64)], ex := [.exit 4] } else bif Nat.beq n 20 then { ks := [.us 0 1000000 9, .lf 10 (.i .i64)], ex := [.exit 6] } else default, join := fun n => bif Nat.beq n 61 then some { ks := [.us 0 1000000 9], ex := [.normal] } else none, hand := [1, 0, 0], bar := fun d => Nat.beq d 30 || Nat.beq d 77 || Nat.beq d 115 } else
  bif Nat.beq f 82 then { keep := fun n => bif Nat.beq n 3 then { ks := [.us 0 1000000 9, .lf 9 (.i .i64)], ex := [.exit 2] } else bif Nat.beq n 5 then { ks := [.us 0 1000000 9, .lf 10 (.i .i64)], ex := [.exit 4] } else bif Nat.beq n 100003 then { ks := [.us 0 1000000 9, .lf 9 (.i .i64), .lf 10 (.i .i64)], ex := [.exit 0] } else default, hand := [1, 0, 0, 0], bar := fun d => Nat.beq d 41 || Nat.beq d 58 } else
  bif Nat.beq f 83 then { keep := fun n => bif Nat.beq n 3 then { ks := [.us 0 1000000 9, .lf 10 (.i .i64)], ex := [.exit 0] } else bif Nat.beq n 5 then { ks := [.us 0 1000000 9, .lf 11 (.i .i64)], ex := [.exit 2] } else bif Nat.beq n 13 then { ks := [.us 0 1000000 9, .lf 10 (.i .i64)], ex := [.exit 6] } else bif Nat.beq n 15 then { ks := [.us 0 1000000 9, .lf 11 (.i .i64)], ex := [.exit 8] } else bif Nat.beq n 100013 then { ks := [.us 0 1000000 9, .lf 10 (.i .i64), .lf 11 (.i .i64)], ex := [.exit 4] } else default, hand := [1, 0, 0, 0], bar := fun d => Nat.beq d 42 || Nat.beq d 58 || Nat.beq d 111 || Nat.beq d 127 } else
  bif Nat.beq f 84 then { join := fun n => bif Nat.beq n 4 then some { ks := [.lf 0 (.i .u32), .lf 2 (.i .i64)], ex := [.normal] } else none } else
  bif Nat.beq f 85 then { join := fun n => bif Nat.beq n 4 then some { ks := [.lf 0 (.i .u64), .lf 2 (.i .i64)], ex := [.normal] } else bif Nat.beq n 8 then some { ks := [.lf 0 (.i .u64), .lf 2 (.i .i64)], ex := [.normal] } else none } else
  bif Nat.beq f 87 then { keep := fun n => bif Nat.beq n 1 then { ks := [.us 0 1000000 9, .lf 8 (.i .i64)], ex := [.exit 0, .ret] } else default, join := fun n => bif Nat.beq n 36 then some { ks := [.us 0 1000000 9, .lf 9 (.i .i64)], ex := [.normal] } else none, hand := [1, 0, 0, 0], bar := fun d => Nat.beq d 35 || Nat.beq d 51 } else
  bif Nat.beq f 90 then { hand := [2, 0, 0] } else
  bif Nat.beq f 91 then { hand := [2, 0, 0, 0, 0] } else
  bif Nat.beq f 93 then { hand := [2, 0, 0, 0], bar := fun d => Nat.beq d 18 } else
  {}
def kb0 : ByteArray := ⟨#[0, 1, 2, 2, 3, 3, 3, 3, 4, 4, 4, 4, 4, 4, 4, 4, 5, 5, 5, 5, 5, 5, 5, 5, 5, 5, 5, 5, 5, 5, 5, 5, 6, 6, 6, 6, 6, 6, 6, 6, 6, 6, 6, 6, 6, 6, 6, 6, 6, 6, 6, 6, 6, 6, 6, 6, 6, 6, 6, 6, 6, 6, 6, 6, 7, 7, 7, 7, 7, 7, 7, 7, 7, 7, 7, 7, 7, 7, 7, 7, 7, 7, 7, 7, 7, 7, 7, 7, 7, 7, 7, 7, 7, 7, 7, 7, 7, 7, 7, 7, 7, 7, 7, 7, 7, 7, 7, 7, 7, 7, 7, 7, 7, 7, 7, 7, 7, 7, 7, 7, 7, 7, 7, 7, 7, 7, 7, 7, 8, 8, 8, 8, 8, 8, 8, 8, 8, 8, 8, 8, 8, 8, 8, 8, 8, 8, 8, 8, 8, 8, 8, 8, 8, 8, 8, 8, 8, 8, 8, 8, 8, 8, 8, 8, 8, 8, 8, 8, 8, 8, 8, 8, 8, 8, 8, 8, 8, 8, 8, 8, 8, 8, 8, 8, 8, 8, 8, 8, 8, 8, 8, 8, 8, 8, 8, 8, 8, 8, 8, 8, 8, 8, 8, 8, 8, 8, 8, 8, 8, 8, 8, 8, 8, 8, 8, 8, 8, 8, 8, 8, 8, 8, 8, 8, 8, 8, 8, 8, 8, 8, 8, 8, 8, 8, 8, 8, 8, 8, 8, 8, 8, 8, 8, 8, 8, 8, 8, 8, 8, 8, 8, 8, 8, 8, 8, 8]⟩
noncomputable def mfd (kt : TypeId) (kc : List C) (es : List (List C × List C)) : Option (Option (Nat × List C)) := mfind Try.prog kt kc es 0
noncomputable def cl (fu d : Nat) (f : FuncId) (args : List V) (objs : List PM.Obj) : Option Out := callN Try.prog prim laid fu d f args objs
end Go.Proofs.Ytofalpngdbinbaa
