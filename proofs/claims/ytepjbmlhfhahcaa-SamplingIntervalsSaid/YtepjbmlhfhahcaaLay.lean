/- The hints under which the pure machine runs this program's functions. -/
import Derived.Test.YtepjbmlhfhahcaaJ4
import Derived.Test.YtepjbmlhfhahcaaProg
import Derived.KernelRfl
set_option linter.unusedVariables false
set_option linter.unusedSimpArgs false
namespace Go.Proofs.Ytepjbmlhfhahcaa
open Go Go.PM
def fn_bits_Add64 : Nat := 90
def fn_bits_Len : Nat := 70
def fn_bits_Len32 : Nat := 82
def fn_bits_Len64 : Nat := 83
def fn_bits_Mul64 : Nat := 36
def fn_bits_OnesCount : Nat := 44
def fn_bits_OnesCount32 : Nat := 60
def fn_bits_OnesCount64 : Nat := 61
def fn_cmp_Compare_int : Nat := 35
def fn_cmp_Compare_uint64 : Nat := 38
def fn_cmp_Less_int : Nat := 79
def fn_cmp_Or_int : Nat := 37
def fn_cmp_isNaN_int : Nat := 57
def fn_cmp_isNaN_uint64 : Nat := 58
def fn_sampling_Choose : Nat := 24
def fn_sampling_Exchange : Nat := 15
def fn_sampling_Exchange_1 : Nat := 43
def fn_sampling_Median : Nat := 19
def fn_sampling_Ranks : Nat := 27
def fn_sampling_Signs : Nat := 12
def fn_sampling_Tail : Nat := 21
def fn_sampling_absolute : Nat := 33
def fn_sampling_choices : Nat := 32
def fn_sampling_choices_1 : Nat := 56
def fn_sampling_chosen : Nat := 31
def fn_sampling_outside : Nat := 30
def fn_sampling_outside_1 : Nat := 55
def fn_sampling_reduced : Nat := 50
def fn_sampling_within : Nat := 48
def fn_score_Compare : Nat := 13
def fn_score_Reduce : Nat := 22
def fn_score_sign : Nat := 34
def fn_score_within : Nat := 49
def fn_slices_AppendSeq_sint_int : Nat := 68
def fn_slices_Collect_int : Nat := 62
def fn_slices_Concat_sint_int : Nat := 42
def fn_slices_ContainsFunc_sint_int : Nat := 54
def fn_slices_Grow_sint_int : Nat := 59
def fn_slices_IndexFunc_sint_int : Nat := 67
def fn_slices_Sort_sint_int : Nat := 63
def fn_slices_Sorted_int : Nat := 46
def fn_slices_Values_sint_int : Nat := 47
def fn_slices_Values_sint_int_1 : Nat := 64
def fn_slices_breakPatternsOrdered_int : Nat := 75
def fn_slices_choosePivotOrdered_int : Nat := 76
def fn_slices_heapSortOrdered_int : Nat := 74
def fn_slices_insertionSortOrdered_int : Nat := 73
def fn_slices_medianAdjacentOrdered_int : Nat := 88
def fn_slices_medianOrdered_int : Nat := 89
def fn_slices_nextPowerOfTwo : Nat := 86
def fn_slices_order2Ordered_int : Nat := 91
def fn_slices_partialInsertionSortOrdered_int : Nat := 78
def fn_slices_partitionEqualOrdered_int : Nat := 80
def fn_slices_partitionOrdered_int : Nat := 81
def fn_slices_pdqsortOrdered_int : Nat := 69
def fn_slices_reverseRangeOrdered_int : Nat := 77
def fn_slices_siftDownOrdered_int : Nat := 85
def fn_slices_xorshift_Next : Nat := 87
def fn_synopticfield_Codes_Left : Nat := 45
def fn_synopticfield_Codes_Next : Nat := 17
def fn_synopticfield_Mod : Nat := 23
def fn_synopticfield_New : Nat := 11
def fn_synopticlaw39_SamplingCounts : Nat := 8
def fn_synopticlaw39_SamplingExact : Nat := 3
def fn_synopticlaw39_SamplingExchanges : Nat := 6
def fn_synopticlaw39_SamplingIntervals : Nat := 7
def fn_synopticlaw39_SamplingTests : Nat := 4
def fn_synopticlaw39_awake : Nat := 9
def fn_synopticlaw39_in : Nat := 20
def fn_synopticlaw39_level : Nat := 18
def fn_synopticlaw39_sample : Nat := 10
def fn_synopticref22_Add : Nat := 84
def fn_synopticref22_Compare : Nat := 65
def fn_synopticref22_Negate : Nat := 72
def fn_synopticref22_Product : Nat := 66
def fn_synopticref22_Small : Nat := 39
def fn_synopticref22_size : Nat := 71
def fn_synopticref38_Compare : Nat := 52
def fn_synopticref38_Reduce : Nat := 41
def fn_synopticref39_Choose : Nat := 25
def fn_synopticref39_Exchange : Nat := 16
def fn_synopticref39_Median : Nat := 29
def fn_synopticref39_Ranks : Nat := 28
def fn_synopticref39_Signs : Nat := 14
def fn_synopticref39_Tail : Nat := 26
def fn_synopticref39_level : Nat := 51
def fn_synopticref39_size : Nat := 40
def fn_synopticref39_sorted : Nat := 53
def ty_int : Nat := 3
def ty_slices_xorshift : Nat := 107
def ty_synopticfield_Codes : Nat := 59
def globs : Nat → Option (List C) := fun g =>  none
def primfn : FuncId → Option (List V → List PM.Obj → Option Out) := fun f => bif Nat.beq f fn_slices_Sort_sint_int then some (sortP ty_int) else none
/-- choices(n): all numbers below 2^n. -/
def chosen (n : Nat) : List (List V) := (List.range (2 ^ n)).map fun i => [V.c (C.v (.int .u64 (i : Nat)))]
/-- The elements of a slice of numbers, one by one. -/
def elems : List C → Option (List (List V))
  | [] => some []
  | c :: cs => asI .i64 c fun n => (elems cs).bind fun r => some ([V.c (C.v (.int .i64 n))] :: r)
def iterC (f : FuncId) (caps : List C) : Option (List (List V)) :=
  bif Nat.beq f fn_sampling_choices_1 then match caps with
    | [c] => asP c fun cs => unc cs fun c _ => asI .i64 c fun n => need (decide (0 ≤ n) && decide (n ≤ 13)) (some (chosen n.toNat))
    | _ => none
  else bif Nat.beq f fn_slices_Values_sint_int_1 then match caps with
    | [c] => asP c fun cs => unc cs fun c _ => asSl c fun n l => need (Nat.beq n l.length && Nat.ble n 1000000000000) (elems l)
    | _ => none
  else none
def prim : Prims := { fn := primfn, iter := fun d f caps => match d with | 0 => none | _ + 1 => iterC f caps, glob := globs }
noncomputable def laid : FuncId → Laid := fun f =>
  bif Nat.beq f 3 then { keep := fun n => bif Nat.beq n 6 then { ks := [.lf 2 .b, .ow 4 4 31, .lf 5 (.i .i64)], ex := [.exit 0, .ret] } else bif Nat.beq n 10 then { ks := [.ow 4 4 31, .ow 6 6 3, .lf 32 (.i .i64)], ex := [.exit 2] } else bif Nat.beq n 20 then { ks := [.lf 2 .b, .lf 63 (.i .i64)], fz := [4, 61], ex := [.exit 4, .ret] } else bif Nat.beq n 24 then { ks := [.lf 12 (.i .i64), .lf 69 (.i .i64), .ob 11 31 [.i .i64, .i .i64] [(11, 0)]], ex := [.exit 6] } else default, hand := [2] } else
  bif Nat.beq f 4 then { keep := fun n => bif Nat.beq n 8 then { ks := [.lf 6 .b, .lf 48 (.i .i64)], ex := [.exit 0, .ret] } else default, hand := [2, 2, 2] } else
  bif Nat.beq f 5 then { hand := [2, 2] } else
  bif Nat.beq f 6 then { keep := fun n => bif Nat.beq n 7 then { ks := [.lf 4 .b, .ow 7 7 31, .lf 8 (.i .i64)], ex := [.exit 0, .ret] } else bif Nat.beq n 11 then { ks := [.ow 7 7 31, .ow 9 9 3, .ow 10 10 3, .lf 42 (.i .i64)], ex := [.exit 2] } else bif Nat.beq n 24 then { ks := [.lf 4 .b, .lf 99 (.i .i64)], fz := [7, 97], ex := [.exit 4, .ret] } else bif Nat.beq n 28 then { ks := [.lf 18 (.i .i64), .lf 105 (.i .i64), .ob 17 31 [.i .i64, .i .i64] [(17, 0)]], ex := [.exit 6] } else default, hand := [2, 0] } else
  bif Nat.beq f 7 then { join := fun n => bif Nat.beq n 46 then some { ks := [.ob 12 31 [.i .i64, .i .i64] [(12, 0)], .ob 13 31 [.i .i64, .i .i64] [(13, 0)]], ex := [.normal] } else none, hand := [2, 0, 0, 0, 0] } else
  bif Nat.beq f 8 then { keep := fun n => bif Nat.beq n 7 then { ks := [.lf 10 .b, .lf 54 (.i .i64), .ob 42 59 [.o, .i .i64] [(11, 0)]], ex := [.exit 0, .ret] } else bif Nat.beq n 16 then { ks := [.lf 10 .b, .lf 116 (.i .i64), .oo 13 51 [(13, 0)], .ob 42 59 [.o, .i .i64] [(11, 0)]], ex := [.exit 2, .ret] } else bif Nat.beq n 23 then { ks := [.lf 10 .b, .lf 147 (.i .i64), .oo 13 51 [(13, 0)], .ob 23 31 [.i .i64, .i .i64] [(23, 0)], .ob 42 59 [.o, .i .i64] [(11, 0)]], ex := [.exit 4, .ret] } else default, hand := [0, 0, 0, 2, 2] } else
  bif Nat.beq f 10 then { keep := fun n => bif Nat.beq n 3 then { ks := [.ow 5 5 3, .lf 6 (.i .i64), .ob 1000000 59 [.o, .i .i64] [(0, 0)]], ex := [.exit 0] } else default } else
  bif Nat.beq f 11 then { own := fun d => Nat.beq d 14, exp := [some 59], hand := [2, 0] } else
  bif Nat.beq f 12 then { keep := fun n => bif Nat.beq n 7 then { ks := [.ob 2 31 [.i .i64, .i .i64] [(2, 0)], .ob 5 3 [.i .i64] [(5, 0)]], fz := [4], ex := [], sh := [.s (.i .u64)] } else default, hand := [2], bar := fun d => Nat.beq d 33 || Nat.beq d 41 } else
  bif Nat.beq f 13 then { bar := fun d => Nat.beq d 16 } else
  bif Nat.beq f 14 then { keep := fun n => bif Nat.beq n 5 then { ks := [.lf 4 (.i .i64), .lf 5 (.i .i64), .ob 2 31 [.i .i64, .i .i64] [(2, 0)]], ex := [.exit 0] } else bif Nat.beq n 10 then { ks := [.lf 6 (.i .i64), .lf 7 (.i .i64), .ob 2 31 [.i .i64, .i .i64] [(2, 0)]], ex := [.exit 2] } else bif Nat.beq n 14 then { ks := [.lf 8 (.i .i64), .lf 9 (.i .i64), .ob 2 31 [.i .i64, .i .i64] [(2, 0)]], ex := [.exit 4] } else default, hand := [2] } else
  bif Nat.beq f 15 then { keep := fun n => bif Nat.beq n 10 then { ks := [.ob 4 31 [.i .i64, .i .i64] [(4, 0)], .ob 10 3 [.i .i64] [(10, 0)], .ob 11 3 [.i .i64] [(11, 0)]], fz := [8, 9], ex := [], sh := [.s (.i .u64)] } else default, hand := [2, 2] } else
  bif Nat.beq f 16 then { keep := fun n => bif Nat.beq n 6 then { ks := [.lf 7 (.i .i64), .lf 8 (.i .i64), .lf 9 (.i .i64), .ob 4 31 [.i .i64, .i .i64] [(4, 0)]], fz := [6], ex := [.exit 0] } else bif Nat.beq n 14 then { ks := [.lf 11 (.i .i64), .lf 12 (.i .i64), .lf 13 (.i .i64), .ob 4 31 [.i .i64, .i .i64] [(4, 0)]], ex := [.exit 2] } else bif Nat.beq n 18 then { ks := [.lf 14 (.i .i64), .lf 15 (.i .i64), .lf 16 (.i .i64), .ob 4 31 [.i .i64, .i .i64] [(4, 0)]], ex := [.exit 4] } else default, hand := [2, 2] } else
  bif Nat.beq f 19 then { hand := [2, 0] } else
  bif Nat.beq f 20 then { keep := fun n => bif Nat.beq n 2 then { ks := [.lf 4 .b, .lf 9 (.i .i64)], ex := [.exit 0, .ret] } else default, hand := [2, 0] } else
  bif Nat.beq f 21 then { keep := fun n => bif Nat.beq n 5 then { ks := [.lf 6 (.i .i64), .lf 7 (.i .i64), .ob 4 31 [.i .i64, .i .i64] [(4, 0)]], ex := [.exit 0] } else default } else
  bif Nat.beq f 22 then { keep := fun n => bif Nat.beq n 6 then { ks := [.lf 6 (.i .i64), .lf 7 (.i .i64), .ob 4 31 [.i .i64, .i .i64] [(4, 0)]], ex := [.exit 0] } else default, join := fun n => bif Nat.beq n 22 then some { ks := [.lf 0 (.i .i64), .lf 1 (.i .i64), .ob 4 31 [.i .i64, .i .i64] [(4, 0)]], ex := [.normal] } else none } else
  bif Nat.beq f 24 then { own := fun d => Nat.beq d 19, keep := fun n => bif Nat.beq n 5 then { ks := [.ow 6 6 3, .lf 21 (.i .i64)], ex := [.exit 0] } else bif Nat.beq n 8 then { ks := [.ow 7 7 3, .ow 27 27 3, .lf 29 (.i .i64)], ex := [.exit 2] } else default } else
  bif Nat.beq f 25 then { own := fun d => Nat.beq d 25, keep := fun n => bif Nat.beq n 5 then { ks := [.ow 6 6 3, .lf 7 (.i .i64)], ex := [.exit 0] } else bif Nat.beq n 9 then { ks := [.ow 6 6 3, .ow 8 8 3, .lf 9 (.i .i64)], ex := [.exit 2] } else default } else
  bif Nat.beq f 26 then { keep := fun n => bif Nat.beq n 5 then { ks := [.lf 6 (.i .i64), .lf 7 (.i .i64), .ob 4 31 [.i .i64, .i .i64] [(4, 0)]], ex := [.exit 0] } else default } else
  bif Nat.beq f 27 then { keep := fun n => bif Nat.beq n 6 then { ks := [.lf 7 (.i .i64), .lf 8 (.i .i64)], fz := [6], ex := [.exit 0] } else default } else
  bif Nat.beq f 28 then { keep := fun n => bif Nat.beq n 4 then { ks := [.lf 6 (.i .i64)], ex := [.exit 0] } else default } else
  bif Nat.beq f 29 then { hand := [2, 0] } else
  bif Nat.beq f 30 then { hand := [2] } else
  bif Nat.beq f 31 then { keep := fun n => bif Nat.beq n 3 then { ks := [.lf 5 (.i .i64), .lf 10 (.i .i64)], ex := [.exit 0] } else default, hand := [2, 0] } else
  bif Nat.beq f 37 then { keep := fun n => bif Nat.beq n 3 then { ks := [.lf 2 (.i .i64), .lf 8 (.i .i64)], ex := [.exit 0, .ret] } else default, hand := [2] } else
  bif Nat.beq f 39 then { keep := fun n => bif Nat.beq n 2 then { ks := [.lf 4 .b, .lf 5 (.i .i64)], ex := [.exit 0, .ret] } else default, hand := [2, 0] } else
  bif Nat.beq f 41 then { keep := fun n => bif Nat.beq n 6 then { ks := [.lf 6 (.i .i64), .lf 7 (.i .i64), .ob 4 31 [.i .i64, .i .i64] [(4, 0)]], ex := [.exit 0] } else default, join := fun n => bif Nat.beq n 28 then some { ks := [.lf 0 (.i .i64), .lf 1 (.i .i64), .ob 4 31 [.i .i64, .i .i64] [(4, 0)]], ex := [.normal] } else none } else
  bif Nat.beq f 42 then { keep := fun n => bif Nat.beq n 3 then { ks := [.lf 3 (.i .i64), .lf 11 (.i .i64)], ex := [.exit 0] } else bif Nat.beq n 11 then { ks := [.ow 6 6 3, .lf 27 (.i .i64)], ex := [.exit 2] } else default, hand := [2] } else
  bif Nat.beq f 43 then { bar := fun d => Nat.beq d 17 } else
  bif Nat.beq f 47 then { hand := [2] } else
  bif Nat.beq f 52 then { bar := fun d => Nat.beq d 14 || Nat.beq d 15 } else
  bif Nat.beq f 53 then { keep := fun n => bif Nat.beq n 3 then { ks := [.ow 3 3 3, .lf 4 (.i .i64)], ex := [.exit 0] } else bif Nat.beq n 7 then { ks := [.ow 3 3 3, .lf 5 (.i .i64)], ex := [.exit 2] } else default, hand := [2] } else
  bif Nat.beq f 54 then { hand := [2, 0] } else
  bif Nat.beq f 56 then { keep := fun n => bif Nat.beq n 1 then { ks := [.lf 6 (.i .u64), .lg], ex := [.exit 0, .ret] } else default } else
  bif Nat.beq f 59 then { join := fun n => bif Nat.beq n 6 then some { ks := [], ex := [.normal] } else none, exp := [some 3] } else
  bif Nat.beq f 62 then { exp := [some 3] } else
  bif Nat.beq f 63 then { hand := [1] } else
  bif Nat.beq f 64 then { keep := fun n => bif Nat.beq n 1 then { ks := [.lf 7 (.i .i64), .lg], ex := [.exit 0, .ret] } else default } else
  bif Nat.beq f 67 then { keep := fun n => bif Nat.beq n 2 then { ks := [.lf 4 (.i .i64), .lf 8 (.i .i64)], ex := [.exit 0, .ret] } else default, hand := [2, 0] } else
  bif Nat.beq f 68 then { own := fun d => Nat.beq d 2, keep := fun n => bif Nat.beq n 3 then { ks := [.mx 2 24 [.ow 200128 3] [(2, 0)]], ex := [], sh := [.s (.i .i64)] } else default, exp := [some 3] } else
  bif Nat.beq f 69 then { keep := fun n => bif Nat.beq n 2 then { ks := [.us 0 1000000 3, .lf 1 (.i .i64), .lf 2 (.i .i64), .lf 3 (.i .i64), .lf 8 .b, .lf 9 .b], ex := [.ret] } else default, join := fun n => bif Nat.beq n 35 then some { ks := [.us 0 1000000 3, .lf 3 (.i .i64)], ex := [.normal] } else bif Nat.beq n 50 then some { ks := [.us 0 1000000 3, .lf 11 (.i .i64), .lf 12 (.i .i64)], ex := [.normal] } else bif Nat.beq n 68 then some { ks := [.us 0 1000000 3], ex := [.ret, .normal] } else none, hand := [1, 0, 0, 0], bar := fun d => Nat.beq d 85 } else
  bif Nat.beq f 73 then { keep := fun n => bif Nat.beq n 1 then { ks := [.us 0 1000000 3, .lf 6 (.i .i64)], ex := [.exit 0] } else bif Nat.beq n 4 then { ks := [.us 0 1000000 3, .lf 7 (.i .i64)], ex := [.exit 2] } else default, hand := [1, 0, 0], bar := fun d => Nat.beq d 29 } else
  bif Nat.beq f 74 then { keep := fun n => bif Nat.beq n 4 then { ks := [.us 0 1000000 3, .lf 9 (.i .i64)], ex := [.exit 0] } else bif Nat.beq n 8 then { ks := [.us 0 1000000 3, .lf 10 (.i .i64)], ex := [.exit 2] } else default, hand := [1, 0, 0] } else
  bif Nat.beq f 75 then { keep := fun n => bif Nat.beq n 5 then { ks := [.us 0 1000000 3, .lf 9 (.i .i64)], fz := [7], ex := [.exit 0] } else default, join := fun n => bif Nat.beq n 43 then some { ks := [.us 0 1000000 3, .lf 10 (.i .i64)], ex := [.normal] } else none, hand := [1, 0, 0] } else
  bif Nat.beq f 76 then { join := fun n => bif Nat.beq n 32 then some { ks := [.lf 11 (.i .i64), .ob 9 3 [.i .i64] [(9, 0)]], ex := [.normal] } else bif Nat.beq n 34 then some { ks := [.lf 10 (.i .i64), .lf 11 (.i .i64), .lf 12 (.i .i64), .ob 9 3 [.i .i64] [(9, 0)]], ex := [.normal] } else none, hand := [2, 0, 0] } else
  bif Nat.beq f 77 then { keep := fun n => bif Nat.beq n 2 then { ks := [.us 0 1000000 3, .lf 6 (.i .i64), .lf 7 (.i .i64)], ex := [.exit 0] } else default, hand := [1, 0, 0] } else
  bif Nat.beq f 78 then { keep := fun n => bif Nat.beq n 3 then { ks := [.us 0 1000000 3, .lf 6 .b, .lf 7 (.i .i64), .lf 8 (.i .i64)], ex := [.exit 0, .ret] } else bif Nat.beq n 5 then { ks := [.us 0 1000000 3, .lf 7 (.i .i64)], ex := [.exit 2] } else bif Nat.beq n 14 then { ks := [.us 0 1000000 3, .lf 9 (.i .i64)], ex := [.exit 4] } else bif Nat.beq n 20 then { ks := [.us 0 1000000 3, .lf 10 (.i .i64)], ex := [.exit 6] } else default, join := fun n => bif Nat.beq n 61 then some { ks := [.us 0 1000000 3], ex := [.normal] } else none, hand := [1, 0, 0], bar := fun d => Nat.beq d 30 || Nat.beq d 77 || Nat.beq d 115 } else
  bif Nat.beq f 80 then { keep := fun n => bif Nat.beq n 3 then { ks := [.us 0 1000000 3, .lf 9 (.i .i64)], ex := [.exit 2] } else bif Nat.beq n 5 then { ks := [.us 0 1000000 3, .lf 10 (.i .i64)], ex := [.exit 4] } else bif Nat.beq n 100003 then { ks := [.us 0 1000000 3, .lf 9 (.i .i64), .lf 10 (.i .i64)], ex := [.exit 0] } else default, hand := [1, 0, 0, 0], bar := fun d => Nat.beq d 41 || Nat.beq d 58 } else
  bif Nat.beq f 81 then { keep := fun n => bif Nat.beq n 3 then { ks := [.us 0 1000000 3, .lf 10 (.i .i64)], ex := [.exit 0] } else bif Nat.beq n 5 then { ks := [.us 0 1000000 3, .lf 11 (.i .i64)], ex := [.exit 2] } else bif Nat.beq n 13 then { ks := [.us 0 1000000 3, .lf 10 (.i .i64)], ex := [.exit 6] } else bif Nat.beq n 15 then { ks := [.us 0 1000000 3, .lf 11 (.i .i64)], ex := [.exit 8] } else bif Nat.beq n 100013 then { ks := [.us 0 1000000 3, .lf 10 (.i .i64), .lf 11 (.i .i64)], ex := [.exit 4] } else default, hand := [1, 0, 0, 0], bar := fun d => Nat.beq d 42 || Nat.beq d 58 || Nat.beq d 111 || Nat.beq d 127 } else
  bif Nat.beq f 82 then { join := fun n => bif Nat.beq n 4 then some { ks := [.lf 0 (.i .u32), .lf 2 (.i .i64)], ex := [.normal] } else none } else
  bif Nat.beq f 83 then { join := fun n => bif Nat.beq n 4 then some { ks := [.lf 0 (.i .u64), .lf 2 (.i .i64)], ex := [.normal] } else bif Nat.beq n 8 then some { ks := [.lf 0 (.i .u64), .lf 2 (.i .i64)], ex := [.normal] } else none } else
  bif Nat.beq f 85 then { keep := fun n => bif Nat.beq n 1 then { ks := [.us 0 1000000 3, .lf 8 (.i .i64)], ex := [.exit 0, .ret] } else default, join := fun n => bif Nat.beq n 36 then some { ks := [.us 0 1000000 3, .lf 9 (.i .i64)], ex := [.normal] } else none, hand := [1, 0, 0, 0], bar := fun d => Nat.beq d 35 || Nat.beq d 51 } else
  bif Nat.beq f 88 then { hand := [2, 0, 0] } else
  bif Nat.beq f 89 then { hand := [2, 0, 0, 0, 0] } else
  bif Nat.beq f 91 then { hand := [2, 0, 0, 0], bar := fun d => Nat.beq d 18 } else
  {}
def kb0 : ByteArray := ⟨#[0, 1, 1, 2, 1, 2, 2, 3, 1, 2, 2, 3, 2, 3, 3, 4, 1, 2, 2, 3, 2, 3, 3, 4, 2, 3, 3, 4, 3, 4, 4, 5, 1, 2, 2, 3, 2, 3, 3, 4, 2, 3, 3, 4, 3, 4, 4, 5, 2, 3, 3, 4, 3, 4, 4, 5, 3, 4, 4, 5, 4, 5, 5, 6, 1, 2, 2, 3, 2, 3, 3, 4, 2, 3, 3, 4, 3, 4, 4, 5, 2, 3, 3, 4, 3, 4, 4, 5, 3, 4, 4, 5, 4, 5, 5, 6, 2, 3, 3, 4, 3, 4, 4, 5, 3, 4, 4, 5, 4, 5, 5, 6, 3, 4, 4, 5, 4, 5, 5, 6, 4, 5, 5, 6, 5, 6, 6, 7, 1, 2, 2, 3, 2, 3, 3, 4, 2, 3, 3, 4, 3, 4, 4, 5, 2, 3, 3, 4, 3, 4, 4, 5, 3, 4, 4, 5, 4, 5, 5, 6, 2, 3, 3, 4, 3, 4, 4, 5, 3, 4, 4, 5, 4, 5, 5, 6, 3, 4, 4, 5, 4, 5, 5, 6, 4, 5, 5, 6, 5, 6, 6, 7, 2, 3, 3, 4, 3, 4, 4, 5, 3, 4, 4, 5, 4, 5, 5, 6, 3, 4, 4, 5, 4, 5, 5, 6, 4, 5, 5, 6, 5, 6, 6, 7, 3, 4, 4, 5, 4, 5, 5, 6, 4, 5, 5, 6, 5, 6, 6, 7, 4, 5, 5, 6, 5, 6, 6, 7, 5, 6, 6, 7, 6, 7, 7, 8]⟩
def kb1 : ByteArray := ⟨#[0, 1, 2, 2, 3, 3, 3, 3, 4, 4, 4, 4, 4, 4, 4, 4, 5, 5, 5, 5, 5, 5, 5, 5, 5, 5, 5, 5, 5, 5, 5, 5, 6, 6, 6, 6, 6, 6, 6, 6, 6, 6, 6, 6, 6, 6, 6, 6, 6, 6, 6, 6, 6, 6, 6, 6, 6, 6, 6, 6, 6, 6, 6, 6, 7, 7, 7, 7, 7, 7, 7, 7, 7, 7, 7, 7, 7, 7, 7, 7, 7, 7, 7, 7, 7, 7, 7, 7, 7, 7, 7, 7, 7, 7, 7, 7, 7, 7, 7, 7, 7, 7, 7, 7, 7, 7, 7, 7, 7, 7, 7, 7, 7, 7, 7, 7, 7, 7, 7, 7, 7, 7, 7, 7, 7, 7, 7, 7, 8, 8, 8, 8, 8, 8, 8, 8, 8, 8, 8, 8, 8, 8, 8, 8, 8, 8, 8, 8, 8, 8, 8, 8, 8, 8, 8, 8, 8, 8, 8, 8, 8, 8, 8, 8, 8, 8, 8, 8, 8, 8, 8, 8, 8, 8, 8, 8, 8, 8, 8, 8, 8, 8, 8, 8, 8, 8, 8, 8, 8, 8, 8, 8, 8, 8, 8, 8, 8, 8, 8, 8, 8, 8, 8, 8, 8, 8, 8, 8, 8, 8, 8, 8, 8, 8, 8, 8, 8, 8, 8, 8, 8, 8, 8, 8, 8, 8, 8, 8, 8, 8, 8, 8, 8, 8, 8, 8, 8, 8, 8, 8, 8, 8, 8, 8, 8, 8, 8, 8, 8, 8, 8, 8, 8, 8, 8, 8]⟩
noncomputable def mfd (kt : TypeId) (kc : List C) (es : List (List C × List C)) : Option (Option (Nat × List C)) := mfind Try.prog kt kc es 0
noncomputable def cl (fu d : Nat) (f : FuncId) (args : List V) (objs : List PM.Obj) : Option Out := callN Try.prog prim laid fu d f args objs
end Go.Proofs.Ytepjbmlhfhahcaa
