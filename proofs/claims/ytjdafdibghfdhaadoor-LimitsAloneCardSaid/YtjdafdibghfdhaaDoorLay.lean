/- The hints under which the pure machine runs this program's functions. -/
import Derived.Test.YtjdafdibghfdhaaDoorPQb
import Derived.Test.YtjdafdibghfdhaaDoorProg
import Derived.KernelRfl
set_option linter.unusedVariables false
set_option linter.unusedSimpArgs false
namespace Go.Proofs.YtjdafdibghfdhaaDoor
open Go Go.PM
def fn_bits_Len : Nat := 28
def fn_bits_Len32 : Nat := 40
def fn_bits_Len64 : Nat := 41
def fn_cmp_Less_int : Nat := 37
def fn_cmp_isNaN_int : Nat := 47
def fn_element_Find : Nat := 26
def fn_element_Find_1 : Nat := 30
def fn_limits_Check : Nat := 8
def fn_limits_Gross : Nat := 16
def fn_limits_find : Nat := 19
def fn_slices_Compact_sint_int : Nat := 21
def fn_slices_IndexFunc_sapi_Reading_api_Reading : Nat := 29
def fn_slices_Sort_sint_int : Nat := 20
def fn_slices_breakPatternsOrdered_int : Nat := 33
def fn_slices_choosePivotOrdered_int : Nat := 34
def fn_slices_heapSortOrdered_int : Nat := 32
def fn_slices_insertionSortOrdered_int : Nat := 31
def fn_slices_medianAdjacentOrdered_int : Nat := 45
def fn_slices_medianOrdered_int : Nat := 46
def fn_slices_nextPowerOfTwo : Nat := 43
def fn_slices_order2Ordered_int : Nat := 48
def fn_slices_partialInsertionSortOrdered_int : Nat := 36
def fn_slices_partitionEqualOrdered_int : Nat := 38
def fn_slices_partitionOrdered_int : Nat := 39
def fn_slices_pdqsortOrdered_int : Nat := 27
def fn_slices_reverseRangeOrdered_int : Nat := 35
def fn_slices_siftDownOrdered_int : Nat := 42
def fn_slices_xorshift_Next : Nat := 44
def fn_synoptickeep_In : Nat := 12
def fn_synoptickeep_Ints : Nat := 22
def fn_synoptickeep_Mod : Nat := 14
def fn_synoptickeep_New : Nat := 6
def fn_synoptickeep_Src_N : Nat := 17
def fn_synoptickeep_Src_Pick : Nat := 25
def fn_synoptickeep_Src_Range : Nat := 24
def fn_synoptickeep_Src_Raw : Nat := 23
def fn_synopticlaw14_LimitsAlone : Nat := 5
def fn_synopticlaw14_LimitsClean : Nat := 3
def fn_synopticlaw14_LimitsNarrow : Nat := 4
def fn_synopticlaw14_awake : Nat := 13
def fn_synopticref04_Describe : Nat := 15
def fn_synopticref04_Find : Nat := 11
def fn_synopticref04_List : Nat := 7
def fn_synopticref04_Some : Nat := 18
def fn_synopticref04_Without : Nat := 9
def fn_synopticref14_Gross : Nat := 10
def ty_int : Nat := 3
def ty_slices_xorshift : Nat := 72
def ty_synoptickeep_Src : Nat := 45
def gl_limits_bounds : List C := [.v (.int .i64 0), .v (.int .i64 0), .v (.int .i64 8700), .v (.int .i64 10850), .v (.int .i64 1830), .v (.int .i64 3300), .v (.int .i64 1830), .v (.int .i64 3100), .v (.int .i64 (-900)), .v (.int .i64 900), .v (.int .i64 (-900)), .v (.int .i64 900), .v (.int .i64 1000), .v (.int .i64 1650), .v (.int .i64 2100), .v (.int .i64 3150), .v (.int .i64 2500), .v (.int .i64 3350), .v (.int .i64 2050), .v (.int .i64 2950), .v (.int .i64 4700), .v (.int .i64 6050), .v (.int .i64 2050), .v (.int .i64 2850)]
def globs : Nat → Option (List C) := fun g => bif Nat.beq g 0 then some gl_limits_bounds else none
def primfn : FuncId → Option (List V → List PM.Obj → Option Out) := fun f => bif Nat.beq f fn_slices_Sort_sint_int then some (sortP ty_int) else bif Nat.beq f fn_slices_Compact_sint_int then some (compactP ty_int) else none
def prim : Prims := { fn := primfn, iter := fun _ _ _ => none, glob := globs }
def laid : FuncId → Laid := fun f =>
  bif Nat.beq f 3 then { keep := fun n => bif Nat.beq n 8 then { ks := [.lf 2 .b, .lf 7 (.i .i64)], ex := [.exit 0, .ret] } else bif Nat.beq n 13 then { ks := [.lf 2 .b, .lf 48 (.i .i64)], ex := [.exit 2, .ret] } else default, hand := [2] } else
  bif Nat.beq f 4 then { keep := fun n => bif Nat.beq n 5 then { ks := [.lf 8 (.i .i64), .lf 9 (.i .i64), .lf 10 (.i .i64)], fz := [6], ex := [.exit 0] } else default } else
  bif Nat.beq f 5 then { keep := fun n => bif Nat.beq n 5 then { ks := [.lf 2 .b, .lf 18 (.i .i64)], ex := [.exit 0, .ret] } else default, hand := [2] } else
  bif Nat.beq f 6 then { own := fun d => Nat.beq d 9, exp := [some 45], hand := [2] } else
  bif Nat.beq f 7 then { keep := fun n => bif Nat.beq n 3 then { ks := [.ow 3 3 30, .lf 4 (.i .i64), .ob 1000000 45 [.o, .i .i64] [(0, 0)]], ex := [.exit 0] } else default } else
  bif Nat.beq f 8 then { keep := fun n => bif Nat.beq n 3 then { ks := [.ow 3 3 3, .lf 16 (.i .i64)], ex := [.exit 0] } else default, join := fun n => bif Nat.beq n 47 then some { ks := [.ow 3 3 3], ex := [.normal] } else none, hand := [2] } else
  bif Nat.beq f 9 then { keep := fun n => bif Nat.beq n 3 then { ks := [.ow 5 5 30, .lf 6 (.i .i64)], ex := [.exit 0] } else default, hand := [2, 2] } else
  bif Nat.beq f 11 then { keep := fun n => bif Nat.beq n 2 then { ks := [.lf 4 (.i .i64), .lf 5 .b, .lf 6 (.i .i64)], ex := [.exit 0, .ret] } else default, hand := [2, 0] } else
  bif Nat.beq f 12 then { keep := fun n => bif Nat.beq n 2 then { ks := [.lf 4 .b, .lf 5 (.i .i64)], ex := [.exit 0, .ret] } else default, hand := [2, 0] } else
  bif Nat.beq f 18 then { join := fun n => bif Nat.beq n 33 then some { ks := [.lf 33 .b, .ob 4 30 [.i .i64, .i .i64] [(4, 0)], .ob 5 39 [.s, .i .i64, .i .i64, .i .i64] [(5, 0)], .ob 7 30 [.i .i64, .i .i64] [(7, 0)], .ob 1000000 45 [.o, .i .i64] [(0, 0)]], ex := [.normal] } else none, loud := fun d => Nat.beq d 43, lh := [1000000] } else
  bif Nat.beq f 19 then { hand := [2, 0] } else
  bif Nat.beq f 20 then { hand := [1] } else
  bif Nat.beq f 21 then { hand := [1], fzb := true } else
  bif Nat.beq f 22 then { keep := fun n => bif Nat.beq n 4 then { ks := [.lf 4 .b, .lf 5 (.i .i64)], ex := [.exit 0, .ret] } else default, hand := [2, 2] } else
  bif Nat.beq f 25 then { hand := [0, 2] } else
  bif Nat.beq f 26 then { hand := [2, 0] } else
  bif Nat.beq f 27 then { keep := fun n => bif Nat.beq n 2 then { ks := [.us 0 1000000 3, .lf 1 (.i .i64), .lf 2 (.i .i64), .lf 3 (.i .i64), .lf 8 .b, .lf 9 .b], ex := [.ret] } else default, join := fun n => bif Nat.beq n 35 then some { ks := [.us 0 1000000 3, .lf 3 (.i .i64)], ex := [.normal] } else bif Nat.beq n 50 then some { ks := [.us 0 1000000 3, .lf 11 (.i .i64), .lf 12 (.i .i64)], ex := [.normal] } else bif Nat.beq n 68 then some { ks := [.us 0 1000000 3], ex := [.ret, .normal] } else none, hand := [1, 0, 0, 0] } else
  bif Nat.beq f 29 then { keep := fun n => bif Nat.beq n 2 then { ks := [.lf 4 (.i .i64), .lf 8 (.i .i64)], ex := [.exit 0, .ret] } else default, hand := [2, 0] } else
  bif Nat.beq f 31 then { keep := fun n => bif Nat.beq n 1 then { ks := [.us 0 1000000 3, .lf 6 (.i .i64)], ex := [.exit 0] } else bif Nat.beq n 4 then { ks := [.us 0 1000000 3, .lf 7 (.i .i64)], ex := [.exit 2] } else default, hand := [1, 0, 0] } else
  bif Nat.beq f 32 then { keep := fun n => bif Nat.beq n 4 then { ks := [.us 0 1000000 3, .lf 9 (.i .i64)], ex := [.exit 0] } else bif Nat.beq n 8 then { ks := [.us 0 1000000 3, .lf 10 (.i .i64)], ex := [.exit 2] } else default, hand := [1, 0, 0] } else
  bif Nat.beq f 33 then { keep := fun n => bif Nat.beq n 5 then { ks := [.us 0 1000000 3, .lf 9 (.i .i64)], fz := [7], ex := [.exit 0] } else default, join := fun n => bif Nat.beq n 43 then some { ks := [.us 0 1000000 3, .lf 10 (.i .i64)], ex := [.normal] } else none, hand := [1, 0, 0] } else
  bif Nat.beq f 34 then { join := fun n => bif Nat.beq n 32 then some { ks := [.lf 11 (.i .i64), .ob 9 3 [.i .i64] [(9, 0)]], ex := [.normal] } else bif Nat.beq n 34 then some { ks := [.lf 10 (.i .i64), .lf 11 (.i .i64), .lf 12 (.i .i64), .ob 9 3 [.i .i64] [(9, 0)]], ex := [.normal] } else none, hand := [2, 0, 0] } else
  bif Nat.beq f 35 then { keep := fun n => bif Nat.beq n 2 then { ks := [.us 0 1000000 3, .lf 6 (.i .i64), .lf 7 (.i .i64)], ex := [.exit 0] } else default, hand := [1, 0, 0] } else
  bif Nat.beq f 36 then { keep := fun n => bif Nat.beq n 3 then { ks := [.us 0 1000000 3, .lf 6 .b, .lf 7 (.i .i64), .lf 8 (.i .i64)], ex := [.exit 0, .ret] } else bif Nat.beq n 5 then { ks := [.us 0 1000000 3, .lf 7 (.i .i64)], ex := [.exit 2] } else bif Nat.beq n 14 then { ks := [.us 0 1000000 3, .lf 9 (.i .i64)], ex := [.exit 4] } else bif Nat.beq n 20 then { ks := [.us 0 1000000 3, .lf 10 (.i .i64)], ex := [.exit 6] } else default, join := fun n => bif Nat.beq n 61 then some { ks := [.us 0 1000000 3], ex := [.normal] } else none, hand := [1, 0, 0] } else
  bif Nat.beq f 38 then { keep := fun n => bif Nat.beq n 3 then { ks := [.us 0 1000000 3, .lf 9 (.i .i64)], ex := [.exit 2] } else bif Nat.beq n 5 then { ks := [.us 0 1000000 3, .lf 10 (.i .i64)], ex := [.exit 4] } else bif Nat.beq n 100003 then { ks := [.us 0 1000000 3, .lf 9 (.i .i64), .lf 10 (.i .i64)], ex := [.exit 0] } else default, hand := [1, 0, 0, 0] } else
  bif Nat.beq f 39 then { keep := fun n => bif Nat.beq n 3 then { ks := [.us 0 1000000 3, .lf 10 (.i .i64)], ex := [.exit 0] } else bif Nat.beq n 5 then { ks := [.us 0 1000000 3, .lf 11 (.i .i64)], ex := [.exit 2] } else bif Nat.beq n 13 then { ks := [.us 0 1000000 3, .lf 10 (.i .i64)], ex := [.exit 6] } else bif Nat.beq n 15 then { ks := [.us 0 1000000 3, .lf 11 (.i .i64)], ex := [.exit 8] } else bif Nat.beq n 100013 then { ks := [.us 0 1000000 3, .lf 10 (.i .i64), .lf 11 (.i .i64)], ex := [.exit 4] } else default, hand := [1, 0, 0, 0] } else
  bif Nat.beq f 40 then { join := fun n => bif Nat.beq n 4 then some { ks := [.lf 0 (.i .u32), .lf 2 (.i .i64)], ex := [.normal] } else none } else
  bif Nat.beq f 41 then { join := fun n => bif Nat.beq n 4 then some { ks := [.lf 0 (.i .u64), .lf 2 (.i .i64)], ex := [.normal] } else bif Nat.beq n 8 then some { ks := [.lf 0 (.i .u64), .lf 2 (.i .i64)], ex := [.normal] } else none } else
  bif Nat.beq f 42 then { keep := fun n => bif Nat.beq n 1 then { ks := [.us 0 1000000 3, .lf 8 (.i .i64)], ex := [.exit 0, .ret] } else default, join := fun n => bif Nat.beq n 36 then some { ks := [.us 0 1000000 3, .lf 9 (.i .i64)], ex := [.normal] } else none, hand := [1, 0, 0, 0] } else
  bif Nat.beq f 45 then { hand := [2, 0, 0] } else
  bif Nat.beq f 46 then { hand := [2, 0, 0, 0, 0] } else
  bif Nat.beq f 48 then { hand := [2, 0, 0, 0] } else
  {}
def kb0 : ByteArray := ⟨#[0, 1, 2, 2, 3, 3, 3, 3, 4, 4, 4, 4, 4, 4, 4, 4, 5, 5, 5, 5, 5, 5, 5, 5, 5, 5, 5, 5, 5, 5, 5, 5, 6, 6, 6, 6, 6, 6, 6, 6, 6, 6, 6, 6, 6, 6, 6, 6, 6, 6, 6, 6, 6, 6, 6, 6, 6, 6, 6, 6, 6, 6, 6, 6, 7, 7, 7, 7, 7, 7, 7, 7, 7, 7, 7, 7, 7, 7, 7, 7, 7, 7, 7, 7, 7, 7, 7, 7, 7, 7, 7, 7, 7, 7, 7, 7, 7, 7, 7, 7, 7, 7, 7, 7, 7, 7, 7, 7, 7, 7, 7, 7, 7, 7, 7, 7, 7, 7, 7, 7, 7, 7, 7, 7, 7, 7, 7, 7, 8, 8, 8, 8, 8, 8, 8, 8, 8, 8, 8, 8, 8, 8, 8, 8, 8, 8, 8, 8, 8, 8, 8, 8, 8, 8, 8, 8, 8, 8, 8, 8, 8, 8, 8, 8, 8, 8, 8, 8, 8, 8, 8, 8, 8, 8, 8, 8, 8, 8, 8, 8, 8, 8, 8, 8, 8, 8, 8, 8, 8, 8, 8, 8, 8, 8, 8, 8, 8, 8, 8, 8, 8, 8, 8, 8, 8, 8, 8, 8, 8, 8, 8, 8, 8, 8, 8, 8, 8, 8, 8, 8, 8, 8, 8, 8, 8, 8, 8, 8, 8, 8, 8, 8, 8, 8, 8, 8, 8, 8, 8, 8, 8, 8, 8, 8, 8, 8, 8, 8, 8, 8, 8, 8, 8, 8, 8, 8]⟩
noncomputable def cl (fu d : Nat) (f : FuncId) (args : List V) (objs : List PM.Obj) : Option Out := callN Tryd.prog prim laid fu d f args objs
end Go.Proofs.YtjdafdibghfdhaaDoor
