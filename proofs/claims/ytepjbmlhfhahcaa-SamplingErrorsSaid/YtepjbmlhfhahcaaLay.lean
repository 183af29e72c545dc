/- The hints under which the pure machine runs this program's functions. -/
import Derived.Test.YtepjbmlhfhahcaaJ5
import Derived.Test.YtepjbmlhfhahcaaProg
import Derived.KernelRfl
set_option linter.unusedVariables false
set_option linter.unusedSimpArgs false
namespace Go.Proofs.Ytepjbmlhfhahcaa
open Go Go.PM
def fn_bits_Add64:Nat:=90
def fn_bits_OnesCount:Nat:=44
def fn_bits_OnesCount64:Nat:=61
def fn_sampling_Exchange:Nat:=15
def fn_sampling_Exchange_1:Nat:=43
def fn_sampling_Signs:Nat:=12
def fn_sampling_absolute:Nat:=33
def fn_sampling_choices:Nat:=32
def fn_sampling_choices_1:Nat:=56
def fn_sampling_chosen:Nat:=31
def fn_sampling_outside:Nat:=30
def fn_sampling_outside_1:Nat:=55
def fn_sampling_within:Nat:=48
def fn_score_Reduce:Nat:=22
def fn_score_within:Nat:=49
def fn_slices_Concat_sint_int:Nat:=42
def fn_slices_ContainsFunc_sint_int:Nat:=54
def fn_slices_Grow_sint_int:Nat:=59
def fn_slices_IndexFunc_sint_int:Nat:=67
def fn_slices_Sort_sint_int:Nat:=63
def fn_slices_Values_sint_int_1:Nat:=64
def fn_synopticfield_Codes_Left:Nat:=45
def fn_synopticfield_Codes_Next:Nat:=17
def fn_synopticfield_New:Nat:=11
def fn_synopticlaw39_SamplingErrors:Nat:=5
def fn_synopticlaw39_awake:Nat:=9
def fn_synopticlaw39_sample:Nat:=10
def ty_int:Nat:=3
def ty_synopticfield_Codes:Nat:=59
def globs:Nat→Option (List C):=fun g=>none
def primfn:FuncId→Option (List V→List PM.Obj→Option Out):=fun f=>bif Nat.beq f fn_slices_Sort_sint_int then some (sortP ty_int) else none
/-- choices(n): all numbers below 2^n. -/
def chosen (n:Nat):List (List V):=(List.range (2^n)).map fun i=>[V.c (C.v (.int .u64 (i:Nat)))]
/-- The elements of a slice of numbers, one by one. -/
def elems:List C→Option (List (List V))
  | []=>some []
  |c::cs=>asI .i64 c fun n=>(elems cs).bind fun r=>some ([V.c (C.v (.int .i64 n))]::r)
def iterC (f:FuncId) (caps:List C):Option (List (List V)):=
  bif Nat.beq f fn_sampling_choices_1 then match caps with
    | [c]=>asP c fun cs=>unc cs fun c _=>asI .i64 c fun n=>need (decide (0≤n)&&decide (n≤13)) (some (chosen n.toNat))
    |_=>none
  else bif Nat.beq f fn_slices_Values_sint_int_1 then match caps with
    | [c]=>asP c fun cs=>unc cs fun c _=>asSl c fun n l=>need (Nat.beq n l.length&&Nat.ble n 1000000000000) (elems l)
    |_=>none
  else none
def prim:Prims:={fn:=primfn,iter:=fun d f caps=>match d with|0=>none|_+1=>iterC f caps,glob:=globs,add:=some fn_bits_Add64}
noncomputable def laid:FuncId→Laid:=fun f=>
  bif Nat.beq f 5 then {own:=fun d=>Nat.beq d 39||Nat.beq d 41||Nat.beq d 44,keep:=fun n=>bif Nat.beq n 8 then {ks:=[.lf 46 (.i .i64), .ob 37 59 [.o, .i .i64] [(8,0)]],fz:=[9,10],ex:=[.exit 0]} else bif Nat.beq n 11 then {ks:=[.ow 12 12 3, .lf 13 (.i .i64), .ob 37 59 [.o, .i .i64] [(8,0)]],fz:=[9,10],ex:=[.exit 2]} else bif Nat.beq n 18 then {ks:=[.ow 15 15 3, .lf 78 (.i .i64)],fz:=[9,10],ex:=[.exit 4]} else default,hand:=[2,2],unr:=fun n=>bif Nat.beq n 8 then 3 else bif Nat.beq n 11 then 5 else 0,mix:=fun d=>Nat.beq d 44} else
  bif Nat.beq f 10 then {keep:=fun n=>bif Nat.beq n 3 then {ks:=[.ow 5 5 3, .lf 6 (.i .i64), .ob 1000000 59 [.o, .i .i64] [(0,0)]],ex:=[.exit 0]} else default} else
  bif Nat.beq f 11 then {own:=fun d=>Nat.beq d 14,exp:=[some 59],hand:=[2,0]} else
  bif Nat.beq f 12 then {keep:=fun n=>bif Nat.beq n 7 then {ks:=[.ob 2 31 [.i .i64, .i .i64] [(2,0)], .ob 5 3 [.i .i64] [(5,0)]],fz:=[4],ex:=[],sh:=[.s (.i .u64)]} else default,hand:=[2],bar:=fun d=>Nat.beq d 20||Nat.beq d 33||Nat.beq d 41} else
  bif Nat.beq f 15 then {keep:=fun n=>bif Nat.beq n 10 then {ks:=[.ob 4 31 [.i .i64, .i .i64] [(4,0)], .ob 10 3 [.i .i64] [(10,0)], .ob 11 3 [.i .i64] [(11,0)]],fz:=[8,9],ex:=[],sh:=[.s (.i .u64)]} else default,hand:=[2,2],bar:=fun d=>Nat.beq d 30||Nat.beq d 43||Nat.beq d 3000044||Nat.beq d 3000045} else
  bif Nat.beq f 22 then {keep:=fun n=>bif Nat.beq n 6 then {ks:=[.lf 6 (.i .i64), .lf 7 (.i .i64), .ob 4 31 [.i .i64, .i .i64] [(4,0)]],ex:=[.exit 0]} else default,join:=fun n=>bif Nat.beq n 22 then some {ks:=[.lf 0 (.i .i64), .lf 1 (.i .i64), .ob 4 31 [.i .i64, .i .i64] [(4,0)]],ex:=[.normal]} else none} else
  bif Nat.beq f 30 then {hand:=[2]} else
  bif Nat.beq f 31 then {keep:=fun n=>bif Nat.beq n 3 then {ks:=[.lf 5 (.i .i64), .lf 10 (.i .i64)],ex:=[.exit 0]} else default,hand:=[2,0]} else
  bif Nat.beq f 42 then {keep:=fun n=>bif Nat.beq n 3 then {ks:=[.lf 3 (.i .i64), .lf 11 (.i .i64)],ex:=[.exit 0]} else bif Nat.beq n 11 then {ks:=[.ow 6 6 3, .lf 27 (.i .i64)],ex:=[.exit 2]} else default,hand:=[2]} else
  bif Nat.beq f 43 then {bar:=fun d=>Nat.beq d 17} else
  bif Nat.beq f 54 then {hand:=[2,0]} else
  bif Nat.beq f 56 then {keep:=fun n=>bif Nat.beq n 1 then {ks:=[.lf 6 (.i .u64), .lg],ex:=[.exit 0, .ret]} else default} else
  bif Nat.beq f 59 then {join:=fun n=>bif Nat.beq n 6 then some {ks:=[],ex:=[.normal]} else none,exp:=[some 3]} else
  bif Nat.beq f 63 then {hand:=[1]} else
  bif Nat.beq f 64 then {keep:=fun n=>bif Nat.beq n 1 then {ks:=[.lf 7 (.i .i64), .lg],ex:=[.exit 0, .ret]} else default} else
  bif Nat.beq f 67 then {keep:=fun n=>bif Nat.beq n 2 then {ks:=[.lf 4 (.i .i64), .lf 8 (.i .i64)],ex:=[.exit 0, .ret]} else default,hand:=[2,0]} else
  {}
def kb0:ByteArray:=⟨#[0,1,1,2,1,2,2,3,1,2,2,3,2,3,3,4,1,2,2,3,2,3,3,4,2,3,3,4,3,4,4,5,1,2,2,3,2,3,3,4,2,3,3,4,3,4,4,5,2,3,3,4,3,4,4,5,3,4,4,5,4,5,5,6,1,2,2,3,2,3,3,4,2,3,3,4,3,4,4,5,2,3,3,4,3,4,4,5,3,4,4,5,4,5,5,6,2,3,3,4,3,4,4,5,3,4,4,5,4,5,5,6,3,4,4,5,4,5,5,6,4,5,5,6,5,6,6,7,1,2,2,3,2,3,3,4,2,3,3,4,3,4,4,5,2,3,3,4,3,4,4,5,3,4,4,5,4,5,5,6,2,3,3,4,3,4,4,5,3,4,4,5,4,5,5,6,3,4,4,5,4,5,5,6,4,5,5,6,5,6,6,7,2,3,3,4,3,4,4,5,3,4,4,5,4,5,5,6,3,4,4,5,4,5,5,6,4,5,5,6,5,6,6,7,3,4,4,5,4,5,5,6,4,5,5,6,5,6,6,7,4,5,5,6,5,6,6,7,5,6,6,7,6,7,7,8]⟩
def kb1:ByteArray:=⟨#[0,1,2,2,3,3,3,3,4,4,4,4,4,4,4,4,5,5,5,5,5,5,5,5,5,5,5,5,5,5,5,5,6,6,6,6,6,6,6,6,6,6,6,6,6,6,6,6,6,6,6,6,6,6,6,6,6,6,6,6,6,6,6,6,7,7,7,7,7,7,7,7,7,7,7,7,7,7,7,7,7,7,7,7,7,7,7,7,7,7,7,7,7,7,7,7,7,7,7,7,7,7,7,7,7,7,7,7,7,7,7,7,7,7,7,7,7,7,7,7,7,7,7,7,7,7,7,7,8,8,8,8,8,8,8,8,8,8,8,8,8,8,8,8,8,8,8,8,8,8,8,8,8,8,8,8,8,8,8,8,8,8,8,8,8,8,8,8,8,8,8,8,8,8,8,8,8,8,8,8,8,8,8,8,8,8,8,8,8,8,8,8,8,8,8,8,8,8,8,8,8,8,8,8,8,8,8,8,8,8,8,8,8,8,8,8,8,8,8,8,8,8,8,8,8,8,8,8,8,8,8,8,8,8,8,8,8,8,8,8,8,8,8,8,8,8,8,8,8,8,8,8,8,8,8,8]⟩
noncomputable def mfd (kt:TypeId) (kc:List C) (es:List (List C×List C)):Option (Option (Nat×List C)):=mfind Try.prog kt kc es 0
noncomputable def cl (fu d:Nat) (f:FuncId) (args:List V) (objs:List PM.Obj):Option Out:=callN Try.prog prim laid fu d f args objs
end Go.Proofs.Ytepjbmlhfhahcaa
