/- Parts put together: PPc, Qd, ShelfS. -/
import Derived.Test.YtjmempcalaliiaaGreatDoorJ5
import Derived.ProofKit
import Derived.OpenShut
import Derived.ShutString
import Derived.ChangeOld
import Derived.DataShut
import Derived.WideKeyPair
import Derived.LaidMore
import Derived.MakeChecks
import Derived.FnData
import Derived.Shelf.Small.Bits
import Derived.Shelf.Strconv.Itoa0
import Derived.Shelf.Sort.Plain
import Derived.Shelf.Bits.Mul64
import Derived.Shelf.Slices.In.SortNone
import Derived.Test.YtjmempcalaliiaaGreatDoorProg
set_option linter.unusedSimpArgs false
set_option linter.unusedVariables false
open Go.IntKind renaming min→Zy5,max→Zy6,bits→Zx9,signed→Zy7
namespace Go.PM
open Go Go.ChangeShapes Go.WideShapes Go.ChangeAt Go.RowKit
def IsRow (k:IntKind) (w:World) (a:Option Addr) (len cap:Nat) (zs:List Int):Prop:=
 (a=none/\len=0/\cap=0/\zs=[])\/
 ∃x,a=some x/\len<=cap/\cap<=maxLen/\zs.length=cap/\(∀i,i<zs.length->w.cell? (x.add i)=some (.int k (zs.getD i 0)))/\ ∀n∈zs,(Lit.int k n).wf=true
theorem IsRow.rc {k:IntKind} {w:World} {a:Option Addr} {len cap:Nat} {zs:List Int} (h:IsRow k w a len cap zs):RC w (λb _=>b<w.heap.size) (C.sl (zs.take len).length (ik k (zs.take len))) (.slice a len cap):=by
 rcases h with⟨rfl,rfl,rfl,rfl⟩|⟨x,rfl,hl,hm,hz,hcell,_⟩
 ·exact RC.sl0 (Zt4 _)
 ·by_cases h0:len=0
  ·subst h0;exact RC.sl0 hm
  ·obtain⟨b,off,spot⟩:=x;have hc:=hcell 0 (by omega);have hspot:spot=none:=by simpa[Addr.add]using World.cell?_spot hc
   subst hspot;have hlen:(zs.take len).length=len:=by simp;omega
   rw[hlen];refine RC.sl (us:=λj=> .int k (zs.getD j 0)) hl hm (λj c hj=> ?_) (λj c hj=> ?_)
   ·have hjl:j<len:=by
     have:=(Zs8.1 hj).1;rw[Ze,hlen]at this;exact this
    have hcj:=hcell j (by omega);have e:w.cell? ⟨b,off+j,none⟩=some (.int k (zs.getD j 0)):=by
     by_cases hj0:j=0
     ·subst hj0;simpa[Addr.add]using hcj
     ·simpa[Addr.add,hj0]using hcj
    exact⟨e,World.block_lt_of_cell? w _ e⟩
   ·obtain⟨hjl,e⟩:=Zs8.1 hj;rw[Ze,hlen]at hjl;have:c=C.v (.int k (zs.getD j 0)):=by
     rw[<-e];simp[ik,Ztj,Zs6 (show j<zs.length by omega)]
    subst this;exact RC.v rfl
theorem IsRow.bytes {w:World} {a:Option Addr} {len cap:Nat} {zs:List Int} (h:IsRow .u8 w a len cap zs): ∀x∈zs.take len,0<=x/\x<=255:=by
 rcases h with⟨rfl,rfl,rfl,rfl⟩|⟨x,rfl,hl,hm,hz,hcell,hwf⟩
 ·intro x hx;simp at hx
 ·intro n hn;have:=hwf n (Zvu hn);have:=(Lit.wf_int_iff .u8 n).1 this;simp[Zy5,Zy6,Zx9,Zy7]at this;omega
theorem IsRow.i64 {w:World} {a:Option Addr} {len cap:Nat} {zs:List Int} (h:IsRow .i64 w a len cap zs): ∀x∈zs.take len,-9223372036854775808<=x/\x<=9223372036854775807:=by
 rcases h with⟨rfl,rfl,rfl,rfl⟩|⟨x,rfl,hl,hm,hz,hcell,hwf⟩
 ·intro x hx;simp at hx
 ·intro n hn;have:=hwf n (Zvu hn);have:=(Lit.wf_int_iff .i64 n).1 this;simp[Zy5,Zy6,Zx9,Zy7]at this;omega
theorem IsRow.le {k:IntKind} {w:World} {a:Option Addr} {len cap:Nat} {zs:List Int} (h:IsRow k w a len cap zs):(zs.take len).length<=maxLen:=by
 rcases h with⟨rfl,rfl,rfl,rfl⟩|⟨x,rfl,hl,hm,hz,hcell,hwf⟩
 ·simp
 ·simp;omega
theorem wf_i64 {n:Int} (h:(Lit.int .i64 n).wf=true): -9223372036854775808<=n/\n<=9223372036854775807:=by
 have:=(Lit.wf_int_iff .i64 n).1 h;simp[Zy5,Zy6,Zx9,Zy7]at this;omega
theorem args_nil {P:Program} {E:Env} {l:Loc}: ∀(i:Nat) (x:V) (u:Value),([]:List V)[i]? =some x->([]:List Value)[i]? =some u->RV P E l x u:=λi x u h=>by cases h
theorem args_cons {P:Program} {E:Env} {l:Loc} {x:V} {xs:List V} {u:Value} {us:List Value} (h:RV P E l x u) (hs: ∀(i:Nat) (x:V) (u:Value),xs[i]? =some x->us[i]? =some u->RV P E l x u): ∀(i:Nat) (y:V) (v:Value),(x::xs)[i]? =some y->(u::us)[i]? =some v->RV P E l y v:=λi y v hy hv=>by
 cases i with
 |zero=>cases hy;cases hv;exact h
 |succ i=>exact hs i y v hy hv
end Go.PM
namespace Go.PM
open Go Go.ChangeShapes Go.WideShapes Go.ChangeAt Go.RowKit
mutual
def Zb5 {H:Type}:DataW H->List C
 | .lit (.int k n)=>[.v (.int k n)]
 | .agg ds=>Eo ds
 |_=>[]
def Eo {H:Type}:List (DataW H)->List C
 | []=>[]
 |d::ds=>Zb5 d++Eo ds
end
def intT (P:Program):Nat->TypeId->Bool
 |0,_=>false
 |k+1,t=>match P.underlying t with
  |some (.int _)=>true
  |some (.array n e)=>Nat.beq (P.cellsOf t) (n*P.cellsOf e)&&intT P k e
  |_=>false
theorem Wt {H:Type} {enc:TypeId×Value->H} {P:Program} {w:World} {base:Nat} {sp:Nat->Bool} {held:Bool}: ∀(k:Nat) (t:TypeId) (fuel:Nat) (cs:List Value) (x:DataW H×List MemPlace),intT P k t=true->DataW.trod enc P w base sp held fuel t cs=some x->
  ∃zs:List (IntKind×Int),Zb5 x.1=zs.map (λz=> .v (.int z.1 z.2))/\cs=zs.map λz=> .int z.1 z.2
 |0,_,_,_,_,h,_=>by cases h
 |k+1,t,fuel,cs,x,hT,h=>by
  unfold intT at hT;split at hT
  ·rename_i kd ht;obtain⟨n,rfl,rfl,_⟩:=DataW.trod_int ht h;exact⟨[(kd,n)],rfl,rfl⟩
  ·rename_i n e ht;rw[Zs1]at hT;have hs:=Zs0 hT.1;obtain⟨xs,m,rfl,rfl,hlen,hn,hel⟩:=DataW.trod_array ht h;have key: ∀(xs:List (DataW H×List MemPlace)) (cs:List Value),cs.length=xs.length*P.cellsOf e->(∀i,i<xs.length->DataW.trod enc P w base sp held m e ((cs.drop (i*P.cellsOf e)).take (P.cellsOf e))=xs[i]?)->
     ∃zs:List (IntKind×Int),Eo (xs.map (·.1))=zs.map (λz=> .v (.int z.1 z.2))/\cs=zs.map λz=> .int z.1 z.2:=by
    intro xs
    induction xs with
    |nil=>
     intro cs hl _;exact⟨[],rfl,Zth (by simpa using hl)⟩
    |cons y ys ih=>
     intro cs hl hel;have h0:=hel 0 (by simp);simp only[Zub,Zuu,List.getElem?_cons_zero]at h0;obtain⟨z1,a1,a2⟩:=Wt k e m _ y hT.2 h0;obtain⟨z2,b1,b2⟩:=ih (cs.drop (P.cellsOf e)) (by simp[hl,Zt9]) (λi hi=>by
      have:=hel (i+1) (by simp;omega);rw[Zv4,show P.cellsOf e+i*P.cellsOf e=(i+1)*P.cellsOf e by rw[Zt9];omega];simpa using this)
     refine⟨z1++z2, ?_, ?_⟩
     ·simp only[Zua,Eo,Zu1,a1,b1]
     ·rw[Zu1,<-a2,<-b2,Zwn]
   obtain⟨zs,h1,h2⟩:=key xs cs (by rw[hlen,hs,hn]) (λi hi=>hel i (by omega));exact⟨zs,by simpa[Zb5]using h1,h2⟩
  ·cases hT
theorem glob_ints {H:Type} {enc:TypeId×Value->H} {P:Program} {W:World} {sp:Nat->Bool} {held:Bool} {n:String} {g:Nat} {t:TypeId} {cs:Array Value} {fuel k:Nat} {x:DataW H×List MemPlace} {tbl:List C}
  (hg:P.globalNamed n=some g) (hv:W.var? P n=some cs) (hT:intT P k t=true) (hd:DataW.trod enc P W 0 sp held fuel t cs.toList=some x) (ht:Zb5 x.1=tbl):
  RC W (λb _=>b<W.heap.size) (.cp tbl) (.pointer (some ⟨g,0,none⟩)):=by
 subst ht;obtain⟨zs,h1,h2⟩:=Wt k t fuel _ x hT hd;rw[h1];have hc: ∀i,i<zs.length->W.cell? ⟨g,i,none⟩=some (.int (zs.getD i (.i64,0)).1 (zs.getD i (.i64,0)).2):=λi hi=>by
  rw[World.var?_cell hg hv i];have:cs.toList[i]? =some (.int (zs.getD i (.i64,0)).1 (zs.getD i (.i64,0)).2):=by
   rw[h2,Ztg,Zs6 hi];simp[List.getD,Zs6 hi]
  simpa using this
 refine RC.cp (us:=λi=> .int (zs.getD i (.i64,0)).1 (zs.getD i (.i64,0)).2) (λi c hi=> ?_) (λi c hi=> ?_)
 ·have hl:i<zs.length:=by
   have:=(Zs8.1 hi).1;simpa using this
  rw[Zs4];exact⟨hc i hl,World.block_lt_of_cell? W _ (hc i hl)⟩
 ·obtain⟨hl,e⟩:=Zs8.1 hi;have hl':i<zs.length:=by simpa using hl
  have:c= .v (.int (zs.getD i (.i64,0)).1 (zs.getD i (.i64,0)).2):=by
   rw[<-e];simp[List.getD,Zs6 hl']
  subst this;exact .v rfl
end Go.PM
/-
  DERIVED: THE SHELF's CONTRACTS AT THIS DUMP, IN PLAIN WORDS (tools/lay-plain.mjs out of 'TryzShelf.lean', which tools/lay-shelf.mjs wrote): THE SAME DECLARATIONS UNDER THE SAME NAMES: 'import', 'namespace', 'open', 'def', 'theorem' AND NOTHING ELSE: no command of the shelf's: FOR A HAND-IN. Each laying: the table of numbers ('.._ren') and one theorem, a field a fact of the dump's own or the kernel's comparison; each contract: ONE APPLICATION.
-/
namespace Go.Proofs
open Go.Shelf
def Tryz.lays189_ren:Go.Shelf.Ren:=⟨λ|189=>112|125=>130|257=>133|128=>149|129=>150|294=>159|295=>160|296=>161|297=>162|298=>163|299=>164|216=>165|300=>166|301=>167|328=>179|329=>172|330=>173|331=>180|332=>181|215=>131|343=>187|n=>n,λ|28=>30|3=>3|46=>89|0=>0|51=>189|53=>57|4=>4|183=>182|182=>181|131=>186|5=>5|9=>9|218=>204|222=>208|228=>216|229=>217|n=>n,λ|n=>n⟩
theorem Tryz.lays189:Go.Proofs.Lays.n189 Tryz.prog Tryz.lays189_ren:={
 mixed:=by kernel_rfl
 f125:=Tryz.func130.trans (congrArg some (by kernel_rfl))
 f128:=Tryz.func149.trans (congrArg some (by kernel_rfl))
 f129:=Tryz.func150.trans (congrArg some (by kernel_rfl))
 f189:=Tryz.func112.trans (congrArg some (by kernel_rfl))
 f215:=Tryz.func131.trans (congrArg some (by kernel_rfl))
 f216:=Tryz.func165.trans (congrArg some (by kernel_rfl))
 f257:=Tryz.func133.trans (congrArg some (by kernel_rfl))
 f294:=Tryz.func159.trans (congrArg some (by kernel_rfl))
 f295:=Tryz.func160.trans (congrArg some (by kernel_rfl))
 f296:=Tryz.func161.trans (congrArg some (by kernel_rfl))
 f297:=Tryz.func162.trans (congrArg some (by kernel_rfl))
 f298:=Tryz.func163.trans (congrArg some (by kernel_rfl))
 f299:=Tryz.func164.trans (congrArg some (by kernel_rfl))
 f300:=Tryz.func166.trans (congrArg some (by kernel_rfl))
 f301:=Tryz.func167.trans (congrArg some (by kernel_rfl))
 f328:=Tryz.func179.trans (congrArg some (by kernel_rfl))
 f329:=Tryz.func172.trans (congrArg some (by kernel_rfl))
 f330:=Tryz.func173.trans (congrArg some (by kernel_rfl))
 f331:=Tryz.func180.trans (congrArg some (by kernel_rfl))
 f332:=Tryz.func181.trans (congrArg some (by kernel_rfl))
 f343:=Tryz.func187.trans (congrArg some (by kernel_rfl))
 t0:=Tryz.underlying0
 a0:=Tryz.isAgg0
 z0:=Tryz.sizeOf0
 v0:=Tryz.zeroValue0
 t3:=Tryz.underlying3
 a3:=Tryz.isAgg3
 z3:=Tryz.sizeOf3
 v3:=Tryz.zeroValue3
 t4:=Tryz.underlying4
 a4:=Tryz.isAgg4
 z4:=Tryz.sizeOf4
 v4:=Tryz.zeroValue4
 t5:=Tryz.underlying5
 a5:=Tryz.isAgg5
 z5:=Tryz.sizeOf5
 v5:=Tryz.zeroValue5
 t9:=Tryz.underlying9
 a9:=Tryz.isAgg9
 z9:=Tryz.sizeOf9
 v9:=Tryz.zeroValue9
 t28:=Tryz.underlying30
 a28:=Tryz.isAgg30
 z28:=Tryz.sizeOf30
 v28:=Tryz.zeroValue30
 t46:=Tryz.underlying89
 a46:=Tryz.isAgg89
 z46:=Tryz.sizeOf89
 v46:=Tryz.zeroValue89
 t51:=Tryz.underlying189
 a51:=Tryz.isAgg189
 z51:=Tryz.sizeOf189
 v51:=Tryz.zeroValue189
 t53:=Tryz.underlying57
 a53:=Tryz.isAgg57
 z53:=Tryz.sizeOf57
 v53:=Tryz.zeroValue57
 t131:=Tryz.underlying186
 a131:=Tryz.isAgg186
 z131:=Tryz.sizeOf186
 v131:=Tryz.zeroValue186
 t182:=Tryz.underlying181
 a182:=Tryz.isAgg181
 z182:=Tryz.sizeOf181
 v182:=Tryz.zeroValue181
 t183:=Tryz.underlying182
 a183:=Tryz.isAgg182
 z183:=Tryz.sizeOf182
 v183:=Tryz.zeroValue182
 t218:=Tryz.underlying204
 a218:=Tryz.isAgg204
 z218:=Tryz.sizeOf204
 v218:=Tryz.zeroValue204
 t222:=Tryz.underlying208
 a222:=Tryz.isAgg208
 z222:=Tryz.sizeOf208
 v222:=Tryz.zeroValue208
 t228:=Tryz.underlying216
 a228:=Tryz.isAgg216
 z228:=Tryz.sizeOf216
 v228:=Tryz.zeroValue216
 t229:=Tryz.underlying217
 a229:=Tryz.isAgg217
 z229:=Tryz.sizeOf217
 v229:=Tryz.zeroValue217}
open Go.Sort Go.RowKit in
theorem Tryz.slices_Sort_int (blk off cap:Nat) (zs:List Int) (w:World) (hH:Holds (Value.int .i64) w blk off zs.toArray) (hblk:blk<w.heap.size) (hsz:zs.length<4611686018427387904):
  Calls Tryz.prog 112 #[.slice (some ⟨blk,off,none⟩) zs.length cap] w λe w'=>
   e= .returned (.tuple #[])/\ ∃n os,w'=grow (putRow (Value.int .i64) (Sort.ahead w n) blk off (zs.mergeSort λx y=>decide (x<=y)).toArray) os:=Any.slices_Sort_int Tryz.lays189 blk off cap zs w hH hblk hsz
open Go.RowKit Go.Sort in
theorem Tryz.slices_Sort_int_none (p:Option Addr) (cap:Nat) (w:World):
  Calls Tryz.prog 112 #[.slice p 0 cap] w λe w'=>e= .returned (.tuple #[])/\w'=w:=Any.slices_Sort_int_none Tryz.lays189 p cap w
end Go.Proofs
