/- Parts put together: PPc, Qd. -/
import Derived.Test.YtobmbacppbkgeaaGreatDoorJ5
import Derived.ProofKit
import Derived.OpenShut
import Derived.ShutString
import Derived.ChangeOld
import Derived.DataShut
import Derived.WideKeyPair
import Derived.LaidMore
import Derived.MakeChecks
import Derived.FnData
set_option linter.unusedSimpArgs false
set_option linter.unusedVariables false
namespace Go.PM
open Go Go.ChangeShapes Go.WideShapes Go.ChangeAt Go.RowKit
def IsRow (k:IntKind) (w:World) (a:Option Addr) (len cap:Nat) (zs:List Int):Prop:=
 (a=none/\len=0/\cap=0/\zs=[])\/
 ∃x,a=some x/\len<=cap/\cap<=maxLen/\zs.length=cap/\(∀i,i<zs.length->w.cell? (x.add i)=some (.int k (zs.getD i 0)))/\ ∀n∈zs,(Lit.int k n).wf=true
theorem IsRow.rc {k:IntKind} {w:World} {a:Option Addr} {len cap:Nat} {zs:List Int} (h:IsRow k w a len cap zs):RC w (λb _=>b<w.heap.size) (C.sl (zs.take len).length (ik k (zs.take len))) (.slice a len cap):=by
 rcases h with⟨rfl,rfl,rfl,rfl⟩|⟨x,rfl,hl,hm,hz,hcell,_⟩
 ·exact RC.sl0 (Znv _)
 ·by_cases h0:len=0
  ·subst h0;exact RC.sl0 hm
  ·obtain⟨b,off,spot⟩:=x;have hc:=hcell 0 (by omega);have hspot:spot=none:=by simpa[Addr.add]using World.cell?_spot hc
   subst hspot;have hlen:(zs.take len).length=len:=by simp;omega
   rw[hlen];refine RC.sl (us:=λj=> .int k (zs.getD j 0)) hl hm (λj c hj=> ?_) (λj c hj=> ?_)
   ·have hjl:j<len:=by
     have:=(Zmx.1 hj).1;rw[Xu,hlen]at this;exact this
    have hcj:=hcell j (by omega);have e:w.cell? ⟨b,off+j,none⟩=some (.int k (zs.getD j 0)):=by
     by_cases hj0:j=0
     ·subst hj0;simpa[Addr.add]using hcj
     ·simpa[Addr.add,hj0]using hcj
    exact⟨e,World.block_lt_of_cell? w _ e⟩
   ·obtain⟨hjl,e⟩:=Zmx.1 hj;rw[Xu,hlen]at hjl;have:c=C.v (.int k (zs.getD j 0)):=by
     rw[<-e];simp[ik,Zok,Zm0 (show j<zs.length by omega)]
    subst this;exact RC.v rfl
theorem IsRow.bytes {w:World} {a:Option Addr} {len cap:Nat} {zs:List Int} (h:IsRow .u8 w a len cap zs): ∀x∈zs.take len,0<=x/\x<=255:=by
 rcases h with⟨rfl,rfl,rfl,rfl⟩|⟨x,rfl,hl,hm,hz,hcell,hwf⟩
 ·intro x hx;simp at hx
 ·intro n hn;have:=hwf n (Zpg hn);have:=(Lit.wf_int_iff .u8 n).1 this;simp[IntKind.min,IntKind.max,IntKind.bits,IntKind.signed]at this;omega
theorem IsRow.i64 {w:World} {a:Option Addr} {len cap:Nat} {zs:List Int} (h:IsRow .i64 w a len cap zs): ∀x∈zs.take len,-9223372036854775808<=x/\x<=9223372036854775807:=by
 rcases h with⟨rfl,rfl,rfl,rfl⟩|⟨x,rfl,hl,hm,hz,hcell,hwf⟩
 ·intro x hx;simp at hx
 ·intro n hn;have:=hwf n (Zpg hn);have:=(Lit.wf_int_iff .i64 n).1 this;simp[IntKind.min,IntKind.max,IntKind.bits,IntKind.signed]at this;omega
theorem args_nil {P:Program} {E:Env} {l:Loc}: ∀(i:Nat) (x:V) (u:Value),([]:List V)[i]? =some x->([]:List Value)[i]? =some u->RV P E l x u:=λi x u h=>by cases h
theorem args_cons {P:Program} {E:Env} {l:Loc} {x:V} {xs:List V} {u:Value} {us:List Value} (h:RV P E l x u) (hs: ∀(i:Nat) (x:V) (u:Value),xs[i]? =some x->us[i]? =some u->RV P E l x u): ∀(i:Nat) (y:V) (v:Value),(x::xs)[i]? =some y->(u::us)[i]? =some v->RV P E l y v:=λi y v hy hv=>by
 cases i with
 |zero=>cases hy;cases hv;exact h
 |succ i=>exact hs i y v hy hv
end Go.PM
namespace Go.PM
open Go Go.ChangeShapes Go.WideShapes Go.ChangeAt Go.RowKit
mutual
def Am {H:Type}:DataW H->List C
 | .lit (.int k n)=>[.v (.int k n)]
 | .agg ds=>Hx ds
 |_=>[]
def Hx {H:Type}:List (DataW H)->List C
 | []=>[]
 |d::ds=>Am d++Hx ds
end
def intT (P:Program):Nat->TypeId->Bool
 |0,_=>false
 |k+1,t=>match P.underlying t with
  |some (.int _)=>true
  |some (.array n e)=>Nat.beq (P.cellsOf t) (n*P.cellsOf e)&&intT P k e
  |_=>false
theorem Ci {H:Type} {enc:TypeId×Value->H} {P:Program} {w:World} {base:Nat} {sp:Nat->Bool} {held:Bool}: ∀(k:Nat) (t:TypeId) (fuel:Nat) (cs:List Value) (x:DataW H×List MemPlace),intT P k t=true->DataW.trod enc P w base sp held fuel t cs=some x->
  ∃zs:List (IntKind×Int),Am x.1=zs.map (λz=> .v (.int z.1 z.2))/\cs=zs.map λz=> .int z.1 z.2
 |0,_,_,_,_,h,_=>by cases h
 |k+1,t,fuel,cs,x,hT,h=>by
  unfold intT at hT;split at hT
  ·rename_i kd ht;obtain⟨n,rfl,rfl,_⟩:=DataW.trod_int ht h;exact⟨[(kd,n)],rfl,rfl⟩
  ·rename_i n e ht;rw[Zmq]at hT;have hs:=Zmp hT.1;obtain⟨xs,m,rfl,rfl,hlen,hn,hel⟩:=DataW.trod_array ht h;have key: ∀(xs:List (DataW H×List MemPlace)) (cs:List Value),cs.length=xs.length*P.cellsOf e->(∀i,i<xs.length->DataW.trod enc P w base sp held m e ((cs.drop (i*P.cellsOf e)).take (P.cellsOf e))=xs[i]?)->
     ∃zs:List (IntKind×Int),Hx (xs.map (·.1))=zs.map (λz=> .v (.int z.1 z.2))/\cs=zs.map λz=> .int z.1 z.2:=by
    intro xs
    induction xs with
    |nil=>
     intro cs hl _;exact⟨[],rfl,Zna (by simpa using hl)⟩
    |cons y ys ih=>
     intro cs hl hel;have h0:=hel 0 (by simp);simp only[Zm5,Zns,List.getElem?_cons_zero]at h0;obtain⟨z1,a1,a2⟩:=Ci k e m _ y hT.2 h0;obtain⟨z2,b1,b2⟩:=ih (cs.drop (P.cellsOf e)) (by simp[hl,Zot]) (λi hi=>by
      have:=hel (i+1) (by simp;omega);rw[Zqc,show P.cellsOf e+i*P.cellsOf e=(i+1)*P.cellsOf e by rw[Zot];omega];simpa using this)
     refine⟨z1++z2, ?_, ?_⟩
     ·simp only[Zn0,Hx,Zpd,a1,b1]
     ·rw[Zpd,<-a2,<-b2,Zp1]
   obtain⟨zs,h1,h2⟩:=key xs cs (by rw[hlen,hs,hn]) (λi hi=>hel i (by omega));exact⟨zs,by simpa[Am]using h1,h2⟩
  ·cases hT
theorem glob_ints {H:Type} {enc:TypeId×Value->H} {P:Program} {W:World} {sp:Nat->Bool} {held:Bool} {n:String} {g:Nat} {t:TypeId} {cs:Array Value} {fuel k:Nat} {x:DataW H×List MemPlace} {tbl:List C}
  (hg:P.globalNamed n=some g) (hv:W.var? P n=some cs) (hT:intT P k t=true) (hd:DataW.trod enc P W 0 sp held fuel t cs.toList=some x) (ht:Am x.1=tbl):
  RC W (λb _=>b<W.heap.size) (.cp tbl) (.pointer (some ⟨g,0,none⟩)):=by
 subst ht;obtain⟨zs,h1,h2⟩:=Ci k t fuel _ x hT hd;rw[h1];have hc: ∀i,i<zs.length->W.cell? ⟨g,i,none⟩=some (.int (zs.getD i (.i64,0)).1 (zs.getD i (.i64,0)).2):=λi hi=>by
  rw[World.var?_cell hg hv i];have:cs.toList[i]? =some (.int (zs.getD i (.i64,0)).1 (zs.getD i (.i64,0)).2):=by
   rw[h2,Zm9,Zm0 hi];simp[List.getD,Zm0 hi]
  simpa using this
 refine RC.cp (us:=λi=> .int (zs.getD i (.i64,0)).1 (zs.getD i (.i64,0)).2) (λi c hi=> ?_) (λi c hi=> ?_)
 ·have hl:i<zs.length:=by
   have:=(Zmx.1 hi).1;simpa using this
  rw[Zmt];exact⟨hc i hl,World.block_lt_of_cell? W _ (hc i hl)⟩
 ·obtain⟨hl,e⟩:=Zmx.1 hi;have hl':i<zs.length:=by simpa using hl
  have:c= .v (.int (zs.getD i (.i64,0)).1 (zs.getD i (.i64,0)).2):=by
   rw[<-e];simp[List.getD,Zm0 hl']
  subst this;exact .v rfl
end Go.PM
