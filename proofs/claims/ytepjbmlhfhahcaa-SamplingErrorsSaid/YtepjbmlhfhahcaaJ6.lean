/- Parts put together: PPc, Qd. -/
import Derived.Test.YtepjbmlhfhahcaaJ5
import Derived.ProofKit
import Derived.OpenShut
import Derived.ShutString
import Derived.ChangeOld
import Derived.DataShut
import Derived.WideKeyPair
import Derived.LaidMore
import Derived.MakeChecks
import Derived.FnData
set_option linter.unusedSimpArgs false
set_option linter.unusedVariables false
open Go.IntKind renaming bits→Zi7
namespace Go.PM
open Go Go.ChangeShapes Go.WideShapes Go.ChangeAt Go.RowKit
def IsRow (k:IntKind) (w:World) (a:Option Addr) (len cap:Nat) (zs:List Int):Prop:=
 (a=none/\len=0/\cap=0/\zs=[])\/
 ∃x,a=some x/\len<=cap/\cap<=maxLen/\zs.length=cap/\(∀i,i<zs.length->w.cell? (x.add i)=some (.int k (zs.getD i 0)))/\ ∀n∈zs,(Lit.int k n).wf=true
theorem IsRow.rc {k:IntKind} {w:World} {a:Option Addr} {len cap:Nat} {zs:List Int} (h:IsRow k w a len cap zs):RC w (λb _=>b<w.heap.size) (C.sl (zs.take len).length (ik k (zs.take len))) (.slice a len cap):=by
 rcases h with⟨rfl,rfl,rfl,rfl⟩|⟨x,rfl,hl,hm,hz,hcell,_⟩
 ·exact RC.sl0 (Zgi _)
 ·by_cases h0:len=0
  ·subst h0;exact RC.sl0 hm
  ·obtain⟨b,off,spot⟩:=x;have hc:=hcell 0 (by omega);have hspot:spot=none:=by simpa[Addr.add]using World.cell?_spot hc
   subst hspot;have hlen:(zs.take len).length=len:=by simp;omega
   rw[hlen];refine RC.sl (us:=λj=> .int k (zs.getD j 0)) hl hm (λj c hj=> ?_) (λj c hj=> ?_)
   ·have hjl:j<len:=by
     have:=(Zfv.1 hj).1;rw[Z3,hlen]at this;exact this
    have hcj:=hcell j (by omega);have e:w.cell? ⟨b,off+j,none⟩=some (.int k (zs.getD j 0)):=by
     by_cases hj0:j=0
     ·subst hj0;simpa[Addr.add]using hcj
     ·simpa[Addr.add,hj0]using hcj
    exact⟨e,World.block_lt_of_cell? w _ e⟩
   ·obtain⟨hjl,e⟩:=Zfv.1 hj;rw[Z3,hlen]at hjl;have:c=C.v (.int k (zs.getD j 0)):=by
     rw[<-e];simp[ik,Zin,Zfw (show j<zs.length by omega)]
    subst this;exact RC.v rfl
theorem IsRow.bytes {w:World} {a:Option Addr} {len cap:Nat} {zs:List Int} (h:IsRow .u8 w a len cap zs): ∀x∈zs.take len,0<=x/\x<=255:=by
 rcases h with⟨rfl,rfl,rfl,rfl⟩|⟨x,rfl,hl,hm,hz,hcell,hwf⟩
 ·intro x hx;simp at hx
 ·intro n hn;have:=hwf n (Zhe hn);have:=(Lit.wf_int_iff .u8 n).1 this;simp[IntKind.min,IntKind.max,Zi7,IntKind.signed]at this;omega
theorem IsRow.i64 {w:World} {a:Option Addr} {len cap:Nat} {zs:List Int} (h:IsRow .i64 w a len cap zs): ∀x∈zs.take len,-9223372036854775808<=x/\x<=9223372036854775807:=by
 rcases h with⟨rfl,rfl,rfl,rfl⟩|⟨x,rfl,hl,hm,hz,hcell,hwf⟩
 ·intro x hx;simp at hx
 ·intro n hn;have:=hwf n (Zhe hn);have:=(Lit.wf_int_iff .i64 n).1 this;simp[IntKind.min,IntKind.max,Zi7,IntKind.signed]at this;omega
theorem args_nil {P:Program} {E:Env} {l:Loc}: ∀(i:Nat) (x:V) (u:Value),([]:List V)[i]? =some x->([]:List Value)[i]? =some u->RV P E l x u:=λi x u h=>by cases h
theorem args_cons {P:Program} {E:Env} {l:Loc} {x:V} {xs:List V} {u:Value} {us:List Value} (h:RV P E l x u) (hs: ∀(i:Nat) (x:V) (u:Value),xs[i]? =some x->us[i]? =some u->RV P E l x u): ∀(i:Nat) (y:V) (v:Value),(x::xs)[i]? =some y->(u::us)[i]? =some v->RV P E l y v:=λi y v hy hv=>by
 cases i with
 |zero=>cases hy;cases hv;exact h
 |succ i=>exact hs i y v hy hv
end Go.PM
namespace Go.PM
open Go Go.ChangeShapes Go.WideShapes Go.ChangeAt Go.RowKit
mutual
def Zff {H:Type}:DataW H->List C
 | .lit (.int k n)=>[.v (.int k n)]
 | .agg ds=>A3 ds
 |_=>[]
def A3 {H:Type}:List (DataW H)->List C
 | []=>[]
 |d::ds=>Zff d++A3 ds
end
end Go.PM
