/- Parts put together: Dc, Pl, Pm, Iy, Pn, Po, Pp, Dd, Df, Dg, Dh. -/
import Derived.Test.YtjmempcalaliiaaGreatDoorJ8
set_option linter.unusedSimpArgs false
set_option linter.unusedVariables false
/- Products of lists, in integers of 128 bits. -/
namespace Go.Proofs.YtjmempcalaliiaaGreatDoor
open Go Go.PM Go.Grid
theorem Zqd (x:Nat):IntKind.u64.wrap (BitVec.ofInt (IntKind.bits .u64) (x:Int)&&&BitVec.ofInt (IntKind.bits .u64) 4294967295).toNat=((x%4294967296:Nat):Int):=by
 have h:=Zmt (kd:= .u64) (by decide) x 32 (by decide);simp only[Nat.reducePow,Nat.reduceSub]at h;rw[show(4294967295:Int)=((4294967295:Nat):Int) from rfl,h];exact IntWalk.u64_in _ ⟨by omega,by omega⟩
theorem shr32 (x:Nat):Int.fdiv (x:Int) (2^32)=((x/4294967296:Nat):Int):=Zmu x 32
theorem Np (x:Int):IntKind.u64.wrap x=x%18446744073709551616:=by simp[IntKind.wrap,IntKind.bits,IntKind.signed]
theorem Zof (x:Nat):IntKind.u64.wrap (x:Int)=((x%18446744073709551616:Nat):Int):=by rw[Np];omega
theorem Zsk (x y:Nat):IntKind.u64.wrap ((x:Int)*(y:Int))=((x*y%18446744073709551616:Nat):Int):=by rw[<-Zu5,Zof]
theorem Zsl (x y:Nat):IntKind.u64.wrap ((x:Int)+(y:Int))=(((x+y)%18446744073709551616:Nat):Int):=by rw[<-Ztn,Zof]
theorem Hd {a b:Nat} (ha:a<4294967296) (hb:b<4294967296):a*b<=4294967295*4294967295:=Nat.mul_le_mul (by omega) (by omega)
theorem Zog (fu d:Nat) (a b:Nat) (ha:a<18446744073709551616) (hb:b<18446744073709551616):
  cl fu (d+1) fn_bits_Mul64 [V.c (C.v (.int .u64 a)),V.c (C.v (.int .u64 b))] []=OK (V.tup [V.c (C.v (.int .u64 ((a*b/18446744073709551616:Nat):Int))),V.c (C.v (.int .u64 ((a*b%18446744073709551616:Nat):Int)))]):=by
 rw[eq_bits_Mul64];simp only[Zq1,Zqd,shr32,Zsk,Zsl,Option.some.injEq,Out.mk.injEq,and_true,V.tup.injEq,List.cons.injEq,V.c.injEq,C.v.injEq,Value.int.injEq,true_and,Int.ofNat_inj];generalize hx0:a%4294967296=x0;generalize hx1:a/4294967296=x1;generalize hy0:b%4294967296=y0;generalize hy1:b/4294967296=y1;have h00:=Hd (a:=x0) (b:=y0) (by omega) (by omega);have h10:=Hd (a:=x1) (b:=y0) (by omega) (by omega);have h01:=Hd (a:=x0) (b:=y1) (by omega) (by omega);have h11:=Hd (a:=x1) (b:=y1) (by omega) (by omega);have hab:a*b=x1*y1*18446744073709551616+(x1*y0+x0*y1)*4294967296+x0*y0:=by
  have e1:a=x1*4294967296+x0:=by omega
  have e2:b=y1*4294967296+y0:=by omega
  rw[e1,e2];simp only[Nat.add_mul,Nat.mul_add];have e3:x1*4294967296*(y1*4294967296)=x1*y1*18446744073709551616:=by rw[Nat.mul_mul_mul_comm]
  have e4:x1*4294967296*y0=x1*y0*4294967296:=by rw[Nat.mul_right_comm]
  have e5:x0*(y1*4294967296)=x0*y1*4294967296:=by rw[Nat.mul_assoc]
  rw[e3,e4,e5];omega
 rw[hab];generalize x0*y0=p at*
 generalize x1*y0=q at*
 generalize x0*y1=r at*
 generalize x1*y1=s at*
 omega
theorem rCl_0 {R:Type} (f:FuncId) (k:Option R):rCl (V.clo f 1000000) f 0 k=k:=by
 show need (Nat.beq f f&&Nat.beq 1000000 (OUT+0)) k=k;rw[Zt7];rfl
attribute [local congr] Zt Zu Zv Yd Zw Zx Ye Yf Yg Yh Zy Zz Yi Yx Yy Yz Y1 Y2 Y5 Y6 Y7 Y8 Y4 Z1 Z2 Y9 Z3 Z4 Zk Z5 Z0
def hiW (z:Int):Int:=IntKind.i64.wrap (z/18446744073709551616)
def loW (z:Int):Int:=z%18446744073709551616
abbrev wdC (z:Int):List C:=[C.v (.int .i64 (hiW z)),C.v (.int .u64 (loW z))]
theorem Zoh (z:Int):0<=loW z:=Int.emod_nonneg _ (by decide)
section
variable (fu d:Nat) (hfu:18446744073709551616<=fu)
theorem Zg4 (a b:Int) (ha: -9223372036854775808<=a/\a<=9223372036854775807) (hb: -9223372036854775808<=b/\b<=9223372036854775807):cl fu (d+2) fn_precision_Product [I a,I b] []=OK (V.agg (wdC (a*b))):=by
 obtain⟨p,hp⟩: ∃p:Nat,(p:Int)=a%18446744073709551616:=⟨(a%18446744073709551616).toNat,by omega⟩;obtain⟨q,hq⟩: ∃q:Nat,(q:Int)=b%18446744073709551616:=⟨(b%18446744073709551616).toNat,by omega⟩;have e1:=Zog fu d p q (by omega) (by omega);rw[eq_precision_Product];simp only[Np,<-hp,<-hq];have hP:((p*q:Nat):Int)=(p:Int)*(q:Int):=Zu5 ..;by_cases ka:a<0
 ·have xa:a=(p:Int)-18446744073709551616:=by omega
  by_cases kb:b<0
  ·have xb:b=(q:Int)-18446744073709551616:=by omega
   have hz:a*b=((p*q:Nat):Int)-18446744073709551616*p-18446744073709551616*q+340282366920938463463374607431768211456:=by rw[xa,xb,hP];grind
   simp(disch:=omega)only[Zd,QM,QD,e1];unfold wdC hiW loW;rw[hz];generalize p*q=s;simp only[IntKind.wrap_i64,Np,Option.some.injEq,Out.mk.injEq,and_true,V.agg.injEq,List.cons.injEq,C.v.injEq,Value.int.injEq,true_and];omega
  ·have xb:b=(q:Int):=by omega
   have hz:a*b=((p*q:Nat):Int)-18446744073709551616*q:=by rw[xa,xb,hP];grind
   simp(disch:=omega)only[Zd,QM,QD,e1];unfold wdC hiW loW;rw[hz];generalize p*q=s;simp only[IntKind.wrap_i64,Np,Option.some.injEq,Out.mk.injEq,and_true,V.agg.injEq,List.cons.injEq,C.v.injEq,Value.int.injEq,true_and];omega
 ·have xa:a=(p:Int):=by omega
  by_cases kb:b<0
  ·have xb:b=(q:Int)-18446744073709551616:=by omega
   have hz:a*b=((p*q:Nat):Int)-18446744073709551616*p:=by rw[xa,xb,hP];grind
   simp(disch:=omega)only[Zd,QM,QD,e1];unfold wdC hiW loW;rw[hz];generalize p*q=s;simp only[IntKind.wrap_i64,Np,Option.some.injEq,Out.mk.injEq,and_true,V.agg.injEq,List.cons.injEq,C.v.injEq,Value.int.injEq,true_and];omega
  ·have xb:b=(q:Int):=by omega
   have hz:a*b=((p*q:Nat):Int):=by rw[xa,xb,hP]
   simp(disch:=omega)only[Zd,QM,QD,e1];unfold wdC hiW loW;rw[hz];generalize p*q=s;simp only[IntKind.wrap_i64,Np,Option.some.injEq,Out.mk.injEq,and_true,V.agg.injEq,List.cons.injEq,C.v.injEq,Value.int.injEq,true_and];omega
theorem Zib (x y:Int):cl fu (d+1) fn_precision_Add [V.agg (wdC x),V.agg (wdC y)] []=OK (V.agg (wdC (x+y))):=by
 have h1:=Zoh x;have h2:=Zoh y;rw[eq_precision_Add,decide_eq_true h1,decide_eq_true h2];show OK (V.agg [_,_])=_;unfold wdC hiW loW;simp only[IntKind.wrap_i64,Option.some.injEq,Out.mk.injEq,and_true,V.agg.injEq,List.cons.injEq,C.v.injEq,Value.int.injEq,true_and];omega
theorem Zoi:cl fu (d+1) fn_precision_total [] []=some ⟨V.clo fn_precision_total_1 1000000,[.ob ty_api_Wide 0 (wdC 0)],none⟩:=by
 rw[eq_precision_total];rfl
theorem Bf (a b z:Int) (ha: -9223372036854775808<=a/\a<=9223372036854775807) (hb: -9223372036854775808<=b/\b<=9223372036854775807):
  cl fu (d+3) fn_precision_total_1 [I a,I b,V.ptr 1000000 0] [.ob ty_api_Wide 0 (wdC z)]=some ⟨V.agg (wdC (z+a*b)),[.ob ty_api_Wide 0 (wdC (z+a*b))],none⟩:=by
 have e1:=Zg4 fu d a b ha hb;have e2:=Zib fu (d+1) z (a*b);unfold wdC at*
 rw[eq_precision_total_1];simp(disch:=omega)only[Zd,QM,QD,e1,e2,Zss,Zsy,Zst,Nat.reduceAdd]
def He (a b:List Int) (j:Nat):Int:=((List.range j).map λk=>at0 a k*at0 b k).sum
theorem Zku (a b:List Int) (j:Nat):He a b (j+1)=He a b j+at0 a j*at0 b j:=Mx _ _
include hfu
set_option maxHeartbeats 1000000 in
theorem Zic (a b:List Int) (hl:a.length=b.length) (l1:a.length<=1000000) (wa:wid (-9223372036854775808) 9223372036854775807 a) (wb:wid (-9223372036854775808) 9223372036854775807 b):
  cl fu (d+4) fn_precision_Dot [V.c (C.sl a.length (ints a)),V.c (C.sl b.length (ints b))] []=OK (V.tup [V.agg (wdC (T8 a b)),I 0]):=by
 have e0:cl fu (d+3) fn_precision_total [] []=some ⟨V.clo fn_precision_total_1 1000000,[.ob ty_api_Wide 0 (wdC (He a b 0))],none⟩:=Zoi fu (d+2);have e1:=Bf fu d 0 0 (He a b 0) (by omega) (by omega);rw[Zu1,Zvd]at e1;have et:=λx y z hx hy=>Bf fu d x y z hx hy;have hd:T8 a b=He a b a.length:=rfl;rw[hd];unfold wdC at*
 rw[eq_precision_Dot];simp(disch:=omega)only[Zd,QM,QD,e0,rCl_0,e1,Zj5,Zss,Zsy,Zst,Nat.reduceAdd];rw[Zs (λj:Nat=>(((j:Nat):Int),((0:Int),(0:Int),()),(hiW (He a b j),loW (He a b j),()),(hiW (He a b j),loW (He a b j),()),())) 0 (((a.length:Nat):Int),((0:Int),(0:Int),()),(hiW (He a b a.length),loW (He a b a.length),()),(hiW (He a b a.length),loW (He a b a.length),()),()) a.length ?_ ?_ ?_ (by omega)]
 ·simp(disch:=omega)only[Zd,QM,QD]
 ·rfl
 ·intro j hj;have i1:=Yc a hj;have i2:=Yc b (i:=j) (by omega);have b1:=Lc wa (by omega) j;have b2:=Lc wb (by omega) j;have e2:=et (at0 a j) (at0 b j) (He a b j) b1 b2;rw[<-Zku]at e2;simp(disch:=omega)only[Zd,QM,QD,Zsv,Zs4,i1,i2,e2,Zss,Zsy,Zst,Nat.reduceAdd];rfl
 ·simp(disch:=omega)only[Zd,QM,QD]
theorem Zqe (a b a' b':List Int) (h1:a.length=a'.length) (h2:b.length=b'.length) (l1:a.length<=1000000) (l2:b.length<=1000000) (w1:wid (-9223372036854775808) 9223372036854775807 a) (w2:wid (-9223372036854775808) 9223372036854775807 b) (w3:wid (-9223372036854775808) 9223372036854775807 a') (w4:wid (-9223372036854775808) 9223372036854775807 b'):
  cl fu (d+5) fn_tangent_Dot [V.agg [C.sl a.length (ints a),C.sl b.length (ints b)],V.agg [C.sl a'.length (ints a'),C.sl b'.length (ints b')]] []=OK (V.tup [V.agg (wdC (T8 a a'+T8 b b')),I 0]):=by
 have e1:=Zic fu d hfu a a' h1 l1 w1 w3;have e2:=Zic fu d hfu b b' h2 l2 w2 w4;have e3:=Zib fu (d+3) (T8 a a') (T8 b b');unfold wdC at*
 rw[eq_tangent_Dot];simp(disch:=omega)only[Zd,QM,QD,e1,e2,e3,Zss,Zsy,Zst,Nat.reduceAdd]
end
end Go.Proofs.YtjmempcalaliiaaGreatDoor
/- The reference's Apply of the transposed step. -/
namespace Go.Proofs.YtjmempcalaliiaaGreatDoor
open Go Go.PM Go.Grid
attribute [local congr] Zt Zu Zv Yd Zw Zx Ye Yf Yg Yh Zy Zz Yi Yx Yy Yz Y1 Y2 Y5 Y6 Y7 Y8 Y4 Z1 Z2 Y9 Z3 Z4 Zk Z5 Z0
section
variable (fu d:Nat) (hfu:18446744073709551616<=fu)
include hfu
end
end Go.Proofs.YtjmempcalaliiaaGreatDoor
/- Both programs' Apply of the transposed step, at any numbers. -/
namespace Go.Proofs.YtjmempcalaliiaaGreatDoor
open Go Go.PM Go.Grid
attribute [local congr] Zt Zu Zv Yd Zw Zx Ye Yf Yg Yh Zy Zz Yi Yx Yy Yz Y1 Y2 Y5 Y6 Y7 Y8 Y4 Z1 Z2 Y9 Z3 Z4 Zk Z5 Z0
def bA (l:List Int):C:=C.sl l.length (ints l)
section
variable (fu d:Nat) (hfu:18446744073709551616<=fu)
include hfu
end
end Go.Proofs.YtjmempcalaliiaaGreatDoor
/- The iterators that this seat's programs meet: the edges, and slices.Backward. -/
namespace Go.Proofs.YtjmempcalaliiaaGreatDoor
open Go Go.PM Go.Grid
attribute [local congr] Zt Zu Zv Yd Zw Zx Ye Yf Yg Yh Zy Zz Yi Yx Yy Yz Y1 Y2 Y5 Y6 Y7 Y8 Y4 Z1 Z2 Y9 Z3 Z4 Zk Z5 Z0
theorem Nq (cs:List C):(backL cs).length=cs.length:=by simp[backL]
theorem Zkv (cs:List C) {i:Nat} (h:i<cs.length):(backL cs)[i]'(by rw[Nq];exact h)=[I ((cs.length-1-i:Nat):Int),V.c (cs[cs.length-1-i]'(by omega))]:=by
 simp only[backL,Zu9,List.getElem_reverse,List.getElem_zipIdx,List.length_zipIdx,Zst]
theorem Zg5 (cs:List C) {i:Nat} (h:i<cs.length):(backL cs).drop i=[I ((cs.length-1-i:Nat):Int),V.c (cs[cs.length-1-i]'(by omega))]::(backL cs).drop (i+1):=by
 rw[Ztq (by rw[Nq];exact h),Zkv cs h]
theorem Zoj (cs:List C) {i q:Nat} (h:i<cs.length) (hq:q=cs.length-1-i) (hql:q<cs.length):(backL cs).drop i=[I (q:Int),V.c cs[q]]::(backL cs).drop (i+1):=by
 subst hq;exact Zg5 cs h
section
variable (fu d:Nat) (hf:18446744073709551616<=fu)
include hf
theorem Zqf (cs:List C) (hl:cs.length<=1000000) (l:Nat) (go:Nat->Bool) (c0:C) (hc0: ∀{R:Type} (k:Nat->List C->Option R),asSl c0 k=k cs.length cs) (r:List C):
  ∃out lg,cl fu (d+1) fn_slices_Backward_sapi_Branch_api_Branch_1 [V.c (C.yl l go (backL cs)),V.c (C.cp (c0::r))] []=some out/\out.log=some lg/\(lg.st=true\/lg.rest=[]):=by
 have hll:=Nq cs;have hd:=λ{i q:Nat} (h:i<cs.length) (hq:q=cs.length-1-i) (hql:q<cs.length)=>Zoj cs h hq hql;rw[eq_slices_Backward_sapi_Branch_api_Branch_1];generalize backL cs=BL at*
 have hc1:=λ{R:Type} (k:Nat->List C->Option R)=>hc0 k;simp(disch:=omega)only[Zd,QM,QD,hc1];refine Us (A:=Int×Log×Unit) (B:=Out) (fu:=fu) (λo=> ∃out lg,o=some out/\out.log=some lg/\(lg.st=true\/lg.rest=[]))
  (λs=> ∃i:Nat,i<=cs.length/\s=((cs.length:Int)-1-(i:Int),⟨l,go,i,BL.drop i,false⟩,())) (λs=>(s.1+1).toNat) (λ_ z=>z.2.1.st=true\/z.2.1.rest=[]) ⟨0,by omega, ?_⟩ ?_ ?_ ?_
 ·simp
 ·show((cs.length:Int)-1+1).toNat<fu;omega
 ·rintro y ⟨i,hi,rfl⟩
  by_cases hlt:i<cs.length
  ·obtain⟨q,hq⟩: ∃q:Nat,q=cs.length-1-i:=⟨_,rfl⟩;have hqi:(cs.length:Int)-1-(i:Int)=(q:Int):=by omega
   have hql:q<cs.length:=by omega
   have hat:=Ztq hql;have hd:=hd hlt hq hql;rw[hqi];cases hg:go i with
   |true=>
    refine .inl ⟨((cs.length:Int)-1-((i+1:Nat):Int),⟨l,go,i+1,BL.drop (i+1),false⟩,()), ?_,⟨i+1,by omega,rfl⟩, ?_⟩
    ·rw[show(cs.length:Int)-1-((i+1:Nat):Int)=(q:Int)-1 by omega];simp(disch:=omega)only[Zd,QM,QD,Zsv,Zs4,hc1,hat,hd,Jn,Jo,hg]
    ·show((cs.length:Int)-1-((i+1:Nat):Int)+1).toNat<((q:Int)+1).toNat;omega
   |false=>
    refine .inr ⟨1,((q:Int),⟨l,go,i+1,BL.drop (i+1),true⟩,()), ?_, .inl rfl⟩;simp(disch:=omega)only[Zd,QM,QD,Zsv,Zs4,hc1,hat,hd,Jn,Jo,hg]
  ·refine .inr ⟨0,((cs.length:Int)-1-(i:Int),⟨l,go,i,BL.drop i,false⟩,()), ?_, .inr ?_⟩
   ·simp(disch:=omega)only[Zd,QM,QD]
   ·show BL.drop i=[];rw[List.drop_eq_nil_iff];omega
 ·rintro e z hz
  refine⟨⟨V.tup [],[],some z.2.1⟩,z.2.1, ?_,rfl,hz⟩;cases e<;>rfl
omit d in
theorem iterOk:Zbd Tryz.prog prim laid fu:=by
 intro d f caps xs h l go;replace h:(bif Nat.ble 10 d then iterC f caps else none)=some xs:=h;cases hd:Nat.ble 10 d with
 |false=>rw[hd]at h;cases h
 |true=>
  rw[hd]at h;replace h:iterC f caps=some xs:=h;have hd:=Zsr hd;obtain⟨d',rfl⟩: ∃d',d=d'+10:=⟨d-10,by omega⟩;unfold iterC at h;cases hfq:Nat.beq f fn_flux_edges_1 with
  |false=>
   rw[hfq]at h;simp only[cf]at h;cases hfv:Nat.beq f fn_slices_Backward_sapi_Branch_api_Branch_1 with
   |false=>rw[hfv]at h;cases h
   |true=>
    have hfe:=Zsp hfv;subst hfe;rw[hfv]at h;simp only[ct]at h;split at h
    ·rename_i c;unfold asP at h;split at h
     ·rename_i cs;cases cs with
      |nil=>cases h
      |cons c r=>
       replace h:asSl c (λn l=>need (Nat.beq n l.length&&Nat.ble n 1000000) (some (backL l)))=some xs:=h;have fin: ∀(n:Nat) (cs:List C),need (Nat.beq n cs.length&&Nat.ble n 1000000) (some (backL cs))=some xs->n=cs.length/\cs.length<=1000000/\xs=backL cs:=λn cs h=>by
        obtain⟨hc,h⟩:=Za h;rw[Zsq]at hc;have h1:=Zsp hc.1;have h2:=Zsr hc.2;cases h;exact⟨h1,by omega,rfl⟩
       unfold asSl at h;split at h
       ·rename_i p hp;obtain⟨e1,h3,rfl⟩:=fin _ _ h;refine Zqf fu (d'+9) hf p.2 h3 l go _ (λk=> ?_) r;unfold asSl;rw[hp];show k p.1 p.2=_;rw[e1]
       ·cases h
     ·cases h
    ·cases h
  |true=>
   have hfe:=Zsp hfq;subst hfe;rw[hfq]at h;simp only[ct]at h;split at h
   ·rename_i c;unfold asP at h;split at h
    ·rename_i cs;cases cs with
     |nil=>cases h
     |cons c r=>
      replace h:asI .i64 c (λn=>need (decide (1<=n)&&decide (n<=8)) (some (edgesL n.toNat)))=some xs:=h;unfold asI at h;split at h
      ·split at h
       ·rename_i kd i hk;subst hk;obtain⟨hc,h⟩:=Za h;rw[Zsq]at hc;have h1:=of_decide_eq_true hc.1;have h2:=of_decide_eq_true hc.2;cases h;obtain⟨n,rfl⟩: ∃n:Nat,i=n:=⟨i.toNat,by omega⟩;exact Znx fu d' hf n (by unfold Yb;omega) l go r
       ·cases h
      ·cases h
    ·cases h
   ·cases h
omit hf in
theorem Zkw (cs:List C) (hl:cs.length<=1000000):prim.iter (d+10) fn_slices_Backward_sapi_Branch_api_Branch_1 [C.cp [C.sl cs.length cs]]=some (backL cs):=by
 show(bif Nat.ble 10 (d+10)then iterC fn_slices_Backward_sapi_Branch_api_Branch_1 [C.cp [C.sl cs.length cs]]else none)=_;rw[show Nat.ble 10 (d+10)=true from Zuk (by omega)];show need (Nat.beq cs.length cs.length&&Nat.ble cs.length 1000000) (some (backL cs))=_;rw[Zt7,Zuk hl];rfl
end
end Go.Proofs.YtjmempcalaliiaaGreatDoor
/- Both programs' Compose of transposed steps, at any numbers. -/
namespace Go.Proofs.YtjmempcalaliiaaGreatDoor
open Go Go.PM Go.Grid
attribute [local congr] Zt Zu Zv Yd Zw Zx Ye Yf Yg Yh Zy Zz Yi Yx Yy Yz Y1 Y2 Y5 Y6 Y7 Y8 Y4 Z1 Z2 Y9 Z3 Z4 Zk Z5 Z0
section
variable (fu d:Nat) (hfu:18446744073709551616<=fu)
include hfu
omit hfu in
theorem Lh (l:List Int) (hl:l.length<=1000000):cl fu (d+1) fn_slices_Clone_sint_int [V.c (C.sl l.length (ints l))] []=some ⟨V.own 1000000 0 l.length,[.sb ty_int 0 (ints l)],none⟩:=by
 by_cases h:0<l.length
 ·exact Zny fu d l h hl
 ·obtain rfl:l=[]:=Zs5 (by omega);rw[eq_slices_Clone_sint_int];exact Zjm (some (⟨V.own 1000000 0 0,[.sb ty_int 0 []],none⟩:Out))
end
end Go.Proofs.YtjmempcalaliiaaGreatDoor
/- Both programs' Sensitivity, at any numbers; Same of changes. -/
namespace Go.Proofs.YtjmempcalaliiaaGreatDoor
open Go Go.PM Go.Grid
attribute [local congr] Zt Zu Zv Yd Zw Zx Ye Yf Yg Yh Zy Zz Yi Yx Yy Yz Y1 Y2 Y5 Y6 Y7 Y8 Y4 Z1 Z2 Y9 Z3 Z4 Zk Z5 Z0
theorem Bg (m:Nat) (v:Int):reps m [C.v (.int .i64 v)]=ints (List.replicate m v):=by
 unfold reps
 induction m with
 |zero=>rfl
 |succ m ih=>rw[Zuu,List.flatten_cons,ih,Zuu];rfl
section
variable (fu d:Nat) (hfu:18446744073709551616<=fu)
include hfu
end
end Go.Proofs.YtjmempcalaliiaaGreatDoor
/- The example of chapter 32. -/
namespace Go.Proofs.YtjmempcalaliiaaGreatDoor
open Go Go.PM Go.Grid
attribute [local congr] Zt Zu Zv Yd Zw Zx Ye Yf Yg Yh Zy Zz Yi Yx Yy Yz Y1 Y2 Y5 Y6 Y7 Y8 Y4 Z1 Z2 Y9 Z3 Z4 Zk Z5 Z0
theorem Zok: ∀j,j<12->(List.replicate j (1:Int)++List.replicate (12-j) 0).set j 1=List.replicate (j+1) 1++List.replicate (12-(j+1)) 0:=by decide+kernel
theorem Zes: ∀j,j<13->(List.replicate j (1:Int)++List.replicate (12-j) 0).length=12:=by decide+kernel
section
variable (fu d:Nat) (hfu:18446744073709551616<=fu)
include hfu
theorem Zg6:cl fu (d+13) fn_synopticlaw32_awake [] []=OK (B true):=by
 have h1:(edg 1).length=30:=by kernel_rfl
 have h2:(Zf 1).length=12:=by kernel_rfl
 have v1:at0 (aDS 1 1 1 (Yr (Zf 1).length (edg 1)) (List.replicate 30 0) (List.replicate 12 1) (List.replicate 30 0) (edg 1) (edg 1).length) 5=120:=by kernel_rfl
 have v2:at0 (aFS 1 1 1 (List.replicate 30 0) (List.replicate 12 1) (List.replicate 30 0) (edg 1) (edg 1).length) 9=0:=by kernel_rfl
 have k1:=Re 1 1 1 (Yr (Zf 1).length (edg 1)) (List.replicate 30 0) (List.replicate 12 1) (List.replicate 30 0) (edg 1) (edg 1).length;have k2:=Rf 1 1 1 (List.replicate 30 0) (List.replicate 12 1) (List.replicate 30 0) (edg 1) (edg 1).length;have ap:=Wu fu d hfu 1 (by unfold Yb;omega) 1 1 1 (by omega) (by omega) (by omega) (List.replicate 30 0) (List.replicate 12 1) (List.replicate 30 0) (by rw[h1];rfl) (by rw[h2];rfl) (by rw[h1];rfl) (λv hv=>by rw[Zui hv];omega) (λv hv=>by rw[Zui hv];omega) (λv hv=>by rw[Zui hv];omega);generalize aDS 1 1 1 (Yr (Zf 1).length (edg 1)) (List.replicate 30 0) (List.replicate 12 1) (List.replicate 30 0) (edg 1) (edg 1).length=X at*
 generalize aFS 1 1 1 (List.replicate 30 0) (List.replicate 12 1) (List.replicate 30 0) (edg 1) (edg 1).length=Y at*
 rw[h1]at ap k2;replace k1:X.length=12:=k1;replace ap:cl fu (d+12) fn_adjoint_Apply [V.agg [C.v (.int .i64 1),C.v (.int .i64 1),C.v (.int .i64 1)],I 1,V.c (C.sl 30 (ints (List.replicate 30 0))),V.agg [C.sl 12 (ints (List.replicate 12 1)),C.sl 30 (ints (List.replicate 30 0))]] []=OK (V.tup [V.agg [C.sl 12 (ints X),C.sl 30 (ints Y)],I 0]):=ap;have i1:=Yc X (i:=5) (by omega);have i2:=Yc Y (i:=9) (by omega);rw[v1]at i1;rw[v2]at i2;have hz:ints (List.replicate 30 0)=[C.v (.int .i64 0),C.v (.int .i64 0),C.v (.int .i64 0),C.v (.int .i64 0),C.v (.int .i64 0),C.v (.int .i64 0),C.v (.int .i64 0),C.v (.int .i64 0),C.v (.int .i64 0),C.v (.int .i64 0),C.v (.int .i64 0),C.v (.int .i64 0),C.v (.int .i64 0),C.v (.int .i64 0),C.v (.int .i64 0),C.v (.int .i64 0),C.v (.int .i64 0),C.v (.int .i64 0),C.v (.int .i64 0),C.v (.int .i64 0),C.v (.int .i64 0),C.v (.int .i64 0),C.v (.int .i64 0),C.v (.int .i64 0),C.v (.int .i64 0),C.v (.int .i64 0),C.v (.int .i64 0),C.v (.int .i64 0),C.v (.int .i64 0),C.v (.int .i64 0)]:=rfl;have hzl:(ints (List.replicate 30 0)).length=30:=rfl;have ho:List.take 12 (ints (List.replicate 12 1++List.replicate 0 0))=ints (List.replicate 12 1):=rfl;have hz3:List.take 30 (ints (List.replicate 30 0))=ints (List.replicate 30 0):=rfl;rw[eq_synopticlaw32_awake];rw[<-hz];generalize ints (List.replicate 30 0)=Z at*
 rw[Zs (λj:Nat=>(((j:Nat):Int),(ints (List.replicate j 1++List.replicate (12-j) 0),Z,()),())) 0 (((12:Nat):Int),(ints (List.replicate 12 1++List.replicate 0 0),Z,()),()) 12 ?_ ?_ ?_ (by omega)]
 ·have hol:(List.replicate 12 (1:Int)++List.replicate 0 0).length=12:=rfl;simp(disch:=omega)only[Zd,QM,QD,Zg,hol,hzl,hz3,ho,Ztk,Zs4,Zst,ap,i1,i2,Zss,Zsy,Nat.reduceAdd]
 ·rfl
 ·intro j hj;have s1:=Zok j hj;have s2:=Zes j (by omega);have s3:=Zes (j+1) (by omega);have p1:=S9 (List.replicate j (1:Int)++List.replicate (12-j) 0) (i:=j) (by omega) 1;rw[s1]at p1;generalize List.replicate j (1:Int)++List.replicate (12-j) 0=A at*
  generalize List.replicate (j+1) (1:Int)++List.replicate (12-(j+1)) 0=A' at*
  simp(disch:=omega)only[Zd,QM,QD,Zg,s2,s3,hzl,Zsv,Ztk,Zs4,Zst,p1];rfl
 ·have hol:(List.replicate 12 (1:Int)++List.replicate (12-12) 0).length=12:=rfl;simp(disch:=omega)only[Zd,QM,QD,Zg,hol,hzl,Ztk,Zs4]
end
end Go.Proofs.YtjmempcalaliiaaGreatDoor
/- AdjointExact answers true. -/
namespace Go.Proofs.YtjmempcalaliiaaGreatDoor
open Go Go.PM Go.Grid
attribute [local congr] Zt Zu Zv Yd Zw Zx Ye Yf Yg Yh Zy Zz Yi Yx Yy Yz Y1 Y2 Y5 Y6 Y7 Y8 Y4 Z1 Z2 Y9 Z3 Z4 Zk Z5 Z0
theorem Zb7 (x:Int): -9223372036854775808<=IntKind.i64.wrap x/\IntKind.i64.wrap x<=9223372036854775807:=by simp only[IntKind.wrap_i64];omega
theorem Zqg {a b c:Nat} {dg br gd gf:List Int} {E:List (Int×Int)} (hE: ∀e∈E,e.1.toNat<gd.length/\e.2.toNat<gd.length) (hg: ∀i,-1099511627776<=at0 gd i/\at0 gd i<=1099511627776):wid (-9223372036854775808) 9223372036854775807 (aDS a b c dg br gd gf E E.length):=
 J4 λk hk=>by
  rw[Zb6 a b c dg br gd gf E hE hg E.length (Zs2 _) k hk];exact Zb7 _
theorem Zqh {a b c:Nat} {br gd gf:List Int} {E:List (Int×Int)}:wid (-9223372036854775808) 9223372036854775807 (aFS a b c br gd gf E E.length):=
 J4 λk hk=>by
  rw[Rf]at hk;unfold aFS;rw[V4 _ _ hk];unfold aFl;split
  ·exact Zb7 _
  ·exact Zb7 _
section
variable (fu d:Nat) (hfu:18446744073709551616<=fu)
include hfu
end
end Go.Proofs.YtjmempcalaliiaaGreatDoor
/- Steps of changes, one after the other: forth and transposed. -/
namespace Go.Proofs.YtjmempcalaliiaaGreatDoor
open Go Go.PM Go.Grid
attribute [local congr] Zt Zu Zv Yd Zw Zx Ye Yf Yg Yh Zy Zz Yi Yx Yy Yz Y1 Y2 Y5 Y6 Y7 Y8 Y4 Z1 Z2 Y9 Z3 Z4 Zk Z5 Z0
def V5 (s:List Int×List Int):Bool:= !Tj (-1099511627776) 1099511627776 s.1&& !Tj (-1099511627776) 1099511627776 s.2
theorem Bh {s:List Int×List Int} (h:V5 s=true):wid (-1099511627776) 1099511627776 s.1/\wid (-1099511627776) 1099511627776 s.2:=by
 unfold V5 at h;rw[Zsq,Ztj,Ztj]at h;exact⟨Qn.1 h.1,Qn.1 h.2⟩
def Gf (n a b c:Nat) (h:List Int×List Int) (br:List Int):List Int×List Int:=(tDL a b c (Yr (Zf n).length (edg n)) br h.1 h.2 (edg n),tFL a b c h.1 h.2 (edg n) (edg n).length)
def R7 (n a b c:Nat) (g:List Int×List Int) (br:List Int):List Int×List Int:=(aDS a b c (Yr (Zf n).length (edg n)) br g.1 g.2 (edg n) (edg n).length,aFS a b c br g.1 g.2 (edg n) (edg n).length)
def tC (n a b c:Nat):List (List Int)->List Int×List Int->Option (List Int×List Int)
 | [],s=>some s
 |br::r,s=>if V5 s=true then tC n a b c r (Gf n a b c s br)else none
def aC (n a b c:Nat):List (List Int)->List Int×List Int->Option (List Int×List Int)
 | [],g=>some g
 |br::r,g=>(aC n a b c r g).bind λq=>if V5 q=true then some (R7 n a b c q br)else none
def Q3 (n:Nat) (s:List Int×List Int):Prop:=s.1.length=(Zf n).length/\s.2.length=(edg n).length
def F1 (n:Nat) (br:List Int):Prop:=br.length=(edg n).length/\wid (-1) 1 br
theorem My {n a b c:Nat} {s:List Int×List Int} (h:Q3 n s) (br:List Int):Q3 n (Gf n a b c s br):=⟨(Ku ..).trans h.1,Kt ..⟩
theorem Zet {n a b c:Nat} {s:List Int×List Int} (h:Q3 n s) (br:List Int):Q3 n (R7 n a b c s br):=⟨(Re ..).trans h.1,Rf ..⟩
theorem Zol {n a b c:Nat}: ∀{brs:List (List Int)} {s p:List Int×List Int},Q3 n s->tC n a b c brs s=some p->Q3 n p
 | [],s,p,h,e=>by injection e with e;subst e;exact h
 |br::r,s,p,h,e=>by
  unfold tC at e;split at e
  ·exact Zol (My h br) e
  ·cases e
theorem Bi {n a b c:Nat}: ∀{brs:List (List Int)} {s p:List Int×List Int},Q3 n s->aC n a b c brs s=some p->Q3 n p
 | [],s,p,h,e=>by injection e with e;subst e;exact h
 |br::r,s,p,h,e=>by
  unfold aC at e;obtain⟨q,e1,e2⟩:=Zs3.1 e;split at e2
  ·injection e2 with e2;subst e2;exact Zet (Bi h e1) br
  ·cases e2
def w64 (s:List Int×List Int):Prop:=wid (-9223372036854775808) 9223372036854775807 s.1/\wid (-9223372036854775808) 9223372036854775807 s.2
theorem Zsm {n a b c:Nat} (hn:n=1\/n=2) (ha:a<=4) (hb:b<=4) (hc:c<=4) {s:List Int×List Int} (h:Q3 n s) (ok:V5 s=true) (br:List Int):w64 (Gf n a b c s br):=by
 obtain⟨w1,w2⟩:=Bh ok;have b1:=Q9 w1 (by omega);have b2:=Q9 w2 (by omega);exact⟨Qa (Zh7 (br:=br) ha hb hc hn (by omega) h.1 b1 b2) (by omega) (by omega),Qa (Zh8 ha hb hc (E:=edg n) (by omega) b1 b2 (edg n).length) (by omega) (by omega)⟩
theorem tC_w {n a b c:Nat} (hn:n=1\/n=2) (ha:a<=4) (hb:b<=4) (hc:c<=4): ∀{brs:List (List Int)} {s p:List Int×List Int},Q3 n s->w64 s->tC n a b c brs s=some p->w64 p
 | [],s,p,h,hw,e=>by injection e with e;subst e;exact hw
 |br::r,s,p,h,hw,e=>by
  unfold tC at e;split at e
  ·rename_i ok;exact tC_w hn ha hb hc (My h br) (Zsm hn ha hb hc h ok br) e
  ·cases e
theorem Zsn {n a b c:Nat} (hf:Yb n) {s:List Int×List Int} (h:Q3 n s) (ok:V5 s=true) (br:List Int):w64 (R7 n a b c s br):=by
 obtain⟨w1,w2⟩:=Bh ok;have b1:=Q9 w1 (by omega);have hl:=h.1;exact⟨Zqg (λe he=>by have:=Nl hf e he;omega) b1,Zqh⟩
theorem aC_w {n a b c:Nat} (hf:Yb n): ∀{brs:List (List Int)} {s p:List Int×List Int},Q3 n s->w64 s->aC n a b c brs s=some p->w64 p
 | [],s,p,h,hw,e=>by injection e with e;subst e;exact hw
 |br::r,s,p,h,hw,e=>by
  unfold aC at e;obtain⟨q,e1,e2⟩:=Zs3.1 e;split at e2
  ·rename_i ok;injection e2 with e2;subst e2;exact Zsn hf (Bi h e1) ok br
  ·cases e2
def Zg7 (p q:List Int×List Int):Int:=T8 p.1 q.1+T8 p.2 q.2
theorem Bj {n a b c:Nat} (hn:n=1\/n=2) (ha:a<=4) (hb:b<=4) (hc:c<=4): ∀{brs:List (List Int)} (_: ∀br∈brs,F1 n br) {h g p q:List Int×List Int},Q3 n h->Q3 n g->tC n a b c brs h=some p->aC n a b c brs g=some q->Zg7 p g=Zg7 h q
 | [],_,h,g,p,q,l1,l2,e1,e2=>by injection e1 with e1;injection e2 with e2;subst e1;subst e2;rfl
 |br::r,hbr,h,g,p,q,l1,l2,e1,e2=>by
  unfold tC at e1;unfold aC at e2;obtain⟨q',e3,e4⟩:=Zs3.1 e2;split at e1
  ·split at e4
   ·rename_i ok;injection e4 with e4
    subst e4;have ih:=Bj hn ha hb hc (λx hx=>hbr x (Ztd _ hx)) (My l1 br) l2 e1 e3;have hb0:=hbr br (Zua ..);have lq:=Bi l2 e3;obtain⟨w1,w2⟩:=Bh ok;rw[ih];exact Zkt a b c ha hb hc hn l1.1 l1.2 lq.1 lq.2 hb0.2 w1 w2
   ·cases e4
  ·cases e1
def cO (o:Option (List Int×List Int)):Option Out:=match o with
 |some s=>OK (V.tup [V.agg [C.sl s.1.length (ints s.1),C.sl s.2.length (ints s.2)],I 0])
 |none=>OK (V.tup [V.agg [C.nl,C.nl],I 1])
section
variable (fu d:Nat) (hfu:18446744073709551616<=fu)
include hfu
omit hfu in
theorem Zom {n:Nat} {br:List Int} {s:List Int×List Int} (ok:V5 s=false): ¬isCh (n:Int) br s.1 s.2:=by
 rintro ⟨m,_,_,_,_,_,_,w1,w2⟩
 unfold V5 at ok;rw[Qn.2 w1,Qn.2 w2]at ok;cases ok
theorem Hf (n:Nat) (h:Yb n) (a b c:Nat) (ha:1<=a/\a<=4) (hb:1<=b/\b<=4) (hc:1<=c/\c<=4) (br:List Int) (hbr:F1 n br) (s:List Int×List Int) (hs:Q3 n s) (ok:V5 s=false):
  cl fu (d+12) fn_tangent_Apply [V.agg [C.v (.int .i64 (a:Int)),C.v (.int .i64 (b:Int)),C.v (.int .i64 (c:Int))],I n,V.c (C.sl br.length (ints br)),V.agg [C.sl s.1.length (ints s.1),C.sl s.2.length (ints s.2)]] []=OK (V.tup [V.agg [C.nl,C.nl],I 1])/\
  cl fu (d+12) fn_adjoint_Apply [V.agg [C.v (.int .i64 (a:Int)),C.v (.int .i64 (b:Int)),C.v (.int .i64 (c:Int))],I n,V.c (C.sl br.length (ints br)),V.agg [C.sl s.1.length (ints s.1),C.sl s.2.length (ints s.2)]] []=OK (V.tup [V.agg [C.nl,C.nl],I 1]):=by
 have hNl:=Xz h;have heL:=Vh h;have l0:=hbr.1;have l1:=hs.1;have l2:=hs.2;have e1:=J7 fu (d+4) hfu a b c ha hb hc;have e2:=(Zg1 fu (d+1) hfu (n:Int) br (Znz s.1) (Znz s.2) (by omega) (by omega) (by omega)).2 (Zom ok);constructor
 ·rw[eq_tangent_Apply];simp(disch:=omega)only[Zd,QM,QD,e1,e2]
 ·rw[eq_adjoint_Apply];simp(disch:=omega)only[Zd,QM,QD,e1,e2]
theorem Zkx (n:Nat) (hn:n=1\/n=2) (a b c:Nat) (ha:1<=a/\a<=4) (hb:1<=b/\b<=4) (hc:1<=c/\c<=4) (br:List Int) (hbr:F1 n br) (s:List Int×List Int) (hs:Q3 n s):
  cl fu (d+12) fn_tangent_Apply [V.agg [C.v (.int .i64 (a:Int)),C.v (.int .i64 (b:Int)),C.v (.int .i64 (c:Int))],I n,V.c (C.sl br.length (ints br)),V.agg [C.sl s.1.length (ints s.1),C.sl s.2.length (ints s.2)]] []=cO (if V5 s=true then some (Gf n a b c s br)else none):=by
 cases ok:V5 s with
 |true=>
  obtain⟨w1,w2⟩:=Bh ok;have r:=Zks fu d hfu n hn a b c ha hb hc br s.1 s.2 hbr.1 hs.1 hs.2 hbr.2 1099511627776 (by omega) w1 w2;have q:=My (a:=a) (b:=b) (c:=c) hs br;rw[r,if_pos rfl];show _=OK (V.tup [V.agg [C.sl (Gf n a b c s br).1.length (ints (Gf n a b c s br).1),C.sl (Gf n a b c s br).2.length (ints (Gf n a b c s br).2)],I 0]);rw[q.1.trans hs.1.symm,q.2];rfl
 |false=>exact(Hf fu d hfu n (La hn) a b c ha hb hc br hbr s hs ok).1
theorem Zg8 (n:Nat) (h:Yb n) (a b c:Nat) (ha:1<=a/\a<=4) (hb:1<=b/\b<=4) (hc:1<=c/\c<=4) (br:List Int) (hbr:F1 n br) (s:List Int×List Int) (hs:Q3 n s):
  cl fu (d+12) fn_adjoint_Apply [V.agg [C.v (.int .i64 (a:Int)),C.v (.int .i64 (b:Int)),C.v (.int .i64 (c:Int))],I n,V.c (C.sl br.length (ints br)),V.agg [C.sl s.1.length (ints s.1),C.sl s.2.length (ints s.2)]] []=cO (if V5 s=true then some (R7 n a b c s br)else none):=by
 cases ok:V5 s with
 |true=>
  obtain⟨w1,w2⟩:=Bh ok;have r:=Wu fu d hfu n h a b c ha hb hc br s.1 s.2 hbr.1 hs.1 hs.2 hbr.2 w1 w2;have q:=Zet (a:=a) (b:=b) (c:=c) hs br;rw[r,if_pos rfl];show _=OK (V.tup [V.agg [C.sl (R7 n a b c s br).1.length (ints (R7 n a b c s br).1),C.sl (R7 n a b c s br).2.length (ints (R7 n a b c s br).2)],I 0]);rw[q.1.trans hs.1.symm,q.2];rfl
 |false=>exact(Hf fu d hfu n h a b c ha hb hc br hbr s hs ok).2
end
end Go.Proofs.YtjmempcalaliiaaGreatDoor
/- Both compositions: what they hand out. -/
namespace Go.Proofs.YtjmempcalaliiaaGreatDoor
open Go Go.PM Go.Grid
theorem Wv {T A:Type} (body:T->A->Option (Nat×A)): ∀(xs ys:List T) (x:A),overK body (xs++ys) x=(overK body xs x).bind λp=>match p.1 with|0=>overK body ys p.2|m+1=>some (m+1,p.2)
 | [],ys,x=>rfl
 |i::r,ys,x=>by
  show(body i x).bind _=((body i x).bind _).bind _;cases body i x with
  |none=>rfl
  |some p=>
   obtain⟨e,y⟩:=p;cases e with
   |zero=>exact Wv body r ys y
   |succ m=>rfl
theorem El (n a b c:Nat) (br:List Int) (r:List (List Int)) (s:List Int×List Int):tC n a b c (br::r) s=if V5 s=true then tC n a b c r (Gf n a b c s br)else none:=rfl
theorem Zid (n a b c:Nat) (br:List Int) (r:List (List Int)) (g:List Int×List Int):aC n a b c (br::r) g=(aC n a b c r g).bind λq=>if V5 q=true then some (R7 n a b c q br)else none:=rfl
def bk (m:Nat) (cs:List C):List (List V):=((cs.zipIdx m).reverse).map λp=>[I ((p.2:Nat):Int),V.c p.1]
theorem Zqi (m:Nat) (c:C) (cs:List C):bk m (c::cs)=bk (m+1) cs++[[I ((m:Nat):Int),V.c c]]:=by
 unfold bk;rw[List.zipIdx_cons,List.reverse_cons,Zur];rfl
theorem Zie {A:Type} {body:List V->A->Option (Nat×A)} (st:List Int×List Int->A) (bd:A) {n a b c:Nat}
  (h: ∀(i:Int) (br:List Int) (s:List Int×List Int),F1 n br->Q3 n s->body [I i,V.c (bA br)] (st s)=if V5 s=true then some (0,st (R7 n a b c s br))else some (1,bd)):
  ∀(brs:List (List Int)) (_: ∀br∈brs,F1 n br) (m:Nat) (s:List Int×List Int) (_:Q3 n s) (x:A) (_:x=st s),overK body (bk m (brs.map bA)) x=match aC n a b c brs s with|some q=>some (0,st q)|none=>some (1,bd)
 | [],_,m,s,_,x,hx=>by subst hx;rfl
 |br::r,hbr,m,s,hs,x,hx=>by
  rw[Ztv,Zqi,Wv,Zie st bd h r (λy hy=>hbr y (Ztd _ hy)) (m+1) s hs x hx,Zid];cases hq:aC n a b c r s with
  |none=>rfl
  |some q=>
   show(body [I ((m:Nat):Int),V.c (bA br)] (st q)).bind _=_;rw[h _ br q (hbr br (Zua ..)) (Bi hs hq)];show _=match(if V5 q=true then some (R7 n a b c q br)else none)with|some q=>some (0,st q)|none=>some (1,bd)
   split<;>rfl
theorem map_drop {brs:List (List Int)} {j:Nat} (h:j<brs.length):List.drop j (brs.map bA)=C.sl brs[j].length (ints brs[j])::List.drop (j+1) (brs.map bA):=by
 rw[Ztq (by rw[Zs8];exact h),Zu9];rfl
attribute [local congr] Zt Zu Zv Yd Zw Zx Ye Yf Yg Yh Zy Zz Yi Yx Yy Yz Y1 Y2 Y5 Y6 Y7 Y8 Y4 Z1 Z2 Y9 Z3 Z4 Zk Z5 Z0
section
variable (fu d:Nat) (hfu:18446744073709551616<=fu)
include hfu
theorem Zb8 (n:Nat) (hn:n=1\/n=2) (a b c:Nat) (ha:1<=a/\a<=4) (hb:1<=b/\b<=4) (hc:1<=c/\c<=4) (br:List Int) (hbr:F1 n br) (s:List Int×List Int) (hs:Q3 n s):
  cl fu (d+13) fn_tangent_Compose_1 [V.agg [C.sl s.1.length (ints s.1),C.sl s.2.length (ints s.2)],V.c (C.sl br.length (ints br)),V.c (C.cp [C.v (.int .i64 (a:Int)),C.v (.int .i64 (b:Int)),C.v (.int .i64 (c:Int))]),V.c (C.cp [C.v (.int .i64 (n:Int))])] []=cO (if V5 s=true then some (Gf n a b c s br)else none):=by
 have ap:=Zkx fu d hfu n hn a b c ha hb hc br hbr s hs;generalize (if V5 s=true then some (Gf n a b c s br)else none)=o at*
 rw[eq_tangent_Compose_1];cases o with
 |none=>
  unfold cO at*
  simp(disch:=omega)only[Zd,QM,QD,ap,Zss,Zsy,Zst,Nat.reduceAdd]
 |some t=>
  unfold cO at*
  simp(disch:=omega)only[Zd,QM,QD,ap,Zss,Zsy,Zst,Nat.reduceAdd]
set_option maxHeartbeats 1000000 in
theorem Zon (n:Nat) (hn:n=1\/n=2) (a b c:Nat) (ha:1<=a/\a<=4) (hb:1<=b/\b<=4) (hc:1<=c/\c<=4) (brs:List (List Int)) (hbr: ∀br∈brs,F1 n br) (hk:brs.length<=1000) (s:List Int×List Int) (hs:Q3 n s):
  cl fu (d+14) fn_tangent_fold_api_Change_api_Branch [V.c (C.sl brs.length (brs.map bA)),V.agg [C.sl s.1.length (ints s.1),C.sl s.2.length (ints s.2)],V.c (C.fn fn_tangent_Compose_1 [C.cp [C.v (.int .i64 (a:Int)),C.v (.int .i64 (b:Int)),C.v (.int .i64 (c:Int))],C.cp [C.v (.int .i64 (n:Int))]])] []=cO (tC n a b c brs s):=by
 have ap:=λbr h t ht=>Zb8 fu d hfu n hn a b c ha hb hc br h t ht;rw[eq2_tangent_fold_api_Change_api_Branch];refine Us (A:=Int×Int×(C×C×Unit)×(C×C×Unit)×Unit) (B:=Out) (fu:=fu) (λo=>o=cO (tC n a b c brs s))
  (λy=> ∃(j:Nat) (t:List Int×List Int),j<=brs.length/\Q3 n t/\tC n a b c (brs.drop j) t=tC n a b c brs s/\y=(0,(j:Int),(C.sl t.1.length (ints t.1),C.sl t.2.length (ints t.2),()),(C.nl,C.nl,()),())) (λy=>brs.length-y.2.1.toNat)
  (λe z=>e=0/\(∃t:List Int×List Int,tC n a b c brs s=some t/\z=(0,(brs.length:Int),(C.sl t.1.length (ints t.1),C.sl t.2.length (ints t.2),()),(C.nl,C.nl,()),()))\/e=1/\tC n a b c brs s=none/\ ∃j:Int,z=(1,j,(C.nl,C.nl,()),(C.nl,C.nl,()),())) ?_ ?_ ?_ ?_
 ·exact⟨0,s,by omega,hs,rfl,rfl⟩
 ·show brs.length-_<fu;omega
 ·rintro y ⟨j,t,hj,ht,hr,rfl⟩
  by_cases hlt:j<brs.length
  ·have hdr:=map_drop hlt;have hbj:=hbr brs[j] (Zts hlt);have e1:=ap brs[j] hbj t ht;have hd:=Ztq hlt;rw[hd,El]at hr;cases ok:V5 t with
   |true=>
    rw[ok,if_pos rfl]at e1 hr;unfold cO at e1;refine .inl ⟨_, ?_,⟨j+1,Gf n a b c t brs[j],by omega,My ht _,hr,rfl⟩, ?_⟩
    ·simp(disch:=omega)only[Zd,QM,QD,Zsv,Zs4,hdr,e1,Zss,Zsy,Zst,Nat.reduceAdd];rfl
    ·show brs.length-((j+1:Nat):Int).toNat<brs.length-((j:Nat):Int).toNat;omega
   |false=>
    rw[ok,if_neg (by simp)]at e1 hr;unfold cO at e1;refine .inr ⟨1,_, ?_, .inr ⟨rfl,hr.symm,(j:Int),rfl⟩⟩;simp(disch:=omega)only[Zd,QM,QD,Zsv,Zs4,hdr,e1,Zss,Zsy,Zst,Nat.reduceAdd]
  ·obtain rfl:j=brs.length:=by omega
   rw[List.drop_length]at hr;refine .inr ⟨0,_, ?_, .inl ⟨rfl,t,hr.symm,rfl⟩⟩;simp(disch:=omega)only[Zd,QM,QD]
 ·rintro e z (⟨rfl,t,hr,rfl⟩|⟨rfl,hr,j,rfl⟩)
  ·rw[hr];unfold cO;simp(disch:=omega)only[Zd,QM,QD]
  ·rw[hr];unfold cO;simp(disch:=omega)only[Zd,QM,QD]
theorem Zoo (n:Nat) (hn:n=1\/n=2) (a b c:Nat) (ha:1<=a/\a<=4) (hb:1<=b/\b<=4) (hc:1<=c/\c<=4) (brs:List (List Int)) (hbr: ∀br∈brs,F1 n br) (hk:brs.length<=1000) (s:List Int×List Int) (hs:Q3 n s):
  cl fu (d+15) fn_tangent_Compose [V.agg [C.v (.int .i64 (a:Int)),C.v (.int .i64 (b:Int)),C.v (.int .i64 (c:Int))],I n,V.c (C.sl brs.length (brs.map bA)),V.agg [C.sl s.1.length (ints s.1),C.sl s.2.length (ints s.2)]] []=cO (tC n a b c brs s):=by
 have h:=La hn;have hNl:=Xz h;have heL:=Vh h;have l1:=hs.1;have l2:=hs.2;have k1:=Lh fu (d+13) s.1 (by omega);have k2:=Lh fu (d+13) s.2 (by omega);have t1:List.take s.1.length (ints s.1)=ints s.1:=Zs1 (by rw[Zg];exact Zs2 _);have t2:List.take s.2.length (ints s.2)=ints s.2:=Zs1 (by rw[Zg];exact Zs2 _);have e1:=Zon fu d hfu n hn a b c ha hb hc brs hbr hk s hs;generalize tC n a b c brs s=o at*
 rw[eq_tangent_Compose];cases o with
 |none=>
  unfold cO at*
  simp(disch:=omega)only[Zd,QM,QD,k1,k2,Zj5,H2,Zg,Zs4,Zst,t1,t2,e1,Zss,Zsy,Nat.reduceAdd]
 |some t=>
  unfold cO at*
  simp(disch:=omega)only[Zd,QM,QD,k1,k2,Zj5,H2,Zg,Zs4,Zst,t1,t2,e1,Zss,Zsy,Nat.reduceAdd]
theorem Zop (n:Nat) (h:Yb n) (a b c:Nat) (ha:1<=a/\a<=4) (hb:1<=b/\b<=4) (hc:1<=c/\c<=4) (brs:List (List Int)) (hbr: ∀br∈brs,F1 n br) (hk:brs.length<=1000) (s:List Int×List Int) (hs:Q3 n s):
  cl fu (d+14) fn_adjoint_Compose [V.agg [C.v (.int .i64 (a:Int)),C.v (.int .i64 (b:Int)),C.v (.int .i64 (c:Int))],I n,V.c (C.sl brs.length (brs.map bA)),V.agg [C.sl s.1.length (ints s.1),C.sl s.2.length (ints s.2)]] []=cO (aC n a b c brs s):=by
 have hNl:=Xz h;have heL:=Vh h;have l1:=hs.1;have l2:=hs.2;have k1:=Lh fu (d+12) s.1 (by omega);have k2:=Lh fu (d+12) s.2 (by omega);have t1:List.take s.1.length (ints s.1)=ints s.1:=Zs1 (by rw[Zg];exact Zs2 _);have t2:List.take s.2.length (ints s.2)=ints s.2:=Zs1 (by rw[Zg];exact Zs2 _);have kb:=Zkw (d+3) (brs.map bA) (by rw[Zs8];omega);rw[Zs8]at kb;have ap:=λbr h' t ht=>Zg8 fu (d+1) hfu n h a b c ha hb hc br h' t ht;rw[eq_adjoint_Compose,eq_slices_Backward_sapi_Branch_api_Branch];simp(disch:=omega)only[Zd,QM,QD,k1,k2,Zj5,H2,Zg,Zs4,Zst,t1,t2,kb];rw[show backL (brs.map bA)=bk 0 (brs.map bA) from rfl];rw[Zie (n:=n) (a:=a) (b:=b) (c:=c) (λs=>((C.nl,C.nl,()),((0:Int),()),(C.sl s.1.length (ints s.1),C.sl s.2.length (ints s.2),()),())) ((C.nl,C.nl,()),((1:Int),()),(C.nl,C.nl,()),()) ?_ brs hbr 0 s hs _ rfl]
 ·cases aC n a b c brs s with
  |none=>rfl
  |some q=>rfl
 ·intro i br t hb0 ht;have e1:=ap br hb0 t ht;unfold bA;cases ok:V5 t with
  |true=>
   rw[ok,if_pos rfl]at e1;rw[if_pos rfl];unfold cO at e1;simp(disch:=omega)only[Zd,QM,QD,e1,Zss,Zsy,Zst,Nat.reduceAdd]
  |false=>
   rw[ok,if_neg (by simp)]at e1;rw[if_neg (by simp)];unfold cO at e1;simp(disch:=omega)only[Zd,QM,QD,e1,Zss,Zsy,Zst,Nat.reduceAdd]
end
end Go.Proofs.YtjmempcalaliiaaGreatDoor
/- AdjointSensitivity answers true. -/
namespace Go.Proofs.YtjmempcalaliiaaGreatDoor
open Go Go.PM Go.Grid
theorem Li {s:List Int×List Int} {m:Int} (hm:m<=1099511627776) (h1:wid (-m) m s.1) (h2:wid (-m) m s.2):V5 s=true:=by
 unfold V5;rw[Qn.2 (Qa h1 (by omega) (by omega)),Qn.2 (Qa h2 (by omega) (by omega))];rfl
section
variable {n a b c:Nat} (hn:n=1\/n=2) (ha:a<=4) (hb:b<=4) (hc:c<=4)
include hn ha hb hc
theorem Zqj {s:List Int×List Int} (h:Q3 n s) (h1:wid (-50) 50 s.1) (h2:wid (-50) 50 s.2) (br:List Int):V5 (Gf n a b c s br)=true:=by
 have b1:=Q9 h1 (by omega);have b2:=Q9 h2 (by omega);exact Li (m:=7296000) (by omega) (Qa (Zh7 (br:=br) ha hb hc hn (by omega) h.1 b1 b2) (by omega) (by omega)) (Qa (Zh8 ha hb hc (E:=edg n) (by omega) b1 b2 (edg n).length) (by omega) (by omega))
theorem Zqk {s:List Int×List Int} (h:Q3 n s) (h1:wid (-50) 50 s.1) (h2:wid (-50) 50 s.2): ∀brs:List (List Int),brs.length<=2-> ∃p,tC n a b c brs s=some p
 | [],_=>⟨_,rfl⟩
 | [br],_=>⟨_,by rw[El,if_pos (Li (m:=50) (by omega) h1 h2)];rfl⟩
 | [br,br'],_=>⟨_,by rw[El,if_pos (Li (m:=50) (by omega) h1 h2),El,if_pos (Zqj hn ha hb hc h h1 h2 br)];rfl⟩
 |_::_::_::_,h=>by simp only[Zss]at h;omega
omit hn in
theorem alE_1 {dg br gd gf:List Int} {E:List (Int×Int)} (hd: ∀k,(∃e∈E,k=e.1.toNat\/k=e.2.toNat)->1<=at0 dg k) (g1: ∀i,-1<=at0 gd i/\at0 gd i<=1) (g2: ∀i,-1<=at0 gf i/\at0 gf i<=1) {j:Nat} (hj:j<E.length):
  (-23040<=alE a b c dg br gd gf E j/\alE a b c dg br gd gf E j<=23040)/\(-23040<=beE a b c dg br gd gf E j/\beE a b c dg br gd gf E j<=23040):=by
 have hs:=Rb ha hb hc;have hB:=Bb a b c;have ht:=Zoc a b c ha hb hc;have hx:=hd (E.getD j (0,0)).1.toNat ⟨E[j],Zts hj, .inl (by rw[Qo E hj])⟩;have hy:=hd (E.getD j (0,0)).2.toNat ⟨E[j],Zts hj, .inr (by rw[Qo E hj])⟩;have qx:=Lg (s:=(sc a b c:Int)) (by omega) hx;have qy:=Lg (s:=(sc a b c:Int)) (by omega) hy;have h1:=g1 (E.getD j (0,0)).2.toNat;have h2:=g1 (E.getD j (0,0)).1.toNat;have h3:=g2 j;have b1:=mbd (p:=(scB a b c:Int)) (P:=7680) ⟨by omega,by omega⟩ h3 (by omega);unfold alE beE zE;generalize hm:at0 gd (E.getD j (0,0)).2.toNat-at0 gd (E.getD j (0,0)).1.toNat=m;have hm': -2<=m/\m<=2:=by omega
 have b2:=mbd (p:=(tr a b:Int)) (P:=7680) ht hm' (by omega);have b3:=mbd (p:=Int.tdiv (sc a b c) (at0 dg (E.getD j (0,0)).1.toNat)) (P:=7680) ⟨qx.1,by omega⟩ hm' (by omega);have b4:=mbd (p:=Int.tdiv (sc a b c) (at0 dg (E.getD j (0,0)).2.toNat)) (P:=7680) ⟨qy.1,by omega⟩ hm' (by omega);generalize (scB a b c:Int)*at0 gf j=p1 at*
 generalize (tr a b:Int)*m=p2 at*
 generalize Int.tdiv (sc a b c) (at0 dg (E.getD j (0,0)).1.toNat)*m=p3 at*
 generalize Int.tdiv (sc a b c) (at0 dg (E.getD j (0,0)).2.toNat)*m=p4 at*
 generalize at0 br j=r
 repeat' split
 all_goals omega
omit hn in
theorem sS_1 {dg br gd gf:List Int} {E:List (Int×Int)} (hd: ∀k,(∃e∈E,k=e.1.toNat\/k=e.2.toNat)->1<=at0 dg k) (g1: ∀i,-1<=at0 gd i/\at0 gd i<=1) (g2: ∀i,-1<=at0 gf i/\at0 gf i<=1) (k:Nat):
  ∀J,J<=E.length-> -((J:Int)*46080)<=sS a b c dg br gd gf E J k/\sS a b c dg br gd gf E J k<=(J:Int)*46080
 |0,_=>by
  show -((0:Int)*_)<=0/\(0:Int)<=0*_;omega
 |J+1,h=>by
  have ih:=sS_1 hd g1 g2 k J (by omega) (br:=br);have hb:=alE_1 ha hb hc (br:=br) hd g1 g2 (j:=J) (by omega);rw[Zb5];generalize sS a b c dg br gd gf E J k=S at*
  generalize alE a b c dg br gd gf E J=p at*
  generalize beE a b c dg br gd gf E J=q at*
  repeat' split
  all_goals omega
theorem Zso {s:List Int×List Int} (h:Q3 n s) (h1:wid (-1) 1 s.1) (h2:wid (-1) 1 s.2) (br:List Int):V5 (R7 n a b c s br)=true:=by
 have hf:Yb n:=La hn;have h120:=Zia hn;have hin:=Nl hf;have hdp:=Zb1 hf;have hl:=h.1;have g1:=λi=>Q9 h1 (by omega) i;have g2:=λi=>Q9 h2 (by omega) i;have k1: ∀i,-1099511627776<=at0 s.1 i/\at0 s.1 i<=1099511627776:=λi=>by have:=g1 i;omega
 have k2: ∀i,-1099511627776<=at0 s.2 i/\at0 s.2 i<=1099511627776:=λi=>by have:=g2 i;omega
 have hd1: ∀k,(∃e∈edg n,k=e.1.toNat\/k=e.2.toNat)->1<=at0 (Yr (Zf n).length (edg n)) k:=by
  rintro k ⟨e,he,rfl|rfl⟩
  ·exact(hdp e he).1
  ·exact(hdp e he).2
 refine Li (m:=10000000) (by omega) (J4 λk hk=> ?_) (J4 λj hj=> ?_)
 ·show _<=at0 (aDS a b c (Yr (Zf n).length (edg n)) br s.1 s.2 (edg n) (edg n).length) k/\at0 (aDS a b c (Yr (Zf n).length (edg n)) br s.1 s.2 (edg n) (edg n).length) k<=_;replace hk:k<(aDS a b c (Yr (Zf n).length (edg n)) br s.1 s.2 (edg n) (edg n).length).length:=hk;rw[Zb6 a b c _ br s.1 s.2 (edg n) (λe he=>by have:=hin e he;omega) k1 (edg n).length (Zs2 _) k hk];have b1:=sS_1 ha hb hc (br:=br) hd1 g1 g2 k (edg n).length (Zs2 _);have b2:=mbd (p:=(sc a b c:Int)) (P:=7680) ⟨by omega,by have:=Rb ha hb hc;omega⟩ (g1 k) (by omega);generalize sS a b c (Yr (Zf n).length (edg n)) br s.1 s.2 (edg n) (edg n).length k=S at*
  generalize (sc a b c:Int)*at0 s.1 k=T at*
  rw[Xv (by omega) (by omega)];omega
 ·show _<=at0 (aFS a b c br s.1 s.2 (edg n) (edg n).length) j/\at0 (aFS a b c br s.1 s.2 (edg n) (edg n).length) j<=_;have hj':j<(edg n).length:=by
   have e:(R7 n a b c s br).2.length=(edg n).length:=Rf ..;omega
  rw[Zoe a b c ha hb hc k1 k2 hj'];unfold qFE;have hs:=Rb ha hb hc;have hA:=Ge a b c;have ht:=Zod a b c ha hb hc;have q1:=g1 ((edg n).getD j (0,0)).2.toNat;have q2:=g1 ((edg n).getD j (0,0)).1.toNat;generalize hm:at0 s.1 ((edg n).getD j (0,0)).2.toNat-at0 s.1 ((edg n).getD j (0,0)).1.toNat=m;have hm': -2<=m/\m<=2:=by omega
  have b1:=mbd (p:=(sc a b c:Int)-scA a b c) (P:=7680) ⟨by omega,by omega⟩ (g2 j) (by omega);have b2:=mbd (p:=(tp a b:Int)) (P:=7680) ht hm' (by omega);generalize ((sc a b c:Int)-scA a b c)*at0 s.2 j=p1 at*
  generalize (tp a b:Int)*m=p2 at*
  split;all_goals omega
theorem Zql {s:List Int×List Int} (h:Q3 n s) (h1:wid (-1) 1 s.1) (h2:wid (-1) 1 s.2): ∀brs:List (List Int),brs.length<=2-> ∃p,aC n a b c brs s=some p
 | [],_=>⟨_,rfl⟩
 | [br],_=>⟨_,by
  show(if V5 s=true then some (R7 n a b c s br)else none)=_;rw[if_pos (Li (m:=1) (by omega) h1 h2)]⟩
 | [br,br'],_=>⟨R7 n a b c (R7 n a b c s br') br,by
  have e:aC n a b c [br'] s=some (R7 n a b c s br'):=by
   show(if V5 s=true then some (R7 n a b c s br')else none)=_;rw[if_pos (Li (m:=1) (by omega) h1 h2)]
  rw[Zid,e];show(if V5 (R7 n a b c s br')=true then some (R7 n a b c (R7 n a b c s br') br)else none)=_;rw[if_pos (Zso hn ha hb hc h h1 h2 br')]⟩
 |_::_::_::_,h=>by simp only[Zss]at h;omega
end
def Ny (n k:Nat):List Int×List Int:=((List.replicate (Zf n).length 0).set k 1,List.replicate (edg n).length 0)
theorem Pw (n k:Nat):Q3 n (Ny n k):=⟨by unfold Ny;rw[Zut,Zub],by unfold Ny;rw[Zub]⟩
theorem Zqm (n k:Nat):wid (-1) 1 (Ny n k).1/\wid (-1) 1 (Ny n k).2:=by
 refine⟨λv hv=> ?_,λv hv=> ?_⟩
 ·rcases List.mem_or_eq_of_mem_set hv with h|rfl
  ·rw[Zui h];omega
  ·omega
 ·rw[Zui hv];omega
theorem Zeu (m i:Nat):at0 (List.replicate m (0:Int)) i=0:=by
 unfold at0;rw[Zs6,List.getElem?_replicate];split<;>rfl
theorem Zoq {n k:Nat} (hk:k<(Zf n).length) {p:List Int×List Int} (hp:Q3 n p):Zg7 p (Ny n k)=at0 p.1 k:=by
 have hl:k<(List.replicate (Zf n).length (0:Int)).length:=by rw[Zub];exact hk
 unfold Zg7 T8 Ny;rw[Qp p.2.length (g:=λ_=>0) (λj _=>by show _*at0 (List.replicate _ 0) j=0;rw[Zeu,Zu1]),Ha,Zvd,
  Qp p.1.length (g:=λj=>if j=k then at0 p.1 j else 0) (λj _=>by
   show _*at0 ((List.replicate _ 0).set k 1) j=_;rw[Zh9 hl,Zeu];split
   ·exact Int.mul_one _
   ·exact Zu1 _),Hc (λj=>at0 p.1 j) k p.1.length (by rw[hp.1];exact hk)]
theorem Ww {a b:List Int} (h:a.length=b.length):T8 a b=T8 b a:=by
 unfold T8;rw[h];exact Qp _ λj _=>Int.mul_comm _ _
theorem Zky {n:Nat} {p q:List Int×List Int} (hp:Q3 n p) (hq:Q3 n q):Zg7 p q=Zg7 q p:=by
 unfold Zg7;rw[Ww (hp.1.trans hq.1.symm),Ww (hp.2.trans hq.2.symm)]
attribute [local congr] Zt Zu Zv Yd Zw Zx Ye Yf Yg Yh Zy Zz Yi Yx Yy Yz Y1 Y2 Y5 Y6 Y7 Y8 Y4 Z1 Z2 Y9 Z3 Z4 Zk Z5 Z0
section
variable (fu d:Nat)
theorem Zqn (z:Int) (hz: -9223372036854775808<=z/\z<=9223372036854775807):cl fu (d+1) fn_precision_Wide [I z] []=OK (V.agg (wdC z)):=by
 rw[eq_precision_Wide];unfold wdC hiW loW;rw[Int.fdiv_eq_ediv_of_nonneg _ (by decide),show((2:Int)^63)=9223372036854775808 from rfl];simp only[IntKind.wrap_i64,Np,Option.some.injEq,Out.mk.injEq,and_true,V.agg.injEq,List.cons.injEq,C.v.injEq,Value.int.injEq,true_and];omega
variable (hfu:18446744073709551616<=fu)
include hfu
theorem Zqo (n:Nat) (h:Yb n) (a b c:Nat) (ha:1<=a/\a<=4) (hb:1<=b/\b<=4) (hc:1<=c/\c<=4) (brs:List (List Int)) (hbr: ∀br∈brs,F1 n br) (hl:brs.length<=1000) (k:Nat) (hk:k<(Zf n).length):
  cl fu (d+15) fn_adjoint_Sensitivity [V.agg [C.v (.int .i64 (a:Int)),C.v (.int .i64 (b:Int)),C.v (.int .i64 (c:Int))],I n,V.c (C.sl brs.length (brs.map bA)),I (k:Int)] []=cO (aC n a b c brs (Ny n k)):=by
 have e1:=J7 fu (d+7) hfu a b c ha hb hc;have heL:=Vh h;have hNl:=Xz h;have q1:=Qf fu (d+5) hfu n h;have q2:=Tt fu (d+12) n h;have hkl:k<(List.replicate (Zf n).length (0:Int)).length:=by rw[Zub];omega
 have hp:=S9 (List.replicate (Zf n).length (0:Int)) hkl 1;have hU:((List.replicate (Zf n).length (0:Int)).set k 1).length=(Zf n).length:=by rw[Zut,Zub]
 have hV:(List.replicate (edg n).length (0:Int)).length=(edg n).length:=Zub;have hW:(List.replicate (Zf n).length (0:Int)).length=(Zf n).length:=Zub;have cc:=Zop fu d hfu n h a b c ha hb hc brs hbr hl (Ny n k) (Pw n k);generalize aC n a b c brs (Ny n k)=o at*
 unfold Ny at cc;rw[hU,hV]at cc;have t1:List.take (Zf n).length (ints ((List.replicate (Zf n).length (0:Int)).set k 1))=ints ((List.replicate (Zf n).length (0:Int)).set k 1):=Zs1 (by rw[Zg,hU];exact Zs2 _);have t2:List.take (edg n).length (ints (List.replicate (edg n).length (0:Int)))=ints (List.replicate (edg n).length (0:Int)):=Zs1 (by rw[Zg,hV];exact Zs2 _);generalize (List.replicate (Zf n).length (0:Int)).set k 1=U at*
 rw[eq_adjoint_Sensitivity];cases o with
 |none=>
  unfold cO at*
  simp(disch:=omega)only[Zd,QM,QD,e1,q1,q2,Zsv,Zs4,Zst,decide_true,Bg,hp,Zg,hU,hV,hW,t1,t2,cc,Zss,Zsy,Nat.reduceAdd]
 |some t=>
  unfold cO at*
  simp(disch:=omega)only[Zd,QM,QD,e1,q1,q2,Zsv,Zs4,Zst,decide_true,Bg,hp,Zg,hU,hV,hW,t1,t2,cc,Zss,Zsy,Nat.reduceAdd]
set_option maxHeartbeats 4000000 in
theorem sp_AdjointSensitivity (l:List Int) (hl: ∀x∈l,0<=x/\x<=255) (nd st:Int) (hnd:0<=nd/\nd<=255) (hst:0<=st/\st<=255):cl fu (d+17) fn_synopticlaw32_AdjointSensitivity [V.c (C.sl l.length (ik .u8 l)),V.c (C.v (.int .u8 nd)),V.c (C.v (.int .u8 st))] []=OK (B true):=by
 have hA:=Zg6 fu (d+3) hfu;have hb:=Zgw hl (k:=300) (by omega);have hN:=Zp7 fu (d+15) l 300;replace hN:cl fu (d+16) fn_synopticfield_New [V.c (C.sl l.length (ik .u8 l)),I 300] []=_:=hN;generalize l.take 300=bs at hb hN;obtain⟨n,j1,hn,hj1,c1⟩:=Zbx fu (d+13) hb (i:=0) (by omega);have h:=La hn;obtain⟨a,b,c,j2,ha,hb',hc,hj2,c2⟩:=Zkm fu (d+13) hb hj1;obtain⟨br1,j3,hbl1,hbw1,hj3,c3⟩:=Wq fu (d+6) hfu hb hj2 n h;obtain⟨br2,j4,hbl2,hbw2,hj4,c4⟩:=Wq fu (d+6) hfu hb hj3 n h;obtain⟨hd,hf,j5,h1,h2,h3,h4,hj5,c5⟩:=Zkr fu (d+6) hfu hb hj4 n h 50 (by omega) 50 (by omega);replace c5:cl fu (d+16) fn_synopticfield_Codes_Change [V.ptr 1000000 0,I n,I 50] _=_:=c5;have heL:=Vh h;have hNl:=Xz h;have hNp:=Zgx h;obtain⟨brs,hbrs,hk2,s1,s2⟩: ∃brs:List (List Int),(∀br∈brs,F1 n br)/\brs.length<=2/\IntKind.i64.wrap (1+Int.tmod st 2)=(brs.length:Int)/\List.take brs.length [C.sl br1.length (ints br1),C.sl br2.length (ints br2)]=brs.map bA:=by
  rw[Int.tmod_eq_emod_of_nonneg hst.1];rcases(show st%2=0\/st%2=1 by omega)with e|e
  ·rw[e];exact⟨[br1],by intro x hx;rw[List.mem_singleton]at hx;subst hx;exact⟨hbl1,hbw1⟩,by simp,rfl,rfl⟩
  ·rw[e];refine⟨[br1,br2], ?_,by simp,rfl,rfl⟩;intro x hx;rcases Zta.1 hx with rfl|hx
   ·exact⟨hbl1,hbw1⟩
   ·rw[List.mem_singleton]at hx;subst hx;exact⟨hbl2,hbw2⟩
 obtain⟨k,hk,s3⟩: ∃k:Nat,k<(Zf n).length/\Int.tmod nd ((hd.length:Nat):Int)=(k:Int):=by
  have hp:(0:Int)<((hd.length:Nat):Int):=by omega
  rw[Int.tmod_eq_emod_of_nonneg hnd.1];have q1:=Int.emod_nonneg nd (by omega:((hd.length:Nat):Int)≠0);have q2:=Int.emod_lt_of_pos nd hp;exact⟨(nd%((hd.length:Nat):Int)).toNat,by omega,by omega⟩
 have hs:Q3 n (hd,hf):=⟨h1,h2⟩;obtain⟨p,hp⟩:=Zqk hn ha.2 hb'.2 hc.2 hs h3 h4 brs hk2;have hu:=Zqm n k;obtain⟨q,hq⟩:=Zql hn ha.2 hb'.2 hc.2 (Pw n k) hu.1 hu.2 brs hk2;have key:=Bj hn ha.2 hb'.2 hc.2 hbrs hs (Pw n k) hp hq;have lp:=Zol hs hp;have lq:=Bi (Pw n k) hq;rw[Zoq hk lp,Zky hs lq]at key;have wh:w64 (hd,hf):=⟨Qa h3 (by omega) (by omega),Qa h4 (by omega) (by omega)⟩;have wu:w64 (Ny n k):=⟨Qa hu.1 (by omega) (by omega),Qa hu.2 (by omega) (by omega)⟩;have wp:=tC_w hn ha.2 hb'.2 hc.2 hs wh hp;have wq:=aC_w h (Pw n k) wu hq;have t1:=Zoo fu (d+1) hfu n hn a b c ha hb' hc brs hbrs (by omega) (hd,hf) hs;have t2:=Zqo fu (d+1) hfu n h a b c ha hb' hc brs hbrs (by omega) k hk;rw[hp]at t1;rw[hq]at t2;have t3:=Zqe fu (d+11) hfu q.1 q.2 hd hf (by rw[lq.1,h1]) (by rw[lq.2,h2]) (by rw[lq.1];omega) (by rw[lq.2];omega) wq.1 wq.2 wh.1 wh.2;replace key:at0 p.1 k=T8 q.1 hd+T8 q.2 hf:=key;rw[<-key]at t3;have i1:=Yc p.1 (i:=k) (by rw[lp.1];exact hk);have l1:=lp.1;have t4:=Zqn fu (d+15) (at0 p.1 k) (Lc wp.1 (by omega) k);unfold Xe wdC cO at*
 rw[eq_synopticlaw32_AdjointSensitivity];simp(disch:=omega)only[Zd,QM,QD,Zj5,H2,Zq0,hA,hN,c1,c2,c3,c4,c5,s1,Zsv,Zs4,s2,s3,t1,t2,t3,t4,i1,beq_self_eq_true,Bool.and_self,Zss,Zsy,Zst,Nat.reduceAdd]
end
end Go.Proofs.YtjmempcalaliiaaGreatDoor
