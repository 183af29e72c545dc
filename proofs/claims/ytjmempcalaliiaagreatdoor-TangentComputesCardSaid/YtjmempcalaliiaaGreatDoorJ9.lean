/- Parts put together: Pp, Ft, Pq, Dj, Da, Db, Dc, Dd, Df, Dg, Dk, Dl, Dm, Dn, PPe, Fx, Fy, Do. -/
import Derived.Test.YtjmempcalaliiaaGreatDoorJ8
import Derived.Test.YtjmempcalaliiaaGreatDoorJ7
import Derived.Deep.Slices
set_option linter.constructorNameAsVariable false
set_option linter.unusedSimpArgs false
set_option linter.unusedVariables false
open Int renaming tdiv→Zx8,not_lt→Zzm
open Go.IntKind renaming bits→Zx9,i64→Zx2,u64→Zx7,wrap_i64→Zzj
open List renaming range→Zyf,take→Zx6,drop→Zx5,cons→Zzl,replicate→Zyx
open Nat renaming beq→Zx3
open Option renaming some→Zzk
namespace Go.Proofs.YtjmempcalaliiaaGreatDoor
open Go Go.PM Go.Grid
attribute [local congr] Zu Zv Zw Yd Zx Zy Ye Yf Yg Yh Zz Z0 Yi Yt Yu Yv Yw Yx Yz Y1 Y2 Y4 Yy Z2 Z3 Y5 Z4 Z5 Zj Z6 Z1
section
variable (fu d:Nat) (hfu:18446744073709551616<=fu)
include hfu
end
end Go.Proofs.YtjmempcalaliiaaGreatDoor
namespace Go.Proofs.YtjmempcalaliiaaGreatDoor
open Go Go.PM Go.Grid
attribute [local congr] Zu Zv Zw Yd Zx Zy Ye Yf Yg Yh Zz Z0 Yi Yt Yu Yv Yw Yx Yz Y1 Y2 Y4 Yy Z2 Z3 Y5 Z4 Z5 Zj Z6 Z1
section
variable (fu d:Nat)
theorem Zqw {bs:List Int} (hb:bytes bs) {i:Nat} (hi:i<=1000): ∃(v:Int) (j:Nat),j<=1000/\cl fu (d+3) fn_synopticfield_Codes_Int [V.ptr 1000000 0] [Yo bs i]=some ⟨I v,[Yo bs j],none⟩:=by
 obtain⟨v1,j1,hv1,hj1,e1⟩:=X1 fu d hb hi 4 (by omega);replace e1:cl fu (d+2) fn_synopticfield_Codes_Next [V.ptr 1000000 0,I 4] _=_:=e1;obtain⟨v2,j2,hv2,hj2,e2⟩:=X1 fu d hb hj1 12 (by omega);replace e2:cl fu (d+2) fn_synopticfield_Codes_Next [V.ptr 1000000 0,I 12] _=_:=e2;obtain⟨v3,j3,hv3,hj3,e3⟩:=X1 fu d hb hj1 256 (by omega);replace e3:cl fu (d+2) fn_synopticfield_Codes_Next [V.ptr 1000000 0,I 256] _=_:=e3;unfold Yo at*
 rw[eq_synopticfield_Codes_Int];by_cases q:v1=3
 ·subst q;obtain⟨x,r,hx⟩: ∃(x:Int) (r:List C),Zx5 v2 [C.v (.int .i64 9223372036854775807),C.v (.int .i64 (-9223372036854775808)),C.v (.int .i64 144115188075855872),C.v (.int .i64 144115188075855873),C.v (.int .i64 (-1)),C.v (.int .i64 4294967296),C.v (.int .i64 1048576),C.v (.int .i64 1048577),C.v (.int .i64 4194304),C.v (.int .i64 1000001),C.v (.int .i64 0),C.v (.int .i64 17)]=C.v (.int .i64 x)::r:=by
   rcases(show v2=0\/v2=1\/v2=2\/v2=3\/v2=4\/v2=5\/v2=6\/v2=7\/v2=8\/v2=9\/v2=10\/v2=11 by omega)with rfl|rfl|rfl|rfl|rfl|rfl|rfl|rfl|rfl|rfl|rfl|rfl<;>exact⟨_,_,rfl⟩
  exact⟨x,j2,hj2,by simp(disch:=omega)only[Za,QM,QD,e1,e2,Zs3,Zs9,Zs4,Nat.reduceAdd,Zs2,Zta,hx]⟩
 ·exact⟨(v3:Int)-60,j3,hj3,by simp(disch:=omega)only[Za,QM,QD,e1,e3,Zs3,Zs9,Zs4,Nat.reduceAdd]⟩
end
end Go.Proofs.YtjmempcalaliiaaGreatDoor
namespace Go.Proofs.YtjmempcalaliiaaGreatDoor
open Go Go.PM Go.Grid
attribute [local congr] Zu Zv Zw Yd Zx Zy Ye Yf Yg Yh Zz Z0 Yi Yt Yu Yv Yw Yx Yz Y1 Y2 Y4 Yy Z2 Z3 Y5 Z4 Z5 Zj Z6 Z1
def exR {A:Type} (J:A->Prop) (o:Option (Nat×A)):Prop:= ∃y,o=some (0,y)/\J y
theorem Zag {A B:Type} {body:A->Option (Nat×A)} {fu:Nat} {x:A} {K:Nat×A->Option B} (R:Option B->Prop) (J:Nat->A->Prop) (k:Nat) (hx:J 0 x)
  (h: ∀j y,j<k->J j y->exR (J (j+1)) (body y)) (he: ∀y,J k y->body y=some (1,y)) (hf:k<fu) (h0: ∀z,J k z->R (K (0,z))):R ((iter body fu x).bind K):=by
 obtain⟨e,z,hi,hq⟩:=Zeg (body:=body) (λj y=>J j y) (λe z=>e=0/\J k z) k 0 fu x hx (λj y _ hj hJ=>by
  obtain⟨y',h1,h2⟩:=h j y (by omega) hJ;exact⟨y', .inl ⟨h1,h2⟩⟩) (λy hJ=>by
  rw[Zs4]at hJ;exact⟨0,y,he y hJ,rfl,hJ⟩) hf
 obtain⟨rfl,hJ⟩:=hq;rw[hi];exact h0 z hJ
def jS (bs:List Int) (j:Nat) (y:Bool×Int×(C×Int×Unit)×Unit):Prop:= ∃i:Nat,i<=1000/\y=(false,(j:Int),(C.sl bs.length (ik .u8 bs),(i:Int),()),())
def jM (bs:List Int) (a b c:Int) (j:Nat) (y:Bool×Int×(Int×Int×Int×Unit)×(C×Int×Unit)×Unit):Prop:= ∃i:Nat,i<=1000/\y=(false,(j:Int),(a,b,c,()),(C.sl bs.length (ik .u8 bs),(i:Int),()),())
end Go.Proofs.YtjmempcalaliiaaGreatDoor
namespace Go.Proofs.YtjmempcalaliiaaGreatDoor
open Go Go.PM Go.Grid
attribute [local congr] Zu Zv Zw Yd Zx Zy Ye Yf Yg Yh Zz Z0 Yi Yt Yu Yv Yw Yx Yz Y1 Y2 Y4 Yy Z2 Z3 Y5 Z4 Z5 Zj Z6 Z1
section
variable (fu d:Nat) (hfu:18446744073709551616<=fu)
include hfu
set_option maxHeartbeats 16000000 in
theorem Zhu (n:Nat) (hn:n=1\/n=2) (a b c:Nat) (ha:1<=a/\a<=4) (hb:1<=b/\b<=4) (hc:1<=c/\c<=4) (br hd hf:List Int) (l1:br.length=(edg n).length) (l2:hd.length=(Zg n).length) (l3:hf.length=(edg n).length) (w1:wid (-1) 1 br) (M:Int) (hM:0<=M/\M<=1099511627776) (w2:wid (-M) M hd) (w3:wid (-M) M hf):
  cl fu (d+12) fn_synopticref31_Apply [V.agg [C.v (.int .i64 (a:Int)),C.v (.int .i64 (b:Int)),C.v (.int .i64 (c:Int))],I n,V.c (C.sl br.length (ints br)),V.agg [C.sl hd.length (ints hd),C.sl hf.length (ints hf)]] []=OK (V.tup [V.agg [C.sl hd.length (ints (tDL a b c (Xc (Zg n).length (edg n)) br hd hf (edg n))),C.sl (edg n).length (ints (tFL a b c hd hf (edg n) (edg n).length))],I 0]):=by
 have h:=R2 hn;have hNl:=Y7 h;have heL:=Uu h;have e1:=M3 fu (d+9) hfu a b c ha hb hc;unfold scC at e1;have e2:=(Pf fu (d+1) hfu (n:Int) br (X3 hd) (X3 hf) (by omega) (by omega) (by omega)).1 ⟨n,rfl,h,l2,l3,l1,w1,Sf w2 (by omega) (by omega),Sf w3 (by omega) (by omega)⟩;have e3:=Aj fu (d+1) hfu n h;have e4:=Qk fu (d+2) hfu n h;have hin:=Gb h;have h1:=Et w2 hM.1;have h2:=Et w3 hM.1;have hway:=λj k=>Zo0 (br:=br) ha.2 hb.2 hc.2 hn hM.1 l2 h1 h2 j k;have hAb:=λ{j:Nat} (hj:j<(edg n).length)=>Zhq (br:=br) ha.2 hb.2 hc.2 hn hM.1 h1 h2 hj;have hFb:=λj=>Zoy ha.2 hb.2 hc.2 (E:=edg n) hM.1 h1 h2 j;have hd56:=λ{k:Nat} (hk:k<(Zg n).length)=>M2 hn hk;have hs1:=Bm ha.2 hb.2 hc.2;have hs2:=Zcl a b c;have hs3:=Zhp a b c;have hAL:=λ{j:Nat} (hj:j<(edg n).length)=>Zoz a b c (Xc (Zg n).length (edg n)) br hd hf (edg n) hj;have hAl:=Kw a b c (Xc (Zg n).length (edg n)) br hd hf (edg n) (edg n).length;have hdl:=Si (Zg n).length (edg n);have hdiv:=λ{v:Int} (hv:v=5\/v=6)=>Zcp a b c hv;have fA:=Zro a b c;have fB:=Zrp a b c;have fC:=λj=>Zrq a b c hd hf (edg n) j;have ma:min a (Zx9 .i64)=a:=by show min a 64=a;omega
 have mb:min b (Zx9 .i64)=b:=by show min b 64=b;omega
 have mc:min c (Zx9 .i64)=c:=by show min c 64=c;omega
 have ua:Zx7.wrap (a:Int)=(a:Int):=IntWalk.u64_in _ ⟨by omega,by omega⟩;have ub:Zx7.wrap (b:Int)=(b:Int):=IntWalk.u64_in _ ⟨by omega,by omega⟩;have uc:Zx7.wrap (c:Int)=(c:Int):=IntWalk.u64_in _ ⟨by omega,by omega⟩;have hFl:=λk=>Kv a b c hd hf (edg n) k;have hFs:=λk=>Zfc a b c hd hf (edg n) k;have hDl:(tDL a b c (Xc (Zg n).length (edg n)) br hd hf (edg n)).length=hd.length:=Kx ..;have hDD:tDL a b c (Xc (Zg n).length (edg n)) br hd hf (edg n)=Vz (hd.map λx=>(sc a b c:Int)*x) ((edg n).zip (tAL a b c (Xc (Zg n).length (edg n)) br hd hf (edg n) (edg n).length)):=rfl;have htF: ∀j,tF a b c hd hf (edg n) j=((sc a b c:Int)-scA a b c)*at0 hf j+(scB a b c:Int)*(at0 hd ((edg n).getD j (0,0)).1.toNat-at0 hd ((edg n).getD j (0,0)).2.toNat):=λj=>rfl;have htA: ∀j,tAm a b c (Xc (Zg n).length (edg n)) br hd hf (edg n) j=if at0 br j=1 then Zx8 (sc a b c) (at0 (Xc (Zg n).length (edg n)) ((edg n).getD j (0,0)).1.toNat)*at0 hd ((edg n).getD j (0,0)).1.toNat else if at0 br j= -1 then -(Zx8 (sc a b c) (at0 (Xc (Zg n).length (edg n)) ((edg n).getD j (0,0)).2.toNat)*at0 hd ((edg n).getD j (0,0)).2.toNat)else tG a b hd hf (edg n) j:=λj=>rfl
 rw[hDD];rw[hDD]at hDl;clear hDD;generalize tAL a b c (Xc (Zg n).length (edg n)) br hd hf (edg n) (edg n).length=AL at*
 generalize hdg:Xc (Zg n).length (edg n)=dg at*
 generalize hE:edg n=E at*
 generalize (Zg n).length=N at*
 have hML:=λP=>Sg P (hd.map λx=>(sc a b c:Int)*x);rw[eq_synopticref31_Apply];simp(disch:=omega)only[Za,QM,QD,e1,e2,e3,e4];rw[Zk (λj:Nat=>(((j:Nat):Int),(C.nl,C.nl,()),(ints ((hd.take j).map λx=>(sc a b c:Int)*x),[],()),())) 0 (((hd.length:Nat):Int),(C.nl,C.nl,()),(ints (hd.map λx=>(sc a b c:Int)*x),[],()),()) hd.length ?_ ?_ ?_ (by omega)]
 rotate_left
 ·rfl
 ·intro j hj;have i1:=Zm hd hj;have b1:=Ui (p:=(sc a b c:Int)) (P:=7680) (by omega) (h1 j) hM.1;have hsn:ints ((hd.take j).map λx=>(sc a b c:Int)*x)++[C.v (.int .i64 ((sc a b c:Int)*at0 hd j))]=ints ((hd.take (j+1)).map λx=>(sc a b c:Int)*x):=by
   rw[Ztw hj,Zu1,Ud,Q8 hj];rfl
  generalize hz:(sc a b c:Int)*at0 hd j=z at*
  have hlt:((hd.take j).map λx=>(sc a b c:Int)*x).length=j:=by rw[Zti,Zty];omega
  have hlt1:((hd.take (j+1)).map λx=>(sc a b c:Int)*x).length=j+1:=by rw[Zti,Zty];omega
  simp(disch:=omega)only[Za,QM,QD,Zs2,Zta,i1];rw[hz];simp(disch:=omega)only[Za,QM,QD,Ze,hlt,hlt1,Zto,Zta,hsn,Ztb,Zs3,Zs9,Zs4];rfl
 ·rw[Zud];simp(disch:=omega)only[Za,QM,QD,Ze,Zti,Zto,Zta,Zs9]
 have hl0:(hd.map λx=>(sc a b c:Int)*x).length=hd.length:=Zti ..;simp(disch:=omega)only[Za,QM,QD,Ze,hl0,Zto,Zta,Zs9];rw[Zk (λj:Nat=>(((j:Nat):Int),(C.nl,C.nl,()),(ints (Vz (hd.map λx=>(sc a b c:Int)*x) ((E.zip AL).take j)),ints (tFL a b c hd hf E j),()),())) 0 (((E.length:Nat):Int),(C.nl,C.nl,()),(ints (Vz (hd.map λx=>(sc a b c:Int)*x) (E.zip AL)),ints (tFL a b c hd hf E E.length),()),()) E.length ?_ ?_ ?_ (by omega)]
 ·have htk1:Zx6 hd.length (ints (Vz (hd.map λx=>(sc a b c:Int)*x) (E.zip AL)))=ints (Vz (hd.map λx=>(sc a b c:Int)*x) (E.zip AL)):=Ztc (by rw[Ze,hDl];exact Ztf _);have htk2:Zx6 E.length (ints (tFL a b c hd hf E E.length))=ints (tFL a b c hd hf E E.length):=Ztc (by rw[Ze,hFl];exact Ztf _);simp(disch:=omega)only[Za,QM,QD,Ze,hDl,hFl,Zto,Zta,Zs4,htk1,htk2]
 ·rfl
 ·intro j hj;have hz:j<(E.zip AL).length:=by rw[Zw1];omega
  have hin:=hin E[j] (Zt6 hj);have hjf:j<hf.length:=by omega
  have hjb:j<br.length:=by omega
  have i3:=Zm hf hjf;have i4:=Zm br hjb;have bj:=Q9 w1 (by omega) j;have hst:Vz (hd.map λx=>(sc a b c:Int)*x) ((E.zip AL).take (j+1))=mv1 (Vz (hd.map λx=>(sc a b c:Int)*x) ((E.zip AL).take j)) E[j] (-(AL[j]'(by omega))) (AL[j]'(by omega)):=by rw[Ztw hz,W9,Zxo]
  have hALj:=hAL hj;rw[Q8 (by omega:j<AL.length)]at hALj;rw[hALj]at hst;have hAb:=hAb hj;have hFb:=hFb j;have htF:=htF j;have htA:=htA j;have hFs:=hFs j;have hFlj:=hFl j;have fC:=fC j;rw[Bh E hj]at htF htA;have hway:=hway j;have hD:=hML ((E.zip AL).take j);rw[hst,hFs];generalize tFL a b c hd hf E j=FL at*
  generalize Vz (hd.map λx=>(sc a b c:Int)*x) ((E.zip AL).take j)=D at*
  generalize hee:E[j]=e at*
  obtain⟨ea,eb⟩:=e;simp only at hin htF htA;obtain⟨x,rfl⟩: ∃x:Nat,ea=x:=⟨ea.toNat,by omega⟩;obtain⟨y,rfl⟩: ∃y:Nat,eb=y:=⟨eb.toNat,by omega⟩;rw[Zs2,Zs2]at htF htA;obtain⟨hea,heb⟩:=Zo2 E hj hee;have i5:=Zm hd (i:=x) (by omega);have i6:=Zm hd (i:=y) (by omega);have i7:=Zm dg (i:=x) (by omega);have i8:=Zm dg (i:=y) (by omega);have bx:=h1 x;have by':=h1 y;have bf:=h2 j;have dx:=hd56 (k:=x) (by omega);have dy:=hd56 (k:=y) (by omega);have qx:=hdiv dx;have qy:=hdiv dy;have p1:=Ui (p:=(sc a b c:Int)-scA a b c) (P:=7680) (by omega) bf hM.1;have p2:=Ui (p:=(scB a b c:Int)) (P:=7680) (x:=at0 hd x-at0 hd y) (m:=2*M) (by omega) (by omega) (by omega);have p3:=Ui (P:=7680) ⟨qx.2.1,by omega⟩ bx hM.1;have p4:=Ui (P:=7680) ⟨qy.2.1,by omega⟩ by' hM.1;have d1:=Zm D (i:=x) (by omega);have hm:mv1 D ((x:Int),(y:Int)) (-(tAm a b c dg br hd hf E j)) (tAm a b c dg br hd hf E j)=Uh (Uh D x (-(tAm a b c dg br hd hf E j))) y (tAm a b c dg br hd hf E j):=by unfold mv1;rw[Zs2,Zs2]
  rw[hm];generalize tAm a b c dg br hd hf E j=A at*
  generalize tF a b c hd hf E j=F at*
  generalize tG a b hd hf E j=G at*
  have b1:=hway x;have b2:=hway y;have pb1:=Vx D (i:=x) (by omega) (-A);have hB:=Xk D x (-A);have hBa:=P0 D x (-A) y;have b3: -(145920*M)-23040*M<=at0 (Uh D x (-A)) y/\at0 (Uh D x (-A)) y<=145920*M+23040*M:=by
   split at hBa<;>omega
  generalize Uh D x (-A)=D1 at*
  have d2:=Zm D1 (i:=y) (by omega);have pb2:=Vx D1 (i:=y) (by omega) A;have hB2:=Xk D1 y A;generalize Uh D1 y A=D2 at*
  have e0:at0 D x-A=at0 D x+ -A:=by omega
  have s1:=Ui (p:=(sc a b c:Int)) (P:=7680) (by omega) bf hM.1;have s2:=Ui (p:=(scA a b c:Int)) (P:=7680) (by omega) bf hM.1;have hS:(sc a b c:Int)*at0 hf j-(scA a b c:Int)*at0 hf j=((sc a b c:Int)-scA a b c)*at0 hf j:=(Int.sub_mul ..).symm;generalize hP1:((sc a b c:Int)-scA a b c)*at0 hf j=P1 at*
  generalize hS1:(sc a b c:Int)*at0 hf j=S1 at*
  generalize hS2:(scA a b c:Int)*at0 hf j=S2 at*
  generalize hP2:(scB a b c:Int)*(at0 hd x-at0 hd y)=P2 at*
  generalize hQx:Zx8 (sc a b c:Int) (at0 dg x)*at0 hd x=Qx at*
  generalize hQy:Zx8 (sc a b c:Int) (at0 dg y)*at0 hd y=Qy at*
  rcases(show at0 br j=1\/at0 br j= -1\/at0 br j=0 by omega)with q|q|q
  ·rw[q]at htA i4;rw[if_pos rfl]at htA;subst htA;simp(disch:=omega)only[Za,QM,QD,Zs2,Zta,Zto,Zs4,hea,heb,i3,i5,i6,ua,ub,uc,fA,fB,ma,mb,mc,hS1,hS2,hS,hP2,<-htF,i4,i7,i8,hQx,hQy,fC,Ze,hD,hl0,hFlj,d1,e0,pb1,hB,d2,pb2,hB2,Ud,Ztb,Zs3,Zs9];rfl
  ·rw[q]at htA i4;rw[if_neg (by decide),if_pos rfl]at htA;have n0:0-Qy=A:=by omega
   simp(disch:=omega)only[Za,QM,QD,Zs2,Zta,Zto,Zs4,hea,heb,i3,i5,i6,ua,ub,uc,fA,fB,ma,mb,mc,hS1,hS2,hS,hP2,<-htF,i4,i7,i8,hQx,hQy,fC,Ze,hD,hl0,hFlj,d1,e0,pb1,hB,d2,pb2,hB2,Ud,Ztb,Zs3,Zs9,n0];rfl
  ·rw[q]at htA i4;rw[if_neg (by decide),if_neg (by decide)]at htA;subst htA;simp(disch:=omega)only[Za,QM,QD,Zs2,Zta,Zto,Zs4,hea,heb,i3,i5,i6,ua,ub,uc,fA,fB,ma,mb,mc,hS1,hS2,hS,hP2,<-htF,i4,i7,i8,hQx,hQy,fC,Ze,hD,hl0,hFlj,d1,e0,pb1,hB,d2,pb2,hB2,Ud,Ztb,Zs3,Zs9];rfl
 ·rw[Ztc (l:=E.zip AL) (by rw[Zw1];omega)];simp(disch:=omega)only[Za,QM,QD,Ze,hDl,hFl,Zto,Zta]
end
end Go.Proofs.YtjmempcalaliiaaGreatDoor
namespace Go.Proofs.YtjmempcalaliiaaGreatDoor
open Go Go.PM Go.Grid
attribute [local congr] Zu Zv Zw Yd Zx Zy Ye Yf Yg Yh Zz Z0 Yi Yt Yu Yv Yw Yx Yz Y1 Y2 Y4 Yy Z2 Z3 Y5 Z4 Z5 Zj Z6 Z1
def Ak (a b:List Int):Int:=((Zyf a.length).map λk=>at0 a k*at0 b k).sum
theorem Bo {f g:Nat->Int} (n:Nat) (h: ∀j,j<n->f j=g j):((Zyf n).map f).sum=((Zyf n).map g).sum:=
 congrArg List.sum (Zvk λj hj=>h j (Zut.1 hj))
theorem Bp: ∀n:Nat,((Zyf n).map λ_=>(0:Int)).sum=0
 |0=>rfl
 |n+1=>by simp only[Zu5,Zu1,Zxv,Bp n,Zua,Zv9,Zwv,List.sum_nil];rfl
theorem Hf (f:Nat->Int) (n:Nat):((Zyf (n+1)).map f).sum=((Zyf n).map f).sum+f n:=by
 simp only[Zu5,Zu1,Zxv,Zua,Zv9,Zwv,List.sum_nil,Zwj]
theorem Bq (f:Nat->Int) (x:Nat): ∀n,x<n->((Zyf n).map λk=>if k=x then f k else 0).sum=f x
 |0,h=>by omega
 |n+1,h=>by
  rw[Hf];by_cases e:n=x
  ·subst e;rw[if_pos rfl,Bo n (g:=λ_=>0) (λj hj=>if_neg (by omega)),Bp,Zwb]
  ·rw[if_neg e,Bq f x n (by omega),Zwj]
theorem parts (N:Nat) (x y:Nat->Nat) (al be w:Nat->Int): ∀M,(∀j,j<M->x j<N/\y j<N)->
  ((Zyf N).map λk=>w k*((Zyf M).map λj=>(if k=x j then al j else 0)+(if k=y j then be j else 0)).sum).sum=((Zyf M).map λj=>w (x j)*al j+w (y j)*be j).sum
 |0,_=>by
  show((Zyf N).map λk=>w k*0).sum=0;rw[Bo N (g:=λ_=>0) (λj _=>Zvz _),Bp]
 |M+1,h=>by
  have h1:=parts N x y al be w M λj hj=>h j (by omega);have hM:=h M (by omega);rw[Hf (λj=>w (x j)*al j+w (y j)*be j),<-h1];have e: ∀k,w k*((Zyf (M+1)).map λj=>(if k=x j then al j else 0)+(if k=y j then be j else 0)).sum=w k*((Zyf M).map λj=>(if k=x j then al j else 0)+(if k=y j then be j else 0)).sum+((if k=x M then w k*al M else 0)+(if k=y M then w k*be M else 0)):=by
   intro k;rw[Hf (λj=>(if k=x j then al j else 0)+(if k=y j then be j else 0)),Zx1,Zx1]
   congr 1
   congr 1
   ·split
    ·rfl
    ·exact Zvz _
   ·split
    ·rfl
    ·exact Zvz _
  rw[Bo N (λk _=>e k),Zcm,Zcm,Bq (λk=>w k*al M) (x M) N hM.1,Bq (λk=>w k*be M) (y M) N hM.2]
theorem wA (x y:Int):Zx2.wrap (Zx2.wrap x+y)=Zx2.wrap (x+y):=by simp only[Zzj];omega
theorem wB (x y:Int):Zx2.wrap (x+Zx2.wrap y)=Zx2.wrap (x+y):=by simp only[Zzj];omega
def zE (a b c:Nat) (br gd gf:List Int) (E:List (Int×Int)) (j:Nat):Int:=(scB a b c:Int)*at0 gf j+if at0 br j=0 then(tr a b:Int)*(at0 gd (E.getD j (0,0)).2.toNat-at0 gd (E.getD j (0,0)).1.toNat)else 0
end Go.Proofs.YtjmempcalaliiaaGreatDoor
namespace Go.Proofs.YtjmempcalaliiaaGreatDoor
open Go Go.PM Go.Grid
attribute [local congr] Zu Zv Zw Yd Zx Zy Ye Yf Yg Yh Zz Z0 Yi Yt Yu Yv Yw Yx Yz Y1 Y2 Y4 Yy Z2 Z3 Y5 Z4 Z5 Zj Z6 Z1
section
variable (a b c:Nat) (ha:a<=4) (hb:b<=4) (hc:c<=4)
include ha hb hc
end
end Go.Proofs.YtjmempcalaliiaaGreatDoor
namespace Go.Proofs.YtjmempcalaliiaaGreatDoor
open Go Go.PM Go.Grid
theorem Zqx (x:Nat):Zx7.wrap (BitVec.ofInt (Zx9 .u64) (x:Int)&&&BitVec.ofInt (Zx9 .u64) 4294967295).toNat=((x%4294967296:Nat):Int):=by
 have h:=Znn (kd:= .u64) (by decide) x 32 (by decide);simp only[Nat.reducePow,Nat.reduceSub]at h;rw[show(4294967295:Int)=((4294967295:Nat):Int) from rfl,h];exact IntWalk.u64_in _ ⟨by omega,by omega⟩
theorem shr32 (x:Nat):Int.fdiv (x:Int) (2^32)=((x/4294967296:Nat):Int):=Zno x 32
theorem Vm (x:Int):Zx7.wrap x=x%18446744073709551616:=by simp[IntKind.wrap,Zx9,IntKind.signed]
theorem Zo4 (x:Nat):Zx7.wrap (x:Int)=((x%18446744073709551616:Nat):Int):=by rw[Vm];omega
theorem Zsu (x y:Nat):Zx7.wrap ((x:Int)*(y:Int))=((x*y%18446744073709551616:Nat):Int):=by rw[<-Zu4,Zo4]
theorem Zsv (x y:Nat):Zx7.wrap ((x:Int)+(y:Int))=(((x+y)%18446744073709551616:Nat):Int):=by rw[<-Zt0,Zo4]
theorem Hg {a b:Nat} (ha:a<4294967296) (hb:b<4294967296):a*b<=4294967295*4294967295:=Nat.mul_le_mul (by omega) (by omega)
theorem Zff (fu d:Nat) (a b:Nat) (ha:a<18446744073709551616) (hb:b<18446744073709551616):
  cl fu (d+1) fn_bits_Mul64 [V.c (C.v (.int .u64 a)),V.c (C.v (.int .u64 b))] []=OK (V.tup [V.c (C.v (.int .u64 ((a*b/18446744073709551616:Nat):Int))),V.c (C.v (.int .u64 ((a*b%18446744073709551616:Nat):Int)))]):=by
 rw[eq_bits_Mul64];simp only[Zrg,Zqx,shr32,Zsu,Zsv,Zzk.injEq,Out.mk.injEq,and_true,V.tup.injEq,Zzl.injEq,V.c.injEq,C.v.injEq,Value.int.injEq,true_and,Int.ofNat_inj];generalize hx0:a%4294967296=x0;generalize hx1:a/4294967296=x1;generalize hy0:b%4294967296=y0;generalize hy1:b/4294967296=y1;have h00:=Hg (a:=x0) (b:=y0) (by omega) (by omega);have h10:=Hg (a:=x1) (b:=y0) (by omega) (by omega);have h01:=Hg (a:=x0) (b:=y1) (by omega) (by omega);have h11:=Hg (a:=x1) (b:=y1) (by omega) (by omega);have hab:a*b=x1*y1*18446744073709551616+(x1*y0+x0*y1)*4294967296+x0*y0:=by
  have e1:a=x1*4294967296+x0:=by omega
  have e2:b=y1*4294967296+y0:=by omega
  rw[e1,e2];simp only[Nat.add_mul,Nat.mul_add];have e3:x1*4294967296*(y1*4294967296)=x1*y1*18446744073709551616:=by rw[Nat.mul_mul_mul_comm]
  have e4:x1*4294967296*y0=x1*y0*4294967296:=by rw[Nat.mul_right_comm]
  have e5:x0*(y1*4294967296)=x0*y1*4294967296:=by rw[Nat.mul_assoc]
  rw[e3,e4,e5];omega
 rw[hab];generalize x0*y0=p at*
 generalize x1*y0=q at*
 generalize x0*y1=r at*
 generalize x1*y1=s at*
 omega
theorem rCl_0 {R:Type} (f:FuncId) (k:Option R):rCl (V.clo f 1000000) f 0 k=k:=by
 show need (Zx3 f f&&Zx3 1000000 (OUT+0)) k=k;rw[Zun];rfl
attribute [local congr] Zu Zv Zw Yd Zx Zy Ye Yf Yg Yh Zz Z0 Yi Yt Yu Yv Yw Yx Yz Y1 Y2 Y4 Yy Z2 Z3 Y5 Z4 Z5 Zj Z6 Z1
def hiW (z:Int):Int:=Zx2.wrap (z/18446744073709551616)
def loW (z:Int):Int:=z%18446744073709551616
abbrev wdC (z:Int):List C:=[C.v (.int .i64 (hiW z)),C.v (.int .u64 (loW z))]
theorem Zcq (z:Int):0<=loW z:=Int.emod_nonneg _ (by decide)
section
variable (fu d:Nat) (hfu:18446744073709551616<=fu)
theorem Zhv (a b:Int) (ha: -9223372036854775808<=a/\a<=9223372036854775807) (hb: -9223372036854775808<=b/\b<=9223372036854775807):cl fu (d+2) fn_precision_Product [I a,I b] []=OK (V.agg (wdC (a*b))):=by
 obtain⟨p,hp⟩: ∃p:Nat,(p:Int)=a%18446744073709551616:=⟨(a%18446744073709551616).toNat,by omega⟩;obtain⟨q,hq⟩: ∃q:Nat,(q:Int)=b%18446744073709551616:=⟨(b%18446744073709551616).toNat,by omega⟩;have e1:=Zff fu d p q (by omega) (by omega);rw[eq_precision_Product];simp only[Vm,<-hp,<-hq];have hP:((p*q:Nat):Int)=(p:Int)*(q:Int):=Zu4 ..;by_cases ka:a<0
 ·have xa:a=(p:Int)-18446744073709551616:=by omega
  by_cases kb:b<0
  ·have xb:b=(q:Int)-18446744073709551616:=by omega
   have hz:a*b=((p*q:Nat):Int)-18446744073709551616*p-18446744073709551616*q+340282366920938463463374607431768211456:=by rw[xa,xb,hP];grind
   simp(disch:=omega)only[Za,QM,QD,e1];unfold wdC hiW loW;rw[hz];generalize p*q=s;simp only[Zzj,Vm,Zzk.injEq,Out.mk.injEq,and_true,V.agg.injEq,Zzl.injEq,C.v.injEq,Value.int.injEq,true_and];omega
  ·have xb:b=(q:Int):=by omega
   have hz:a*b=((p*q:Nat):Int)-18446744073709551616*q:=by rw[xa,xb,hP];grind
   simp(disch:=omega)only[Za,QM,QD,e1];unfold wdC hiW loW;rw[hz];generalize p*q=s;simp only[Zzj,Vm,Zzk.injEq,Out.mk.injEq,and_true,V.agg.injEq,Zzl.injEq,C.v.injEq,Value.int.injEq,true_and];omega
 ·have xa:a=(p:Int):=by omega
  by_cases kb:b<0
  ·have xb:b=(q:Int)-18446744073709551616:=by omega
   have hz:a*b=((p*q:Nat):Int)-18446744073709551616*p:=by rw[xa,xb,hP];grind
   simp(disch:=omega)only[Za,QM,QD,e1];unfold wdC hiW loW;rw[hz];generalize p*q=s;simp only[Zzj,Vm,Zzk.injEq,Out.mk.injEq,and_true,V.agg.injEq,Zzl.injEq,C.v.injEq,Value.int.injEq,true_and];omega
  ·have xb:b=(q:Int):=by omega
   have hz:a*b=((p*q:Nat):Int):=by rw[xa,xb,hP]
   simp(disch:=omega)only[Za,QM,QD,e1];unfold wdC hiW loW;rw[hz];generalize p*q=s;simp only[Zzj,Vm,Zzk.injEq,Out.mk.injEq,and_true,V.agg.injEq,Zzl.injEq,C.v.injEq,Value.int.injEq,true_and];omega
theorem Zi3 (x y:Int):cl fu (d+1) fn_precision_Add [V.agg (wdC x),V.agg (wdC y)] []=OK (V.agg (wdC (x+y))):=by
 have h1:=Zcq x;have h2:=Zcq y;rw[eq_precision_Add,decide_eq_true h1,decide_eq_true h2];show OK (V.agg [_,_])=_;unfold wdC hiW loW;simp only[Zzj,Zzk.injEq,Out.mk.injEq,and_true,V.agg.injEq,Zzl.injEq,C.v.injEq,Value.int.injEq,true_and];omega
theorem Zo5:cl fu (d+1) fn_precision_total [] []=some ⟨V.clo fn_precision_total_1 1000000,[.ob ty_api_Wide 0 (wdC 0)],none⟩:=by
 rw[eq_precision_total];rfl
theorem Br (a b z:Int) (ha: -9223372036854775808<=a/\a<=9223372036854775807) (hb: -9223372036854775808<=b/\b<=9223372036854775807):
  cl fu (d+3) fn_precision_total_1 [I a,I b,V.ptr 1000000 0] [.ob ty_api_Wide 0 (wdC z)]=some ⟨V.agg (wdC (z+a*b)),[.ob ty_api_Wide 0 (wdC (z+a*b))],none⟩:=by
 have e1:=Zhv fu d a b ha hb;have e2:=Zi3 fu (d+1) z (a*b);unfold wdC at*
 rw[eq_precision_total_1];simp(disch:=omega)only[Za,QM,QD,e1,e2,Zs3,Zs9,Zs4,Nat.reduceAdd]
def P5 (a b:List Int) (j:Nat):Int:=((Zyf j).map λk=>at0 a k*at0 b k).sum
theorem Zah (a b:List Int) (j:Nat):P5 a b (j+1)=P5 a b j+at0 a j*at0 b j:=Hf _ _
include hfu
set_option maxHeartbeats 1000000 in
theorem Zi4 (a b:List Int) (hl:a.length=b.length) (l1:a.length<=1000000) (wa:wid (-9223372036854775808) 9223372036854775807 a) (wb:wid (-9223372036854775808) 9223372036854775807 b):
  cl fu (d+4) fn_precision_Dot [V.c (C.sl a.length (ints a)),V.c (C.sl b.length (ints b))] []=OK (V.tup [V.agg (wdC (Ak a b)),I 0]):=by
 have e0:cl fu (d+3) fn_precision_total [] []=some ⟨V.clo fn_precision_total_1 1000000,[.ob ty_api_Wide 0 (wdC (P5 a b 0))],none⟩:=Zo5 fu (d+2);have e1:=Br fu d 0 0 (P5 a b 0) (by omega) (by omega);rw[Zvz,Zwj]at e1;have et:=λx y z hx hy=>Br fu d x y z hx hy;have hd:Ak a b=P5 a b a.length:=rfl;rw[hd];unfold wdC at*
 rw[eq_precision_Dot];simp(disch:=omega)only[Za,QM,QD,e0,rCl_0,e1,Zkz,Zs3,Zs9,Zs4,Nat.reduceAdd];rw[Zk (λj:Nat=>(((j:Nat):Int),((0:Int),(0:Int),()),(hiW (P5 a b j),loW (P5 a b j),()),(hiW (P5 a b j),loW (P5 a b j),()),())) 0 (((a.length:Nat):Int),((0:Int),(0:Int),()),(hiW (P5 a b a.length),loW (P5 a b a.length),()),(hiW (P5 a b a.length),loW (P5 a b a.length),()),()) a.length ?_ ?_ ?_ (by omega)]
 ·simp(disch:=omega)only[Za,QM,QD]
 ·rfl
 ·intro j hj;have i1:=Zm a hj;have i2:=Zm b (i:=j) (by omega);have b1:=Q9 wa (by omega) j;have b2:=Q9 wb (by omega) j;have e2:=et (at0 a j) (at0 b j) (P5 a b j) b1 b2;rw[<-Zah]at e2;simp(disch:=omega)only[Za,QM,QD,Zs2,Zta,i1,i2,e2,Zs3,Zs9,Zs4,Nat.reduceAdd];rfl
 ·simp(disch:=omega)only[Za,QM,QD]
end
end Go.Proofs.YtjmempcalaliiaaGreatDoor
namespace Go.Proofs.YtjmempcalaliiaaGreatDoor
open Go Go.PM Go.Grid
attribute [local congr] Zu Zv Zw Yd Zx Zy Ye Yf Yg Yh Zz Z0 Yi Yt Yu Yv Yw Yx Yz Y1 Y2 Y4 Yy Z2 Z3 Y5 Z4 Z5 Zj Z6 Z1
section
variable (fu d:Nat) (hfu:18446744073709551616<=fu)
include hfu
end
end Go.Proofs.YtjmempcalaliiaaGreatDoor
namespace Go.Proofs.YtjmempcalaliiaaGreatDoor
open Go Go.PM Go.Grid
attribute [local congr] Zu Zv Zw Yd Zx Zy Ye Yf Yg Yh Zz Z0 Yi Yt Yu Yv Yw Yx Yz Y1 Y2 Y4 Yy Z2 Z3 Y5 Z4 Z5 Zj Z6 Z1
def okCh (s:List Int×List Int):Bool:= !Yk (-1099511627776) 1099511627776 s.1&& !Yk (-1099511627776) 1099511627776 s.2
theorem Zsw {s:List Int×List Int} (h:okCh s=true):wid (-1099511627776) 1099511627776 s.1/\wid (-1099511627776) 1099511627776 s.2:=by
 unfold okCh at h;rw[Zs1,Ztv,Ztv]at h;exact⟨Z7.1 h.1,Z7.1 h.2⟩
def Al (n a b c:Nat) (h:List Int×List Int) (br:List Int):List Int×List Int:=(tDL a b c (Xc (Zg n).length (edg n)) br h.1 h.2 (edg n),tFL a b c h.1 h.2 (edg n) (edg n).length)
def lenC (n:Nat) (s:List Int×List Int):Prop:=s.1.length=(Zg n).length/\s.2.length=(edg n).length
theorem Zfg {n a b c:Nat} {s:List Int×List Int} (h:lenC n s) (br:List Int):lenC n (Al n a b c s br):=⟨(Kx ..).trans h.1,Kv ..⟩
def cO (o:Option (List Int×List Int)):Option Out:=match o with
 |some s=>OK (V.tup [V.agg [C.sl s.1.length (ints s.1),C.sl s.2.length (ints s.2)],I 0])
 |none=>OK (V.tup [V.agg [C.nl,C.nl],I 1])
section
variable (fu d:Nat) (hfu:18446744073709551616<=fu)
include hfu
end
end Go.Proofs.YtjmempcalaliiaaGreatDoor
namespace Go.Proofs.YtjmempcalaliiaaGreatDoor
open Go Go.PM Go.Grid
theorem map_drop {brs:List (List Int)} {j:Nat} (h:j<brs.length):Zx5 j (brs.map bA)=C.sl brs[j].length (ints brs[j])::Zx5 (j+1) (brs.map bA):=by
 rw[Ztz (by rw[Zti];exact h),Zvn];rfl
attribute [local congr] Zu Zv Zw Yd Zx Zy Ye Yf Yg Yh Zz Z0 Yi Yt Yu Yv Yw Yx Yz Y1 Y2 Y4 Yy Z2 Z3 Y5 Z4 Z5 Zj Z6 Z1
section
variable (fu d:Nat) (hfu:18446744073709551616<=fu)
include hfu
end
end Go.Proofs.YtjmempcalaliiaaGreatDoor
namespace Go.Proofs.YtjmempcalaliiaaGreatDoor
open Go Go.PM Go.Grid
def okTC (n:Nat) (br:List Int) (s:List Int×List Int):Bool:=decide (s.1.length=(Zg n).length)&&(decide (s.2.length=(edg n).length)&&(decide (br.length=(edg n).length)&&(!Yk (-1) 1 br&&okCh s)))
theorem Zcr {n:Nat} (hf:Yb n) {br:List Int} {s:List Int×List Int}:okTC n br s=true↔Zhs (n:Int) br s.1 s.2:=by
 unfold okTC;rw[Zs1,Zs1,Zs1,Zs1,decide_eq_true_iff,decide_eq_true_iff,decide_eq_true_iff,Ztv];constructor
 ·rintro ⟨h1,h2,h3,h4,h5⟩
  obtain⟨w1,w2⟩:=Zsw h5;exact⟨n,rfl,hf,h1,h2,h3,Z7.1 h4,w1,w2⟩
 ·rintro ⟨m,hm,hf',h1,h2,h3,w1,w2,w3⟩
  obtain rfl:n=m:=by omega
  exact⟨h1,h2,h3,Z7.2 w1,by unfold okCh;rw[Z7.2 w2,Z7.2 w3];rfl⟩
def apG (a b c:Int) (n:Nat) (br:List Int) (s:List Int×List Int):Option (List Int×List Int):=if Yk 1 4 [a,b,c]=false/\okTC n br s=true then some (Al n a.toNat b.toNat c.toNat s br)else none
def tGs (a b c:Int) (n:Nat):List (List Int)->List Int×List Int->Option (List Int×List Int)
 | [],s=>some s
 |br::r,s=>(apG a b c n br s).bind (tGs a b c n r)
theorem Bs (a b c:Int) (n:Nat) (br:List Int) (r:List (List Int)) (s:List Int×List Int):tGs a b c n (br::r) s=(apG a b c n br s).bind (tGs a b c n r):=rfl
def l6 (s:List Int×List Int):Prop:=s.1.length<=1000000/\s.2.length<=1000000
theorem Eu {a b c:Int} {n:Nat} (hf:Yb n) {br:List Int} {s t:List Int×List Int} (h:apG a b c n br s=some t):l6 t:=by
 unfold apG at h;split at h
 ·rename_i q;injection h with h
  obtain⟨m,hm,hf',h1,h2,h3,w1,w2,w3⟩:=(Zcr hf).1 q.2;obtain rfl:n=m:=by omega
  have heL:=Uu hf;have hNl:=Y7 hf;have hl:=Zfg (a:=a.toNat) (b:=b.toNat) (c:=c.toNat) (s:=s) ⟨h1,h2⟩ br;rw[h]at hl;have e1:=hl.1;have e2:=hl.2;exact⟨by omega,by omega⟩
 ·cases h
theorem Zi5 {a b c:Int} {n:Nat} (hf:Yb n): ∀{brs:List (List Int)} {s t:List Int×List Int},l6 s->tGs a b c n brs s=some t->l6 t
 | [],s,t,h,e=>by injection e with e;subst e;exact h
 |br::r,s,t,h,e=>by
  rw[Bs]at e;obtain⟨q,e1,e2⟩:=Ztd.1 e;exact Zi5 hf (Eu hf e1) e2
def cR (o:Option (List Int×List Int)) (x:Option Out):Prop:=match o with
 |some p=> ∃x1 x2:C,isL x1 p.1/\isL x2 p.2/\x=OK (V.tup [V.agg [x1,x2],I 0])
 |none=>x=noC
theorem cR_cO (o:Option (List Int×List Int)):cR o (cO o):=match o with
 |some p=>⟨_,_,X3 p.1,X3 p.2,rfl⟩
 |none=>rfl
theorem Zsx {o:Option (List Int×List Int)} {x y:Option Out} (h: ∀p,o=some p->l6 p) (h1:cR o x) (h2:cR o y):cmP x y:=by
 cases o with
 |none=>exact Zst h1 h2
 |some p=>
  obtain⟨x1,x2,q1,q2,rfl⟩:=h1;obtain⟨y1,y2,q3,q4,rfl⟩:=h2;have:=h p rfl;exact⟨0,p.1,p.2,_,_,_,_,q1,q2,q3,q4,this.1,this.2,rfl,rfl⟩
attribute [local congr] Zu Zv Zw Yd Zx Zy Ye Yf Yg Yh Zz Z0 Yi Yt Yu Yv Yw Yx Yz Y1 Y2 Y4 Yy Z2 Z3 Y5 Z4 Z5 Zj Z6 Z1
section
variable (fu d:Nat) (hfu:18446744073709551616<=fu)
include hfu
theorem Bt (n:Nat) (hn:n=1\/n=2) (a b c:Int) (br:List Int) {c1 c2:C} {s:List Int×List Int} (h1:isL c1 s.1) (h2:isL c2 s.2) (l0:br.length<=1000000) (l1:l6 s):
  cl fu (d+12) fn_tangent_Apply [V.agg (scC a b c),I n,V.c (C.sl br.length (ints br)),V.agg [c1,c2]] []=cO (apG a b c n br s)/\
  cl fu (d+12) fn_synopticref31_Apply [V.agg (scC a b c),I n,V.c (C.sl br.length (ints br)),V.agg [c1,c2]] []=cO (apG a b c n br s):=by
 have hf:=R2 hn;unfold apG;rcases Hd a b c with⟨x,y,z,rfl,rfl,rfl,hx,hy,hz⟩|hbad
 ·rw[Zae hx hy hz];cases ok:okTC n br s with
  |true=>
   obtain⟨m,hm',hm,g1,g2,g3,w1,w2,w3⟩:=(Zcr hf).1 ok;obtain rfl:n=m:=by omega
   have hNl:=Y7 hm;have heL:=Uu hm;have p1:=Ku hm;have p2:=Zci hm;obtain rfl:=Zi2 h1 (by omega);obtain rfl:=Zi2 h2 (by omega);have q1:=Zlk fu d hfu n hn x y z hx hy hz br s.1 s.2 g3 g1 g2 w1 1099511627776 (by omega) w2 w3;have q2:=Zhu fu d hfu n hn x y z hx hy hz br s.1 s.2 g3 g1 g2 w1 1099511627776 (by omega) w2 w3;have q:=Zfg (a:=x) (b:=y) (c:=z) (s:=s) ⟨g1,g2⟩ br;rw[if_pos ⟨rfl,rfl⟩,Zs2,Zs2,Zs2];constructor
   ·rw[q1];show _=OK (V.tup [V.agg [C.sl (Al n x y z s br).1.length (ints (Al n x y z s br).1),C.sl (Al n x y z s br).2.length (ints (Al n x y z s br).2)],I 0]);rw[q.1.trans g1.symm,q.2];rfl
   ·rw[q2];show _=OK (V.tup [V.agg [C.sl (Al n x y z s br).1.length (ints (Al n x y z s br).1),C.sl (Al n x y z s br).2.length (ints (Al n x y z s br).2)],I 0]);rw[q.1.trans g1.symm,q.2];rfl
  |false=>
   rw[if_neg (by simp)];have hch: ¬Zhs (n:Int) br s.1 s.2:=λh=>by
    rw[(Zcr hf).2 h]at ok;cases ok
   have e1:=J9 fu (d+4) hfu x y z hx hy hz;have e2:=(Bn fu (d+1) hfu n br h1 h2 l0 l1.1 l1.2).2 hch;have e3:=M3 fu (d+9) hfu x y z hx hy hz;have e4:=(Pf fu (d+1) hfu n br h1 h2 l0 l1.1 l1.2).2 hch;unfold scC at*
   unfold cO;refine⟨?_, ?_⟩
   ·rw[eq_tangent_Apply];simp(disch:=omega)only[Za,QM,QD,e1,e2]
   ·rw[eq_synopticref31_Apply];simp(disch:=omega)only[Za,QM,QD,e3,e4]
 ·rw[hbad,if_neg (by simp)];have e1:=He fu (d+4) hfu a b c hbad;have e3:=N3 fu (d+9) hfu a b c hbad;unfold scC at*
  unfold cO;refine⟨?_, ?_⟩
  ·rw[eq_tangent_Apply];simp(disch:=omega)only[Za,QM,QD,e1]
  ·rw[eq_synopticref31_Apply];simp(disch:=omega)only[Za,QM,QD,e3]
theorem Zcs (n:Nat) (hn:n=1\/n=2) (a b c:Int) (br:List Int) (l0:br.length<=1000000) (s:List Int×List Int) (hs:l6 s):
  cl fu (d+13) fn_tangent_Compose_1 [V.agg [C.sl s.1.length (ints s.1),C.sl s.2.length (ints s.2)],V.c (C.sl br.length (ints br)),V.c (C.cp [C.v (.int .i64 a),C.v (.int .i64 b),C.v (.int .i64 c)]),V.c (C.cp [C.v (.int .i64 (n:Int))])] []=cO (apG a b c n br s):=by
 have ap:=(Bt fu d hfu n hn a b c br (X3 s.1) (X3 s.2) l0 hs).1;unfold scC at ap;generalize apG a b c n br s=o at*
 rw[eq_tangent_Compose_1];cases o with
 |none=>
  unfold cO at*
  simp(disch:=omega)only[Za,QM,QD,ap,Zs3,Zs9,Zs4,Nat.reduceAdd]
 |some t=>
  unfold cO at*
  simp(disch:=omega)only[Za,QM,QD,ap,Zs3,Zs9,Zs4,Nat.reduceAdd]
set_option maxHeartbeats 1000000 in
theorem Zo6 (n:Nat) (hn:n=1\/n=2) (a b c:Int) (brs:List (List Int)) (hbr: ∀br∈brs,br.length<=1000000) (hk:brs.length<=1000) (s:List Int×List Int) (hs:l6 s):
  cl fu (d+14) fn_tangent_fold_api_Change_api_Branch [V.c (C.sl brs.length (brs.map bA)),V.agg [C.sl s.1.length (ints s.1),C.sl s.2.length (ints s.2)],V.c (C.fn fn_tangent_Compose_1 [C.cp [C.v (.int .i64 a),C.v (.int .i64 b),C.v (.int .i64 c)],C.cp [C.v (.int .i64 (n:Int))]])] []=cO (tGs a b c n brs s):=by
 have hf:=R2 hn;have ap:=λbr h t ht=>Zcs fu d hfu n hn a b c br h t ht;rw[eq2_tangent_fold_api_Change_api_Branch];refine Ug (A:=Int×Int×(C×C×Unit)×(C×C×Unit)×Unit) (B:=Out) (fu:=fu) (λo=>o=cO (tGs a b c n brs s))
  (λy=> ∃(j:Nat) (t:List Int×List Int),j<=brs.length/\l6 t/\tGs a b c n (brs.drop j) t=tGs a b c n brs s/\y=(0,(j:Int),(C.sl t.1.length (ints t.1),C.sl t.2.length (ints t.2),()),(C.nl,C.nl,()),())) (λy=>brs.length-y.2.1.toNat)
  (λe z=>e=0/\(∃t:List Int×List Int,tGs a b c n brs s=some t/\z=(0,(brs.length:Int),(C.sl t.1.length (ints t.1),C.sl t.2.length (ints t.2),()),(C.nl,C.nl,()),()))\/e=1/\tGs a b c n brs s=none/\ ∃j:Int,z=(1,j,(C.nl,C.nl,()),(C.nl,C.nl,()),())) ?_ ?_ ?_ ?_
 ·exact⟨0,s,by omega,hs,rfl,rfl⟩
 ·show brs.length-_<fu;omega
 ·rintro y ⟨j,t,hj,ht,hr,rfl⟩
  by_cases hlt:j<brs.length
  ·have hdr:=map_drop hlt;have hbj:=hbr brs[j] (Zt6 hlt);have e1:=ap brs[j] hbj t ht;have hd:=Ztz hlt;rw[hd,Bs]at hr;cases ok:apG a b c n brs[j] t with
   |some q=>
    rw[ok]at e1 hr;unfold cO at e1;refine .inl ⟨_, ?_,⟨j+1,q,by omega,Eu hf ok,hr,rfl⟩, ?_⟩
    ·simp(disch:=omega)only[Za,QM,QD,Zs2,Zta,hdr,e1,Zs3,Zs9,Zs4,Nat.reduceAdd];rfl
    ·show brs.length-((j+1:Nat):Int).toNat<brs.length-((j:Nat):Int).toNat;omega
   |none=>
    rw[ok]at e1 hr;unfold cO at e1;refine .inr ⟨1,_, ?_, .inr ⟨rfl,hr.symm,(j:Int),rfl⟩⟩;simp(disch:=omega)only[Za,QM,QD,Zs2,Zta,hdr,e1,Zs3,Zs9,Zs4,Nat.reduceAdd]
  ·obtain rfl:j=brs.length:=by omega
   rw[Zwt]at hr;refine .inr ⟨0,_, ?_, .inl ⟨rfl,t,hr.symm,rfl⟩⟩;simp(disch:=omega)only[Za,QM,QD]
 ·rintro e z (⟨rfl,t,hr,rfl⟩|⟨rfl,hr,j,rfl⟩)
  ·rw[hr];unfold cO;simp(disch:=omega)only[Za,QM,QD]
  ·rw[hr];unfold cO;simp(disch:=omega)only[Za,QM,QD]
theorem Zlp (n:Nat) (hn:n=1\/n=2) (a b c:Int) (brs:List (List Int)) (hbr: ∀br∈brs,br.length<=1000000) (hk:brs.length<=1000) {c1 c2:C} {s:List Int×List Int} (h1:isL c1 s.1) (h2:isL c2 s.2) (hs:l6 s):
  cl fu (d+15) fn_tangent_Compose [V.agg (scC a b c),I n,V.c (C.sl brs.length (brs.map bA)),V.agg [c1,c2]] []=cO (tGs a b c n brs s):=by
 have l1:=hs.1;have l2:=hs.2;have k1:=Zaf fu (d+13) s.1 (by omega);have k2:=Zaf fu (d+13) s.2 (by omega);have n1:=h1.1;have n2:=h2.1;have t1:Zx6 s.1.length (ints s.1)=ints s.1:=Ztc (by rw[Ze];exact Ztf _);have t2:Zx6 s.2.length (ints s.2)=ints s.2:=Ztc (by rw[Ze];exact Ztf _);have e1:=Zo6 fu d hfu n hn a b c brs hbr hk s hs;generalize tGs a b c n brs s=o at*
 unfold scC;rw[eq_tangent_Compose];cases o with
 |none=>
  unfold cO at*
  simp(disch:=omega)only[Za,QM,QD,n1,n2,k1,k2,Zkz,H4,Ze,Zta,Zs4,t1,t2,e1,Zs3,Zs9,Nat.reduceAdd]
 |some t=>
  unfold cO at*
  simp(disch:=omega)only[Za,QM,QD,n1,n2,k1,k2,Zkz,H4,Ze,Zta,Zs4,t1,t2,e1,Zs3,Zs9,Nat.reduceAdd]
set_option maxHeartbeats 1000000 in
theorem Zlq (n:Nat) (hn:n=1\/n=2) (a b c:Int) (brs:List (List Int)) (hbr: ∀br∈brs,br.length<=1000000) (hk:brs.length<=1000) {c1 c2:C} {s:List Int×List Int} (h1:isL c1 s.1) (h2:isL c2 s.2) (hs:l6 s):
  cR (tGs a b c n brs s) (cl fu (d+13) fn_synopticref31_Compose [V.agg (scC a b c),I n,V.c (C.sl brs.length (brs.map bA)),V.agg [c1,c2]] []):=by
 have hf:=R2 hn;have ap:=λ(br:List Int) (x1 x2:C) (t:List Int×List Int) (g1:isL x1 t.1) (g2:isL x2 t.2) l0 ht=>(Bt fu d hfu n hn a b c br g1 g2 l0 ht).2;unfold scC at*
 rw[eq_synopticref31_Compose];refine Ug (A:=Int×Int×(C×C×Unit)×(C×C×Unit)×Unit) (B:=Out) (fu:=fu) (λo=>cR (tGs a b c n brs s) o)
  (λy=> ∃(j:Nat) (t:List Int×List Int) (x1 x2:C),j<=brs.length/\l6 t/\isL x1 t.1/\isL x2 t.2/\tGs a b c n (brs.drop j) t=tGs a b c n brs s/\y=(0,(j:Int),(x1,x2,()),(C.nl,C.nl,()),())) (λy=>brs.length-y.2.1.toNat)
  (λe z=>e=0/\(∃(t:List Int×List Int) (x1 x2:C),tGs a b c n brs s=some t/\isL x1 t.1/\isL x2 t.2/\z=(0,(brs.length:Int),(x1,x2,()),(C.nl,C.nl,()),()))\/e=1/\tGs a b c n brs s=none/\ ∃j:Int,z=(1,j,(C.nl,C.nl,()),(C.nl,C.nl,()),())) ?_ ?_ ?_ ?_
 ·exact⟨0,s,c1,c2,by omega,hs,h1,h2,rfl,rfl⟩
 ·show brs.length-_<fu;omega
 ·rintro y ⟨j,t,x1,x2,hj,ht,g1,g2,hr,rfl⟩
  by_cases hlt:j<brs.length
  ·have hdr:=map_drop hlt;have hbj:=hbr brs[j] (Zt6 hlt);have e1:=ap brs[j] x1 x2 t g1 g2 hbj ht;have hd:=Ztz hlt;rw[hd,Bs]at hr;cases ok:apG a b c n brs[j] t with
   |some q=>
    rw[ok]at e1 hr;unfold cO at e1;refine .inl ⟨_, ?_,⟨j+1,q,C.sl q.1.length (ints q.1),C.sl q.2.length (ints q.2),by omega,Eu hf ok,X3 _,X3 _,hr,rfl⟩, ?_⟩
    ·simp(disch:=omega)only[Za,QM,QD,Zs2,Zta,hdr,e1,Zs3,Zs9,Zs4,Nat.reduceAdd];rfl
    ·show brs.length-((j+1:Nat):Int).toNat<brs.length-((j:Nat):Int).toNat;omega
   |none=>
    rw[ok]at e1 hr;unfold cO at e1;refine .inr ⟨1,_, ?_, .inr ⟨rfl,hr.symm,(j:Int),rfl⟩⟩;simp(disch:=omega)only[Za,QM,QD,Zs2,Zta,hdr,e1,Zs3,Zs9,Zs4,Nat.reduceAdd]
  ·obtain rfl:j=brs.length:=by omega
   rw[Zwt]at hr;refine .inr ⟨0,_, ?_, .inl ⟨rfl,t,x1,x2,hr.symm,g1,g2,rfl⟩⟩;simp(disch:=omega)only[Za,QM,QD]
 ·rintro e z (⟨rfl,t,x1,x2,hr,g1,g2,rfl⟩|⟨rfl,hr,j,rfl⟩)
  ·rw[hr];refine⟨x1,x2,g1,g2, ?_⟩;simp(disch:=omega)only[Za,QM,QD]
  ·rw[hr];show _=noC;simp(disch:=omega)only[Za,QM,QD]
theorem Bu (n:Nat) (hn:n=1\/n=2) (a b c:Int) (brs:List (List Int)) (hbr: ∀br∈brs,br.length<=1000000) (hk:brs.length<=1000) {c1 c2:C} {s:List Int×List Int} (h1:isL c1 s.1) (h2:isL c2 s.2) (hs:l6 s):
  cmP (cl fu (d+15) fn_tangent_Compose [V.agg (scC a b c),I n,V.c (C.sl brs.length (brs.map bA)),V.agg [c1,c2]] []) (cl fu (d+15) fn_synopticref31_Compose [V.agg (scC a b c),I n,V.c (C.sl brs.length (brs.map bA)),V.agg [c1,c2]] []):=by
 have q2:=Zlq fu (d+2) hfu n hn a b c brs hbr hk h1 h2 hs;rw[Zlp fu d hfu n hn a b c brs hbr hk h1 h2 hs];exact Zsx (λp hp=>Zi5 (R2 hn) hs hp) (cR_cO _) q2
end
end Go.Proofs.YtjmempcalaliiaaGreatDoor
namespace Go.Proofs.YtjmempcalaliiaaGreatDoor
open Go Go.PM Go.Grid
theorem Zqy (x:Int):Zx2.wrap (BitVec.ofInt (Zx9 .i64) (-1)^^^BitVec.ofInt (Zx9 .i64) x).toNat=Zx2.wrap (-1-x):=by
 have h:BitVec.ofInt (Zx9 .i64) (-1)=BitVec.allOnes 64:=by show BitVec.ofInt 64 (-1)=_;decide
 rw[h];show Zx2.wrap ((BitVec.allOnes 64^^^BitVec.ofInt 64 x).toNat:Nat)=_;rw[BitVec.allOnes_xor,BitVec.toNat_not,BitVec.toNat_ofInt];simp only[Zzj];omega
theorem Zqz (x:Int) (hx:0<=x/\x<18446744073709551616):Zx7.wrap (BitVec.ofInt (Zx9 .u64) 18446744073709551615^^^BitVec.ofInt (Zx9 .u64) x).toNat=18446744073709551615-x:=by
 have h:BitVec.ofInt (Zx9 .u64) 18446744073709551615=BitVec.allOnes 64:=by show BitVec.ofInt 64 18446744073709551615=_;decide
 rw[h];show Zx7.wrap ((BitVec.allOnes 64^^^BitVec.ofInt 64 x).toNat:Nat)=_;rw[BitVec.allOnes_xor,BitVec.toNat_not,BitVec.toNat_ofInt,Vm];omega
attribute [local congr] Zu Zv Zw Yd Zx Zy Ye Yf Yg Yh Zz Z0 Yi Yt Yu Yv Yw Yx Yz Y1 Y2 Y4 Yy Z2 Z3 Y5 Z4 Z5 Zj Z6 Z1
section
variable (fu d:Nat) (hfu:18446744073709551616<=fu)
theorem Zi6 (a:Int) (ha: -9223372036854775808<=a/\a<=9223372036854775807):cl fu (d+1) fn_synopticref22_size [I a] []=OK (V.c (C.v (.int .u64 ((a.natAbs:Nat):Int)))):=by
 rw[eq_synopticref22_size];by_cases h:a<0
 ·rw[decide_eq_true h];show OK (V.c (C.v (.int .u64 _)))=_;simp only[Vm,Zzk.injEq,Out.mk.injEq,and_true,V.c.injEq,C.v.injEq,Value.int.injEq,true_and];omega
 ·rw[decide_eq_false h];show OK (V.c (C.v (.int .u64 _)))=_;simp only[Vm,Zzk.injEq,Out.mk.injEq,and_true,V.c.injEq,C.v.injEq,Value.int.injEq,true_and];omega
theorem Bv (x y:Int):cl fu (d+1) fn_synopticref22_Add [V.agg (wdC x),V.agg (wdC y)] []=OK (V.agg (wdC (x+y))):=by
 have h1:=Zcq x;have h2:=Zcq y;have h3:loW x<18446744073709551616:=by unfold loW;omega
 have h4:loW y<18446744073709551616:=by unfold loW;omega
 have k1:(0:Int)<=Zx7.wrap (hiW x):=by rw[Vm];omega
 have k2:(0:Int)<=Zx7.wrap (hiW y):=by rw[Vm];omega
 rw[eq_synopticref22_Add,decide_eq_true h1,decide_eq_true h2,decide_eq_true k1,decide_eq_true k2,decide_eq_true (show(0:Int)<=(loW x+loW y+0)/18446744073709551616 by omega),decide_eq_true (show(loW x+loW y+0)/18446744073709551616<=(1:Int) by omega)];show OK (V.agg [_,_])=_;unfold wdC hiW loW;simp only[Zzj,Vm,Zzk.injEq,Out.mk.injEq,and_true,V.agg.injEq,Zzl.injEq,C.v.injEq,Value.int.injEq,true_and];omega
theorem Zlr (z:Int):cl fu (d+2) fn_synopticref22_Negate [V.agg (wdC z)] []=OK (V.agg (wdC (-z))):=by
 have e1:=Bv fu d (-1-z) 1;rw[show -1-z+1= -z by omega]at e1;have e2:Zx2.wrap (BitVec.ofInt (Zx9 .i64) (-1)^^^BitVec.ofInt (Zx9 .i64) (hiW z)).toNat=hiW (-1-z):=by
  rw[Zqy];unfold hiW;simp only[Zzj];omega
 have e3:Zx7.wrap (BitVec.ofInt (Zx9 .u64) 18446744073709551615^^^BitVec.ofInt (Zx9 .u64) (loW z)).toNat=loW (-1-z):=by
  rw[Zqz _ (by unfold loW;omega)];unfold loW;omega
 have e4:hiW 1=0/\loW 1=1:=⟨rfl,rfl⟩;unfold wdC at*
 rw[e4.1,e4.2]at e1;rw[eq_synopticref22_Negate,e2,e3];simp(disch:=omega)only[Za,QM,QD,e1,Zs3,Zs9,Zs4,Nat.reduceAdd]
theorem Zfh (a b:Int) (ha: -9223372036854775808<=a/\a<=9223372036854775807) (hb: -9223372036854775808<=b/\b<=9223372036854775807):cl fu (d+3) fn_synopticref22_Product [I a,I b] []=OK (V.agg (wdC (a*b))):=by
 have e1:=Zi6 fu (d+1) a ha;have e2:=Zi6 fu (d+1) b hb;have e3:=Zff fu (d+1) a.natAbs b.natAbs (by omega) (by omega);have hP:=Int.natAbs_mul a b;have e4:=Zlr fu d ((a.natAbs*b.natAbs:Nat):Int);have q1:Zx2.wrap ((a.natAbs*b.natAbs/18446744073709551616:Nat):Int)=hiW ((a.natAbs*b.natAbs:Nat):Int):=by
  unfold hiW;rw[Int.natCast_ediv];rfl
 have q2:((a.natAbs*b.natAbs%18446744073709551616:Nat):Int)=loW ((a.natAbs*b.natAbs:Nat):Int):=by
  unfold loW;rw[Int.natCast_emod];rfl
 rw[<-hP]at e3 e4 q1 q2;have s0: ∀x:Int,x<0->x= -((x.natAbs:Nat):Int):=λx h=>by omega
 have s1: ∀x:Int,¬x<0->x=((x.natAbs:Nat):Int):=λx h=>by omega
 rw[eq_synopticref22_Product];by_cases ka:a<0
 ·by_cases kb:b<0
  ·have hz:(((a*b).natAbs:Nat):Int)=a*b:=by
    have:=Int.mul_nonneg_of_nonpos_of_nonpos (Zxu ka) (Zxu kb);omega
   rw[decide_eq_true ka,decide_eq_true kb];rw[hz]at q1 q2 e4;unfold wdC at*
   simp(disch:=omega)only[Za,QM,QD,e1,e2,e3,q1,q2,beq_self_eq_true,Bool.not_true,cond_false,Zs3,Zs9,Zs4,Nat.reduceAdd]
  ·have hz: -(((a*b).natAbs:Nat):Int)=a*b:=by
    have:=Int.mul_nonpos_of_nonpos_of_nonneg (Zxu ka) (Zzm.1 kb);omega
   rw[decide_eq_true ka,decide_eq_false kb,show(true==false)=false from rfl];rw[hz]at e4;unfold wdC at*
   simp(disch:=omega)only[Za,QM,QD,e1,e2,e3,q1,q2,e4,Bool.not_false,cond_true,Zs3,Zs9,Zs4,Nat.reduceAdd]
 ·by_cases kb:b<0
  ·have hz: -(((a*b).natAbs:Nat):Int)=a*b:=by
    have:=Int.mul_nonpos_of_nonneg_of_nonpos (Zzm.1 ka) (Zxu kb);omega
   rw[decide_eq_false ka,decide_eq_true kb,show(false==true)=false from rfl];rw[hz]at e4;unfold wdC at*
   simp(disch:=omega)only[Za,QM,QD,e1,e2,e3,q1,q2,e4,Bool.not_false,cond_true,Zs3,Zs9,Zs4,Nat.reduceAdd]
  ·have hz:(((a*b).natAbs:Nat):Int)=a*b:=by
    have:=Int.mul_nonneg (Zzm.1 ka) (Zzm.1 kb);omega
   rw[decide_eq_false ka,decide_eq_false kb];rw[hz]at q1 q2 e4;unfold wdC at*
   simp(disch:=omega)only[Za,QM,QD,e1,e2,e3,q1,q2,beq_self_eq_true,Bool.not_true,cond_false,Zs3,Zs9,Zs4,Nat.reduceAdd]
include hfu
set_option maxHeartbeats 1000000 in
theorem Zfi (a b:List Int) (hl:a.length=b.length) (l1:a.length<=1000000) (wa:wid (-9223372036854775808) 9223372036854775807 a) (wb:wid (-9223372036854775808) 9223372036854775807 b):
  cl fu (d+4) fn_synopticref22_Dot [V.c (C.sl a.length (ints a)),V.c (C.sl b.length (ints b))] []=OK (V.tup [V.agg (wdC (Ak a b)),I 0]):=by
 have hd:Ak a b=P5 a b a.length:=rfl;rw[hd];have et:=λx y hx hy=>Zfh fu d x y hx hy;have ea:=λx y=>Bv fu (d+2) x y;unfold wdC at*
 rw[eq_synopticref22_Dot];simp(disch:=omega)only[Za,QM,QD];rw[Zk (λj:Nat=>(((j:Nat):Int),((0:Int),(0:Int),()),(hiW (P5 a b j),loW (P5 a b j),()),())) 0 (((a.length:Nat):Int),((0:Int),(0:Int),()),(hiW (P5 a b a.length),loW (P5 a b a.length),()),()) a.length ?_ ?_ ?_ (by omega)]
 ·simp(disch:=omega)only[Za,QM,QD]
 ·rfl
 ·intro j hj;have i1:=Zm a hj;have i2:=Zm b (i:=j) (by omega);have b1:=Q9 wa (by omega) j;have b2:=Q9 wb (by omega) j;have e2:=et (at0 a j) (at0 b j) b1 b2;have e3:=ea (P5 a b j) (at0 a j*at0 b j);rw[<-Zah]at e3;simp(disch:=omega)only[Za,QM,QD,Zs2,Zta,i1,i2,e2,e3,Zs3,Zs9,Zs4,Nat.reduceAdd];rfl
 ·simp(disch:=omega)only[Za,QM,QD]
def Zo7 (a b a' b':List Int):Option Out:=if a.length=a'.length/\b.length=b'.length then OK (V.tup [V.agg (wdC (Ak a a'+Ak b b')),I 0])else OK (V.tup [V.agg [C.v (.int .i64 0),C.v (.int .u64 0)],I 1])
theorem Zo8 {c1 c2 c1' c2':C} {a b a' b':List Int} (h1:isL c1 a) (h2:isL c2 b) (h3:isL c1' a') (h4:isL c2' b') (l1:a.length<=1000000) (l2:b.length<=1000000) (w1:wid (-9223372036854775808) 9223372036854775807 a) (w2:wid (-9223372036854775808) 9223372036854775807 b) (w3:wid (-9223372036854775808) 9223372036854775807 a') (w4:wid (-9223372036854775808) 9223372036854775807 b'):
  cl fu (d+5) fn_tangent_Dot [V.agg [c1,c2],V.agg [c1',c2']] []=Zo7 a b a' b'/\cl fu (d+5) fn_synopticref31_Dot [V.agg [c1,c2],V.agg [c1',c2']] []=Zo7 a b a' b':=by
 have n1:=h1.1;have n2:=h2.1;have n3:=h3.1;have n4:=h4.1;have e3:=Zi3 fu (d+3) (Ak a a') (Ak b b');have r3:=Bv fu (d+3) (Ak a a') (Ak b b');unfold Zo7;by_cases q1:a.length=a'.length
 ·have e1:=Zi4 fu d hfu a a' q1 l1 w1 w3;have r1:=Zfi fu d hfu a a' q1 l1 w1 w3;by_cases q2:b.length=b'.length
  ·have e2:=Zi4 fu d hfu b b' q2 l2 w2 w4;have r2:=Zfi fu d hfu b b' q2 l2 w2 w4;rw[if_pos ⟨q1,q2⟩];unfold wdC at*
   constructor
   ·rw[eq_tangent_Dot];simp(disch:=omega)only[Za,QM,QD,n1,n2,n3,n4,e1,e2,e3,Zs3,Zs9,Zs4,Nat.reduceAdd]
   ·rw[eq_synopticref31_Dot];simp(disch:=omega)only[Za,QM,QD,n1,n2,n3,n4,r1,r2,r3,Zs3,Zs9,Zs4,Nat.reduceAdd]
  ·have e2:=eq_precision_Dot fu (d+3) b.length (ints b) b'.length (ints b');have r2:=eq_synopticref22_Dot fu (d+3) b.length (ints b) b'.length (ints b');rw[show(((b.length:Nat):Int) !=((b'.length:Nat):Int))=true by rw[bne_iff_ne];omega]at e2 r2;rw[if_neg (λh=>q2 h.2)];unfold wdC at*
   constructor
   ·rw[eq_tangent_Dot];simp(disch:=omega)only[Za,QM,QD,n1,n2,n3,n4,e1,e2,Zs3,Zs9,Zs4,Nat.reduceAdd]
   ·rw[eq_synopticref31_Dot];simp(disch:=omega)only[Za,QM,QD,n1,n2,n3,n4,r1,r2,Zs3,Zs9,Zs4,Nat.reduceAdd]
 ·have e1:=eq_precision_Dot fu (d+3) a.length (ints a) a'.length (ints a');have r1:=eq_synopticref22_Dot fu (d+3) a.length (ints a) a'.length (ints a');rw[show(((a.length:Nat):Int) !=((a'.length:Nat):Int))=true by rw[bne_iff_ne];omega]at e1 r1;rw[if_neg (λh=>q1 h.1)];unfold wdC at*
  constructor
  ·rw[eq_tangent_Dot];simp(disch:=omega)only[Za,QM,QD,n1,n2,n3,n4,e1,Zs3,Zs9,Zs4,Nat.reduceAdd]
  ·rw[eq_synopticref31_Dot];simp(disch:=omega)only[Za,QM,QD,n1,n2,n3,n4,r1,Zs3,Zs9,Zs4,Nat.reduceAdd]
end
end Go.Proofs.YtjmempcalaliiaaGreatDoor
namespace Go.Proofs.YtjmempcalaliiaaGreatDoor
open Go Go.PM Go.Grid
attribute [local congr] Zu Zv Zw Yd Zx Zy Ye Yf Yg Yh Zz Z0 Yi Yt Yu Yv Yw Yx Yz Y1 Y2 Y4 Yy Z2 Z3 Y5 Z4 Z5 Zj Z6 Z1
def shG (n:Nat) (k:Int) (dp fw hd hf:List Int):Option Out:=if Yk (-1048576) 1048576 hd=false/\Yk (-1048576) 1048576 hf=false/\(-1048576<=k/\k<=1048576)then shO n k dp fw hd hf else OK (V.tup [V.agg [C.v (.int .i64 0),C.nl,C.nl],I 1])
section
variable (fu d:Nat) (hfu:18446744073709551616<=fu)
include hfu
theorem Bw (x h:List Int) (hl:h.length=x.length) (lx:x.length<=1000000) (w0:wid (-16777216) 16777216 x) (w1:wid (-1048576) 1048576 h) (k:Int) (hk: -1048576<=k/\k<=1048576):
  cl fu (d+1) fn_synopticref31_moved [V.c (C.sl x.length (ints x)),V.c (C.sl h.length (ints h)),I k] []=OK (V.c (C.sl x.length (ints (Xg k x h x.length)))):=by
 have hb: ∀i,-1048576*1048576<=k*at0 h i/\k*at0 h i<=1048576*1048576:=λi=>by
  have hx:=Q9 w1 (by omega) i;by_cases hk0:0<=k
  ·have:=Ui (P:=1048576) ⟨hk0,hk.2⟩ hx (by omega);omega
  ·have:=Ui (p:= -k) (P:=1048576) (by omega) hx (by omega);rw[Int.neg_mul]at this;omega
 have g1:=λm=>Xe k x h m;rw[eq_synopticref31_moved];rw[Zk (λj:Nat=>(ints (Xg k x h j),((j:Nat):Int),())) 0 (ints (Xg k x h x.length),((x.length:Nat):Int),()) x.length ?_ ?_ ?_ (by omega)]
 ·have htk:Zx6 x.length (ints (Xg k x h x.length))=ints (Xg k x h x.length):=Ztc (by rw[Ze,g1];exact Ztf _);simp(disch:=omega)only[Za,QM,QD,Ze,g1,Zto,Zta,Zs4,htk]
 ·rfl
 ·intro j hj;have i1:=Zm x hj;have i2:=Zm h (i:=j) (by omega);have b1:=hb j;have b2:=Q9 w0 (by omega) j;have hs:=Zad k x h j;have gj:=g1 j;have gj1:=g1 (j+1);generalize hq:k*at0 h j=q at*
  have hsn:ints (Xg k x h j)++[C.v (.int .i64 (at0 x j+q))]=ints (Xg k x h (j+1)):=by rw[hs,Ud]
  simp(disch:=omega)only[Za,QM,QD,Zs2,Zta,i1,i2,hq,Ze,gj,gj1,Zto,Ztb,Zs3,Zs9,Zs4,hsn];rfl
 ·simp(disch:=omega)only[Za,QM,QD,Ze,g1,Zto,Zta]
theorem Bz (n:Nat) (h:Yb n) (dp fw:List Int) (hv:Vst n dp fw) (hd hf:List Int) (l1:hd.length=dp.length) (l2:hf.length=fw.length) (k:Int):
  cl fu (d+11) fn_tangent_Shift [V.agg (stC n dp fw),V.agg [C.sl hd.length (ints hd),C.sl hf.length (ints hf)],I k] []=shG n k dp fw hd hf/\
  cl fu (d+11) fn_synopticref31_Shift [V.agg (stC n dp fw),V.agg [C.sl hd.length (ints hd),C.sl hf.length (ints hf)],I k] []=shG n k dp fw hd hf:=by
 have hNl:=Y7 h;have heL:=Uu h;have d1:=hv.dl;have d2:=hv.fl;have e1:=Ub fu (d+5) hfu hd (by omega) 1048576 (by omega);have e2:=Ub fu (d+5) hfu hf (by omega) 1048576 (by omega);replace e1:cl fu (d+10) fn_tangent_outside [V.c (C.sl hd.length (ints hd)),I 1048576] []=OK (B (Yk (-1048576) 1048576 hd)):=e1;replace e2:cl fu (d+10) fn_tangent_outside [V.c (C.sl hf.length (ints hf)),I 1048576] []=OK (B (Yk (-1048576) 1048576 hf)):=e2;have s1:=P4 fu (d+9) hfu hd (by omega) 1048576 (by omega);have s2:=P4 fu (d+9) hfu hf (by omega) 1048576 (by omega);replace s1:cl fu (d+10) fn_synopticref22_Small [V.c (C.sl hd.length (ints hd)),I 1048576] []=OK (B (!Yk (-1048576) 1048576 hd)):=s1;replace s2:cl fu (d+10) fn_synopticref22_Small [V.c (C.sl hf.length (ints hf)),I 1048576] []=OK (B (!Yk (-1048576) 1048576 hf)):=s2;have e3:=Ky fu (d+9) k (-1048576) 1048576;unfold shG;cases q1:Yk (-1048576) 1048576 hd with
 |true=>
  rw[if_neg (by simp)];rw[q1]at e1 s1;unfold stC at*
  constructor
  ·rw[eq_tangent_Shift];simp(disch:=omega)only[Za,QM,QD,e1]
  ·rw[eq_synopticref31_Shift];simp(disch:=omega)only[Za,QM,QD,s1]
 |false=>
  rw[q1]at e1 s1;cases q2:Yk (-1048576) 1048576 hf with
  |true=>
   rw[if_neg (by simp)];rw[q2]at e2 s2;unfold stC at*
   constructor
   ·rw[eq_tangent_Shift];simp(disch:=omega)only[Za,QM,QD,e1,e2]
   ·rw[eq_synopticref31_Shift];simp(disch:=omega)only[Za,QM,QD,s1,s2]
  |false=>
   rw[q2]at e2 s2;by_cases q3: -1048576<=k/\k<=1048576
   ·rw[if_pos ⟨rfl,rfl,q3⟩];have w1:=Z7.1 q1;have w2:=Z7.1 q2;refine⟨Zo1 fu d hfu n h dp fw hv hd hf l1 l2 w1 w2 k q3, ?_⟩;have c0:=(Hc fu d hfu (n:Int) (X3 dp) (X3 fw) (by omega) (by omega)).1 ⟨n,rfl,h,hv⟩;have m1:=Bw fu (d+9) hfu dp hd l1 (by omega) (Sf hv.dw (by omega) (by omega)) w1 k q3;have m2:=Bw fu (d+9) hfu fw hf l2 (by omega) hv.fw w2 k q3;have g1:=Xe k dp hd dp.length;have g2:=Xe k fw hf fw.length;have e5:=Hc fu d hfu (n:Int) (X3 (Xg k dp hd dp.length)) (X3 (Xg k fw hf fw.length)) (by omega) (by omega);have hst:Zll (n:Int) (Xg k dp hd dp.length) (Xg k fw hf fw.length)↔Yk 0 16777216 (Xg k dp hd dp.length)=false/\Yk (-16777216) 16777216 (Xg k fw hf fw.length)=false:=by
     constructor
     ·rintro ⟨m,hm,_,hv'⟩
      exact⟨Z7.2 hv'.dw,Z7.2 hv'.fw⟩
     ·rintro ⟨q1,q2⟩
      exact⟨n,rfl,h,⟨by omega,by omega,Z7.1 q1,Z7.1 q2⟩⟩
    rw[g1,g2]at e5;unfold shO;unfold stC at*
    rw[g1,g2];rw[eq_synopticref31_Shift];cases q1:Yk 0 16777216 (Xg k dp hd dp.length)with
    |true=>
     have e5:=e5.2 (λw=>by rw[hst,q1]at w;cases w.1);simp(disch:=omega)only[Za,QM,QD,s1,s2,c0,m1,m2,e5]
    |false=>
     cases q2:Yk (-16777216) 16777216 (Xg k fw hf fw.length)with
     |true=>
      have e5:=e5.2 (λw=>by rw[hst,q2]at w;cases w.2);simp(disch:=omega)only[Za,QM,QD,s1,s2,c0,m1,m2,e5]
     |false=>
      have e5:=e5.1 (hst.2 ⟨q1,q2⟩);simp(disch:=omega)only[Za,QM,QD,s1,s2,c0,m1,m2,e5]
   ·rw[if_neg (λw=>q3 w.2.2)];have hw:(decide (-1048576<=k)&&decide (k<=1048576))=false:=by
     cases e:(decide (-1048576<=k)&&decide (k<=1048576))with
     |false=>rfl
     |true=>
      rw[Zs1,decide_eq_true_iff,decide_eq_true_iff]at e;exact absurd e q3
    rw[hw]at e3;unfold stC at*
    constructor
    ·rw[eq_tangent_Shift];simp(disch:=omega)only[Za,QM,QD,e1,e2,e3]
    ·rw[eq_synopticref31_Shift];by_cases hk:k>1048576
     ·simp(disch:=omega)only[Za,QM,QD,s1,s2]
     ·simp(disch:=omega)only[Za,QM,QD,s1,s2]
end
end Go.Proofs.YtjmempcalaliiaaGreatDoor
namespace Go.Proofs.YtjmempcalaliiaaGreatDoor
open Go Go.PM Go.Grid
attribute [local congr] Zu Zv Zw Yd Zx Zy Ye Yf Yg Yh Zz Z0 Yi Yt Yu Yv Yw Yx Yz Y1 Y2 Y4 Yy Z2 Z3 Y5 Z4 Z5 Zj Z6 Z1
theorem Zls (a b a' b':List Int): ∃hi lo e:Int,Zo7 a b a' b'=OK (V.tup [V.agg [C.v (.int .i64 hi),C.v (.int .u64 lo)],I e]):=by
 unfold Zo7;split
 ·exact⟨_,_,0,rfl⟩
 ·exact⟨0,0,1,rfl⟩
theorem Zfj {n:Nat} {k:Int} {dp fw hd hf:List Int} (h1:dp.length<=1000000) (h2:fw.length<=1000000): ∃(m e:Int) (c1 c2:C) (p q:List Int),isL c1 p/\isL c2 q/\p.length<=1000000/\q.length<=1000000/\shG n k dp fw hd hf=OK (V.tup [V.agg [C.v (.int .i64 m),c1,c2],I e]):=by
 have g1:=Xe k dp hd dp.length;have g2:=Xe k fw hf fw.length;unfold shG;split
 ·unfold shO;cases(Yk 0 16777216 (Xg k dp hd dp.length)||Yk (-16777216) 16777216 (Xg k fw hf fw.length))with
  |true=>exact⟨0,1,_,_,[],[],Rp,Rp,by simp,by simp,rfl⟩
  |false=>exact⟨n,0,_,_,_,_,X3 _,X3 _,by omega,by omega,rfl⟩
 ·exact⟨0,1,_,_,[],[],Rp,Rp,by simp,by simp,rfl⟩
theorem Zq0 {o:Option (List Int×List Int)} (h: ∀p,o=some p->l6 p): ∃(e:Int) (c1 c2:C) (p q:List Int),isL c1 p/\isL c2 q/\p.length<=1000000/\q.length<=1000000/\cO o=OK (V.tup [V.agg [c1,c2],I e]):=by
 cases o with
 |none=>exact⟨1,_,_,[],[],Rp,Rp,by simp,by simp,rfl⟩
 |some p=>exact⟨0,_,_,p.1,p.2,X3 _,X3 _,(h p rfl).1,(h p rfl).2,rfl⟩
section
variable (fu d:Nat) (hfu:18446744073709551616<=fu)
include hfu
theorem Zhw (a b c:Int): ∃v e:Int,cl fu (d+7) fn_tangent_Scale [V.agg [C.v (.int .i64 a),C.v (.int .i64 b),C.v (.int .i64 c)]] []=OK (V.tup [I v,I e])/\cl fu (d+7) fn_synopticref31_Scale [V.agg [C.v (.int .i64 a),C.v (.int .i64 b),C.v (.int .i64 c)]] []=OK (V.tup [I v,I e]):=by
 rcases Hd a b c with⟨x,y,z,rfl,rfl,rfl,hx,hy,hz⟩|hbad
 ·exact⟨_,_,J9 fu d hfu x y z hx hy hz,M3 fu (d+5) hfu x y z hx hy hz⟩
 ·exact⟨_,_,He fu d hfu a b c hbad,N3 fu (d+5) hfu a b c hbad⟩
theorem Ft (n:Int) (br:List Int) {c1 c2:C} {dp fw:List Int} (h1:isL c1 dp) (h2:isL c2 fw) (l0:br.length<=1000000) (l1:dp.length<=1000000) (l2:fw.length<=1000000):
  ∃e:Int,cl fu (d+10) fn_tangent_Check [I n,V.c (C.sl br.length (ints br)),V.agg [c1,c2]] []=OK (I e)/\cl fu (d+10) fn_synopticref31_Check [I n,V.c (C.sl br.length (ints br)),V.agg [c1,c2]] []=OK (I e):=by
 have q1:=Bn fu d hfu n br h1 h2 l0 l1 l2;have q2:=Pf fu d hfu n br h1 h2 l0 l1 l2;by_cases h:Zhs n br dp fw
 ·exact⟨0,q1.1 h,q2.1 h⟩
 ·exact⟨1,q1.2 h,q2.2 h⟩
set_option maxHeartbeats 16000000 in
theorem sp_TangentComputes (l:List Int) (hl: ∀x∈l,0<=x/\x<=255) (a b c:Int) {c1 c2:C} {rd rf:List Int} (g1:isL c1 rd) (g2:isL c2 rf) (wr1:wid (-9223372036854775808) 9223372036854775807 rd) (wr2:wid (-9223372036854775808) 9223372036854775807 rf) (by':Int):cl fu (d+17) fn_synopticlaw31_TangentComputes [V.c (C.sl l.length (ik .u8 l)),V.agg (scC a b c),V.agg [c1,c2],I by'] []=OK (B true):=by
 have hA:=Zhr fu (d+8) hfu;have s1:=λ{R:Type} (k:Nat->List C->Option R)=>g1.2 k;have s2:=λ{R:Type} (k:Nat->List C->Option R)=>g2.2 k;unfold scC;rw[eq_synopticlaw31_TangentComputes];simp(disch:=omega)only[Za,QM,QD,hA];rw[s1];by_cases hr1:rd.length<=200
 rotate_left
 ·simp(disch:=omega)only[Za,QM,QD]
 simp(disch:=omega)only[Za,QM,QD];rw[s2];by_cases hr2:rf.length<=400
 rotate_left
 ·simp(disch:=omega)only[Za,QM,QD]
 have hb:=Zhm hl (k:=300) (by omega);have hN:=Zqq fu (d+15) l 300;replace hN:cl fu (d+16) fn_synopticfield_New [V.c (C.sl l.length (ik .u8 l)),I 300] []=_:=hN;generalize l.take 300=bs at hb hN;obtain⟨n,j1,hn,hj1,k1⟩:=Zcg fu (d+13) hb (i:=0) (by omega);have h:=R2 hn;obtain⟨v,j2,hv,hj2,k2⟩:=X1 fu (d+14) hb hj1 4 (by omega);replace k2:cl fu (d+16) fn_synopticfield_Codes_Next [V.ptr 1000000 0,I 4] _=_:=k2;obtain⟨m,r,hm,hdr⟩: ∃(m:Nat) (r:List C),m<=1099511627776/\Zx5 v [C.v (.int .i64 9),C.v (.int .i64 1000),C.v (.int .i64 1048576),C.v (.int .i64 1099511627776)]=C.v (.int .i64 (m:Int))::r:=by
  rcases(show v=0\/v=1\/v=2\/v=3 by omega)with rfl|rfl|rfl|rfl
  ·exact⟨9,_,by omega,rfl⟩
  ·exact⟨1000,_,by omega,rfl⟩
  ·exact⟨1048576,_,by omega,rfl⟩
  ·exact⟨1099511627776,_,by omega,rfl⟩
 obtain⟨hd,hf,j3,q1,q2,q3,q4,hj3,k3⟩:=Zli fu (d+6) hfu hb hj2 n h m (by omega) 1099511627776 (by omega);obtain⟨br,j4,q5,q6,hj4,k4⟩:=Zac fu (d+6) hfu hb hj3 n h;have heL:=Uu h;have hNl:=Y7 h;have p1:=Ku h;have p2:=Zci h;obtain⟨u,j5,hu,hj5,k5⟩:=X1 fu (d+14) hb hj4 br.length (by omega);replace k5:cl fu (d+16) fn_synopticfield_Codes_Next _ _=_:=k5;obtain⟨t,j6,hj6,k6⟩:=Zqw fu (d+13) hb hj5;obtain⟨dp,fw,j6',hst,hj6',k6'⟩:=Zor fu (d+6) hfu hb hj6 n h;obtain⟨a',b',c',j7,ha,hb',hc,hj7,k7⟩:=W5 fu (d+13) hb hj6';have hvs:=hst.vst;have hdl:=hvs.dl;have hfl:=hvs.fl;have hp:=J7 br hu t;have hpl:(br.set u t).length=br.length:=List.length_set;have htk:Zx6 br.length (ints (br.set u t))=ints (br.set u t):=Ztc (by rw[Ze,hpl];exact Ztf _);unfold Yo at hN k1 k2 k3 k4 k5 k6 k6' k7;unfold stC at k6';simp(disch:=omega)only[Za,QM,QD,Zkz,H4,Zrf,hN,k1,k2,hdr,k3,k4,k5,k6,k6',k7,Ze,Zs2,Zta,Zs4,hp,hpl,htk,Zs3,Zs9,Nat.reduceAdd];generalize hbad:br.set u t=bad at*
 refine Zag (λo=>o=OK (B true)) (jS bs) 2 ⟨j7,hj7,rfl⟩ ?_ ?_ (by omega) ?_
 ·rintro j y hj ⟨i,hi,rfl⟩
  obtain⟨A,B',Cc,rr,hsch⟩: ∃(A B' Cc:Int) (rr:List C),Zx5 (j*3) [C.v (.int .i64 a),C.v (.int .i64 b),C.v (.int .i64 c),C.v (.int .i64 (a':Int)),C.v (.int .i64 (b':Int)),C.v (.int .i64 (c':Int))]=C.v (.int .i64 A)::C.v (.int .i64 B')::C.v (.int .i64 Cc)::rr:=by
   rcases(show j=0\/j=1 by omega)with rfl|rfl
   ·exact⟨a,b,c,_,rfl⟩
   ·exact⟨_,_,_,[],rfl⟩
  obtain⟨vS,eS,z1,z2⟩:=Zhw fu (d+9) hfu A B' Cc;simp(disch:=omega)only[Za,QM,QD,Zs2,hsch,z1,z2,bne_self_eq_false,cond_false];refine Zag (exR (jS bs (j+1))) (jM bs A B' Cc) 2 ⟨i,hi,rfl⟩ ?_ ?_ (by omega) ?_
  ·clear hi
   rintro j0 y hj0 ⟨i,hi,rfl⟩
   obtain⟨z1,z2,p,q,rr2,f1,f2,f3,f4,hch⟩: ∃(z1 z2:C) (p q:List Int) (rr2:List C),isL z1 p/\isL z2 q/\p.length<=1000000/\q.length<=1000000/\Zx5 (j0*2) [c1,c2,C.sl hd.length (ints hd),C.sl hf.length (ints hf)]=z1::z2::rr2:=by
    rcases(show j0=0\/j0=1 by omega)with rfl|rfl
    ·exact⟨c1,c2,rd,rf,_,g1,g2,by omega,by omega,rfl⟩
    ·exact⟨_,_,hd,hf,[],X3 hd,X3 hf,by omega,by omega,rfl⟩
   obtain⟨w,i2,hw,hi2,e1⟩:=X1 fu (d+14) hb hi 3 (by omega);replace e1:cl fu (d+16) fn_synopticfield_Codes_Next [V.ptr 1000000 0,I 3] _=_:=e1;obtain⟨brs,hbl,hbm,hbt⟩: ∃brs:List (List Int),brs.length=w/\(∀x∈brs,x.length<=1000000)/\Zx6 w [C.sl br.length (ints br),C.sl br.length (ints br),C.sl br.length (ints br)]=brs.map bA:=by
    refine⟨Zyx w br,Zv3,λx hx=>by rw[Zwe hx];omega, ?_⟩;rcases(show w=0\/w=1\/w=2 by omega)with rfl|rfl|rfl<;>rfl
   obtain⟨e,P',Q',x1,x2,y1,y2,t1,t2,t3,t4,t5,t6,r1,r2⟩:=Bu fu (d+1) hfu n hn A B' Cc brs hbm (by omega) (s:=(p,q)) f1 f2 ⟨f3,f4⟩;have sm:=Gi fu (d+14) hfu t1 t2 t3 t4 t5 t6 t5 t6;rw[decide_eq_true ⟨rfl,rfl⟩]at sm;rw[hbl]at r1 r2;unfold Yo at e1;unfold scC at r1 r2;simp(disch:=omega)only[Za,QM,QD,Zs2,hch];rw[Zk (λj:Nat=>(false,(j:Int),(A,B',Cc,()),(z1,z2,()),(C.sl bs.length (ik .u8 bs),(i:Int),()),())) 0 (false,((2:Nat):Int),(A,B',Cc,()),(z1,z2,()),(C.sl bs.length (ik .u8 bs),(i:Int),()),()) 2 ?_ ?_ ?_ (by omega)]
   ·refine⟨(false,(j0:Int)+1,(A,B',Cc,()),(C.sl bs.length (ik .u8 bs),(i2:Int),()),()), ?_,⟨i2,hi2,rfl⟩⟩;simp(disch:=omega)only[Za,QM,QD,e1,Zs2,Zta,hp,htk,hbt,r1,r2,sm,bne_self_eq_false,cond_false,Zs3,Zs9,Zs4,Nat.reduceAdd]
   ·rfl
   ·intro j1' hj1';obtain⟨xb,rr3,hxl,hxd⟩: ∃(xb:List Int) (rr3:List C),xb.length<=1000000/\Zx5 j1' [C.sl br.length (ints br),C.sl br.length (ints bad)]=C.sl xb.length (ints xb)::rr3:=by
     rcases(show j1'=0\/j1'=1 by omega)with rfl|rfl
     ·exact⟨br,_,by omega,rfl⟩
     ·exact⟨bad,[],by omega,by rw[hpl];rfl⟩
    obtain⟨o1,o2⟩:=Bt fu (d+4) hfu n hn A B' Cc xb (s:=(p,q)) f1 f2 hxl ⟨f3,f4⟩;obtain⟨eA,x1',x2',P1,Q1,m1,m2,m3,m4,hO⟩:=Zq0 (o:=apG A B' Cc n xb (p,q)) (λt ht=>Eu h ht);rw[hO]at o1 o2;obtain⟨eC,u1,u2⟩:=Ft fu (d+6) hfu (n:Int) xb f1 f2 hxl f3 f4;obtain⟨eD,u3,u4⟩:=Ft fu (d+6) hfu by' xb f1 f2 hxl f3 f4;have n1:=Gi fu (d+14) hfu m1 m2 m1 m2 m3 m4 m3 m4;rw[decide_eq_true ⟨rfl,rfl⟩]at n1;unfold scC at o1 o2;simp(disch:=omega)only[Za,QM,QD,Zs2,Zta,hp,htk,hxd,o1,o2,n1,u1,u2,u3,u4,bne_self_eq_false,cond_false,Zs3,Zs9,Zs4,Nat.reduceAdd];rfl
   ·simp(disch:=omega)only[Za,QM,QD]
  ·rintro y ⟨i,hi,rfl⟩
   simp(disch:=omega)only[Za,QM,QD]
  ·clear hi
   rintro y ⟨i,hi,rfl⟩
   refine⟨(false,(j:Int)+1,(C.sl bs.length (ik .u8 bs),(i:Int),()),()), ?_,⟨i,hi,rfl⟩⟩;simp(disch:=omega)only[Za,QM,QD]
 ·rintro y ⟨i,hi,rfl⟩
  simp(disch:=omega)only[Za,QM,QD]
 ·rintro y ⟨i,hi,rfl⟩
  obtain⟨A,B',Cc,i2,hA1,hA2,hA3,hi2,e1⟩:=W5 fu (d+13) hb hi;obtain⟨br2,i3,b1,b2,hi3,e2⟩:=Zac fu (d+6) hfu hb hi2 n h;obtain⟨w,i4,hw,hi4,e3⟩:=X1 fu (d+14) hb hi3 3 (by omega);replace e3:cl fu (d+16) fn_synopticfield_Codes_Next [V.ptr 1000000 0,I 3] _=_:=e3;obtain⟨brs,hbl,hbm,hbt⟩: ∃brs:List (List Int),brs.length=1+w/\(∀x∈brs,x.length<=1000000)/\Zx6 (1+w) [C.sl br.length (ints br),C.sl br2.length (ints br2),C.sl br.length (ints br)]=brs.map bA:=by
   rcases(show w=0\/w=1\/w=2 by omega)with rfl|rfl|rfl
   ·exact⟨[br],rfl,(λx h=>by simp at h;rw[h];omega),rfl⟩
   ·exact⟨[br,br2],rfl,(λx h=>by simp at h;rcases h with rfl|rfl<;>omega),rfl⟩
   ·exact⟨[br,br2,br],rfl,(λx h=>by simp at h;rcases h with rfl|rfl|rfl<;>omega),rfl⟩
  have hww:Zx2.wrap (1+(w:Int))=((1+w:Nat):Int):=by rw[Uq (by omega) (by omega)];omega
  obtain⟨e,P',Q',x1,x2,y1,y2,t1,t2,t3,t4,t5,t6,r1,r2⟩:=Bu fu (d+1) hfu n hn A B' Cc brs hbm (by omega) (s:=(hd,hf)) (X3 hd) (X3 hf) ⟨by show hd.length<=_;omega,by show hf.length<=_;omega⟩;have sm:=Gi fu (d+14) hfu t1 t2 t3 t4 t5 t6 t5 t6;rw[decide_eq_true ⟨rfl,rfl⟩]at sm;rw[hbl]at r1 r2;obtain⟨o1,o2⟩:=Zo8 fu (d+11) hfu (X3 hd) (X3 hf) g1 g2 (by omega) (by omega) (Sf q3 (by omega) (by omega)) (Sf q4 (by omega) (by omega)) wr1 wr2;obtain⟨hi',lo',eR,hR⟩:=Zls hd hf rd rf;rw[hR]at o1 o2;obtain⟨s3,s4⟩:=Bz fu (d+5) hfu n h dp fw hvs hd hf (by omega) (by omega) by';obtain⟨mS,eS,x3,x4,P1,Q1,m1,m2,m3,m4,hO⟩:=Zfj (n:=n) (k:=by') (dp:=dp) (fw:=fw) (hd:=hd) (hf:=hf) (by omega) (by omega);rw[hO]at s3 s4;have n1:=Zaa fu (d+14) hfu mS mS _ _ _ _ m1 m2 m1 m2 m3 m4 m3 m4;rw[decide_eq_true ⟨rfl,rfl,rfl⟩]at n1;obtain⟨kv,hkv,e5⟩:=Zsn fu (d+15) by' 9 (by omega);replace e5:cl fu (d+16) fn_synopticfield_Mod [I by',I 9] []=_:=e5;have hk9:Zx2.wrap ((kv:Int)-4)=(kv:Int)-4:=Uq (by omega) (by omega);obtain⟨s5,s6⟩:=Bz fu (d+5) hfu n h dp fw hvs hd hf (by omega) (by omega) ((kv:Int)-4);obtain⟨mT,eT,x5,x6,P2,Q2,w1,w2,w3,w4,hO2⟩:=Zfj (n:=n) (k:=(kv:Int)-4) (dp:=dp) (fw:=fw) (hd:=hd) (hf:=hf) (by omega) (by omega);rw[hO2]at s5 s6;have n2:=Zaa fu (d+14) hfu mT mT _ _ _ _ w1 w2 w1 w2 w3 w4 w3 w4;rw[decide_eq_true ⟨rfl,rfl,rfl⟩]at n2;unfold Yo at e1 e2 e3;unfold scC at r1 r2;unfold stC at s3 s4 s5 s6;simp(disch:=omega)only[Za,QM,QD,e1,e2,e3,hww,Zs2,Zta,hbt,r1,r2,sm,o1,o2,s3,s4,s5,s6,e5,hk9,n1,n2,beq_self_eq_true,Bool.and_self,Zs3,Zs9,Zs4,Nat.reduceAdd]
end
end Go.Proofs.YtjmempcalaliiaaGreatDoor
namespace Go.PM
open Go
def Zi7 (P:Program) (r:TypeId->Option (List TypeId)):List Field->Nat->Option (List TypeId)
 | [],_=>some []
 |f::fs,off=>if f.offset=off then(r f.type).bind λl=>if l.length=P.cellsOf f.type then(Zi7 P r fs (off+l.length)).map (l++ ·)else none else none
def L3 (P:Program):Nat->TypeId->Option (List TypeId)
 |0,_=>none
 |d+1,t=>match P.underlying t with
  |some (.struct fs)=>(Zi7 P (L3 P d) fs.toList 0).bind λl=>if l.length=P.cellsOf t then some l else none
  |some (.array n e)=>(L3 P d e).bind λl=>if l.length=P.cellsOf e/\n*l.length=P.cellsOf t then some (Zyx n l).flatten else none
  |_=>some [t]
section
variable {H:Type} {enc:TypeId×Value->H} {P:Program} {w:World} {base:Nat} {spare:Nat->Bool} {held:Bool}
def Leaves (enc:TypeId×Value->H) (P:Program) (w:World) (base:Nat) (spare:Nat->Bool) (held:Bool) (ls:List TypeId) (cs:List Value):Prop:=
 cs.length=ls.length/\ ∀(i:Nat) (l:TypeId) (u:Value),ls[i]? =some l->cs[i]? =some u-> ∃fuel x,DataW.trod enc P w base spare held fuel l [u]=some x
theorem Leaves.append {a b:List TypeId} {x y:List Value} (h:Leaves enc P w base spare held a x) (h':Leaves enc P w base spare held b y):Leaves enc P w base spare held (a++b) (x++y):=by
 refine⟨by simp[h.1,h'.1],λi l u hl hu=> ?_⟩;by_cases hi:i<a.length
 ·rw[Zt2 hi]at hl;rw[Zt2 (by rw[h.1];exact hi)]at hu;exact h.2 i l u hl hu
 ·rw[Zul (by omega)]at hl;rw[Zul (by rw[h.1];omega),h.1]at hu;exact h'.2 _ l u hl hu
theorem B0 {A B:Type} {f:A->Option B}: ∀{l:List A} {r:List B},l.mapM f=some r-> ∀a∈l,∃b,f a=some b
 | [],_,_,a,ha=>by cases ha
 |x::l,r,h,a,ha=>by
  rw[Zw9]at h;obtain⟨b,h1,h⟩:=Ztd.1 h;obtain⟨bs,h2,_⟩:=Ztd.1 h;rcases Ztl.1 ha with rfl|ha
  ·exact⟨b,h1⟩
  ·exact B0 h2 a ha
theorem Fu {r:TypeId->Option (List TypeId)} {cs:List Value} (hr: ∀t l,r t=some l-> ∀fuel vs x,DataW.trod enc P w base spare held fuel t vs=some x->Leaves enc P w base spare held l vs) {n:Nat}: ∀(fs:List Field) (off:Nat) (ls:List TypeId),Zi7 P r fs off=some ls->off+ls.length<=cs.length->
  (∀f∈fs,∃x,DataW.trod enc P w base spare held n f.type ((cs.drop f.offset).take (P.cellsOf f.type))=some x)->Leaves enc P w base spare held ls ((cs.drop off).take ls.length)
 | [],off,ls,h,_,_=>by
  injection h with h
  subst h;exact⟨by simp,λi l u hl _=>by simp at hl⟩
 |f::fs,off,ls,h,hlen,hall=>by
  unfold Zi7 at h;split at h
  ·rename_i ho;obtain⟨l,h1,h⟩:=Ztd.1 h;split at h
   ·rename_i hl;obtain⟨ls',h2,rfl⟩:=Ztu.1 h;obtain⟨x,hx⟩:=hall f (by simp);have a1:=hr _ _ h1 _ _ _ hx;rw[Ztb]at hlen;have a2:=Fu hr fs (off+l.length) ls' h2 (by omega) λg hg=>hall g (Ztp _ hg);rw[ho,<-hl]at a1;have e:(cs.drop off).take (l++ls').length=(cs.drop off).take l.length++(cs.drop (off+l.length)).take ls'.length:=by
     rw[Ztb,List.take_add,Zv4]
    rw[e];exact a1.append a2
   ·cases h
  ·cases h
theorem Hh {l:List TypeId} {m:Nat} (hl:l.length=m) {cs:List Value}: ∀(n:Nat),n*m<=cs.length->(∀i,i<n->Leaves enc P w base spare held l ((cs.drop (i*m)).take m))->Leaves enc P w base spare held (Zyx n l).flatten (cs.take (n*m))
 |0,_,_=>⟨by simp,λi l u hl _=>by simp at hl⟩
 |n+1,h,hall=>by
  have ih:=Hh hl n (by rw[Zt9]at h;omega) λi hi=>hall i (by omega);have h1:=hall n (by omega);rw[List.replicate_succ',List.flatten_concat,Zt9,List.take_add];exact ih.append h1
theorem Li: ∀(d:Nat) (t:TypeId) (ls:List TypeId),L3 P d t=some ls-> ∀fuel cs x,DataW.trod enc P w base spare held fuel t cs=some x->Leaves enc P w base spare held ls cs
 |0,t,ls,h=>by cases h
 |d+1,t,ls,h=>by
  intro fuel cs x hx;cases fuel with
  |zero=>cases hx
  |succ n=>
  rw[DataW.trod_step]at hx;unfold L3 at h;split at h
  ·rename_i fs ht;obtain⟨l,h1,h⟩:=Ztd.1 h;split at h
   ·rename_i hl;injection h with h
    subst h;simp only[DataW.trodStep,ht]at hx;split at hx
    ·rename_i hc;obtain⟨xs,hm,_⟩:=Ztu.1 hx;have:=Fu (cs:=cs) (λt l hr=>Li d t l hr) fs.toList 0 l h1 (by omega) (B0 hm);rw[Zuu,Ztc (by omega)]at this;exact this
    ·cases hx
   ·cases h
  ·rename_i m e ht;obtain⟨l,h1,h⟩:=Ztd.1 h;split at h
   ·rename_i hl;injection h with h
    subst h;simp only[DataW.trodStep,ht]at hx;split at hx
    ·rename_i hc;obtain⟨xs,hm,_⟩:=Ztu.1 hx;have:=Hh (enc:=enc) (P:=P) (w:=w) (base:=base) (spare:=spare) (held:=held) hl.1 (cs:=cs) m (by rw[<-hl.1];omega) λi hi=>by
      obtain⟨y,hy⟩:=B0 hm i (Zut.2 hi);exact Li d e l h1 _ _ _ hy
     rw[Ztc (by rw[<-hl.1];omega)]at this;exact this
    ·cases hx
   ·cases h
  ·rename_i hne1 hne2;injection h with h
   subst h;have h1: ∃u,cs=[u]:=by
    unfold DataW.trodStep at hx;split at hx<;>first|exact⟨_,rfl⟩|(rename_i ht;exact absurd ht (hne1 _))|(rename_i ht;exact absurd ht (hne2 _ _))|cases hx
   obtain⟨u,rfl⟩:=h1;refine⟨rfl,λi l v hl hv=> ?_⟩;cases i with
   |zero=>
    simp at hl hv;subst hl hv;exact⟨n+1,x,by rw[DataW.trod_step];exact hx⟩
   |succ i=>simp at hl
end
def M4 (P:Program):Nat->TypeId->C->Prop
 |0,_,_=>False
 |d+1,t,c=>match P.underlying t with
  |some .bool=> ∃b,c= .v (.bool b)
  |some (.int k)=> ∃z,c= .v (.int k z)/\(Lit.int k z).wf=true
  |some .string=> ∃s:ByteArray,c= .v (.string s)/\s.size<=maxLen
  |some (.slice e)=>c= .nl\/ ∃(ls:List TypeId) (n:Nat) (cs:List C),c= .sl n cs/\L3 P d e=some ls/\n<=maxLen/\cs.length=n*ls.length/\ ∀(i j:Nat) (l:TypeId),i<n->ls[j]? =some l-> ∃y,cs[i*ls.length+j]? =some y/\M4 P d l y
  |_=>False
def okT (P:Program):Nat->TypeId->Bool
 |0,_=>false
 |d+1,t=>match P.underlying t with
  |some .bool=>true
  |some (.int _)=>true
  |some .string=>true
  |some (.slice e)=>match L3 P d e with
   |some ls=>Zx3 ls.length (P.cellsOf e)&&Nat.blt 0 ls.length&&ls.all (okT P d)
   |none=>false
  |_=>false
section
variable {H:Type} {enc:TypeId×Value->H} {P:Program} {w:World} {base:Nat} {spare:Nat->Bool} {held:Bool}
theorem Zo9: ∀(d:Nat) (t:TypeId),okT P d t=true-> ∀fuel u x,DataW.trod enc P w base spare held fuel t [u]=some x-> ∃c,RC w (λb _=>b<w.heap.size) c u/\M4 P d t c
 |0,t,h=>by cases h
 |d+1,t,h=>by
  intro fuel u x hx;have hx0:=hx;cases fuel with
  |zero=>cases hx
  |succ n=>
  rw[DataW.trod_step]at hx;unfold okT at h;split at h
  ·rename_i ht;unfold DataW.trodStep at hx;rw[ht]at hx;cases u<;>first|cases hx|skip
   rename_i b;exact⟨.v (.bool b), .v rfl,by unfold M4;rw[ht];exact⟨b,rfl⟩⟩
  ·rename_i k ht;unfold DataW.trodStep at hx;rw[ht]at hx;cases u<;>first|cases hx|skip
   rename_i k' z;simp only at hx;split at hx
   ·rename_i hk;obtain⟨rfl,hw⟩:=hk;exact⟨.v (.int _ z), .v rfl,by unfold M4;rw[ht];exact⟨z,rfl,hw⟩⟩
   ·cases hx
  ·rename_i ht;unfold DataW.trodStep at hx;rw[ht]at hx;cases u<;>first|cases hx|skip
   rename_i b;simp only at hx;split at hx
   ·rename_i hk;exact⟨.v (.string b), .v rfl,by unfold M4;rw[ht];exact⟨b,rfl,hk⟩⟩
   ·cases hx
  ·rename_i e ht;split at h
   ·rename_i ls hls;simp only[Zs1]at h;obtain⟨⟨h1,h2⟩,h3⟩:=h;have h1:=Zs0 h1;have h2:0<ls.length:=Zs5 h2;unfold M4;simp only[ht];rcases Go.Deep.open_slice ht hx0 with⟨hcs,_⟩|⟨a,len,cap,m,n',D,Pl,hcs,hb,hlc,hcm,hm,_,hrow⟩
    ·injection hcs with hcs
     subst hcs;exact⟨.nl, .nl, .inl rfl⟩
    ·injection hcs with hcs
     subst hcs;have hlm:len<=m:=by rw[hm];split<;>omega
     by_cases h0:len=0
     ·subst h0;exact⟨.sl 0 [], .sl0 hcm, .inr ⟨ls,0,[],rfl,hls,Zt4 _,by simp,λi j l hi=>by omega⟩⟩
     ·have hq: ∀q,q<len*ls.length-> ∃c v,w.cell? (a.add q)=some v/\RC w (λb _=>b<w.heap.size) c v/\ ∃l,ls[q%ls.length]? =some l/\M4 P d l c:=λq hq=>by
       have hi:q/ls.length<len:=Nat.div_lt_of_lt_mul (by rw[Zxt];exact hq);have hj:q%ls.length<ls.length:=Zxs _ h2;obtain⟨cs',c1,c2⟩:=hrow (q/ls.length) (by omega);obtain⟨_,e2,e3⟩:=World.cells?_some c1;have hL:=Li d e ls hls _ _ _ c2;have hjc:q%ls.length<cs'.length:=by rw[hL.1];exact hj
       obtain⟨f',x',hx'⟩:=hL.2 _ _ _ (Zs6 hj) (Zs6 hjc);obtain⟨c,hc1,hc2⟩:=Zo9 d _ (Ztk.1 h3 _ (Zt6 hj)) _ _ _ hx';refine⟨c,cs'[q%ls.length], ?_,hc1,_,Zs6 hj,hc2⟩;have e4:=e3 (q%ls.length) (by rw[<-h1];exact hj);rw[Go.Deep.add_add,<-h1,Zxt,Nat.div_add_mod,Zs6 hjc]at e4;exact e4
      have hq': ∀q:{q//q<len*ls.length},∃p:C×Value,w.cell? (a.add q.1)=some p.2/\RC w (λb _=>b<w.heap.size) p.1 p.2/\ ∃l,ls[q.1%ls.length]? =some l/\M4 P d l p.1:=λq=>by
       obtain⟨c,v,hh⟩:=hq q.1 q.2;exact⟨(c,v),hh⟩
      obtain⟨F,hF⟩:=Classical.axiomOfChoice hq';have hpos:0<len*ls.length:=Zxx (by omega) h2;have hspot:=World.cell?_spot (hF ⟨0,hpos⟩).1;have hadd0:a.add 0=a:=by unfold Addr.add;simp
      rw[hadd0]at hspot;have hadd: ∀q,a.add q=⟨a.block,a.off+q,none⟩:=λq=>by
       obtain⟨b,o,sp⟩:=a;simp only at hspot;subst hspot;unfold Addr.add;by_cases h:q=0<;>simp[h]
      let cs:List C:=(Zyf (len*ls.length)).map λq=>if hh:q<len*ls.length then(F ⟨q,hh⟩).1 else .nl
      have hcs: ∀q (hh:q<len*ls.length),cs[q]? =some (F ⟨q,hh⟩).1:=λq hh=>by
       show((Zyf (len*ls.length)).map _)[q]? =_;rw[Ztg,Zw3 hh];simp[hh]
      have hcl:cs.length=len*ls.length:=by show((Zyf (len*ls.length)).map _).length=_;simp
      have ha:a=⟨a.block,a.off,none⟩:=by
       have:=hadd 0;rw[hadd0,Zug]at this;exact this
      refine⟨.sl len cs, ?_, .inr ⟨ls,len,cs,rfl,hls,by omega,hcl,λi j l hi hj=> ?_⟩⟩
      ·rw[ha];refine RC.sl (us:=λq=>if hh:q<len*ls.length then(F ⟨q,hh⟩).2 else .bool false) hlc hcm (λq c hc=> ?_) (λq c hc=> ?_)
       ·have hh:q<len*ls.length:=by rw[<-hcl];exact(Zs8.1 hc).1
        have e:=(hF ⟨q,hh⟩).1;rw[hadd q]at e;rw[dif_pos hh];exact⟨e,World.block_lt_of_cell? w ⟨a.block,a.off+q,none⟩ e⟩
       ·have hh:q<len*ls.length:=by rw[<-hcl];exact(Zs8.1 hc).1
        rw[hcs q hh]at hc;injection hc with hc
        subst hc;rw[dif_pos hh];exact(hF ⟨q,hh⟩).2.1
      ·have hjl:j<ls.length:=(Zs8.1 hj).1;have hh:i*ls.length+j<len*ls.length:=by
        have:=Zup ls.length (show i+1<=len by omega);rw[Zt9]at this;omega
       refine⟨_,hcs _ hh, ?_⟩;obtain⟨l',e1,e2⟩:=(hF ⟨_,hh⟩).2.2;have e3:(i*ls.length+j)%ls.length=j:=by rw[Zxt,Nat.mul_add_mod,Zxn hjl]
       simp only[e3]at e1;rw[hj]at e1;injection e1 with e1
       subst e1;exact e2
   ·cases h
  ·cases h
theorem Fv {A:Type} {n:Nat} {Q:Nat->A->Prop} (h: ∀i,i<n-> ∃c,Q i c): ∃ys:List A,ys.length=n/\ ∀i y,ys[i]? =some y->Q i y:=by
 induction n with
 |zero=>exact⟨[],rfl,λi y h=>by simp at h⟩
 |succ n ih=>
  obtain⟨ys,h1,h2⟩:=ih λi hi=>h i (by omega);obtain⟨c,hc⟩:=h n (by omega);refine⟨ys++[c],by simp[h1],λi y hy=> ?_⟩;by_cases hi:i<ys.length
  ·rw[Zt2 hi]at hy;exact h2 i y hy
  ·rw[Zul (by omega)]at hy;have:i=n:=by
    have:=(Zs8.1 hy).1;simp at this;omega
   subst this;rw[h1,Zv8]at hy;simp at hy;subst hy;exact hc
theorem Zq1 {d:Nat} {ls:List TypeId} (hok:ls.all (okT P d)=true) {cs:List Value} (h:Leaves enc P w base spare held ls cs): ∃ys:List C,RCs w (λb _=>b<w.heap.size) ys cs/\ys.length=ls.length/\ ∀(i:Nat) (l:TypeId) (y:C),ls[i]? =some l->ys[i]? =some y->M4 P d l y:=by
 obtain⟨ys,h1,h2⟩:=Fv (n:=ls.length) (Q:=λi c=> ∀l u,ls[i]? =some l->cs[i]? =some u->RC w (λb _=>b<w.heap.size) c u/\M4 P d l c) λi hi=>by
  have hc:i<cs.length:=by rw[h.1];exact hi
  obtain⟨f,x,hx⟩:=h.2 _ _ _ (Zs6 hi) (Zs6 hc);obtain⟨c,c1,c2⟩:=Zo9 d _ (Ztk.1 hok _ (Zt6 hi)) _ _ _ hx;refine⟨c,λl u hl hu=> ?_⟩;rw[Zs6 hi]at hl;rw[Zs6 hc]at hu;injection hl with hl
  injection hu with hu
  subst hl hu;exact⟨c1,c2⟩
 refine⟨ys,⟨by rw[h1,h.1],λi c u hc hu=> ?_⟩,h1,λi l y hl hy=> ?_⟩
 ·have hi:i<ls.length:=by rw[<-h1];exact(Zs8.1 hc).1
  exact(h2 i c hc _ _ (Zs6 hi) hu).1
 ·have hi:=(Zs8.1 hl).1;have hc:i<cs.length:=by rw[h.1];exact hi
  exact(h2 i y hy _ _ hl (Zs6 hc)).2
theorem Zi8 {d d':Nat} {t:TypeId} {ls:List TypeId} (hl:L3 P d' t=some ls) (hok:ls.all (okT P d)=true) {fuel:Nat} {cs:List Value} {x:DataW H×List MemPlace} (h:DataW.trod enc P w base spare held fuel t cs=some x):
  ∃ys:List C,RCs w (λb _=>b<w.heap.size) ys cs/\ys.length=ls.length/\ ∀(i:Nat) (l:TypeId) (y:C),ls[i]? =some l->ys[i]? =some y->M4 P d l y:=
 Zq1 hok (Li d' t ls hl _ _ _ h)
end
end Go.PM
namespace Go.Proofs.YtjmempcalaliiaaGreatDoor
open Go Go.PM Go.Grid
theorem okWide_agg {P:Program} {w:World} {r:Reach} {b:Nat} {t:TypeId} {v:Value} {fs:Array Field} (ht:P.underlying t=some (.struct fs)) (h:Value.okWide P w r b t v): ∃cs:Array Value,v= .agg cs:=by
 simp only[Value.okWide,ht]at h;obtain⟨cs,rfl,_⟩:=h;exact⟨cs,rfl⟩
theorem Zct {d:Nat} {c:C} (h:M4 Tryz.prog (d+1) 3 c): ∃z,c= .v (.int .i64 z):=by
 unfold M4 at h;rw[show Tryz.prog.underlying 3=some (.int .i64) by kernel_rfl]at h;obtain⟨z,h,_⟩:=h;exact⟨z,h⟩
theorem Zpa:L3 Tryz.prog 3 3=some [3]:=by kernel_rfl
section
variable {H:Type} {enc:TypeId×Value->H} {w:World} {base:Nat} {spare:Nat->Bool} {held:Bool} {fuel:Nat} {cs:List Value} {x:DataW H×List MemPlace}
theorem Zq2:L3 Tryz.prog 3 28=some [3,3,3]:=by kernel_rfl
theorem Zsy:([3,3,3]:List TypeId).all (okT Tryz.prog 4)=true:=by kernel_rfl
set_option maxRecDepth 10000 in
theorem open_scheme (h:DataW.trod enc Tryz.prog w base spare held fuel 28 cs=some x): ∃a b c:Int,RCs w (λb _=>b<w.heap.size) (scC a b c) cs:=by
 obtain⟨ys,h1,h2,h3⟩:=Zi8 Zq2 Zsy h
 match ys,h2 with
 | [y0,y1,y2],_=>
  obtain⟨a,rfl⟩:=Zct (h3 0 _ y0 rfl rfl);obtain⟨b,rfl⟩:=Zct (h3 1 _ y1 rfl rfl);obtain⟨c,rfl⟩:=Zct (h3 2 _ y2 rfl rfl);exact⟨a,b,c,h1⟩
end
end Go.Proofs.YtjmempcalaliiaaGreatDoor
namespace Go.Proofs.YtjmempcalaliiaaGreatDoor
open Go Go.PM Go.Grid
section
variable {H:Type} {enc:TypeId×Value->H} {w:World} {base:Nat} {spare:Nat->Bool} {held:Bool} {fuel:Nat} {cs:List Value} {x:DataW H×List MemPlace}
theorem Zq3:L3 Tryz.prog 3 34=some [30,30]:=by kernel_rfl
theorem Zsz:([30,30]:List TypeId).all (okT Tryz.prog 4)=true:=by kernel_rfl
end
end Go.Proofs.YtjmempcalaliiaaGreatDoor
namespace Go.Proofs.YtjmempcalaliiaaGreatDoor
open Go Go.PM Go.Grid
def isLw (c:C) (l:List Int):Prop:=isL c l/\wid (-9223372036854775808) 9223372036854775807 l
theorem Zpb {d:Nat} {c:C} (h:M4 Tryz.prog (d+1) 3 c): ∃z,c= .v (.int .i64 z)/\ -9223372036854775808<=z/\z<=9223372036854775807:=by
 unfold M4 at h;rw[show Tryz.prog.underlying 3=some (.int .i64) by kernel_rfl]at h;obtain⟨z,h,hw⟩:=h;exact⟨z,h,wf_i64 hw⟩
set_option maxRecDepth 10000 in
theorem Zfk {c:C} (h:M4 Tryz.prog 4 30 c): ∃l:List Int,isLw c l:=by
 unfold M4 at h;rw[show Tryz.prog.underlying 30=some (.slice 3) by kernel_rfl]at h;rcases h with rfl|⟨ls,n,cs,rfl,hls,hn,hl,hr⟩
 ·exact⟨[],Rp,λv hv=>by cases hv⟩
 ·rw[Zpa]at hls;injection hls with hls
  subst hls;replace hl:cs.length=n:=by rw[hl];exact Zta n
  obtain⟨l,h1,h2⟩:=Fv (Q:=λi (x:Int)=>cs[i]? =some (.v (.int .i64 x))/\(-9223372036854775808<=x/\x<=9223372036854775807)) (n:=n) λi hi=>by
   obtain⟨y,e,f⟩:=hr i 0 _ hi rfl;obtain⟨z,rfl,hz⟩:=Zpb f;exact⟨z,by rw[<-e];congr 1;exact(Zta i).symm,hz⟩
  have hcs:cs=ints l:=by
   refine List.ext_getElem? λi=> ?_;by_cases hi:i<n
   ·rw[(h2 i l[i] (Zs6 (by omega))).1];show _=(l.map _)[i]?;rw[Ztg,Zs6 (by omega)];rfl
   ·rw[Zux (by omega),Zux (by rw[Ze];omega)]
  rw[hcs,<-h1];refine⟨l,X3 l,λv hv=> ?_⟩;obtain⟨i,hi,rfl⟩:=Zt7.1 hv;exact(h2 i l[i] (Zs6 hi)).2
section
variable {H:Type} {enc:TypeId×Value->H} {w:World} {base:Nat} {spare:Nat->Bool} {held:Bool} {fuel:Nat} {cs:List Value} {x:DataW H×List MemPlace}
set_option maxRecDepth 10000 in
theorem open_changew (h:DataW.trod enc Tryz.prog w base spare held fuel 34 cs=some x): ∃(c1 c2:C) (dp fw:List Int),RCs w (λb _=>b<w.heap.size) [c1,c2] cs/\isLw c1 dp/\isLw c2 fw:=by
 obtain⟨ys,h1,h2,h3⟩:=Zi8 Zq3 Zsz h
 match ys,h2 with
 | [y1,y2],_=>
  obtain⟨dp,h5⟩:=Zfk (h3 0 _ y1 rfl rfl);obtain⟨fw,h6⟩:=Zfk (h3 1 _ y2 rfl rfl);exact⟨y1,y2,dp,fw,h1,h5,h6⟩
end
end Go.Proofs.YtjmempcalaliiaaGreatDoor
