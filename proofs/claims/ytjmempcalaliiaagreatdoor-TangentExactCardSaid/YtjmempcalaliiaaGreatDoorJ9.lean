/- Parts put together: Pc, Pd, Fi, Pe, Pf. -/
import Derived.Test.YtjmempcalaliiaaGreatDoorJ8
set_option linter.unusedSimpArgs false
set_option linter.unusedVariables false
/- The linearised step: what Apply comes to. -/
namespace Go.Proofs.YtjmempcalaliiaaGreatDoor
open Go Go.PM Go.Grid
attribute [local congr] Zs Zt Zu Yg Zv Zw Yh Yi Yj Yk Zx Zy Yl Xg Xh Xi Xj Xk Xm Xn Xo Xp Xl Z0 Z1 Xq Z2 Z3 Zm Z4 Zz
theorem tAL_at (a b c:Nat) (dg br hd hf:List Int) (E:List (Int×Int)) {j:Nat} (h:j<E.length):at0 (tAL a b c dg br hd hf E E.length) j=tAm a b c dg br hd hf E j:=Xe _ _ h
theorem tFL_snoc (a b c:Nat) (hd hf:List Int) (E:List (Int×Int)) (k:Nat):tFL a b c hd hf E (k+1)=tFL a b c hd hf E k++[tF a b c hd hf E k]:=by simp[tFL,List.range_succ]
theorem Mx {m:Int} {l:List Int} (h:wid (-m) m l) (hm:0<=m) (i:Nat): -m<=at0 l i/\at0 l i<=m:=Z5 h (by omega) i
theorem fdivA (a b c:Nat):Int.fdiv (sc a b c:Int) (2^a)=scA a b c:=by rw[sc_aI];exact Mw _ _
theorem fdivB (a b c:Nat):Int.fdiv (sc a b c:Int) (2^b)=scB a b c:=by rw[sc_bI];exact Mw _ _
theorem fdivC (a b c:Nat) (hd hf:List Int) (E:List (Int×Int)) (j:Nat):Int.fdiv (tF a b c hd hf E j) (2^c)=tG a b hd hf E j:=by rw[tF_eq];exact Mw _ _
theorem tD_way {a b c:Nat} (ha:a<=4) (hb:b<=4) (hc:c<=4) {n:Nat} (hn:n=1\/n=2) {br hd hf:List Int} {m:Int} (hm:0<=m) (h0:hd.length=(nodes n).length) (h1: ∀i,-m<=at0 hd i/\at0 hd i<=m) (h2: ∀i,-m<=at0 hf i/\at0 hf i<=m) (j k:Nat):
  -(145920*m)<=at0 (movS (hd.map λx=>(sc a b c:Int)*x) (((edg n).zip (tAL a b c (degS (nodes n).length (edg n)) br hd hf (edg n) (edg n).length)).take j)) k/\at0 (movS (hd.map λx=>(sc a b c:Int)*x) (((edg n).zip (tAL a b c (degS (nodes n).length (edg n)) br hd hf (edg n) (edg n).length)).take j)) k<=145920*m:=by
 have s1:=sc_bd ha hb hc;by_cases hk:k<(nodes n).length
 ·have e:=Pj (((edg n).zip (tAL a b c (degS (nodes n).length (edg n)) br hd hf (edg n) (edg n).length)).take j) (hd.map λx=>(sc a b c:Int)*x) k (by rw[List.length_map,h0];exact hk);have m0:=at0_map (λx=>(sc a b c:Int)*x) (Int.mul_zero _) hd k;have m1:=Un (p:=(sc a b c:Int)) (P:=7680) (by omega) (h1 k) hm;have m2:=net_abs (m:=23040*m) (by omega) k (((edg n).zip (tAL a b c (degS (nodes n).length (edg n)) br hd hf (edg n) (edg n).length)).take j) (λp hp=>by
   have hp:=List.mem_of_mem_take hp;have hp2:=(List.of_mem_zip hp).2;unfold tAL at hp2;obtain⟨i,hi,hq⟩:=List.mem_map.1 hp2;rw[<-hq];exact tAm_bd ha hb hc hn hm h1 h2 (List.mem_range.1 hi))
  rw[zip_take_fst _ _ (K9 ..)]at m2;have m3:=cntE_take k (edg n) j;have m4:=cntE_nn k ((edg n).take j);have m5:=degS_cnt (edg n) hk;have m6:=Vt hn hk;have m7:23040*m*cntE ((edg n).take j) k<=23040*m*6:=Int.mul_le_mul_of_nonneg_left (by omega) (by omega);rw[e,m0];omega
 ·have:at0 (movS (hd.map λx=>(sc a b c:Int)*x) (((edg n).zip (tAL a b c (degS (nodes n).length (edg n)) br hd hf (edg n) (edg n).length)).take j)) k=0:=by
   unfold at0;rw[List.getD_eq_getElem?_getD,List.getElem?_eq_none (by rw[U9,List.length_map,h0];omega)];rfl
  rw[this];omega
section
variable (fu d:Nat) (hfu:18446744073709551616<=fu)
include hfu
set_option maxHeartbeats 16000000 in
theorem sp_ApplyT (n:Nat) (hn:n=1\/n=2) (a b c:Nat) (ha:1<=a/\a<=4) (hb:1<=b/\b<=4) (hc:1<=c/\c<=4) (br hd hf:List Int) (l1:br.length=(edg n).length) (l2:hd.length=(nodes n).length) (l3:hf.length=(edg n).length) (w1:wid (-1) 1 br) (M:Int) (hM:0<=M/\M<=1099511627776) (w2:wid (-M) M hd) (w3:wid (-M) M hf):
  cl fu (d+12) fn_tangent_Apply [V.agg [C.v (.int .i64 (a:Int)),C.v (.int .i64 (b:Int)),C.v (.int .i64 (c:Int))],I n,V.c (C.sl br.length (ints br)),V.agg [C.sl hd.length (ints hd),C.sl hf.length (ints hf)]] []=OK (V.tup [V.agg [C.sl hd.length (ints (tDL a b c (degS (nodes n).length (edg n)) br hd hf (edg n))),C.sl (edg n).length (ints (tFL a b c hd hf (edg n) (edg n).length))],I 0]):=by
 have h:=Mu hn;have hNl:=Z9 h;have heL:=Xz h;have e1:=Jd fu (d+4) hfu a b c ha hb hc;have e2:=sp_CheckT fu (d+1) hfu n h br hd hf l1 l2 l3 w1 (T8 w2 (by omega) (by omega)) (T8 w3 (by omega) (by omega));have e3:=K2 fu d n h;have e4:=Xu fu (d+2) hfu n h;have hin:=V9 h;have h1:=Mx w2 hM.1;have h2:=Mx w3 hM.1;have hway:=λj k=>tD_way (br:=br) ha.2 hb.2 hc.2 hn hM.1 l2 h1 h2 j k;have hAb:=λ{j:Nat} (hj:j<(edg n).length)=>tAm_bd (br:=br) ha.2 hb.2 hc.2 hn hM.1 h1 h2 hj;have hFb:=λj=>tF_bd ha.2 hb.2 hc.2 (E:=edg n) hM.1 h1 h2 j;have hd56:=λ{k:Nat} (hk:k<(nodes n).length)=>Vt hn hk;have hs1:=sc_bd ha.2 hb.2 hc.2;have hs2:=scA_le a b c;have hs3:=scB_le a b c;have hAL:=λ{j:Nat} (hj:j<(edg n).length)=>tAL_at a b c (degS (nodes n).length (edg n)) br hd hf (edg n) hj;have hAl:=K9 a b c (degS (nodes n).length (edg n)) br hd hf (edg n) (edg n).length;have hdl:=Vb (nodes n).length (edg n);have hdiv:=λ{v:Int} (hv:v=5\/v=6)=>Jb a b c hv;have fA:=fdivA a b c;have fB:=fdivB a b c;have fC:=λj=>fdivC a b c hd hf (edg n) j;have ma:min a (IntKind.bits .i64)=a:=by show min a 64=a;omega
 have mb:min b (IntKind.bits .i64)=b:=by show min b 64=b;omega
 have mc:min c (IntKind.bits .i64)=c:=by show min c 64=c;omega
 have hFl:=λk=>K8 a b c hd hf (edg n) k;have hFs:=λk=>tFL_snoc a b c hd hf (edg n) k;have hDl:(tDL a b c (degS (nodes n).length (edg n)) br hd hf (edg n)).length=hd.length:=Ja ..;have hDD:tDL a b c (degS (nodes n).length (edg n)) br hd hf (edg n)=movS (hd.map λx=>(sc a b c:Int)*x) ((edg n).zip (tAL a b c (degS (nodes n).length (edg n)) br hd hf (edg n) (edg n).length)):=rfl;have htF: ∀j,tF a b c hd hf (edg n) j=((sc a b c:Int)-scA a b c)*at0 hf j+(scB a b c:Int)*(at0 hd ((edg n).getD j (0,0)).1.toNat-at0 hd ((edg n).getD j (0,0)).2.toNat):=λj=>rfl;have htA: ∀j,tAm a b c (degS (nodes n).length (edg n)) br hd hf (edg n) j=if at0 br j=1 then Int.tdiv (sc a b c) (at0 (degS (nodes n).length (edg n)) ((edg n).getD j (0,0)).1.toNat)*at0 hd ((edg n).getD j (0,0)).1.toNat else if at0 br j= -1 then -(Int.tdiv (sc a b c) (at0 (degS (nodes n).length (edg n)) ((edg n).getD j (0,0)).2.toNat)*at0 hd ((edg n).getD j (0,0)).2.toNat)else tG a b hd hf (edg n) j:=λj=>rfl
 rw[hDD];rw[hDD]at hDl;clear hDD;generalize tAL a b c (degS (nodes n).length (edg n)) br hd hf (edg n) (edg n).length=AL at*
 generalize hdg:degS (nodes n).length (edg n)=dg at*
 generalize hE:edg n=E at*
 generalize (nodes n).length=N at*
 have hML:=λP=>U9 P (hd.map λx=>(sc a b c:Int)*x);rw[eq_tangent_Apply];simp(disch:=omega)only[Zc,QM,QD,e1,e2,e3,e4];rw[Zh (λj:Nat=>(((j:Nat):Int),(C.nl,C.nl,()),(ints ((hd.take j).map λx=>(sc a b c:Int)*x),[],()),())) 0 (((hd.length:Nat):Int),(C.nl,C.nl,()),(ints (hd.map λx=>(sc a b c:Int)*x),[],()),()) hd.length ?_ ?_ ?_ (by omega)]
 rotate_left
 ·rfl
 ·intro j hj;have i1:=Zk hd hj;have b1:=Un (p:=(sc a b c:Int)) (P:=7680) (by omega) (h1 j) hM.1;have hsn:ints ((hd.take j).map λx=>(sc a b c:Int)*x)++[C.v (.int .i64 ((sc a b c:Int)*at0 hd j))]=ints ((hd.take (j+1)).map λx=>(sc a b c:Int)*x):=by
   rw[List.take_succ_eq_append_getElem hj,List.map_append,Yu,Uc hj];rfl
  generalize hz:(sc a b c:Int)*at0 hd j=z at*
  have hlt:((hd.take j).map λx=>(sc a b c:Int)*x).length=j:=by rw[List.length_map,List.length_take];omega
  have hlt1:((hd.take (j+1)).map λx=>(sc a b c:Int)*x).length=j+1:=by rw[List.length_map,List.length_take];omega
  simp(disch:=omega)only[Zc,QM,QD,Int.toNat_natCast,Nat.mul_one,i1];rw[hz];simp(disch:=omega)only[Zc,QM,QD,Zf,hlt,hlt1,Nat.div_one,Nat.mul_one,hsn,List.length_append,List.length_cons,List.length_nil,Nat.zero_add];rfl
 ·rw[List.take_length];simp(disch:=omega)only[Zc,QM,QD,Zf,List.length_map,Nat.div_one,Nat.mul_one,List.length_nil]
 have hl0:(hd.map λx=>(sc a b c:Int)*x).length=hd.length:=List.length_map ..;simp(disch:=omega)only[Zc,QM,QD,Zf,hl0,Nat.div_one,Nat.mul_one,List.length_nil];rw[Zh (λj:Nat=>(((j:Nat):Int),(C.nl,C.nl,()),(ints (movS (hd.map λx=>(sc a b c:Int)*x) ((E.zip AL).take j)),ints (tFL a b c hd hf E j),()),())) 0 (((E.length:Nat):Int),(C.nl,C.nl,()),(ints (movS (hd.map λx=>(sc a b c:Int)*x) (E.zip AL)),ints (tFL a b c hd hf E E.length),()),()) E.length ?_ ?_ ?_ (by omega)]
 ·have htk1:List.take hd.length (ints (movS (hd.map λx=>(sc a b c:Int)*x) (E.zip AL)))=ints (movS (hd.map λx=>(sc a b c:Int)*x) (E.zip AL)):=List.take_of_length_le (by rw[Zf,hDl];exact Nat.le_refl _);have htk2:List.take E.length (ints (tFL a b c hd hf E E.length))=ints (tFL a b c hd hf E E.length):=List.take_of_length_le (by rw[Zf,hFl];exact Nat.le_refl _);simp(disch:=omega)only[Zc,QM,QD,Zf,hDl,hFl,Nat.div_one,Nat.mul_one,Nat.zero_add,htk1,htk2]
 ·rfl
 ·intro j hj;have hz:j<(E.zip AL).length:=by rw[List.length_zip];omega
  have hin:=hin E[j] (List.getElem_mem hj);have hjf:j<hf.length:=by omega
  have hjb:j<br.length:=by omega
  have i3:=Zk hf hjf;have i4:=Zk br hjb;have bj:=Z5 w1 (by omega) j;have hst:movS (hd.map λx=>(sc a b c:Int)*x) ((E.zip AL).take (j+1))=mv1 (movS (hd.map λx=>(sc a b c:Int)*x) ((E.zip AL).take j)) E[j] (-(AL[j]'(by omega))) (AL[j]'(by omega)):=by rw[List.take_succ_eq_append_getElem hz,movS_snoc,List.getElem_zip]
  have hALj:=hAL hj;rw[Uc (by omega:j<AL.length)]at hALj;rw[hALj]at hst;have hAb:=hAb hj;have hFb:=hFb j;have htF:=htF j;have htA:=htA j;have hFs:=hFs j;have hFlj:=hFl j;have fC:=fC j;rw[Q1 E hj]at htF htA;have hway:=hway j;have hD:=hML ((E.zip AL).take j);rw[hst,hFs];generalize tFL a b c hd hf E j=FL at*
  generalize movS (hd.map λx=>(sc a b c:Int)*x) ((E.zip AL).take j)=D at*
  generalize hee:E[j]=e at*
  obtain⟨ea,eb⟩:=e;simp only at hin htF htA;obtain⟨x,rfl⟩: ∃x:Nat,ea=x:=⟨ea.toNat,by omega⟩;obtain⟨y,rfl⟩: ∃y:Nat,eb=y:=⟨eb.toNat,by omega⟩;rw[Int.toNat_natCast,Int.toNat_natCast]at htF htA;have hea:=R6 Yb hj;rw[hee,show edC ((x:Int),(y:Int))=[C.v (.int .i64 (x:Int)),C.v (.int .i64 (y:Int))] from rfl]at hea;have i5:=Zk hd (i:=x) (by omega);have i6:=Zk hd (i:=y) (by omega);have i7:=Zk dg (i:=x) (by omega);have i8:=Zk dg (i:=y) (by omega);have bx:=h1 x;have by':=h1 y;have bf:=h2 j;have dx:=hd56 (k:=x) (by omega);have dy:=hd56 (k:=y) (by omega);have qx:=hdiv dx;have qy:=hdiv dy;have p1:=Un (p:=(sc a b c:Int)-scA a b c) (P:=7680) (by omega) bf hM.1;have p2:=Un (p:=(scB a b c:Int)) (P:=7680) (x:=at0 hd x-at0 hd y) (m:=2*M) (by omega) (by omega) (by omega);have p3:=Un (P:=7680) ⟨qx.2.1,by omega⟩ bx hM.1;have p4:=Un (P:=7680) ⟨qy.2.1,by omega⟩ by' hM.1;have d1:=Zk D (i:=x) (by omega);have hm:mv1 D ((x:Int),(y:Int)) (-(tAm a b c dg br hd hf E j)) (tAm a b c dg br hd hf E j)=bump1 (bump1 D x (-(tAm a b c dg br hd hf E j))) y (tAm a b c dg br hd hf E j):=by unfold mv1;rw[Int.toNat_natCast,Int.toNat_natCast]
  rw[hm];generalize tAm a b c dg br hd hf E j=A at*
  generalize tF a b c hd hf E j=F at*
  generalize tG a b hd hf E j=G at*
  have b1:=hway x;have b2:=hway y;have pb1:=Qk D (i:=x) (by omega) (-A);have hB:=Yo D x (-A);have hBa:=T9 D x (-A) y;have b3: -(145920*M)-23040*M<=at0 (bump1 D x (-A)) y/\at0 (bump1 D x (-A)) y<=145920*M+23040*M:=by
   split at hBa<;>omega
  generalize bump1 D x (-A)=D1 at*
  have d2:=Zk D1 (i:=y) (by omega);have pb2:=Qk D1 (i:=y) (by omega) A;have hB2:=Yo D1 y A;generalize bump1 D1 y A=D2 at*
  have e0:at0 D x-A=at0 D x+ -A:=by omega
  generalize hP1:((sc a b c:Int)-scA a b c)*at0 hf j=P1 at*
  generalize hP2:(scB a b c:Int)*(at0 hd x-at0 hd y)=P2 at*
  generalize hQx:Int.tdiv (sc a b c:Int) (at0 dg x)*at0 hd x=Qx at*
  generalize hQy:Int.tdiv (sc a b c:Int) (at0 dg y)*at0 hd y=Qy at*
  rcases(show at0 br j=1\/at0 br j= -1\/at0 br j=0 by omega)with q|q|q
  ·rw[q]at htA i4;rw[if_pos rfl]at htA;subst htA;simp(disch:=omega)only[Zc,QM,QD,List.cons_append,List.nil_append,Int.toNat_natCast,Nat.mul_one,Nat.div_one,Nat.zero_add,hea,i3,i5,i6,fA,fB,ma,mb,mc,hP1,hP2,<-htF,i4,i7,i8,hQx,hQy,fC,Zf,hD,hl0,hFlj,d1,e0,pb1,hB,d2,pb2,hB2,Yu,List.length_append,List.length_cons,List.length_nil];rfl
  ·rw[q]at htA i4;rw[if_neg (by decide),if_pos rfl]at htA;have n0:0-Qy=A:=by omega
   simp(disch:=omega)only[Zc,QM,QD,List.cons_append,List.nil_append,Int.toNat_natCast,Nat.mul_one,Nat.div_one,Nat.zero_add,hea,i3,i5,i6,fA,fB,ma,mb,mc,hP1,hP2,<-htF,i4,i7,i8,hQx,hQy,fC,Zf,hD,hl0,hFlj,d1,e0,pb1,hB,d2,pb2,hB2,Yu,List.length_append,List.length_cons,List.length_nil,n0];rfl
  ·rw[q]at htA i4;rw[if_neg (by decide),if_neg (by decide)]at htA;subst htA;simp(disch:=omega)only[Zc,QM,QD,List.cons_append,List.nil_append,Int.toNat_natCast,Nat.mul_one,Nat.div_one,Nat.zero_add,hea,i3,i5,i6,fA,fB,ma,mb,mc,hP1,hP2,<-htF,i4,i7,i8,hQx,hQy,fC,Zf,hD,hl0,hFlj,d1,e0,pb1,hB,d2,pb2,hB2,Yu,List.length_append,List.length_cons,List.length_nil];rfl
 ·rw[List.take_of_length_le (l:=E.zip AL) (by rw[List.length_zip];omega)];simp(disch:=omega)only[Zc,QM,QD,Zf,hDl,hFl,Nat.div_one,Nat.mul_one]
end
end Go.Proofs.YtjmempcalaliiaaGreatDoor
/- TangentLinear answers true. -/
namespace Go.Proofs.YtjmempcalaliiaaGreatDoor
open Go Go.PM Go.Grid
attribute [local congr] Zs Zt Zu Yg Zv Zw Yh Yi Yj Yk Zx Zy Yl Xg Xh Xi Xj Xk Xm Xn Xo Xp Xl Z0 Z1 Xq Z2 Z3 Zm Z4 Zz
def linK (k:Int) (g h:List Int) (m:Nat):List Int:=(List.range m).map λi=>at0 g i+k*at0 h i
theorem Z8 (k:Int) (g h:List Int) (m:Nat):(linK k g h m).length=m:=by simp[linK]
theorem linK_snoc (k:Int) (g h:List Int) (m:Nat):linK k g h (m+1)=linK k g h m++[at0 g m+k*at0 h m]:=by simp[linK,List.range_succ]
theorem at0_out (l:List Int) {i:Nat} (h:l.length<=i):at0 l i=0:=by
 unfold at0;rw[List.getD_eq_getElem?_getD,List.getElem?_eq_none h];rfl
theorem linK_at {k:Int} {g h:List Int} {m:Nat} (hg:g.length=m) (hh:h.length=m) (i:Nat):at0 (linK k g h m) i=at0 g i+k*at0 h i:=by
 by_cases hi:i<m
 ·exact Xe _ _ hi
 ·rw[at0_out _ (by rw[Z8];omega),at0_out g (by omega),at0_out h (by omega),Int.mul_zero];rfl
theorem tDL_wid {a b c:Nat} (ha:a<=4) (hb:b<=4) (hc:c<=4) {n:Nat} (hn:n=1\/n=2) {br hd hf:List Int} {m:Int} (hm:0<=m) (h0:hd.length=(nodes n).length) (h1: ∀i,-m<=at0 hd i/\at0 hd i<=m) (h2: ∀i,-m<=at0 hf i/\at0 hf i<=m):wid (-(145920*m)) (145920*m) (tDL a b c (degS (nodes n).length (edg n)) br hd hf (edg n)):=wid_all λk _=>by
 have:=tD_way (br:=br) ha hb hc hn hm h0 h1 h2 ((edg n).zip (tAL a b c (degS (nodes n).length (edg n)) br hd hf (edg n) (edg n).length)).length k;rw[List.take_length]at this;exact this
theorem tFL_at (a b c:Nat) (hd hf:List Int) (E:List (Int×Int)) {k j:Nat} (h:j<k):at0 (tFL a b c hd hf E k) j=tF a b c hd hf E j:=Xe _ _ h
section
variable (fu d:Nat) (hfu:18446744073709551616<=fu)
include hfu
theorem sp_awake31:cl fu (d+8) fn_synopticlaw31_awake [] []=OK (B true):=by
 have e:=Jd fu d hfu 1 1 1 (by omega) (by omega) (by omega);replace e:cl fu (d+7) fn_tangent_Scale [V.agg [C.v (.int .i64 1),C.v (.int .i64 1),C.v (.int .i64 1)]] []=OK (V.tup [I 120,I 0]):=e;rw[eq_synopticlaw31_awake];simp(disch:=omega)only[Zc,QM,QD,e]
end
end Go.Proofs.YtjmempcalaliiaaGreatDoor
/- Both programs' checks, at any numbers. -/
namespace Go.Proofs.YtjmempcalaliiaaGreatDoor
open Go Go.PM Go.Grid
attribute [local congr] Zs Zt Zu Yg Zv Zw Yh Yi Yj Yk Zx Zy Yl Xg Xh Xi Xj Xk Xm Xn Xo Xp Xl Z0 Z1 Xq Z2 Z3 Zm Z4 Zz
def isSt (n:Int) (dp fw:List Int):Prop:= ∃m:Nat,n=m/\freq m/\Vst m dp fw
section
variable (fu d:Nat) (hf:18446744073709551616<=fu)
include hf
omit hf in
theorem sp_freq_bad (n:Int) (h:n<1\/8<n):cl fu (d+1) fn_mesh_Frequency [I n] []=OK (B false):=by
 rw[eq_mesh_Frequency];rcases h with h|h
 ·simp(disch:=omega)only[Zc,QM,QD]
 ·simp(disch:=omega)only[Zc,QM,QD]
omit hf in
theorem Pk (n:Int) (h:n<1\/8<n):cl fu (d+2) fn_grid_Edges [I n] []=OK (V.tup [V.c C.nl,I 1]):=by
 have e:=sp_freq_bad fu d n h;rw[eq_grid_Edges,e];simp(disch:=omega)only[Zc,QM,QD]
theorem sp_CheckG (n:Int) {c1 c2:C} {dp fw:List Int} (h1:isL c1 dp) (h2:isL c2 fw) (l1:dp.length<=1000000) (l2:fw.length<=1000000):
  (isSt n dp fw->cl fu (d+10) fn_flux_Check [V.agg [C.v (.int .i64 n),c1,c2]] []=OK (I 0))/\(¬isSt n dp fw->cl fu (d+10) fn_flux_Check [V.agg [C.v (.int .i64 n),c1,c2]] []=OK (I 1)):=by
 have o1:=Uf fu (d+4) hf dp l1 0 16777216;have o2:=Uf fu (d+4) hf fw l2 (-16777216) 16777216;by_cases hn:1<=n/\n<=8
 ·obtain⟨m,rfl⟩: ∃m:Nat,n=m:=⟨n.toNat,by omega⟩;have h:freq m:=by unfold freq;omega
  have heL:=Xz h;have hNl:=Z9 h;have e1:=Xu fu d hf m h;have e2:=U1 fu (d+7) m h;have key:cl fu (d+10) fn_flux_Check [V.agg [C.v (.int .i64 (m:Int)),c1,c2]] []=OK (I (if dp.length=(nodes m).length/\fw.length=(edg m).length/\outB 0 16777216 dp=false/\outB (-16777216) 16777216 fw=false then 0 else 1)):=by
   generalize edg m=E at*
   generalize (nodes m).length=N at*
   rw[eq_flux_Check];have n1:=h1.1;have n2:=h2.1;have s1:=λ{R:Type} (k:Nat->List C->Option R)=>h1.2 k;have s2:=λ{R:Type} (k:Nat->List C->Option R)=>h2.2 k;simp(disch:=omega)only[Zc,QM,QD,e1];rw[s1];simp(disch:=omega)only[Zc,QM,QD,e2];by_cases q1:dp.length=N
   ·simp(disch:=omega)only[Zc,QM,QD];rw[s2];simp(disch:=omega)only[Zc,QM,QD];by_cases q2:fw.length=E.length
    ·simp(disch:=omega)only[Zc,QM,QD,n1,o1];cases q3:outB 0 16777216 dp with
     |true=>
      rw[if_neg (λq=>by cases q.2.2.1)];simp(disch:=omega)only[Zc,QM,QD]
     |false=>
      simp(disch:=omega)only[Zc,QM,QD,n2,o2];cases q4:outB (-16777216) 16777216 fw with
      |true=>
       rw[if_neg (λq=>by cases q.2.2.2)];simp(disch:=omega)only[Zc,QM,QD]
      |false=>
       rw[if_pos ⟨q1,q2,by simp,by simp⟩];simp(disch:=omega)only[Zc,QM,QD]
    ·rw[if_neg (λq=>q2 q.2.1)];simp(disch:=omega)only[Zc,QM,QD]
   ·rw[if_neg (λq=>q1 q.1)];simp(disch:=omega)only[Zc,QM,QD]
  constructor
  ·rintro ⟨k,hk,hfk,hv⟩
   obtain rfl:m=k:=by omega
   rw[key,if_pos ⟨hv.dl,hv.fl,Ys.2 hv.dw,Ys.2 hv.fw⟩]
  ·intro hb;rw[key,if_neg (λq=>hb ⟨m,rfl,h,⟨q.1,q.2.1,Ys.1 q.2.2.1,Ys.1 q.2.2.2⟩⟩)]
 ·have e1:=Pk fu (d+7) n (by omega);refine⟨λ⟨m,hm,hfm,_⟩=>absurd (by unfold freq at hfm;omega) hn,λ_=> ?_⟩;rw[eq_flux_Check];simp(disch:=omega)only[Zc,QM,QD,e1]
end
end Go.Proofs.YtjmempcalaliiaaGreatDoor
/- Shifted states, clipped flows, and the step of a changed state. -/
namespace Go.Proofs.YtjmempcalaliiaaGreatDoor
open Go Go.PM Go.Grid
attribute [local congr] Zs Zt Zu Yg Zv Zw Yh Yi Yj Yk Zx Zy Yl Xg Xh Xi Xj Xk Xm Xn Xo Xp Xl Z0 Z1 Xq Z2 Z3 Zm Z4 Zz
theorem lin_set {k:Int} {g h:List Int} {j:Nat} (hj:j<g.length):(linK k g h j++g.drop j).set j (at0 g j+k*at0 h j)=linK k g h (j+1)++g.drop (j+1):=by
 rw[List.drop_eq_getElem_cons hj,linK_snoc,List.append_assoc];have hl:=Z8 k g h j;rw[List.set_append_right _ _ (by omega),hl,Nat.sub_self];rfl
theorem lin_read {k:Int} {g h:List Int} {j:Nat} (hj:j<g.length):at0 (linK k g h j++g.drop j) j=at0 g j:=by
 have hl:=Z8 k g h j;rw[Uc (by rw[List.length_append,List.length_drop,hl];omega),Uc hj,List.getElem_append_right (by omega)];simp[hl]
theorem lin_all {k:Int} {g h:List Int}:linK k g h g.length++g.drop g.length=linK k g h g.length:=by rw[List.drop_length,List.append_nil]
def shO (n:Nat) (k:Int) (dp fw hd hf:List Int):Option Out:=bif outB 0 16777216 (linK k dp hd dp.length)||outB (-16777216) 16777216 (linK k fw hf fw.length)then OK (V.tup [V.agg [C.v (.int .i64 0),C.nl,C.nl],I 1])else OK (V.tup [V.agg (stC n (linK k dp hd dp.length) (linK k fw hf fw.length)),I 0])
theorem clip_ok {n a b:Nat} {dp fw:List Int} (h:outB (-16777215) 16777215 (stF n a b dp fw)=false) {j:Nat} (hj:j<(edg n).length): -16777216<accE a b dp fw (edg n) j/\accE a b dp fw (edg n) j<16777216:=by
 have:=Z5 (Ys.1 h) (by omega) j;rw[stF_at _ _ _ _ _ hj]at this;omega
theorem brn_wid (n a b c:Nat) (dp fw:List Int):wid (-1) 1 (stB n a b c dp fw):=λv hv=>by
 unfold stB brL at hv;obtain⟨j,_,rfl⟩:=List.mem_map.1 hv;unfold brE brn
 repeat' split
 all_goals omega
theorem exact_F {n:Nat} {a b c:Nat} {dp fw hd hf:List Int} (h1:hd.length=dp.length) (h2:hf.length=fw.length) (c1:outB (-16777215) 16777215 (stF n a b dp fw)=false) (c2:outB (-16777215) 16777215 (stF n a b (linK (sc a b c) dp hd dp.length) (linK (sc a b c) fw hf fw.length))=false) {j:Nat} (hj:j<(edg n).length):
  at0 (stF n a b (linK (sc a b c) dp hd dp.length) (linK (sc a b c) fw hf fw.length)) j=at0 (stF n a b dp fw) j+tF a b c hd hf (edg n) j:=by
 rw[stF_at _ _ _ _ _ hj,stF_at _ _ _ _ _ hj];exact acc_lin (λi=>linK_at rfl h1 i) (λi=>linK_at rfl h2 i) (clip_ok c1 hj) (clip_ok c2 hj)
theorem exact_D {n:Nat} (hn:n=1\/n=2) {a b c:Nat} {dp fw hd hf:List Int} (h0:dp.length=(nodes n).length) (h1:hd.length=dp.length) (h2:hf.length=fw.length) (p1:wid 0 16777216 dp) (p2:wid 0 16777216 (linK (sc a b c) dp hd dp.length))
  (c1:outB (-16777215) 16777215 (stF n a b dp fw)=false) (c2:outB (-16777215) 16777215 (stF n a b (linK (sc a b c) dp hd dp.length) (linK (sc a b c) fw hf fw.length))=false)
  (hB:stB n a b c (linK (sc a b c) dp hd dp.length) (linK (sc a b c) fw hf fw.length)=stB n a b c dp fw) {i:Nat} (hi:i<(nodes n).length):
  at0 (stD n a b c (linK (sc a b c) dp hd dp.length) (linK (sc a b c) fw hf fw.length)) i=at0 (stD n a b c dp fw) i+at0 (tDL a b c (degS (nodes n).length (edg n)) (stB n a b c dp fw) hd hf (edg n)) i:=by
 have hlk:=linK_at (k:=(sc a b c:Int)) (g:=dp) rfl h1;have hdg: ∀e∈edg n,(0<at0 (degS (nodes n).length (edg n)) e.1.toNat/\(sc a b c:Int)=Int.tdiv (sc a b c) (at0 (degS (nodes n).length (edg n)) e.1.toNat)*at0 (degS (nodes n).length (edg n)) e.1.toNat)/\0<at0 (degS (nodes n).length (edg n)) e.2.toNat/\(sc a b c:Int)=Int.tdiv (sc a b c) (at0 (degS (nodes n).length (edg n)) e.2.toNat)*at0 (degS (nodes n).length (edg n)) e.2.toNat:=λe he=>by
  have hin:=V9 (Mu hn) e he;have d1:=Vt hn (k:=e.1.toNat) (by omega);have d2:=Vt hn (k:=e.2.toNat) (by omega);exact⟨⟨by omega,(Jb a b c d1).1⟩,by omega,(Jb a b c d2).1⟩
 have key: ∀j,j<(edg n).length->amE (linK (sc a b c) dp hd dp.length) (degS (nodes n).length (edg n)) (stF n a b (linK (sc a b c) dp hd dp.length) (linK (sc a b c) fw hf fw.length)) c (edg n) j=amE dp (degS (nodes n).length (edg n)) (stF n a b dp fw) c (edg n) j+1*tAm a b c (degS (nodes n).length (edg n)) (stB n a b c dp fw) hd hf (edg n) j:=λj hj=>by
  have hb1:=stB_at n a b c dp fw hj;have hb2:=stB_at n a b c (linK (sc a b c) dp hd dp.length) (linK (sc a b c) fw hf fw.length) hj;rw[hB,hb1]at hb2;have:=amE_lin hj hlk (exact_F h1 h2 c1 c2 hj) hb2.symm hdg (λi=>(Z5 p1 (by omega) i).1) (λi=>(Z5 p2 (by omega) i).1) hb1;rw[this];omega
 have e1:=Pj ((edg n).zip (stA n a b c (linK (sc a b c) dp hd dp.length) (linK (sc a b c) fw hf fw.length))) (linK (sc a b c) dp hd dp.length) i (by rw[Z8,h0];exact hi);have e2:=Pj ((edg n).zip (stA n a b c dp fw)) dp i (by rw[h0];exact hi);have e3:=tDL_at a b c (degS (nodes n).length (edg n)) (stB n a b c dp fw) hd hf (edg n) (i:=i) (by omega);have e4:=net_lin (E:=edg n) 1 _ _ _ i key;have q1:at0 (stD n a b c (linK (sc a b c) dp hd dp.length) (linK (sc a b c) fw hf fw.length)) i=at0 (linK (sc a b c) dp hd dp.length) i+net ((edg n).zip ((List.range (edg n).length).map (amE (linK (sc a b c) dp hd dp.length) (degS (nodes n).length (edg n)) (stF n a b (linK (sc a b c) dp hd dp.length) (linK (sc a b c) fw hf fw.length)) c (edg n)))) i:=e1;have q2:at0 (stD n a b c dp fw) i=at0 dp i+net ((edg n).zip ((List.range (edg n).length).map (amE dp (degS (nodes n).length (edg n)) (stF n a b dp fw) c (edg n)))) i:=e2;have q3:at0 (tDL a b c (degS (nodes n).length (edg n)) (stB n a b c dp fw) hd hf (edg n)) i=(sc a b c:Int)*at0 hd i+net ((edg n).zip ((List.range (edg n).length).map (tAm a b c (degS (nodes n).length (edg n)) (stB n a b c dp fw) hd hf (edg n)))) i:=e3;rw[q1,q2,q3,e4,hlk];omega
section
variable (fu d:Nat) (hfu:18446744073709551616<=fu)
include hfu
theorem Je (n:Nat) (h:freq n) (dp fw:List Int) (hv:Vst n dp fw) (a b c:Nat) (ha:1<=a/\a<=4) (hb:1<=b/\b<=4) (hc:1<=c/\c<=4):cl fu (d+13) fn_synopticlaw31_clipped [V.agg [C.v (.int .i64 (a:Int)),C.v (.int .i64 (b:Int)),C.v (.int .i64 (c:Int))],V.agg (stC n dp fw)] []=OK (B (outB (-16777215) 16777215 (stF n a b dp fw))):=by
 have e1:=S0 fu d hfu n h dp fw hv a b c ha hb hc;have heL:=Xz h;have hl:=Q3 n a b dp fw;unfold stC at*
 generalize stF n a b dp fw=s at*
 rw[eq_synopticlaw31_clipped];simp(disch:=omega)only[Zc,QM,QD,e1,List.length_cons,List.length_nil,Nat.zero_add,Nat.reduceAdd];rcases X9 (λj=> ¬(-16777215<=at0 s j/\at0 s j<=16777215)) s.length with hn|⟨k,hk,hne,hlt⟩
 ·rw[Ys.2 (wid_all λk hk=>Classical.not_not.1 (hn k hk))];rw[Zh (λj:Nat=>(false,((j:Nat):Int),())) 0 (false,((s.length:Nat):Int),()) s.length ?_ ?_ ?_ (by omega)]
  ·simp(disch:=omega)only[Zc,QM,QD]
  ·rfl
  ·intro j hj;have i1:=Zk s hj;have b1:=Classical.not_not.1 (hn j hj);generalize at0 s j=v at*
   simp(disch:=omega)only[Zc,QM,QD,Int.toNat_natCast,Nat.mul_one,i1];rfl
  ·simp(disch:=omega)only[Zc,QM,QD]
 ·rw[outB_t hk hne];rw[Zh (λj:Nat=>(false,((j:Nat):Int),())) 1 (true,((k:Nat):Int),()) k ?_ ?_ ?_ (by omega)]
  ·simp(disch:=omega)only[Zc,QM,QD]
  ·rfl
  ·intro j hj;have i1:=Zk s (i:=j) (by omega);have b1:=Classical.not_not.1 (hlt j hj);generalize at0 s j=v at*
   simp(disch:=omega)only[Zc,QM,QD,Int.toNat_natCast,Nat.mul_one,i1];rfl
  ·have i1:=Zk s hk;generalize at0 s k=v at*
   by_cases q:v≥16777216
   ·simp(disch:=omega)only[Zc,QM,QD,Int.toNat_natCast,Nat.mul_one,i1]
   ·have q2:v<= -16777216:=by omega
    simp(disch:=omega)only[Zc,QM,QD,Int.toNat_natCast,Nat.mul_one,i1]
set_option maxHeartbeats 8000000 in
theorem sp_Shift (n:Nat) (h:freq n) (dp fw:List Int) (hv:Vst n dp fw) (hd hf:List Int) (l1:hd.length=dp.length) (l2:hf.length=fw.length) (w1:wid (-1048576) 1048576 hd) (w2:wid (-1048576) 1048576 hf) (k:Int) (hk: -1048576<=k/\k<=1048576):
  cl fu (d+11) fn_tangent_Shift [V.agg (stC n dp fw),V.agg [C.sl hd.length (ints hd),C.sl hf.length (ints hf)],I k] []=shO n k dp fw hd hf:=by
 have hNl:=Z9 h;have heL:=Xz h;have p1:=nodes_pos' h;have p2:=edg_pos h;have d1:=hv.dl;have d2:=hv.fl;have e1:=Qa fu (d+5) hfu hd (by omega) 1048576 (by omega);have e2:=Qa fu (d+5) hfu hf (by omega) 1048576 (by omega);replace e1:cl fu (d+10) fn_tangent_outside [V.c (C.sl hd.length (ints hd)),I 1048576] []=OK (B (outB (-1048576) 1048576 hd)):=e1;replace e2:cl fu (d+10) fn_tangent_outside [V.c (C.sl hf.length (ints hf)),I 1048576] []=OK (B (outB (-1048576) 1048576 hf)):=e2;rw[Ys.2 w1]at e1;rw[Ys.2 w2]at e2;have e3:=Jc fu (d+9) k (-1048576) 1048576;rw[decide_eq_true hk.1,decide_eq_true hk.2]at e3;have e4:=Sp fu d hfu n h dp fw d1 d2 hv.dw hv.fw;have k1:=Sa fu (d+9) dp (by omega) (by omega);have k2:=Sa fu (d+9) fw (by omega) (by omega);have g1:=Z8 k dp hd dp.length;have g2:=Z8 k fw hf fw.length;have e5:=sp_CheckG fu d hfu (n:Int) (isL_sl (linK k dp hd dp.length)) (isL_sl (linK k fw hf fw.length)) (by omega) (by omega);have hst:isSt (n:Int) (linK k dp hd dp.length) (linK k fw hf fw.length)↔outB 0 16777216 (linK k dp hd dp.length)=false/\outB (-16777216) 16777216 (linK k fw hf fw.length)=false:=by
  constructor
  ·rintro ⟨m,hm,_,hv'⟩
   exact⟨Ys.2 hv'.dw,Ys.2 hv'.fw⟩
  ·rintro ⟨q1,q2⟩
   exact⟨n,rfl,h,⟨by omega,by omega,Ys.1 q1,Ys.1 q2⟩⟩
 have hb1: ∀i,-1048576*1048576<=k*at0 hd i/\k*at0 hd i<=1048576*1048576:=λi=>by
  have hx:=Z5 w1 (by omega) i;by_cases hk0:0<=k
  ·have:=Un (P:=1048576) ⟨hk0,hk.2⟩ hx (by omega);omega
  ·have:=Un (p:= -k) (P:=1048576) (by omega) hx (by omega);rw[Int.neg_mul]at this;omega
 have hb2: ∀i,-1048576*1048576<=k*at0 hf i/\k*at0 hf i<=1048576*1048576:=λi=>by
  have hx:=Z5 w2 (by omega) i;by_cases hk0:0<=k
  ·have:=Un (P:=1048576) ⟨hk0,hk.2⟩ hx (by omega);omega
  ·have:=Un (p:= -k) (P:=1048576) (by omega) hx (by omega);rw[Int.neg_mul]at this;omega
 unfold shO;unfold stC at*
 rw[eq_tangent_Shift];simp(disch:=omega)only[Zc,QM,QD,e1,e2,e3,e4,k1,k2,out0,Kf,Zf,Nat.mul_one];rw[Zh (λj:Nat=>(((j:Nat):Int),((0:Int),C.nl,C.nl,()),((n:Int),ints (linK k dp hd j++dp.drop j),ints fw,()),())) 0 (((hd.length:Nat):Int),((0:Int),C.nl,C.nl,()),((n:Int),ints (linK k dp hd dp.length),ints fw,()),()) hd.length ?_ ?_ ?_ (by omega)]
 rotate_left
 ·rfl
 ·intro j hj;have hjd:j<dp.length:=by omega
  have i1:=Zk hd hj;have hll:(linK k dp hd j++dp.drop j).length=dp.length:=by rw[List.length_append,Z8,List.length_drop];omega
  have hll1:(linK k dp hd (j+1)++dp.drop (j+1)).length=dp.length:=by rw[List.length_append,Z8,List.length_drop];omega
  have i2:=Zk (linK k dp hd j++dp.drop j) (i:=j) (by omega);rw[lin_read hjd]at i2;have i3:=K1 (linK k dp hd j++dp.drop j) (i:=j) (by omega) (at0 dp j+k*at0 hd j);rw[lin_set hjd]at i3;have b1:=hb1 j;have b2:=Z5 hv.dw (by omega) j;generalize hq:k*at0 hd j=q at*
  generalize linK k dp hd j++dp.drop j=A at*
  generalize linK k dp hd (j+1)++dp.drop (j+1)=A' at*
  simp(disch:=omega)only[Zc,QM,QD,Int.toNat_natCast,Nat.mul_one,Nat.div_one,Nat.zero_add,i1,Zf,hll,i2,hq,i3,hll1];rfl
 ·rw[l1,lin_all];simp(disch:=omega)only[Zc,QM,QD,Nat.mul_one,Nat.div_one,Zf,g1]
 simp(disch:=omega)only[Zc,QM,QD,Nat.mul_one,Nat.div_one,Zf,g1];rw[Zh (λj:Nat=>(((j:Nat):Int),((0:Int),C.nl,C.nl,()),((n:Int),ints (linK k dp hd dp.length),ints (linK k fw hf j++fw.drop j),()),())) 0 (((hf.length:Nat):Int),((0:Int),C.nl,C.nl,()),((n:Int),ints (linK k dp hd dp.length),ints (linK k fw hf fw.length),()),()) hf.length ?_ ?_ ?_ (by omega)]
 rotate_left
 ·rfl
 ·intro j hj;have hjd:j<fw.length:=by omega
  have i1:=Zk hf hj;have hll:(linK k fw hf j++fw.drop j).length=fw.length:=by rw[List.length_append,Z8,List.length_drop];omega
  have hll1:(linK k fw hf (j+1)++fw.drop (j+1)).length=fw.length:=by rw[List.length_append,Z8,List.length_drop];omega
  have i2:=Zk (linK k fw hf j++fw.drop j) (i:=j) (by omega);rw[lin_read hjd]at i2;have i3:=K1 (linK k fw hf j++fw.drop j) (i:=j) (by omega) (at0 fw j+k*at0 hf j);rw[lin_set hjd]at i3;have b1:=hb2 j;have b2:=Z5 hv.fw (by omega) j;generalize hq:k*at0 hf j=q at*
  generalize linK k fw hf j++fw.drop j=A at*
  generalize linK k fw hf (j+1)++fw.drop (j+1)=A' at*
  simp(disch:=omega)only[Zc,QM,QD,Int.toNat_natCast,Nat.mul_one,Nat.div_one,Nat.zero_add,i1,Zf,hll,i2,hq,i3,hll1,g1];rfl
 ·rw[l2,lin_all];simp(disch:=omega)only[Zc,QM,QD,Nat.mul_one,Nat.div_one,Zf,g1,g2]
 have htk1:List.take dp.length (ints (linK k dp hd dp.length))=ints (linK k dp hd dp.length):=List.take_of_length_le (by rw[Zf,g1];exact Nat.le_refl _);have htk2:List.take fw.length (ints (linK k fw hf fw.length))=ints (linK k fw hf fw.length):=List.take_of_length_le (by rw[Zf,g2];exact Nat.le_refl _);rw[g1,g2]at e5;cases q1:outB 0 16777216 (linK k dp hd dp.length)with
 |true=>
  have e5:=e5.2 (λw=>by rw[hst,q1]at w;cases w.1);simp(disch:=omega)only[Zc,QM,QD,Nat.mul_one,Nat.div_one,Nat.zero_add,Zf,g1,g2,htk1,htk2,e5]
 |false=>
  cases q2:outB (-16777216) 16777216 (linK k fw hf fw.length)with
  |true=>
   have e5:=e5.2 (λw=>by rw[hst,q2]at w;cases w.2);simp(disch:=omega)only[Zc,QM,QD,Nat.mul_one,Nat.div_one,Nat.zero_add,Zf,g1,g2,htk1,htk2,e5]
  |false=>
   have e5:=e5.1 (hst.2 ⟨q1,q2⟩);simp(disch:=omega)only[Zc,QM,QD,Nat.mul_one,Nat.div_one,Nat.zero_add,Zf,g1,g2,htk1,htk2,e5]
end
end Go.Proofs.YtjmempcalaliiaaGreatDoor
/- TangentExact answers true. -/
namespace Go.Proofs.YtjmempcalaliiaaGreatDoor
open Go Go.PM Go.Grid
attribute [local congr] Zs Zt Zu Yg Zv Zw Yh Yi Yj Yk Zx Zy Yl Xg Xh Xi Xj Xk Xm Xn Xo Xp Xl Z0 Z1 Xq Z2 Z3 Zm Z4 Zz
theorem shO_cases (n:Nat) (k:Int) (dp fw hd hf:List Int):(outB 0 16777216 (linK k dp hd dp.length)=false/\outB (-16777216) 16777216 (linK k fw hf fw.length)=false/\shO n k dp fw hd hf=OK (V.tup [V.agg (stC n (linK k dp hd dp.length) (linK k fw hf fw.length)),I 0]))\/shO n k dp fw hd hf=OK (V.tup [V.agg [C.v (.int .i64 0),C.nl,C.nl],I 1]):=by
 unfold shO;cases h1:outB 0 16777216 (linK k dp hd dp.length)with
 |true=>exact .inr rfl
 |false=>
  cases h2:outB (-16777216) 16777216 (linK k fw hf fw.length)with
  |true=>exact .inr rfl
  |false=>exact .inl ⟨rfl,rfl,rfl⟩
section
variable (fu d:Nat) (hfu:18446744073709551616<=fu)
include hfu
set_option maxHeartbeats 16000000 in
theorem sp_TangentExact (l:List Int) (hl: ∀x∈l,0<=x/\x<=255):cl fu (d+16) fn_synopticlaw31_TangentExact [V.c (C.sl l.length (ik .u8 l))] []=OK (B true):=by
 have hb:=bytes_take hl (k:=300) (by omega);have hN:=sp_NewC fu (d+14) l 300;replace hN:cl fu (d+15) fn_synopticfield_New [V.c (C.sl l.length (ik .u8 l)),I 300] []=_:=hN;generalize l.take 300=bs at hb hN;obtain⟨n,j1,hn,hj1,c1⟩:=sp_Frequency fu (d+12) hb (i:=0) (by omega);have h:=Mu hn;obtain⟨dp,fw,j2,ok,hj2,c2⟩:=sp_State fu (d+5) hfu hb hj1 n h;obtain⟨a,b,c,j3,ha,hb',hc,hj3,c3⟩:=sp_Scheme fu (d+12) hb hj2;obtain⟨v,j4,hv4,hj4,c4⟩:=X6 fu (d+13) hb hj3 3 (by omega);replace c4:cl fu (d+15) fn_synopticfield_Codes_Next [V.ptr 1000000 0,I 3] _=_:=c4;obtain⟨m,r,hm,hdr⟩: ∃(m:Nat) (r:List C),m<=20/\List.drop v [C.v (.int .i64 1),C.v (.int .i64 3),C.v (.int .i64 20)]=C.v (.int .i64 (m:Int))::r:=by
  rcases(show v=0\/v=1\/v=2 by omega)with rfl|rfl|rfl
  ·exact⟨1,_,by omega,rfl⟩
  ·exact⟨3,_,by omega,rfl⟩
  ·exact⟨20,_,by omega,rfl⟩
 obtain⟨hd,hf,j5,h1,h2,h3,h4,hj5,c5⟩:=sp_Change fu (d+5) hfu hb hj4 n h m (by omega) 20 (by omega);have heL:=Xz h;have hNl:=Z9 h;have hA:=sp_awake31 fu (d+7) hfu;have hv:=ok.vst;have hdl:=hv.dl;have hfl:=hv.fl;have hsc:=sc_bd ha.2 hb'.2 hc.2;have a4:=Jd fu (d+8) hfu a b c ha hb' hc;have sh:=sp_Shift fu (d+4) hfu n h dp fw hv hd hf (by omega) (by omega) (T8 h3 (by omega) (by omega)) (T8 h4 (by omega) (by omega)) (sc a b c:Int) (by omega);have s1:=sp_Step fu d hfu n h dp fw hv a b c ha hb' hc;have ap:=sp_ApplyT fu (d+3) hfu n hn a b c ha hb' hc (stB n a b c dp fw) hd hf (Tb ..) (by omega) (by omega) (brn_wid n a b c dp fw) 20 (by omega) h3 h4;have k1:=Je fu (d+2) hfu n h dp fw hv a b c ha hb' hc;have lB:=Tb n a b c dp fw;have lD:=Rf n a b c dp fw;have lF:=Q3 n a b dp fw;have lX:=Ja a b c (degS (nodes n).length (edg n)) (stB n a b c dp fw) hd hf (edg n);have lY:=K8 a b c hd hf (edg n) (edg n).length;have bg:=Mx h3 (by omega);have bg':=Mx h4 (by omega);have BX:=tDL_wid (br:=stB n a b c dp fw) ha.2 hb'.2 hc.2 hn (by omega) h1 bg bg';have FX:=λ{j:Nat} (hj:j<(edg n).length)=>tFL_at a b c hd hf (edg n) hj;have FB:=λj=>tF_bd ha.2 hb'.2 hc.2 (E:=edg n) (by omega) bg bg' j;unfold stpO at s1;unfold codesO at*
 rw[eq_synopticlaw31_TangentExact];simp(disch:=omega)only[Zc,QM,QD,out0,Kf,rN_ob,hA,hN,c1,c2,c3,c4,hdr,c5,a4,Int.toNat_natCast,Nat.mul_one,List.length_cons,List.length_nil,Nat.zero_add,Nat.reduceAdd];rw[sh];rcases shO_cases n (sc a b c) dp fw hd hf with⟨o1,o2,q⟩|q
 rotate_left
 ·rw[q];simp(disch:=omega)only[Zc,QM,QD,List.length_cons,List.length_nil,Nat.zero_add,Nat.reduceAdd]
 rw[q];have g1:=Z8 (sc a b c) dp hd dp.length;have g2:=Z8 (sc a b c) fw hf fw.length;have hv':Vst n (linK (sc a b c) dp hd dp.length) (linK (sc a b c) fw hf fw.length):=⟨by omega,by omega,Ys.1 o1,Ys.1 o2⟩;have s2:=sp_Step fu d hfu n h _ _ hv' a b c ha hb' hc;have k2:=Je fu (d+2) hfu n h _ _ hv' a b c ha hb' hc;have lB':=Tb n a b c (linK (sc a b c) dp hd dp.length) (linK (sc a b c) fw hf fw.length);have lD':=Rf n a b c (linK (sc a b c) dp hd dp.length) (linK (sc a b c) fw hf fw.length);have lF':=Q3 n a b (linK (sc a b c) dp hd dp.length) (linK (sc a b c) fw hf fw.length);have XF:=λ(c1:outB (-16777215) 16777215 (stF n a b dp fw)=false) (c2:outB (-16777215) 16777215 (stF n a b (linK (sc a b c) dp hd dp.length) (linK (sc a b c) fw hf fw.length))=false) {j:Nat} (hj:j<(edg n).length)=>exact_F (a:=a) (b:=b) (c:=c) (dp:=dp) (fw:=fw) (hd:=hd) (hf:=hf) (by omega) (by omega) c1 c2 hj;have XD:=λ(c1:outB (-16777215) 16777215 (stF n a b dp fw)=false) (c2:outB (-16777215) 16777215 (stF n a b (linK (sc a b c) dp hd dp.length) (linK (sc a b c) fw hf fw.length))=false) (hB:stB n a b c (linK (sc a b c) dp hd dp.length) (linK (sc a b c) fw hf fw.length)=stB n a b c dp fw) {i:Nat} (hi:i<(nodes n).length)=>exact_D (a:=a) (b:=b) (c:=c) hn hdl (by omega) (by omega) hv.dw hv'.dw c1 c2 hB hi;have wF:=hv.acc a b;have hSI:=sp_Ints fu (d+14) hfu (stB n a b c dp fw) (stB n a b c (linK (sc a b c) dp hd dp.length) (linK (sc a b c) fw hf fw.length)) (by omega) (by omega);have wD:=λ(hbad:stBad n a b c dp fw=false)=>(hv.step hbad).dw;unfold stpO at s2;rw[g1]at lD';unfold stC at*
 rw[g1,g2]at s2 k2;simp(disch:=omega)only[Zc,QM,QD,List.length_cons,List.length_nil,Nat.zero_add,Nat.reduceAdd,g1,g2,s1];cases b1:stBad n a b c dp fw with
 |true=>
  cases b2:stBad n a b c (linK (sc a b c) dp hd dp.length) (linK (sc a b c) fw hf fw.length)with
  |true=>simp(disch:=omega)only[Zc,QM,QD,List.length_cons,List.length_nil,Nat.zero_add,Nat.reduceAdd,s2,b2]
  |false=>simp(disch:=omega)only[Zc,QM,QD,List.length_cons,List.length_nil,Nat.zero_add,Nat.reduceAdd,s2,b2]
 |false=>
  cases b2:stBad n a b c (linK (sc a b c) dp hd dp.length) (linK (sc a b c) fw hf fw.length)with
  |true=>simp(disch:=omega)only[Zc,QM,QD,List.length_cons,List.length_nil,Nat.zero_add,Nat.reduceAdd,s2,b2]
  |false=>
   simp(disch:=omega)only[Zc,QM,QD,List.length_cons,List.length_nil,Nat.zero_add,Nat.reduceAdd,s2,b2,hSI];by_cases hB:stB n a b c dp fw=stB n a b c (linK (sc a b c) dp hd dp.length) (linK (sc a b c) fw hf fw.length)
   rotate_left
   ·rw[decide_eq_false hB];simp(disch:=omega)only[Zc,QM,QD]
   rw[decide_eq_true hB];simp(disch:=omega)only[Zc,QM,QD,k1];cases q1:outB (-16777215) 16777215 (stF n a b dp fw)with
   |true=>simp(disch:=omega)only[Zc,QM,QD]
   |false=>
    simp(disch:=omega)only[Zc,QM,QD,k2];cases q2:outB (-16777215) 16777215 (stF n a b (linK (sc a b c) dp hd dp.length) (linK (sc a b c) fw hf fw.length))with
    |true=>simp(disch:=omega)only[Zc,QM,QD]
    |false=>
     have XF2:=λ{j:Nat} (hj:j<(edg n).length)=>XF q1 q2 hj;have XD2:=λ{i:Nat} (hi:i<(nodes n).length)=>XD q1 q2 hB.symm hi;have wD2:=wD b1;have wF2:=wF.fw;clear XF XD wD wF;simp(disch:=omega)only[Zc,QM,QD,ap,List.length_cons,List.length_nil,Nat.zero_add,Nat.reduceAdd];generalize tDL a b c (degS (nodes n).length (edg n)) (stB n a b c dp fw) hd hf (edg n)=X at*
     generalize tFL a b c hd hf (edg n) (edg n).length=Y at*
     generalize stD n a b c dp fw=D1 at*
     generalize stF n a b dp fw=F1 at*
     generalize stD n a b c (linK (sc a b c) dp hd dp.length) (linK (sc a b c) fw hf fw.length)=D2 at*
     generalize stF n a b (linK (sc a b c) dp hd dp.length) (linK (sc a b c) fw hf fw.length)=F2 at*
     rw[Zh (λj:Nat=>(false,((j:Nat):Int),())) 0 (false,((dp.length:Nat):Int),()) dp.length ?_ ?_ ?_ (by omega)]
     ·simp(disch:=omega)only[Zc,QM,QD];rw[Zh (λj:Nat=>(false,((j:Nat):Int),())) 0 (false,((F1.length:Nat):Int),()) F1.length ?_ ?_ ?_ (by omega)]
      ·simp(disch:=omega)only[Zc,QM,QD]
      ·rfl
      ·intro j hj;have hjE:j<(edg n).length:=by omega
       have i1:=Zk F1 hj;have i2:=Zk F2 (i:=j) (by omega);have i3:=Zk Y (i:=j) (by omega);have x1:=XF2 hjE;have x2:=FX hjE;have x3:=FB j;have x4:=Z5 wF2 (by omega) j;rw[x1,<-x2]at i2;rw[<-x2]at x3;simp(disch:=omega)only[Zc,QM,QD,Int.toNat_natCast,Nat.mul_one,i1,i2,i3];rfl
      ·simp(disch:=omega)only[Zc,QM,QD]
     ·rfl
     ·intro j hj;have hjN:j<(nodes n).length:=by omega
      have i1:=Zk D1 (i:=j) (by omega);have i2:=Zk D2 (i:=j) (by omega);have i3:=Zk X (i:=j) (by omega);have x1:=XD2 hjN;have x3:=Z5 BX (by omega) j;have x4:=Z5 wD2 (by omega) j;rw[x1]at i2;simp(disch:=omega)only[Zc,QM,QD,Int.toNat_natCast,Nat.mul_one,i1,i2,i3];rfl
     ·simp(disch:=omega)only[Zc,QM,QD]
end
end Go.Proofs.YtjmempcalaliiaaGreatDoor
