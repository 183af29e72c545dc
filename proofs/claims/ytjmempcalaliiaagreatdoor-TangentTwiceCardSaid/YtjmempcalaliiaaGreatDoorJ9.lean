/- Parts put together: Pc, Pd, Fi, Pe, Pf, Pg, Ph. -/
import Derived.Test.YtjmempcalaliiaaGreatDoorJ8
set_option linter.unusedSimpArgs false
set_option linter.unusedVariables false
/- The linearised step: what Apply comes to. -/
namespace Go.Proofs.YtjmempcalaliiaaGreatDoor
open Go Go.PM Go.Grid
attribute [local congr] Zr Zs Zt Ya Zu Zv Yb Yc Yd Ye Zw Zx Yf Y5 Y6 Y7 Y8 Y9 Xb Xc Xd Xe Xa Zz Z0 Xf Z1 Z2 Zm Z3 Zy
theorem tAL_at (a b c:Nat) (dg br hd hf:List Int) (E:List (Int×Int)) {j:Nat} (h:j<E.length):at0 (tAL a b c dg br hd hf E E.length) j=tAm a b c dg br hd hf E j:=Yw _ _ h
theorem tFL_snoc (a b c:Nat) (hd hf:List Int) (E:List (Int×Int)) (k:Nat):tFL a b c hd hf E (k+1)=tFL a b c hd hf E k++[tF a b c hd hf E k]:=by simp[tFL,List.range_succ]
theorem Sz {m:Int} {l:List Int} (h:wid (-m) m l) (hm:0<=m) (i:Nat): -m<=at0 l i/\at0 l i<=m:=Z6 h (by omega) i
theorem fdivA (a b c:Nat):Int.fdiv (sc a b c:Int) (2^a)=scA a b c:=by rw[sc_aI];exact M9 _ _
theorem fdivB (a b c:Nat):Int.fdiv (sc a b c:Int) (2^b)=scB a b c:=by rw[sc_bI];exact M9 _ _
theorem fdivC (a b c:Nat) (hd hf:List Int) (E:List (Int×Int)) (j:Nat):Int.fdiv (tF a b c hd hf E j) (2^c)=tG a b hd hf E j:=by rw[Jj];exact M9 _ _
theorem tD_way {a b c:Nat} (ha:a<=4) (hb:b<=4) (hc:c<=4) {n:Nat} (hn:n=1\/n=2) {br hd hf:List Int} {m:Int} (hm:0<=m) (h0:hd.length=(nodes n).length) (h1: ∀i,-m<=at0 hd i/\at0 hd i<=m) (h2: ∀i,-m<=at0 hf i/\at0 hf i<=m) (j k:Nat):
  -(145920*m)<=at0 (movS (hd.map λx=>(sc a b c:Int)*x) (((edg n).zip (tAL a b c (degS (nodes n).length (edg n)) br hd hf (edg n) (edg n).length)).take j)) k/\at0 (movS (hd.map λx=>(sc a b c:Int)*x) (((edg n).zip (tAL a b c (degS (nodes n).length (edg n)) br hd hf (edg n) (edg n).length)).take j)) k<=145920*m:=by
 have s1:=C9 ha hb hc;by_cases hk:k<(nodes n).length
 ·have e:=Pv (((edg n).zip (tAL a b c (degS (nodes n).length (edg n)) br hd hf (edg n) (edg n).length)).take j) (hd.map λx=>(sc a b c:Int)*x) k (by rw[List.length_map,h0];exact hk);have m0:=Vh (λx=>(sc a b c:Int)*x) (Int.mul_zero _) hd k;have m1:=Uq (p:=(sc a b c:Int)) (P:=7680) (by omega) (h1 k) hm;have m2:=net_abs (m:=23040*m) (by omega) k (((edg n).zip (tAL a b c (degS (nodes n).length (edg n)) br hd hf (edg n) (edg n).length)).take j) (λp hp=>by
   have hp:=List.mem_of_mem_take hp;have hp2:=(List.of_mem_zip hp).2;unfold tAL at hp2;obtain⟨i,hi,hq⟩:=List.mem_map.1 hp2;rw[<-hq];exact tAm_bd ha hb hc hn hm h1 h2 (List.mem_range.1 hi))
  rw[El _ _ (Jk ..)]at m2;have m3:=Ge k (edg n) j;have m4:=Ek k ((edg n).take j);have m5:=degS_cnt (edg n) hk;have m6:=Vy hn hk;have m7:23040*m*cntE ((edg n).take j) k<=23040*m*6:=Int.mul_le_mul_of_nonneg_left (by omega) (by omega);rw[e,m0];omega
 ·have:at0 (movS (hd.map λx=>(sc a b c:Int)*x) (((edg n).zip (tAL a b c (degS (nodes n).length (edg n)) br hd hf (edg n) (edg n).length)).take j)) k=0:=by
   unfold at0;rw[List.getD_eq_getElem?_getD,List.getElem?_eq_none (by rw[Qb,List.length_map,h0];omega)];rfl
  rw[this];omega
section
variable (fu d:Nat) (hfu:18446744073709551616<=fu)
include hfu
set_option maxHeartbeats 16000000 in
theorem sp_ApplyT (n:Nat) (hn:n=1\/n=2) (a b c:Nat) (ha:1<=a/\a<=4) (hb:1<=b/\b<=4) (hc:1<=c/\c<=4) (br hd hf:List Int) (l1:br.length=(edg n).length) (l2:hd.length=(nodes n).length) (l3:hf.length=(edg n).length) (w1:wid (-1) 1 br) (M:Int) (hM:0<=M/\M<=1099511627776) (w2:wid (-M) M hd) (w3:wid (-M) M hf):
  cl fu (d+12) fn_tangent_Apply [V.agg [C.v (.int .i64 (a:Int)),C.v (.int .i64 (b:Int)),C.v (.int .i64 (c:Int))],I n,V.c (C.sl br.length (ints br)),V.agg [C.sl hd.length (ints hd),C.sl hf.length (ints hf)]] []=OK (V.tup [V.agg [C.sl hd.length (ints (tDL a b c (degS (nodes n).length (edg n)) br hd hf (edg n))),C.sl (edg n).length (ints (tFL a b c hd hf (edg n) (edg n).length))],I 0]):=by
 have h:=Pt hn;have hNl:=Z7 h;have heL:=Xw h;have e1:=Jn fu (d+4) hfu a b c ha hb hc;have e2:=sp_CheckT fu (d+1) hfu n h br hd hf l1 l2 l3 w1 (Q3 w2 (by omega) (by omega)) (Q3 w3 (by omega) (by omega));have e3:=Jd fu d n h;have e4:=Xv fu (d+2) hfu n h;have hin:=Te h;have h1:=Sz w2 hM.1;have h2:=Sz w3 hM.1;have hway:=λj k=>tD_way (br:=br) ha.2 hb.2 hc.2 hn hM.1 l2 h1 h2 j k;have hAb:=λ{j:Nat} (hj:j<(edg n).length)=>tAm_bd (br:=br) ha.2 hb.2 hc.2 hn hM.1 h1 h2 hj;have hFb:=λj=>tF_bd ha.2 hb.2 hc.2 (E:=edg n) hM.1 h1 h2 j;have hd56:=λ{k:Nat} (hk:k<(nodes n).length)=>Vy hn hk;have hs1:=C9 ha.2 hb.2 hc.2;have hs2:=Wj a b c;have hs3:=scB_le a b c;have hAL:=λ{j:Nat} (hj:j<(edg n).length)=>tAL_at a b c (degS (nodes n).length (edg n)) br hd hf (edg n) hj;have hAl:=Jk a b c (degS (nodes n).length (edg n)) br hd hf (edg n) (edg n).length;have hdl:=Vg (nodes n).length (edg n);have hdiv:=λ{v:Int} (hv:v=5\/v=6)=>Jl a b c hv;have fA:=fdivA a b c;have fB:=fdivB a b c;have fC:=λj=>fdivC a b c hd hf (edg n) j;have ma:min a (IntKind.bits .i64)=a:=by show min a 64=a;omega
 have mb:min b (IntKind.bits .i64)=b:=by show min b 64=b;omega
 have mc:min c (IntKind.bits .i64)=c:=by show min c 64=c;omega
 have hFl:=λk=>Tg a b c hd hf (edg n) k;have hFs:=λk=>tFL_snoc a b c hd hf (edg n) k;have hDl:(tDL a b c (degS (nodes n).length (edg n)) br hd hf (edg n)).length=hd.length:=Ti ..;have hDD:tDL a b c (degS (nodes n).length (edg n)) br hd hf (edg n)=movS (hd.map λx=>(sc a b c:Int)*x) ((edg n).zip (tAL a b c (degS (nodes n).length (edg n)) br hd hf (edg n) (edg n).length)):=rfl;have htF: ∀j,tF a b c hd hf (edg n) j=((sc a b c:Int)-scA a b c)*at0 hf j+(scB a b c:Int)*(at0 hd ((edg n).getD j (0,0)).1.toNat-at0 hd ((edg n).getD j (0,0)).2.toNat):=λj=>rfl;have htA: ∀j,tAm a b c (degS (nodes n).length (edg n)) br hd hf (edg n) j=if at0 br j=1 then Int.tdiv (sc a b c) (at0 (degS (nodes n).length (edg n)) ((edg n).getD j (0,0)).1.toNat)*at0 hd ((edg n).getD j (0,0)).1.toNat else if at0 br j= -1 then -(Int.tdiv (sc a b c) (at0 (degS (nodes n).length (edg n)) ((edg n).getD j (0,0)).2.toNat)*at0 hd ((edg n).getD j (0,0)).2.toNat)else tG a b hd hf (edg n) j:=λj=>rfl
 rw[hDD];rw[hDD]at hDl;clear hDD;generalize tAL a b c (degS (nodes n).length (edg n)) br hd hf (edg n) (edg n).length=AL at*
 generalize hdg:degS (nodes n).length (edg n)=dg at*
 generalize hE:edg n=E at*
 generalize (nodes n).length=N at*
 have hML:=λP=>Qb P (hd.map λx=>(sc a b c:Int)*x);rw[eq_tangent_Apply];simp(disch:=omega)only[Zc,QM,QD,e1,e2,e3,e4];rw[Zh (λj:Nat=>(((j:Nat):Int),(C.nl,C.nl,()),(ints ((hd.take j).map λx=>(sc a b c:Int)*x),[],()),())) 0 (((hd.length:Nat):Int),(C.nl,C.nl,()),(ints (hd.map λx=>(sc a b c:Int)*x),[],()),()) hd.length ?_ ?_ ?_ (by omega)]
 rotate_left
 ·rfl
 ·intro j hj;have i1:=Zk hd hj;have b1:=Uq (p:=(sc a b c:Int)) (P:=7680) (by omega) (h1 j) hM.1;have hsn:ints ((hd.take j).map λx=>(sc a b c:Int)*x)++[C.v (.int .i64 ((sc a b c:Int)*at0 hd j))]=ints ((hd.take (j+1)).map λx=>(sc a b c:Int)*x):=by
   rw[List.take_succ_eq_append_getElem hj,List.map_append,Yu,Ud hj];rfl
  generalize hz:(sc a b c:Int)*at0 hd j=z at*
  have hlt:((hd.take j).map λx=>(sc a b c:Int)*x).length=j:=by rw[List.length_map,List.length_take];omega
  have hlt1:((hd.take (j+1)).map λx=>(sc a b c:Int)*x).length=j+1:=by rw[List.length_map,List.length_take];omega
  simp(disch:=omega)only[Zc,QM,QD,Int.toNat_natCast,Nat.mul_one,i1];rw[hz];simp(disch:=omega)only[Zc,QM,QD,Zf,hlt,hlt1,Nat.div_one,Nat.mul_one,hsn,List.length_append,List.length_cons,List.length_nil,Nat.zero_add];rfl
 ·rw[List.take_length];simp(disch:=omega)only[Zc,QM,QD,Zf,List.length_map,Nat.div_one,Nat.mul_one,List.length_nil]
 have hl0:(hd.map λx=>(sc a b c:Int)*x).length=hd.length:=List.length_map ..;simp(disch:=omega)only[Zc,QM,QD,Zf,hl0,Nat.div_one,Nat.mul_one,List.length_nil];rw[Zh (λj:Nat=>(((j:Nat):Int),(C.nl,C.nl,()),(ints (movS (hd.map λx=>(sc a b c:Int)*x) ((E.zip AL).take j)),ints (tFL a b c hd hf E j),()),())) 0 (((E.length:Nat):Int),(C.nl,C.nl,()),(ints (movS (hd.map λx=>(sc a b c:Int)*x) (E.zip AL)),ints (tFL a b c hd hf E E.length),()),()) E.length ?_ ?_ ?_ (by omega)]
 ·have htk1:List.take hd.length (ints (movS (hd.map λx=>(sc a b c:Int)*x) (E.zip AL)))=ints (movS (hd.map λx=>(sc a b c:Int)*x) (E.zip AL)):=List.take_of_length_le (by rw[Zf,hDl];exact Nat.le_refl _);have htk2:List.take E.length (ints (tFL a b c hd hf E E.length))=ints (tFL a b c hd hf E E.length):=List.take_of_length_le (by rw[Zf,hFl];exact Nat.le_refl _);simp(disch:=omega)only[Zc,QM,QD,Zf,hDl,hFl,Nat.div_one,Nat.mul_one,Nat.zero_add,htk1,htk2]
 ·rfl
 ·intro j hj;have hz:j<(E.zip AL).length:=by rw[List.length_zip];omega
  have hin:=hin E[j] (List.getElem_mem hj);have hjf:j<hf.length:=by omega
  have hjb:j<br.length:=by omega
  have i3:=Zk hf hjf;have i4:=Zk br hjb;have bj:=Z6 w1 (by omega) j;have hst:movS (hd.map λx=>(sc a b c:Int)*x) ((E.zip AL).take (j+1))=mv1 (movS (hd.map λx=>(sc a b c:Int)*x) ((E.zip AL).take j)) E[j] (-(AL[j]'(by omega))) (AL[j]'(by omega)):=by rw[List.take_succ_eq_append_getElem hz,Gd,List.getElem_zip]
  have hALj:=hAL hj;rw[Ud (by omega:j<AL.length)]at hALj;rw[hALj]at hst;have hAb:=hAb hj;have hFb:=hFb j;have htF:=htF j;have htA:=htA j;have hFs:=hFs j;have hFlj:=hFl j;have fC:=fC j;rw[Q5 E hj]at htF htA;have hway:=hway j;have hD:=hML ((E.zip AL).take j);rw[hst,hFs];generalize tFL a b c hd hf E j=FL at*
  generalize movS (hd.map λx=>(sc a b c:Int)*x) ((E.zip AL).take j)=D at*
  generalize hee:E[j]=e at*
  obtain⟨ea,eb⟩:=e;simp only at hin htF htA;obtain⟨x,rfl⟩: ∃x:Nat,ea=x:=⟨ea.toNat,by omega⟩;obtain⟨y,rfl⟩: ∃y:Nat,eb=y:=⟨eb.toNat,by omega⟩;rw[Int.toNat_natCast,Int.toNat_natCast]at htF htA;have hea:=Pi Yh hj;rw[hee,show edC ((x:Int),(y:Int))=[C.v (.int .i64 (x:Int)),C.v (.int .i64 (y:Int))] from rfl]at hea;have i5:=Zk hd (i:=x) (by omega);have i6:=Zk hd (i:=y) (by omega);have i7:=Zk dg (i:=x) (by omega);have i8:=Zk dg (i:=y) (by omega);have bx:=h1 x;have by':=h1 y;have bf:=h2 j;have dx:=hd56 (k:=x) (by omega);have dy:=hd56 (k:=y) (by omega);have qx:=hdiv dx;have qy:=hdiv dy;have p1:=Uq (p:=(sc a b c:Int)-scA a b c) (P:=7680) (by omega) bf hM.1;have p2:=Uq (p:=(scB a b c:Int)) (P:=7680) (x:=at0 hd x-at0 hd y) (m:=2*M) (by omega) (by omega) (by omega);have p3:=Uq (P:=7680) ⟨qx.2.1,by omega⟩ bx hM.1;have p4:=Uq (P:=7680) ⟨qy.2.1,by omega⟩ by' hM.1;have d1:=Zk D (i:=x) (by omega);have hm:mv1 D ((x:Int),(y:Int)) (-(tAm a b c dg br hd hf E j)) (tAm a b c dg br hd hf E j)=bump1 (bump1 D x (-(tAm a b c dg br hd hf E j))) y (tAm a b c dg br hd hf E j):=by unfold mv1;rw[Int.toNat_natCast,Int.toNat_natCast]
  rw[hm];generalize tAm a b c dg br hd hf E j=A at*
  generalize tF a b c hd hf E j=F at*
  generalize tG a b hd hf E j=G at*
  have b1:=hway x;have b2:=hway y;have pb1:=Qn D (i:=x) (by omega) (-A);have hB:=Yp D x (-A);have hBa:=Sg D x (-A) y;have b3: -(145920*M)-23040*M<=at0 (bump1 D x (-A)) y/\at0 (bump1 D x (-A)) y<=145920*M+23040*M:=by
   split at hBa<;>omega
  generalize bump1 D x (-A)=D1 at*
  have d2:=Zk D1 (i:=y) (by omega);have pb2:=Qn D1 (i:=y) (by omega) A;have hB2:=Yp D1 y A;generalize bump1 D1 y A=D2 at*
  have e0:at0 D x-A=at0 D x+ -A:=by omega
  generalize hP1:((sc a b c:Int)-scA a b c)*at0 hf j=P1 at*
  generalize hP2:(scB a b c:Int)*(at0 hd x-at0 hd y)=P2 at*
  generalize hQx:Int.tdiv (sc a b c:Int) (at0 dg x)*at0 hd x=Qx at*
  generalize hQy:Int.tdiv (sc a b c:Int) (at0 dg y)*at0 hd y=Qy at*
  rcases(show at0 br j=1\/at0 br j= -1\/at0 br j=0 by omega)with q|q|q
  ·rw[q]at htA i4;rw[if_pos rfl]at htA;subst htA;simp(disch:=omega)only[Zc,QM,QD,List.cons_append,List.nil_append,Int.toNat_natCast,Nat.mul_one,Nat.div_one,Nat.zero_add,hea,i3,i5,i6,fA,fB,ma,mb,mc,hP1,hP2,<-htF,i4,i7,i8,hQx,hQy,fC,Zf,hD,hl0,hFlj,d1,e0,pb1,hB,d2,pb2,hB2,Yu,List.length_append,List.length_cons,List.length_nil];rfl
  ·rw[q]at htA i4;rw[if_neg (by decide),if_pos rfl]at htA;have n0:0-Qy=A:=by omega
   simp(disch:=omega)only[Zc,QM,QD,List.cons_append,List.nil_append,Int.toNat_natCast,Nat.mul_one,Nat.div_one,Nat.zero_add,hea,i3,i5,i6,fA,fB,ma,mb,mc,hP1,hP2,<-htF,i4,i7,i8,hQx,hQy,fC,Zf,hD,hl0,hFlj,d1,e0,pb1,hB,d2,pb2,hB2,Yu,List.length_append,List.length_cons,List.length_nil,n0];rfl
  ·rw[q]at htA i4;rw[if_neg (by decide),if_neg (by decide)]at htA;subst htA;simp(disch:=omega)only[Zc,QM,QD,List.cons_append,List.nil_append,Int.toNat_natCast,Nat.mul_one,Nat.div_one,Nat.zero_add,hea,i3,i5,i6,fA,fB,ma,mb,mc,hP1,hP2,<-htF,i4,i7,i8,hQx,hQy,fC,Zf,hD,hl0,hFlj,d1,e0,pb1,hB,d2,pb2,hB2,Yu,List.length_append,List.length_cons,List.length_nil];rfl
 ·rw[List.take_of_length_le (l:=E.zip AL) (by rw[List.length_zip];omega)];simp(disch:=omega)only[Zc,QM,QD,Zf,hDl,hFl,Nat.div_one,Nat.mul_one]
end
end Go.Proofs.YtjmempcalaliiaaGreatDoor
/- TangentLinear answers true. -/
namespace Go.Proofs.YtjmempcalaliiaaGreatDoor
open Go Go.PM Go.Grid
attribute [local congr] Zr Zs Zt Ya Zu Zv Yb Yc Yd Ye Zw Zx Yf Y5 Y6 Y7 Y8 Y9 Xb Xc Xd Xe Xa Zz Z0 Xf Z1 Z2 Zm Z3 Zy
def linK (k:Int) (g h:List Int) (m:Nat):List Int:=(List.range m).map λi=>at0 g i+k*at0 h i
theorem Zl (k:Int) (g h:List Int) (m:Nat):(linK k g h m).length=m:=by simp[linK]
theorem linK_snoc (k:Int) (g h:List Int) (m:Nat):linK k g h (m+1)=linK k g h m++[at0 g m+k*at0 h m]:=by simp[linK,List.range_succ]
theorem Em (l:List Int) {i:Nat} (h:l.length<=i):at0 l i=0:=by
 unfold at0;rw[List.getD_eq_getElem?_getD,List.getElem?_eq_none h];rfl
theorem Tj {k:Int} {g h:List Int} {m:Nat} (hg:g.length=m) (hh:h.length=m) (i:Nat):at0 (linK k g h m) i=at0 g i+k*at0 h i:=by
 by_cases hi:i<m
 ·exact Yw _ _ hi
 ·rw[Em _ (by rw[Zl];omega),Em g (by omega),Em h (by omega),Int.mul_zero];rfl
theorem tDL_wid {a b c:Nat} (ha:a<=4) (hb:b<=4) (hc:c<=4) {n:Nat} (hn:n=1\/n=2) {br hd hf:List Int} {m:Int} (hm:0<=m) (h0:hd.length=(nodes n).length) (h1: ∀i,-m<=at0 hd i/\at0 hd i<=m) (h2: ∀i,-m<=at0 hf i/\at0 hf i<=m):wid (-(145920*m)) (145920*m) (tDL a b c (degS (nodes n).length (edg n)) br hd hf (edg n)):=wid_all λk _=>by
 have:=tD_way (br:=br) ha hb hc hn hm h0 h1 h2 ((edg n).zip (tAL a b c (degS (nodes n).length (edg n)) br hd hf (edg n) (edg n).length)).length k;rw[List.take_length]at this;exact this
theorem tFL_wid {a b c:Nat} (ha:a<=4) (hb:b<=4) (hc:c<=4) {hd hf:List Int} {E:List (Int×Int)} {m:Int} (hm:0<=m) (h1: ∀i,-m<=at0 hd i/\at0 hd i<=m) (h2: ∀i,-m<=at0 hf i/\at0 hf i<=m) (k:Nat):wid (-(23040*m)) (23040*m) (tFL a b c hd hf E k):=λv hv=>by
 unfold tFL at hv;obtain⟨j,_,rfl⟩:=List.mem_map.1 hv;exact tF_bd ha hb hc hm h1 h2 j
theorem tFL_at (a b c:Nat) (hd hf:List Int) (E:List (Int×Int)) {k j:Nat} (h:j<k):at0 (tFL a b c hd hf E k) j=tF a b c hd hf E j:=Yw _ _ h
section
variable (fu d:Nat) (hfu:18446744073709551616<=fu)
include hfu
theorem Wk:cl fu (d+8) fn_synopticlaw31_awake [] []=OK (B true):=by
 have e:=Jn fu d hfu 1 1 1 (by omega) (by omega) (by omega);replace e:cl fu (d+7) fn_tangent_Scale [V.agg [C.v (.int .i64 1),C.v (.int .i64 1),C.v (.int .i64 1)]] []=OK (V.tup [I 120,I 0]):=e;rw[eq_synopticlaw31_awake];simp(disch:=omega)only[Zc,QM,QD,e]
end
end Go.Proofs.YtjmempcalaliiaaGreatDoor
/- Both programs' checks, at any numbers. -/
namespace Go.Proofs.YtjmempcalaliiaaGreatDoor
open Go Go.PM Go.Grid
attribute [local congr] Zr Zs Zt Ya Zu Zv Yb Yc Yd Ye Zw Zx Yf Y5 Y6 Y7 Y8 Y9 Xb Xc Xd Xe Xa Zz Z0 Xf Z1 Z2 Zm Z3 Zy
def isSt (n:Int) (dp fw:List Int):Prop:= ∃m:Nat,n=m/\freq m/\Vst m dp fw
section
variable (fu d:Nat) (hf:18446744073709551616<=fu)
include hf
omit hf in
theorem Bb (n:Int) (h:n<1\/8<n):cl fu (d+1) fn_mesh_Frequency [I n] []=OK (B false):=by
 rw[eq_mesh_Frequency];rcases h with h|h
 ·simp(disch:=omega)only[Zc,QM,QD]
 ·simp(disch:=omega)only[Zc,QM,QD]
omit hf in
theorem Pw (n:Int) (h:n<1\/8<n):cl fu (d+2) fn_grid_Edges [I n] []=OK (V.tup [V.c C.nl,I 1]):=by
 have e:=Bb fu d n h;rw[eq_grid_Edges,e];simp(disch:=omega)only[Zc,QM,QD]
theorem sp_CheckG (n:Int) {c1 c2:C} {dp fw:List Int} (h1:isL c1 dp) (h2:isL c2 fw) (l1:dp.length<=1000000) (l2:fw.length<=1000000):
  (isSt n dp fw->cl fu (d+10) fn_flux_Check [V.agg [C.v (.int .i64 n),c1,c2]] []=OK (I 0))/\(¬isSt n dp fw->cl fu (d+10) fn_flux_Check [V.agg [C.v (.int .i64 n),c1,c2]] []=OK (I 1)):=by
 have o1:=Ug fu (d+4) hf dp l1 0 16777216;have o2:=Ug fu (d+4) hf fw l2 (-16777216) 16777216;by_cases hn:1<=n/\n<=8
 ·obtain⟨m,rfl⟩: ∃m:Nat,n=m:=⟨n.toNat,by omega⟩;have h:freq m:=by unfold freq;omega
  have heL:=Xw h;have hNl:=Z7 h;have e1:=Xv fu d hf m h;have e2:=U3 fu (d+7) m h;have key:cl fu (d+10) fn_flux_Check [V.agg [C.v (.int .i64 (m:Int)),c1,c2]] []=OK (I (if dp.length=(nodes m).length/\fw.length=(edg m).length/\outB 0 16777216 dp=false/\outB (-16777216) 16777216 fw=false then 0 else 1)):=by
   generalize edg m=E at*
   generalize (nodes m).length=N at*
   rw[eq_flux_Check];have n1:=h1.1;have n2:=h2.1;have s1:=λ{R:Type} (k:Nat->List C->Option R)=>h1.2 k;have s2:=λ{R:Type} (k:Nat->List C->Option R)=>h2.2 k;simp(disch:=omega)only[Zc,QM,QD,e1];rw[s1];simp(disch:=omega)only[Zc,QM,QD,e2];by_cases q1:dp.length=N
   ·simp(disch:=omega)only[Zc,QM,QD];rw[s2];simp(disch:=omega)only[Zc,QM,QD];by_cases q2:fw.length=E.length
    ·simp(disch:=omega)only[Zc,QM,QD,n1,o1];cases q3:outB 0 16777216 dp with
     |true=>
      rw[if_neg (λq=>by cases q.2.2.1)];simp(disch:=omega)only[Zc,QM,QD]
     |false=>
      simp(disch:=omega)only[Zc,QM,QD,n2,o2];cases q4:outB (-16777216) 16777216 fw with
      |true=>
       rw[if_neg (λq=>by cases q.2.2.2)];simp(disch:=omega)only[Zc,QM,QD]
      |false=>
       rw[if_pos ⟨q1,q2,by simp,by simp⟩];simp(disch:=omega)only[Zc,QM,QD]
    ·rw[if_neg (λq=>q2 q.2.1)];simp(disch:=omega)only[Zc,QM,QD]
   ·rw[if_neg (λq=>q1 q.1)];simp(disch:=omega)only[Zc,QM,QD]
  constructor
  ·rintro ⟨k,hk,hfk,hv⟩
   obtain rfl:m=k:=by omega
   rw[key,if_pos ⟨hv.dl,hv.fl,Ym.2 hv.dw,Ym.2 hv.fw⟩]
  ·intro hb;rw[key,if_neg (λq=>hb ⟨m,rfl,h,⟨q.1,q.2.1,Ym.1 q.2.2.1,Ym.1 q.2.2.2⟩⟩)]
 ·have e1:=Pw fu (d+7) n (by omega);refine⟨λ⟨m,hm,hfm,_⟩=>absurd (by unfold freq at hfm;omega) hn,λ_=> ?_⟩;rw[eq_flux_Check];simp(disch:=omega)only[Zc,QM,QD,e1]
end
end Go.Proofs.YtjmempcalaliiaaGreatDoor
/- Shifted states, clipped flows, and the step of a changed state. -/
namespace Go.Proofs.YtjmempcalaliiaaGreatDoor
open Go Go.PM Go.Grid
attribute [local congr] Zr Zs Zt Ya Zu Zv Yb Yc Yd Ye Zw Zx Yf Y5 Y6 Y7 Y8 Y9 Xb Xc Xd Xe Xa Zz Z0 Xf Z1 Z2 Zm Z3 Zy
theorem lin_set {k:Int} {g h:List Int} {j:Nat} (hj:j<g.length):(linK k g h j++g.drop j).set j (at0 g j+k*at0 h j)=linK k g h (j+1)++g.drop (j+1):=by
 rw[List.drop_eq_getElem_cons hj,linK_snoc,List.append_assoc];have hl:=Zl k g h j;rw[List.set_append_right _ _ (by omega),hl,Nat.sub_self];rfl
theorem Bc {k:Int} {g h:List Int} {j:Nat} (hj:j<g.length):at0 (linK k g h j++g.drop j) j=at0 g j:=by
 have hl:=Zl k g h j;rw[Ud (by rw[List.length_append,List.length_drop,hl];omega),Ud hj,List.getElem_append_right (by omega)];simp[hl]
theorem lin_all {k:Int} {g h:List Int}:linK k g h g.length++g.drop g.length=linK k g h g.length:=by rw[List.drop_length,List.append_nil]
def shO (n:Nat) (k:Int) (dp fw hd hf:List Int):Option Out:=bif outB 0 16777216 (linK k dp hd dp.length)||outB (-16777216) 16777216 (linK k fw hf fw.length)then OK (V.tup [V.agg [C.v (.int .i64 0),C.nl,C.nl],I 1])else OK (V.tup [V.agg (stC n (linK k dp hd dp.length) (linK k fw hf fw.length)),I 0])
theorem clip_ok {n a b:Nat} {dp fw:List Int} (h:outB (-16777215) 16777215 (stF n a b dp fw)=false) {j:Nat} (hj:j<(edg n).length): -16777216<accE a b dp fw (edg n) j/\accE a b dp fw (edg n) j<16777216:=by
 have:=Z6 (Ym.1 h) (by omega) j;rw[Wi _ _ _ _ _ hj]at this;omega
theorem brn_wid (n a b c:Nat) (dp fw:List Int):wid (-1) 1 (stB n a b c dp fw):=λv hv=>by
 unfold stB brL at hv;obtain⟨j,_,rfl⟩:=List.mem_map.1 hv;unfold brE brn
 repeat' split
 all_goals omega
theorem exact_F {n:Nat} {a b c:Nat} {dp fw hd hf:List Int} (h1:hd.length=dp.length) (h2:hf.length=fw.length) (c1:outB (-16777215) 16777215 (stF n a b dp fw)=false) (c2:outB (-16777215) 16777215 (stF n a b (linK (sc a b c) dp hd dp.length) (linK (sc a b c) fw hf fw.length))=false) {j:Nat} (hj:j<(edg n).length):
  at0 (stF n a b (linK (sc a b c) dp hd dp.length) (linK (sc a b c) fw hf fw.length)) j=at0 (stF n a b dp fw) j+tF a b c hd hf (edg n) j:=by
 rw[Wi _ _ _ _ _ hj,Wi _ _ _ _ _ hj];exact acc_lin (λi=>Tj rfl h1 i) (λi=>Tj rfl h2 i) (clip_ok c1 hj) (clip_ok c2 hj)
theorem exact_D {n:Nat} (hn:n=1\/n=2) {a b c:Nat} {dp fw hd hf:List Int} (h0:dp.length=(nodes n).length) (h1:hd.length=dp.length) (h2:hf.length=fw.length) (p1:wid 0 16777216 dp) (p2:wid 0 16777216 (linK (sc a b c) dp hd dp.length))
  (c1:outB (-16777215) 16777215 (stF n a b dp fw)=false) (c2:outB (-16777215) 16777215 (stF n a b (linK (sc a b c) dp hd dp.length) (linK (sc a b c) fw hf fw.length))=false)
  (hB:stB n a b c (linK (sc a b c) dp hd dp.length) (linK (sc a b c) fw hf fw.length)=stB n a b c dp fw) {i:Nat} (hi:i<(nodes n).length):
  at0 (stD n a b c (linK (sc a b c) dp hd dp.length) (linK (sc a b c) fw hf fw.length)) i=at0 (stD n a b c dp fw) i+at0 (tDL a b c (degS (nodes n).length (edg n)) (stB n a b c dp fw) hd hf (edg n)) i:=by
 have hlk:=Tj (k:=(sc a b c:Int)) (g:=dp) rfl h1;have hdg: ∀e∈edg n,(0<at0 (degS (nodes n).length (edg n)) e.1.toNat/\(sc a b c:Int)=Int.tdiv (sc a b c) (at0 (degS (nodes n).length (edg n)) e.1.toNat)*at0 (degS (nodes n).length (edg n)) e.1.toNat)/\0<at0 (degS (nodes n).length (edg n)) e.2.toNat/\(sc a b c:Int)=Int.tdiv (sc a b c) (at0 (degS (nodes n).length (edg n)) e.2.toNat)*at0 (degS (nodes n).length (edg n)) e.2.toNat:=λe he=>by
  have hin:=Te (Pt hn) e he;have d1:=Vy hn (k:=e.1.toNat) (by omega);have d2:=Vy hn (k:=e.2.toNat) (by omega);exact⟨⟨by omega,(Jl a b c d1).1⟩,by omega,(Jl a b c d2).1⟩
 have key: ∀j,j<(edg n).length->amE (linK (sc a b c) dp hd dp.length) (degS (nodes n).length (edg n)) (stF n a b (linK (sc a b c) dp hd dp.length) (linK (sc a b c) fw hf fw.length)) c (edg n) j=amE dp (degS (nodes n).length (edg n)) (stF n a b dp fw) c (edg n) j+1*tAm a b c (degS (nodes n).length (edg n)) (stB n a b c dp fw) hd hf (edg n) j:=λj hj=>by
  have hb1:=stB_at n a b c dp fw hj;have hb2:=stB_at n a b c (linK (sc a b c) dp hd dp.length) (linK (sc a b c) fw hf fw.length) hj;rw[hB,hb1]at hb2;have:=amE_lin hj hlk (exact_F h1 h2 c1 c2 hj) hb2.symm hdg (λi=>(Z6 p1 (by omega) i).1) (λi=>(Z6 p2 (by omega) i).1) hb1;rw[this];omega
 have e1:=Pv ((edg n).zip (stA n a b c (linK (sc a b c) dp hd dp.length) (linK (sc a b c) fw hf fw.length))) (linK (sc a b c) dp hd dp.length) i (by rw[Zl,h0];exact hi);have e2:=Pv ((edg n).zip (stA n a b c dp fw)) dp i (by rw[h0];exact hi);have e3:=Ej a b c (degS (nodes n).length (edg n)) (stB n a b c dp fw) hd hf (edg n) (i:=i) (by omega);have e4:=net_lin (E:=edg n) 1 _ _ _ i key;have q1:at0 (stD n a b c (linK (sc a b c) dp hd dp.length) (linK (sc a b c) fw hf fw.length)) i=at0 (linK (sc a b c) dp hd dp.length) i+net ((edg n).zip ((List.range (edg n).length).map (amE (linK (sc a b c) dp hd dp.length) (degS (nodes n).length (edg n)) (stF n a b (linK (sc a b c) dp hd dp.length) (linK (sc a b c) fw hf fw.length)) c (edg n)))) i:=e1;have q2:at0 (stD n a b c dp fw) i=at0 dp i+net ((edg n).zip ((List.range (edg n).length).map (amE dp (degS (nodes n).length (edg n)) (stF n a b dp fw) c (edg n)))) i:=e2;have q3:at0 (tDL a b c (degS (nodes n).length (edg n)) (stB n a b c dp fw) hd hf (edg n)) i=(sc a b c:Int)*at0 hd i+net ((edg n).zip ((List.range (edg n).length).map (tAm a b c (degS (nodes n).length (edg n)) (stB n a b c dp fw) hd hf (edg n)))) i:=e3;rw[q1,q2,q3,e4,hlk];omega
section
variable (fu d:Nat) (hfu:18446744073709551616<=fu)
include hfu
theorem Jo (n:Nat) (h:freq n) (dp fw:List Int) (hv:Vst n dp fw) (a b c:Nat) (ha:1<=a/\a<=4) (hb:1<=b/\b<=4) (hc:1<=c/\c<=4):cl fu (d+13) fn_synopticlaw31_clipped [V.agg [C.v (.int .i64 (a:Int)),C.v (.int .i64 (b:Int)),C.v (.int .i64 (c:Int))],V.agg (stC n dp fw)] []=OK (B (outB (-16777215) 16777215 (stF n a b dp fw))):=by
 have e1:=S8 fu d hfu n h dp fw hv a b c ha hb hc;have heL:=Xw h;have hl:=Xq n a b dp fw;unfold stC at*
 generalize stF n a b dp fw=s at*
 rw[eq_synopticlaw31_clipped];simp(disch:=omega)only[Zc,QM,QD,e1,List.length_cons,List.length_nil,Nat.zero_add,Nat.reduceAdd];rcases Ua (λj=> ¬(-16777215<=at0 s j/\at0 s j<=16777215)) s.length with hn|⟨k,hk,hne,hlt⟩
 ·rw[Ym.2 (wid_all λk hk=>Classical.not_not.1 (hn k hk))];rw[Zh (λj:Nat=>(false,((j:Nat):Int),())) 0 (false,((s.length:Nat):Int),()) s.length ?_ ?_ ?_ (by omega)]
  ·simp(disch:=omega)only[Zc,QM,QD]
  ·rfl
  ·intro j hj;have i1:=Zk s hj;have b1:=Classical.not_not.1 (hn j hj);generalize at0 s j=v at*
   simp(disch:=omega)only[Zc,QM,QD,Int.toNat_natCast,Nat.mul_one,i1];rfl
  ·simp(disch:=omega)only[Zc,QM,QD]
 ·rw[outB_t hk hne];rw[Zh (λj:Nat=>(false,((j:Nat):Int),())) 1 (true,((k:Nat):Int),()) k ?_ ?_ ?_ (by omega)]
  ·simp(disch:=omega)only[Zc,QM,QD]
  ·rfl
  ·intro j hj;have i1:=Zk s (i:=j) (by omega);have b1:=Classical.not_not.1 (hlt j hj);generalize at0 s j=v at*
   simp(disch:=omega)only[Zc,QM,QD,Int.toNat_natCast,Nat.mul_one,i1];rfl
  ·have i1:=Zk s hk;generalize at0 s k=v at*
   by_cases q:v≥16777216
   ·simp(disch:=omega)only[Zc,QM,QD,Int.toNat_natCast,Nat.mul_one,i1]
   ·have q2:v<= -16777216:=by omega
    simp(disch:=omega)only[Zc,QM,QD,Int.toNat_natCast,Nat.mul_one,i1]
set_option maxHeartbeats 8000000 in
theorem Bd (n:Nat) (h:freq n) (dp fw:List Int) (hv:Vst n dp fw) (hd hf:List Int) (l1:hd.length=dp.length) (l2:hf.length=fw.length) (w1:wid (-1048576) 1048576 hd) (w2:wid (-1048576) 1048576 hf) (k:Int) (hk: -1048576<=k/\k<=1048576):
  cl fu (d+11) fn_tangent_Shift [V.agg (stC n dp fw),V.agg [C.sl hd.length (ints hd),C.sl hf.length (ints hf)],I k] []=shO n k dp fw hd hf:=by
 have hNl:=Z7 h;have heL:=Xw h;have p1:=Rp h;have p2:=Eg h;have d1:=hv.dl;have d2:=hv.fl;have e1:=Qc fu (d+5) hfu hd (by omega) 1048576 (by omega);have e2:=Qc fu (d+5) hfu hf (by omega) 1048576 (by omega);replace e1:cl fu (d+10) fn_tangent_outside [V.c (C.sl hd.length (ints hd)),I 1048576] []=OK (B (outB (-1048576) 1048576 hd)):=e1;replace e2:cl fu (d+10) fn_tangent_outside [V.c (C.sl hf.length (ints hf)),I 1048576] []=OK (B (outB (-1048576) 1048576 hf)):=e2;rw[Ym.2 w1]at e1;rw[Ym.2 w2]at e2;have e3:=Jm fu (d+9) k (-1048576) 1048576;rw[decide_eq_true hk.1,decide_eq_true hk.2]at e3;have e4:=Sx fu d hfu n h dp fw d1 d2 hv.dw hv.fw;have k1:=Q7 fu (d+9) dp (by omega) (by omega);have k2:=Q7 fu (d+9) fw (by omega) (by omega);have g1:=Zl k dp hd dp.length;have g2:=Zl k fw hf fw.length;have e5:=sp_CheckG fu d hfu (n:Int) (Ns (linK k dp hd dp.length)) (Ns (linK k fw hf fw.length)) (by omega) (by omega);have hst:isSt (n:Int) (linK k dp hd dp.length) (linK k fw hf fw.length)↔outB 0 16777216 (linK k dp hd dp.length)=false/\outB (-16777216) 16777216 (linK k fw hf fw.length)=false:=by
  constructor
  ·rintro ⟨m,hm,_,hv'⟩
   exact⟨Ym.2 hv'.dw,Ym.2 hv'.fw⟩
  ·rintro ⟨q1,q2⟩
   exact⟨n,rfl,h,⟨by omega,by omega,Ym.1 q1,Ym.1 q2⟩⟩
 have hb1: ∀i,-1048576*1048576<=k*at0 hd i/\k*at0 hd i<=1048576*1048576:=λi=>by
  have hx:=Z6 w1 (by omega) i;by_cases hk0:0<=k
  ·have:=Uq (P:=1048576) ⟨hk0,hk.2⟩ hx (by omega);omega
  ·have:=Uq (p:= -k) (P:=1048576) (by omega) hx (by omega);rw[Int.neg_mul]at this;omega
 have hb2: ∀i,-1048576*1048576<=k*at0 hf i/\k*at0 hf i<=1048576*1048576:=λi=>by
  have hx:=Z6 w2 (by omega) i;by_cases hk0:0<=k
  ·have:=Uq (P:=1048576) ⟨hk0,hk.2⟩ hx (by omega);omega
  ·have:=Uq (p:= -k) (P:=1048576) (by omega) hx (by omega);rw[Int.neg_mul]at this;omega
 unfold shO;unfold stC at*
 rw[eq_tangent_Shift];simp(disch:=omega)only[Zc,QM,QD,e1,e2,e3,e4,k1,k2,out0,Nf,Zf,Nat.mul_one];rw[Zh (λj:Nat=>(((j:Nat):Int),((0:Int),C.nl,C.nl,()),((n:Int),ints (linK k dp hd j++dp.drop j),ints fw,()),())) 0 (((hd.length:Nat):Int),((0:Int),C.nl,C.nl,()),((n:Int),ints (linK k dp hd dp.length),ints fw,()),()) hd.length ?_ ?_ ?_ (by omega)]
 rotate_left
 ·rfl
 ·intro j hj;have hjd:j<dp.length:=by omega
  have i1:=Zk hd hj;have hll:(linK k dp hd j++dp.drop j).length=dp.length:=by rw[List.length_append,Zl,List.length_drop];omega
  have hll1:(linK k dp hd (j+1)++dp.drop (j+1)).length=dp.length:=by rw[List.length_append,Zl,List.length_drop];omega
  have i2:=Zk (linK k dp hd j++dp.drop j) (i:=j) (by omega);rw[Bc hjd]at i2;have i3:=Jc (linK k dp hd j++dp.drop j) (i:=j) (by omega) (at0 dp j+k*at0 hd j);rw[lin_set hjd]at i3;have b1:=hb1 j;have b2:=Z6 hv.dw (by omega) j;generalize hq:k*at0 hd j=q at*
  generalize linK k dp hd j++dp.drop j=A at*
  generalize linK k dp hd (j+1)++dp.drop (j+1)=A' at*
  simp(disch:=omega)only[Zc,QM,QD,Int.toNat_natCast,Nat.mul_one,Nat.div_one,Nat.zero_add,i1,Zf,hll,i2,hq,i3,hll1];rfl
 ·rw[l1,lin_all];simp(disch:=omega)only[Zc,QM,QD,Nat.mul_one,Nat.div_one,Zf,g1]
 simp(disch:=omega)only[Zc,QM,QD,Nat.mul_one,Nat.div_one,Zf,g1];rw[Zh (λj:Nat=>(((j:Nat):Int),((0:Int),C.nl,C.nl,()),((n:Int),ints (linK k dp hd dp.length),ints (linK k fw hf j++fw.drop j),()),())) 0 (((hf.length:Nat):Int),((0:Int),C.nl,C.nl,()),((n:Int),ints (linK k dp hd dp.length),ints (linK k fw hf fw.length),()),()) hf.length ?_ ?_ ?_ (by omega)]
 rotate_left
 ·rfl
 ·intro j hj;have hjd:j<fw.length:=by omega
  have i1:=Zk hf hj;have hll:(linK k fw hf j++fw.drop j).length=fw.length:=by rw[List.length_append,Zl,List.length_drop];omega
  have hll1:(linK k fw hf (j+1)++fw.drop (j+1)).length=fw.length:=by rw[List.length_append,Zl,List.length_drop];omega
  have i2:=Zk (linK k fw hf j++fw.drop j) (i:=j) (by omega);rw[Bc hjd]at i2;have i3:=Jc (linK k fw hf j++fw.drop j) (i:=j) (by omega) (at0 fw j+k*at0 hf j);rw[lin_set hjd]at i3;have b1:=hb2 j;have b2:=Z6 hv.fw (by omega) j;generalize hq:k*at0 hf j=q at*
  generalize linK k fw hf j++fw.drop j=A at*
  generalize linK k fw hf (j+1)++fw.drop (j+1)=A' at*
  simp(disch:=omega)only[Zc,QM,QD,Int.toNat_natCast,Nat.mul_one,Nat.div_one,Nat.zero_add,i1,Zf,hll,i2,hq,i3,hll1,g1];rfl
 ·rw[l2,lin_all];simp(disch:=omega)only[Zc,QM,QD,Nat.mul_one,Nat.div_one,Zf,g1,g2]
 have htk1:List.take dp.length (ints (linK k dp hd dp.length))=ints (linK k dp hd dp.length):=List.take_of_length_le (by rw[Zf,g1];exact Nat.le_refl _);have htk2:List.take fw.length (ints (linK k fw hf fw.length))=ints (linK k fw hf fw.length):=List.take_of_length_le (by rw[Zf,g2];exact Nat.le_refl _);rw[g1,g2]at e5;cases q1:outB 0 16777216 (linK k dp hd dp.length)with
 |true=>
  have e5:=e5.2 (λw=>by rw[hst,q1]at w;cases w.1);simp(disch:=omega)only[Zc,QM,QD,Nat.mul_one,Nat.div_one,Nat.zero_add,Zf,g1,g2,htk1,htk2,e5]
 |false=>
  cases q2:outB (-16777216) 16777216 (linK k fw hf fw.length)with
  |true=>
   have e5:=e5.2 (λw=>by rw[hst,q2]at w;cases w.2);simp(disch:=omega)only[Zc,QM,QD,Nat.mul_one,Nat.div_one,Nat.zero_add,Zf,g1,g2,htk1,htk2,e5]
  |false=>
   have e5:=e5.1 (hst.2 ⟨q1,q2⟩);simp(disch:=omega)only[Zc,QM,QD,Nat.mul_one,Nat.div_one,Nat.zero_add,Zf,g1,g2,htk1,htk2,e5]
end
end Go.Proofs.YtjmempcalaliiaaGreatDoor
/- TangentExact answers true. -/
namespace Go.Proofs.YtjmempcalaliiaaGreatDoor
open Go Go.PM Go.Grid
attribute [local congr] Zr Zs Zt Ya Zu Zv Yb Yc Yd Ye Zw Zx Yf Y5 Y6 Y7 Y8 Y9 Xb Xc Xd Xe Xa Zz Z0 Xf Z1 Z2 Zm Z3 Zy
theorem shO_cases (n:Nat) (k:Int) (dp fw hd hf:List Int):(outB 0 16777216 (linK k dp hd dp.length)=false/\outB (-16777216) 16777216 (linK k fw hf fw.length)=false/\shO n k dp fw hd hf=OK (V.tup [V.agg (stC n (linK k dp hd dp.length) (linK k fw hf fw.length)),I 0]))\/shO n k dp fw hd hf=OK (V.tup [V.agg [C.v (.int .i64 0),C.nl,C.nl],I 1]):=by
 unfold shO;cases h1:outB 0 16777216 (linK k dp hd dp.length)with
 |true=>exact .inr rfl
 |false=>
  cases h2:outB (-16777216) 16777216 (linK k fw hf fw.length)with
  |true=>exact .inr rfl
  |false=>exact .inl ⟨rfl,rfl,rfl⟩
section
variable (fu d:Nat) (hfu:18446744073709551616<=fu)
include hfu
end
end Go.Proofs.YtjmempcalaliiaaGreatDoor
/- TangentTwice answers true. -/
namespace Go.Proofs.YtjmempcalaliiaaGreatDoor
open Go Go.PM Go.Grid
attribute [local congr] Zr Zs Zt Ya Zu Zv Yb Yc Yd Ye Zw Zx Yf Y5 Y6 Y7 Y8 Y9 Xb Xc Xd Xe Xa Zz Z0 Xf Z1 Z2 Zm Z3 Zy
theorem iter_two {A B:Type} {body:A->Option (Nat×A)} {fu:Nat} {x:A} {K:Nat×A->Option B} {r:Option B} (J:Nat->A->Prop) (P:A->Prop) (k:Nat) (hx:J 0 x)
  (h: ∀j y,j<k->J j y-> ∃y',(body y=some (0,y')/\J (j+1) y')\/(body y=some (2,y')/\P y')) (he: ∀y,J k y->body y=some (1,y)) (hf:k<fu)
  (h1: ∀z,P z->K (1,z)=r) (h0: ∀z,J k z->K (0,z)=r):(iter body fu x).bind K=r:=by
 obtain⟨e,z,hi,hq⟩:=Cg (body:=body) (λj y=>J j y) (λe z=>(e=1/\P z)\/(e=0/\J k z)) k 0 fu x hx (λj y _ hj hJ=>by
  obtain⟨y',hh|hh⟩:=h j y (by omega) hJ
  ·exact⟨y', .inl hh⟩
  ·exact⟨y', .inr ⟨1,hh.1, .inl ⟨rfl,hh.2⟩⟩⟩) (λy hJ=>by
  rw[Nat.zero_add]at hJ;exact⟨0,y,he y hJ, .inr ⟨rfl,hJ⟩⟩) hf
 rw[hi];rcases hq with⟨rfl,hp⟩|⟨rfl,hp⟩
 ·exact h1 z hp
 ·exact h0 z hp
theorem reps_ints (m:Nat) (v:Int):reps m [C.v (.int .i64 v)]=ints (List.replicate m v):=by
 unfold reps
 induction m with
 |zero=>rfl
 |succ m ih=>rw[List.replicate_succ,List.flatten_cons,ih,List.replicate_succ];rfl
def tst (n a b c:Nat) (h:List Int×List Int) (br:List Int):List Int×List Int:=(tDL a b c (degS (nodes n).length (edg n)) br h.1 h.2 (edg n),tFL a b c h.1 h.2 (edg n) (edg n).length)
theorem Qd (m:List Int) (i:Nat):at0 (m.map λ_=>(0:Int)) i=0:=Vh (λ_=>0) rfl m i
theorem tF_hom (a b c:Nat) {hd hf sd sf:List Int} (E:List (Int×Int)) (k:Int) (h1: ∀i,at0 sd i=k*at0 hd i) (h2: ∀i,at0 sf i=k*at0 hf i) (j:Nat):tF a b c sd sf E j=k*tF a b c hd hf E j:=by
 have z:=tF_lin a b c (gd:=hd.map λ_=>(0:Int)) (gf:=hf.map λ_=>(0:Int)) (hd:=hd.map λ_=>(0:Int)) (hf:=hf.map λ_=>(0:Int)) (sd:=hd.map λ_=>(0:Int)) (sf:=hf.map λ_=>(0:Int)) E 1 (λi=>by simp only[Qd];rfl) (λi=>by simp only[Qd];rfl) j;have e:=tF_lin a b c (gd:=hd.map λ_=>(0:Int)) (gf:=hf.map λ_=>(0:Int)) (hd:=hd) (hf:=hf) (sd:=sd) (sf:=sf) E k (λi=>by rw[Qd,h1];omega) (λi=>by rw[Qd,h2];omega) j;omega
theorem tDL_hom (a b c:Nat) {dg br hd hf sd sf:List Int} (E:List (Int×Int)) (k:Int) (h1: ∀i,at0 sd i=k*at0 hd i) (h2: ∀i,at0 sf i=k*at0 hf i) {i:Nat} (g2:i<hd.length) (g3:i<sd.length):at0 (tDL a b c dg br sd sf E) i=k*at0 (tDL a b c dg br hd hf E) i:=by
 have z:=tDL_lin a b c (dg:=dg) (br:=br) (gd:=hd.map λ_=>(0:Int)) (gf:=hf.map λ_=>(0:Int)) (hd:=hd.map λ_=>(0:Int)) (hf:=hf.map λ_=>(0:Int)) (sd:=hd.map λ_=>(0:Int)) (sf:=hf.map λ_=>(0:Int)) E 1 (λi=>by simp only[Qd];rfl) (λi=>by simp only[Qd];rfl) (i:=i) (by rw[List.length_map];exact g2) (by rw[List.length_map];exact g2) (by rw[List.length_map];exact g2);have e:=tDL_lin a b c (dg:=dg) (br:=br) (gd:=hd.map λ_=>(0:Int)) (gf:=hf.map λ_=>(0:Int)) (hd:=hd) (hf:=hf) (sd:=sd) (sf:=sf) E k (λi=>by rw[Qd,h1];omega) (λi=>by rw[Qd,h2];omega) (i:=i) (by rw[List.length_map];exact g2) g2 g3;omega
theorem Si (s k:Int) (g h:List Int) (m:Nat):linK (s*k) g h m=linK s g (h.map λx=>k*x) m:=by
 unfold linK;refine List.map_congr_left λi _=> ?_;rw[Vh (λx=>k*x) (Int.mul_zero _),Int.mul_assoc]
theorem Gf (k:Int) (g:List Int) (m:Nat):linK k g (List.replicate m 0) g.length=g:=by
 refine M7 (Zl ..) λi hi=> ?_;rw[Zl]at hi;have e:at0 (linK k g (List.replicate m 0) g.length) i=at0 g i+k*at0 (List.replicate m 0) i:=Yw _ _ hi;have z:at0 (List.replicate m (0:Int)) i=0:=by
  unfold at0;rw[List.getD_eq_getElem?_getD,List.getElem?_replicate];split<;>rfl
 rw[e,z,Int.mul_zero,Int.add_zero]
def kk (s:Int) (j:Nat):Int:=if j=0 then s*s else if j=1 then s else 1
theorem kk_s (s:Int) {j:Nat} (h:j<2):kk s j=s*kk s (j+1):=by
 rcases(show j=0\/j=1 by omega)with rfl|rfl
 ·rfl
 ·show s=s*1;omega
theorem two_F {n:Nat} {a b c:Nat} {dp fw hd hf:List Int} (K:Int) (h1:hd.length=dp.length) (h2:hf.length=fw.length) (c1:outB (-16777215) 16777215 (stF n a b dp fw)=false) (c2:outB (-16777215) 16777215 (stF n a b (linK ((sc a b c:Int)*K) dp hd dp.length) (linK ((sc a b c:Int)*K) fw hf fw.length))=false):
  stF n a b (linK ((sc a b c:Int)*K) dp hd dp.length) (linK ((sc a b c:Int)*K) fw hf fw.length)=linK K (stF n a b dp fw) (tFL a b c hd hf (edg n) (edg n).length) (stF n a b dp fw).length:=by
 rw[Si,Si]at c2⊢;refine M7 (by rw[Zl,Xq,Xq]) λj hj=> ?_;rw[Xq]at hj;rw[exact_F (c:=c) (by rw[List.length_map];exact h1) (by rw[List.length_map];exact h2) c1 c2 hj,Tj rfl (by rw[Tg,Xq]),tFL_at a b c hd hf (edg n) hj];rw[tF_hom a b c (edg n) K (hd:=hd) (hf:=hf) (λi=>Vh (λx=>K*x) (Int.mul_zero _) hd i) (λi=>Vh (λx=>K*x) (Int.mul_zero _) hf i)]
theorem two_D {n:Nat} (hn:n=1\/n=2) {a b c:Nat} {dp fw hd hf:List Int} (K:Int) (h0:dp.length=(nodes n).length) (h1:hd.length=dp.length) (h2:hf.length=fw.length) (p1:wid 0 16777216 dp) (p2:wid 0 16777216 (linK ((sc a b c:Int)*K) dp hd dp.length))
  (c1:outB (-16777215) 16777215 (stF n a b dp fw)=false) (c2:outB (-16777215) 16777215 (stF n a b (linK ((sc a b c:Int)*K) dp hd dp.length) (linK ((sc a b c:Int)*K) fw hf fw.length))=false)
  (hB:stB n a b c (linK ((sc a b c:Int)*K) dp hd dp.length) (linK ((sc a b c:Int)*K) fw hf fw.length)=stB n a b c dp fw):
  stD n a b c (linK ((sc a b c:Int)*K) dp hd dp.length) (linK ((sc a b c:Int)*K) fw hf fw.length)=linK K (stD n a b c dp fw) (tDL a b c (degS (nodes n).length (edg n)) (stB n a b c dp fw) hd hf (edg n)) (stD n a b c dp fw).length:=by
 rw[Si,Si]at c2 hB⊢;rw[Si]at p2;refine M7 (by rw[Zl,Uh,Uh,Zl]) λi hi=> ?_;rw[Uh,Zl]at hi;rw[exact_D hn h0 (by rw[List.length_map];exact h1) (by rw[List.length_map];exact h2) p1 p2 c1 c2 hB (by omega),Tj rfl (by rw[Ti,Uh];exact h1)];rw[tDL_hom a b c (edg n) K (hd:=hd) (hf:=hf) (λi=>Vh (λx=>K*x) (Int.mul_zero _) hd i) (λi=>Vh (λx=>K*x) (Int.mul_zero _) hf i) (by omega) (by rw[List.length_map];omega)]
def bC (l:List Int):C:=C.sl l.length (ints l)
section
variable (fu d:Nat) (hfu:18446744073709551616<=fu)
include hfu
theorem Mp (n:Nat) (hn:n=1\/n=2) (a b c:Nat) (ha:1<=a/\a<=4) (hb:1<=b/\b<=4) (hc:1<=c/\c<=4) (br hd hf:List Int) (l1:br.length=(edg n).length) (l2:hd.length=(nodes n).length) (l3:hf.length=(edg n).length) (w1:wid (-1) 1 br) (M:Int) (hM:0<=M/\M<=1099511627776) (w2:wid (-M) M hd) (w3:wid (-M) M hf):
  cl fu (d+13) fn_tangent_Compose_1 [V.agg [C.sl hd.length (ints hd),C.sl hf.length (ints hf)],V.c (C.sl br.length (ints br)),V.c (C.cp [C.v (.int .i64 (a:Int)),C.v (.int .i64 (b:Int)),C.v (.int .i64 (c:Int))]),V.c (C.cp [C.v (.int .i64 (n:Int))])] []=OK (V.tup [V.agg [C.sl hd.length (ints (tDL a b c (degS (nodes n).length (edg n)) br hd hf (edg n))),C.sl (edg n).length (ints (tFL a b c hd hf (edg n) (edg n).length))],I 0]):=by
 have ap:=sp_ApplyT fu d hfu n hn a b c ha hb hc br hd hf l1 l2 l3 w1 M hM w2 w3;rw[eq_tangent_Compose_1];simp(disch:=omega)only[Zc,QM,QD,ap,List.length_cons,List.length_nil,Nat.zero_add,Nat.reduceAdd]
theorem Be (n:Nat) (hn:n=1\/n=2) (a b c:Nat) (ha:1<=a/\a<=4) (hb:1<=b/\b<=4) (hc:1<=c/\c<=4) (br br' hd hf:List Int) (l1:br.length=(edg n).length) (l1':br'.length=(edg n).length) (l2:hd.length=(nodes n).length) (l3:hf.length=(edg n).length) (w1:wid (-1) 1 br) (w1':wid (-1) 1 br') (w2:wid (-9) 9 hd) (w3:wid (-9) 9 hf):
  cl fu (d+15) fn_tangent_Compose [V.agg [C.v (.int .i64 (a:Int)),C.v (.int .i64 (b:Int)),C.v (.int .i64 (c:Int))],I n,V.c (C.sl 2 [bC br,bC br']),V.agg [C.sl hd.length (ints hd),C.sl hf.length (ints hf)]] []=OK (V.tup [V.agg [C.sl hd.length (ints (tst n a b c (tst n a b c (hd,hf) br) br').1),C.sl (edg n).length (ints (tst n a b c (tst n a b c (hd,hf) br) br').2)],I 0]):=by
 have h:=Pt hn;have hNl:=Z7 h;have heL:=Xw h;have p1:=Rp h;have p2:=Eg h;have k1:=Q7 fu (d+13) hd (by omega) (by omega);have k2:=Q7 fu (d+13) hf (by omega) (by omega);have c1:=Mp fu d hfu n hn a b c ha hb hc br hd hf l1 l2 l3 w1 9 (by omega) w2 w3;have bg:=Sz w2 (by omega);have bg':=Sz w3 (by omega);have W1:=tDL_wid (br:=br) ha.2 hb.2 hc.2 hn (by omega) l2 bg bg';have W2:=tFL_wid ha.2 hb.2 hc.2 (hd:=hd) (hf:=hf) (E:=edg n) (by omega) bg bg' (edg n).length;have q1:=Ti a b c (degS (nodes n).length (edg n)) br hd hf (edg n);have q2:=Tg a b c hd hf (edg n) (edg n).length;have c2:=Mp fu d hfu n hn a b c ha hb hc br' (tDL a b c (degS (nodes n).length (edg n)) br hd hf (edg n)) (tFL a b c hd hf (edg n) (edg n).length) l1' (by omega) (by omega) w1' 1313280 (by omega) W1 (Q3 W2 (by omega) (by omega));rw[q1,q2]at c2;unfold tst;rw[eq_tangent_Compose];simp(disch:=omega)only[Zc,QM,QD,k1,k2,out0,Nf,Zf,Nat.mul_one,Nat.zero_add];have t1:List.take hd.length (ints hd)=ints hd:=List.take_of_length_le (by rw[Zf];exact Nat.le_refl _);have t2:List.take hf.length (ints hf)=ints hf:=List.take_of_length_le (by rw[Zf];exact Nat.le_refl _);rw[t1,t2,eq2_tangent_fold_api_Change_api_Branch];obtain⟨fv,rfl⟩: ∃fv,fu=fv+2:=⟨fu-2,by omega⟩;unfold bC;rw[Hv (z:=(0,1,(C.sl hd.length (ints (tDL a b c (degS (nodes n).length (edg n)) br hd hf (edg n))),C.sl (edg n).length (ints (tFL a b c hd hf (edg n) (edg n).length)),()),(C.nl,C.nl,()),())) ?_]
 rotate_left
 ·simp(disch:=omega)only[Zc,QM,QD,c1,Int.toNat_zero,Int.toNat_one,List.drop_zero,List.drop_succ_cons,Nat.mul_one,List.length_cons,List.length_nil,Nat.zero_add,Nat.reduceAdd];rfl
 rw[Hv (z:=(0,2,(C.sl hd.length (ints (tDL a b c (degS (nodes n).length (edg n)) br' (tDL a b c (degS (nodes n).length (edg n)) br hd hf (edg n)) (tFL a b c hd hf (edg n) (edg n).length) (edg n))),C.sl (edg n).length (ints (tFL a b c (tDL a b c (degS (nodes n).length (edg n)) br hd hf (edg n)) (tFL a b c hd hf (edg n) (edg n).length) (edg n) (edg n).length)),()),(C.nl,C.nl,()),())) ?_]
 rotate_left
 ·simp(disch:=omega)only[Zc,QM,QD,c2,Int.toNat_zero,Int.toNat_one,List.drop_zero,List.drop_succ_cons,Nat.mul_one,List.length_cons,List.length_nil,Nat.zero_add,Nat.reduceAdd];rfl
 rw[iter_one (e:=0) (z:=(0,2,(C.sl hd.length (ints (tDL a b c (degS (nodes n).length (edg n)) br' (tDL a b c (degS (nodes n).length (edg n)) br hd hf (edg n)) (tFL a b c hd hf (edg n) (edg n).length) (edg n))),C.sl (edg n).length (ints (tFL a b c (tDL a b c (degS (nodes n).length (edg n)) br hd hf (edg n)) (tFL a b c hd hf (edg n) (edg n).length) (edg n) (edg n).length)),()),(C.nl,C.nl,()),())) (by omega) ?_]
 rotate_left
 ·simp(disch:=omega)only[Zc,QM,QD,Nat.mul_one]
 simp(disch:=omega)only[Zc,QM,QD,List.length_cons,List.length_nil,Nat.zero_add,Nat.reduceAdd]
end
end Go.Proofs.YtjmempcalaliiaaGreatDoor
/- TangentTwice answers true. -/
namespace Go.Proofs.YtjmempcalaliiaaGreatDoor
open Go Go.PM Go.Grid
attribute [local congr] Zr Zs Zt Ya Zu Zv Yb Yc Yd Ye Zw Zx Yf Y5 Y6 Y7 Y8 Y9 Xb Xc Xd Xe Xa Zz Z0 Xf Z1 Z2 Zm Z3 Zy
theorem sc_bd2 {a b c:Nat} (ha:a<=2) (hb:b<=2) (hc:c<=2):sc a b c<=480:=by
 have h:2^(max a b+c)<=2^4:=Nat.pow_le_pow_right (by omega) (by omega);unfold sc;omega
def bdJ (j:Nat):Int:=if j=0 then 9 else if j=1 then 1313280 else 191633817600
theorem bdJ_s {j:Nat} (h:j<2):bdJ (j+1)=145920*bdJ j:=by
 rcases(show j=0\/j=1 by omega)with rfl|rfl<;>rfl
theorem bdJ_0 (j:Nat):0<=bdJ j:=by
 unfold bdJ
 repeat' split
 all_goals omega
def Tv (n a b c:Nat) (h0:List Int×List Int) (j:Nat) (y:Bool×List C×Int×(Int×C×C×Unit)×(Int×C×C×Unit)×Unit):Prop:=
 ∃(dp fw hd hf:List Int) (brs:List (List Int)),Vst n dp fw/\hd.length=dp.length/\hf.length=fw.length/\Vst n (linK (kk (sc a b c) j) dp hd dp.length) (linK (kk (sc a b c) j) fw hf fw.length)/\wid (-(bdJ j)) (bdJ j) hd/\wid (-(bdJ j)) (bdJ j) hf/\
  brs.length=j/\(∀br∈brs,br.length=(edg n).length/\wid (-1) 1 br)/\brs.foldl (tst n a b c) h0=(hd,hf)/\
  y=(false,brs.map bC,(j:Int),((n:Int),C.sl dp.length (ints dp),C.sl fw.length (ints fw),()),((n:Int),C.sl dp.length (ints (linK (kk (sc a b c) j) dp hd dp.length)),C.sl fw.length (ints (linK (kk (sc a b c) j) fw hf fw.length)),()),())
section
variable (fu d:Nat) (hfu:18446744073709551616<=fu)
include hfu
set_option maxHeartbeats 16000000 in
theorem sp_TangentTwice (l:List Int) (hl: ∀x∈l,0<=x/\x<=255):cl fu (d+16) fn_synopticlaw31_TangentTwice [V.c (C.sl l.length (ik .u8 l))] []=OK (B true):=by
 have hb:=Wg hl (k:=300) (by omega);have hN:=sp_NewC fu (d+14) l 300;replace hN:cl fu (d+15) fn_synopticfield_New [V.c (C.sl l.length (ik .u8 l)),I 300] []=_:=hN;generalize l.take 300=bs at hb hN;obtain⟨n,j1,hn,hj1,c1⟩:=F8 fu (d+12) hb (i:=0) (by omega);have h:=Pt hn;obtain⟨dp,fw,j2,ok,hj2,c2⟩:=sp_State fu (d+5) hfu hb hj1 n h;obtain⟨va,j3,hva,hj3,c3⟩:=X7 fu (d+13) hb hj2 2 (by omega);obtain⟨vb,j4,hvb,hj4,c4⟩:=X7 fu (d+13) hb hj3 2 (by omega);obtain⟨vc,j5,hvc,hj5,c5⟩:=X7 fu (d+13) hb hj4 2 (by omega);obtain⟨v,j6,hv6,hj6,c6⟩:=X7 fu (d+13) hb hj5 2 (by omega);replace c3:cl fu (d+15) fn_synopticfield_Codes_Next [V.ptr 1000000 0,I 2] _=_:=c3;replace c4:cl fu (d+15) fn_synopticfield_Codes_Next [V.ptr 1000000 0,I 2] _=_:=c4;replace c5:cl fu (d+15) fn_synopticfield_Codes_Next [V.ptr 1000000 0,I 2] _=_:=c5;replace c6:cl fu (d+15) fn_synopticfield_Codes_Next [V.ptr 1000000 0,I 2] _=_:=c6;obtain⟨a,ha,ea⟩: ∃a:Nat,(1<=a/\a<=2)/\(1:Int)+(va:Int)=(a:Int):=⟨1+va,by omega,by omega⟩;obtain⟨b,hb',eb⟩: ∃a:Nat,(1<=a/\a<=2)/\(1:Int)+(vb:Int)=(a:Int):=⟨1+vb,by omega,by omega⟩;obtain⟨c,hc,ec⟩: ∃a:Nat,(1<=a/\a<=2)/\(1:Int)+(vc:Int)=(a:Int):=⟨1+vc,by omega,by omega⟩;obtain⟨m,r,hm,hdr⟩: ∃(m:Nat) (r:List C),m<=3/\List.drop v [C.v (.int .i64 1),C.v (.int .i64 3)]=C.v (.int .i64 (m:Int))::r:=by
  rcases(show v=0\/v=1 by omega)with rfl|rfl
  ·exact⟨1,_,by omega,rfl⟩
  ·exact⟨3,_,by omega,rfl⟩
 obtain⟨hd,hf,j7,h1,h2,h3,h4,hj7,c7⟩:=sp_Change fu (d+5) hfu hb hj6 n h m (by omega) 9 (by omega);have heL:=Xw h;have hNl:=Z7 h;have hA:=Wk fu (d+7) hfu;have hv:=ok.vst;have hdl:=hv.dl;have hfl:=hv.fl;have hsc:=sc_bd2 ha.2 hb'.2 hc.2;have hss:(0:Int)<=(sc a b c:Int)*(sc a b c:Int)/\(sc a b c:Int)*(sc a b c:Int)<=230400:=by
  have:=Nat.mul_le_mul hsc hsc;have e:((sc a b c*sc a b c:Nat):Int)=(sc a b c:Int)*(sc a b c:Int):=Int.natCast_mul _ _;omega
 have a4:=Jn fu (d+8) hfu a b c (by omega) (by omega) (by omega);have sh:=Bd fu (d+4) hfu n h dp fw hv hd hf (by omega) (by omega) (Q3 h3 (by omega) (by omega)) (Q3 h4 (by omega) (by omega)) ((sc a b c:Int)*(sc a b c:Int)) (by omega);have p1:=Rp h;have p2:=Eg h;unfold codesO at*
 rw[eq_synopticlaw31_TangentTwice];simp(disch:=omega)only[Zc,QM,QD,out0,Nf,rN_ob,hA,hN,c1,c2,c3,c4,c5,c6,hdr,c7,ea,eb,ec,a4,Int.toNat_natCast,Nat.mul_one,List.length_cons,List.length_nil,Nat.zero_add,Nat.reduceAdd];rw[sh];rcases shO_cases n ((sc a b c:Int)*(sc a b c:Int)) dp fw hd hf with⟨o1,o2,q⟩|q
 rotate_left
 ·rw[q];simp(disch:=omega)only[Zc,QM,QD,List.length_cons,List.length_nil,Nat.zero_add,Nat.reduceAdd]
 rw[q];have g1:=Zl ((sc a b c:Int)*(sc a b c:Int)) dp hd dp.length;have g2:=Zl ((sc a b c:Int)*(sc a b c:Int)) fw hf fw.length;have hv':Vst n (linK ((sc a b c:Int)*(sc a b c:Int)) dp hd dp.length) (linK ((sc a b c:Int)*(sc a b c:Int)) fw hf fw.length):=⟨by omega,by omega,Ym.1 o1,Ym.1 o2⟩;unfold stC;simp(disch:=omega)only[Zc,QM,QD,List.length_cons,List.length_nil,Nat.zero_add,Nat.reduceAdd,g1,g2];clear c1 c2 c3 c4 c5 c6 c7 hN sh a4 q;refine iter_two (Tv n a b c (hd,hf)) (λz=>z.1=true) 2 ?_ ?_ ?_ (by omega) ?_ ?_
 ·exact⟨dp,fw,hd,hf,[],hv,by omega,by omega,hv',h3,h4,rfl,(λ_ h=>by cases h),rfl,rfl⟩
 ·clear hv hv' hdl hfl g1 g2 o1 o2
  rintro j y hj ⟨dp,fw,hd',hf',brs,hv,l1,l2,hv',w1,w2,lb,hbr,hfold,rfl⟩
  rw[kk_s _ hj]at hv'⊢;have hbs:(brs.map bC).length=j:=by rw[List.length_map];exact lb
  have hB':=bdJ_s hj;have hB0:=bdJ_0 j;generalize hK:kk (sc a b c:Int) (j+1)=K at*
  have dl:=hv.dl;have fl:=hv.fl;have k1:=Jo fu (d+2) hfu n h dp fw hv a b c (by omega) (by omega) (by omega);have k2:=Jo fu (d+2) hfu n h _ _ hv' a b c (by omega) (by omega) (by omega);have s1:=sp_Step fu d hfu n h dp fw hv a b c (by omega) (by omega) (by omega);have s2:=sp_Step fu d hfu n h _ _ hv' a b c (by omega) (by omega) (by omega);have g1:=Zl ((sc a b c:Int)*K) dp hd' dp.length;have g2:=Zl ((sc a b c:Int)*K) fw hf' fw.length;have lB:=Rq n a b c dp fw;have lB':=Rq n a b c (linK ((sc a b c:Int)*K) dp hd' dp.length) (linK ((sc a b c:Int)*K) fw hf' fw.length);have hSI:=Ef fu (d+14) hfu (stB n a b c dp fw) (stB n a b c (linK ((sc a b c:Int)*K) dp hd' dp.length) (linK ((sc a b c:Int)*K) fw hf' fw.length)) (by omega) (by omega);unfold stpO at s1 s2;unfold stC at*
  rw[g1,g2]at s2 k2;cases q1:outB (-16777215) 16777215 (stF n a b dp fw)with
  |true=>
   rw[q1]at k1;refine⟨(true, ?y1), .inr ⟨?g1,rfl⟩⟩
   case g1=>
    simp(disch:=omega)only[Zc,QM,QD,ea,eb,ec,k1,hbs,Nat.div_one,Nat.mul_one];rfl
  |false=>
   rw[q1]at k1;cases q2:outB (-16777215) 16777215 (stF n a b (linK ((sc a b c:Int)*K) dp hd' dp.length) (linK ((sc a b c:Int)*K) fw hf' fw.length))with
   |true=>
    rw[q2]at k2;refine⟨(true, ?y2), .inr ⟨?g2,rfl⟩⟩
    case g2=>
     simp(disch:=omega)only[Zc,QM,QD,ea,eb,ec,k1,k2,hbs,Nat.div_one,Nat.mul_one];rfl
   |false=>
    rw[q2]at k2;cases b1:stBad n a b c dp fw with
    |true=>
     rw[b1]at s1;cases b2:stBad n a b c (linK ((sc a b c:Int)*K) dp hd' dp.length) (linK ((sc a b c:Int)*K) fw hf' fw.length)with
     |true=>
      rw[b2]at s2;refine⟨(true, ?y3), .inr ⟨?g3,rfl⟩⟩
      case g3=>
       simp(disch:=omega)only[Zc,QM,QD,ea,eb,ec,k1,k2,s1,s2,hbs,Nat.div_one,Nat.mul_one,List.length_cons,List.length_nil,Nat.zero_add,Nat.reduceAdd];rfl
     |false=>
      rw[b2]at s2;refine⟨(true, ?y4), .inr ⟨?g4,rfl⟩⟩
      case g4=>
       simp(disch:=omega)only[Zc,QM,QD,ea,eb,ec,k1,k2,s1,s2,hbs,Nat.div_one,Nat.mul_one,List.length_cons,List.length_nil,Nat.zero_add,Nat.reduceAdd];rfl
    |false=>
     have v1:=hv.step b1;rw[b1]at s1;cases b2:stBad n a b c (linK ((sc a b c:Int)*K) dp hd' dp.length) (linK ((sc a b c:Int)*K) fw hf' fw.length)with
     |true=>
      rw[b2]at s2;refine⟨(true, ?y5), .inr ⟨?g5,rfl⟩⟩
      case g5=>
       simp(disch:=omega)only[Zc,QM,QD,ea,eb,ec,k1,k2,s1,s2,hbs,Nat.div_one,Nat.mul_one,List.length_cons,List.length_nil,Nat.zero_add,Nat.reduceAdd];rfl
     |false=>
      have v2:=hv'.step b2;rw[b2]at s2;by_cases hB:stB n a b c dp fw=stB n a b c (linK ((sc a b c:Int)*K) dp hd' dp.length) (linK ((sc a b c:Int)*K) fw hf' fw.length)
      rotate_left
      ·rw[decide_eq_false hB]at hSI;refine⟨(true, ?y6), .inr ⟨?g6,rfl⟩⟩
       case g6=>
        simp(disch:=omega)only[Zc,QM,QD,ea,eb,ec,k1,k2,s1,s2,hSI,hbs,Nat.div_one,Nat.mul_one,List.length_cons,List.length_nil,Nat.zero_add,Nat.reduceAdd];rfl
      rw[decide_eq_true hB]at hSI;have tF:=two_F (n:=n) (a:=a) (b:=b) (c:=c) K l1 l2 q1 q2;have tD:=two_D (a:=a) (b:=b) (c:=c) hn K dl l1 l2 hv.dw hv'.dw q1 q2 hB.symm;have lD:=Uh n a b c dp fw;have lD':=Uh n a b c (linK ((sc a b c:Int)*K) dp hd' dp.length) (linK ((sc a b c:Int)*K) fw hf' fw.length);have lF:=Xq n a b dp fw;have lF':=Xq n a b (linK ((sc a b c:Int)*K) dp hd' dp.length) (linK ((sc a b c:Int)*K) fw hf' fw.length);have lX:=Ti a b c (degS (nodes n).length (edg n)) (stB n a b c dp fw) hd' hf' (edg n);have lY:=Tg a b c hd' hf' (edg n) (edg n).length;have bg:=Sz w1 hB0;have bg':=Sz w2 hB0;have BX:=tDL_wid (br:=stB n a b c dp fw) (a:=a) (b:=b) (c:=c) (by omega) (by omega) (by omega) hn hB0 (by omega) bg bg';have BY:=tFL_wid (a:=a) (b:=b) (c:=c) (hd:=hd') (hf:=hf') (E:=edg n) (by omega) (by omega) (by omega) hB0 bg bg' (edg n).length;have hbw:=brn_wid n a b c dp fw;have e1:(stD n a b c (linK ((sc a b c:Int)*K) dp hd' dp.length) (linK ((sc a b c:Int)*K) fw hf' fw.length)).length=(stD n a b c dp fw).length:=by omega
      have e2:(stF n a b (linK ((sc a b c:Int)*K) dp hd' dp.length) (linK ((sc a b c:Int)*K) fw hf' fw.length)).length=(stF n a b dp fw).length:=by omega
      rw[e1,e2]at s2;refine⟨(false,brs.map bC++[bC (stB n a b c dp fw)],((j:Nat):Int)+1,((n:Int),C.sl (stD n a b c dp fw).length (ints (stD n a b c dp fw)),C.sl (stF n a b dp fw).length (ints (stF n a b dp fw)),()),((n:Int),C.sl (stD n a b c dp fw).length (ints (stD n a b c (linK ((sc a b c:Int)*K) dp hd' dp.length) (linK ((sc a b c:Int)*K) fw hf' fw.length))),C.sl (stF n a b dp fw).length (ints (stF n a b (linK ((sc a b c:Int)*K) dp hd' dp.length) (linK ((sc a b c:Int)*K) fw hf' fw.length))),()),()), .inl ⟨?_, ?_⟩⟩
      ·clear tF tD BX BY hfold hbr;simp(disch:=omega)only[Zc,QM,QD,ea,eb,ec,k1,k2,s1,s2,hSI,hbs,List.length_append,Nat.div_one,Nat.mul_one,List.length_cons,List.length_nil,Nat.zero_add,Nat.reduceAdd];rfl
      ·refine⟨stD n a b c dp fw,stF n a b dp fw,tDL a b c (degS (nodes n).length (edg n)) (stB n a b c dp fw) hd' hf' (edg n),tFL a b c hd' hf' (edg n) (edg n).length,brs++[stB n a b c dp fw],v1,by omega,by omega, ?_, ?_, ?_, ?_, ?_, ?_, ?_⟩
       ·rw[hK,<-tD,<-tF];exact v2
       ·rw[hB'];exact BX
       ·rw[hB'];exact Q3 BY (by omega) (by omega)
       ·rw[List.length_append,lb];rfl
       ·intro br hbr';rcases List.mem_append.1 hbr' with q|q
        ·exact hbr _ q
        ·rw[List.mem_singleton.1 q];exact⟨lB,hbw⟩
       ·rw[List.foldl_append,hfold];rfl
       ·rw[hK,<-tD,<-tF,List.map_append];rfl
 ·rintro y ⟨dp,fw,hd',hf',brs,hv,l1,l2,hv',w1,w2,lb,hbr,hfold,rfl⟩
  have hbs:(brs.map bC).length=2:=by rw[List.length_map];exact lb
  simp(disch:=omega)only[Zc,QM,QD,hbs,Nat.div_one,Nat.mul_one]
 ·intro z hz;simp(disch:=omega)only[Zc,QM,QD,hz]
 ·rintro z ⟨dp,fw,hd',hf',brs,hv,l1,l2,hv',w1,w2,lb,hbr,hfold,rfl⟩
  obtain⟨b1,b2,rfl⟩: ∃b1 b2,brs=[b1,b2]:=by
   match brs,lb with
   | [x,y],_=>exact⟨x,y,rfl⟩
  have hk2:kk (sc a b c:Int) 2=1:=rfl;have hbd:bdJ 2=191633817600:=rfl;rw[hk2]at hv'⊢;rw[hbd]at w1 w2;have dl:=hv.dl;have fl:=hv.fl;have q1:=hbr b1 (List.mem_cons_self ..);have q2:=hbr b2 (List.mem_cons_of_mem _ (List.mem_cons_self ..));have cp:=Be fu d hfu n hn a b c (by omega) (by omega) (by omega) b1 b2 hd hf q1.1 q2.1 (by omega) (by omega) q1.2 q2.2 h3 h4;have hf2:tst n a b c (tst n a b c (hd,hf) b1) b2=(hd',hf'):=hfold;rw[hf2]at cp;have sz:=Bd fu (d+4) hfu n h dp fw hv (List.replicate dp.length 0) (List.replicate fw.length 0) (List.length_replicate ..) (List.length_replicate ..) (wid_rep (by omega)) (wid_rep (by omega)) 1 (by omega);have so:shO n 1 dp fw (List.replicate dp.length 0) (List.replicate fw.length 0)=OK (V.tup [V.agg (stC n dp fw),I 0]):=by
   unfold shO;rw[Gf,Gf,Ym.2 hv.dw,Ym.2 hv.fw];rfl
  rw[so,List.length_replicate,List.length_replicate]at sz;have sm:=sp_Same29 fu (d+13) hfu (n:Int) (n:Int) _ _ _ _ (Ns dp) (Ns fw) (Ns dp) (Ns fw) (by omega) (by omega) (by omega) (by omega);rw[decide_eq_true ⟨rfl,rfl,rfl⟩]at sm;unfold stC at sz;have g1:=Zl 1 dp hd' dp.length;have g2:=Zl 1 fw hf' fw.length;simp(disch:=omega)only[Zc,QM,QD,ea,eb,ec,List.map_cons,List.map_nil,List.length_cons,List.length_nil,Nat.zero_add,Nat.reduceAdd,Nat.div_one,Nat.mul_one,List.take_succ_cons,List.take_zero,cp,reps_ints,Int.toNat_natCast,decide_true,sz,sm];rw[Zh (λj:Nat=>(false,((j:Nat):Int),())) 0 (false,((hd.length:Nat):Int),()) hd.length ?_ ?_ ?_ (by omega)]
  ·simp(disch:=omega)only[Zc,QM,QD];rw[Zh (λj:Nat=>(false,((j:Nat):Int),())) 0 (false,(((edg n).length:Nat):Int),()) (edg n).length ?_ ?_ ?_ (by omega)]
   ·simp(disch:=omega)only[Zc,QM,QD]
   ·rfl
   ·intro j hj;have i1:=Zk fw (i:=j) (by omega);have i2:=Zk (linK 1 fw hf' fw.length) (i:=j) (by omega);have i3:=Zk hf' (i:=j) (by omega);rw[Tj rfl l2 j]at i2;have x3:=Z6 w2 (by omega) j;have x4:=Z6 hv.fw (by omega) j;simp(disch:=omega)only[Zc,QM,QD,Int.toNat_natCast,Nat.mul_one,i1,i2,i3];rfl
   ·simp(disch:=omega)only[Zc,QM,QD]
  ·rfl
  ·intro j hj;have i1:=Zk dp (i:=j) (by omega);have i2:=Zk (linK 1 dp hd' dp.length) (i:=j) (by omega);have i3:=Zk hd' (i:=j) (by omega);rw[Tj rfl l1 j]at i2;have x3:=Z6 w1 (by omega) j;have x4:=Z6 hv.dw (by omega) j;simp(disch:=omega)only[Zc,QM,QD,Int.toNat_natCast,Nat.mul_one,i1,i2,i3];rfl
  ·simp(disch:=omega)only[Zc,QM,QD]
end
end Go.Proofs.YtjmempcalaliiaaGreatDoor
