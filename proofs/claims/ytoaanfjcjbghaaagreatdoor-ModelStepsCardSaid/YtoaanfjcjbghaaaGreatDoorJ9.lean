/- Parts put together: Ng, Nh, Ni, Ft, Fl, Nj, PPe, Fx, Ix. -/
import Derived.Test.YtoaanfjcjbghaaaGreatDoorJ8
import Derived.Test.YtoaanfjcjbghaaaGreatDoorJ7
import Derived.Deep.Slices
set_option linter.constructorNameAsVariable false
set_option linter.unusedSimpArgs false
set_option linter.unusedVariables false
/- Both programs' Slopes, Accelerate and Step, at any numbers. -/
namespace Go.Proofs.YtoaanfjcjbghaaaGreatDoor
open Go Go.PM Go.Grid
attribute [local congr] Z1 Z2 Z3 Yp Z4 Z5 Yq Yr Ys Yt Z6 Z7 Yu Xt Xu Xv Xw Xx Xz X0 X1 X2 Xy Z9 Ya X3 Yb Yc Zt Yd Z8
theorem Zno (x:Int):(if(if 16777216<x then 16777216 else x)> -16777216 then(if 16777216<x then 16777216 else x)else -16777216)=clp x:=by
 unfold clp
 repeat' split
 all_goals omega
def cmS (o1 o2:Option Out):Prop:= ∃(n:Int) (A B' A' B'':C) (la lb:List Int) (e:Int),o1=OK (V.tup [V.agg [C.v (.int .i64 n),A,B'],I e])/\o2=OK (V.tup [V.agg [C.v (.int .i64 n),A',B''],I e])/\isL A la/\isL A' la/\isL B' lb/\isL B'' lb/\la.length<=1000000/\lb.length<=1000000
theorem Mx {o1 o2:Option Out} {e:Int} (h1:o1=OK (V.tup [V.agg [C.v (.int .i64 0),C.nl,C.nl],I e])) (h2:o2=OK (V.tup [V.agg [C.v (.int .i64 0),C.nl,C.nl],I e])):cmS o1 o2:=⟨0,_,_,_,_,[],[],e,h1,h2,V6,V6,V6,V6,by simp,by simp⟩
theorem Znp {o1 o2:Option Out} {n:Nat} {dp fw:List Int} (l1:dp.length<=1000000) (l2:fw.length<=1000000) (h1:o1=OK (V.tup [V.agg (stC n dp fw),I 0])) (h2:o2=OK (V.tup [V.agg (stC n dp fw),I 0])):cmS o1 o2:=
 ⟨n,_,_,_,_,dp,fw,0,h1,h2,Z0 dp,Z0 dp,Z0 fw,Z0 fw,l1,l2⟩
def cmB (o1 o2:Option Out):Prop:= ∃(n:Int) (A B' A' B'' br br':C) (la lb lc:List Int) (e:Int),o1=OK (V.tup [V.agg [C.v (.int .i64 n),A,B'],V.c br,I e])/\o2=OK (V.tup [V.agg [C.v (.int .i64 n),A',B''],V.c br',I e])/\isL A la/\isL A' la/\isL B' lb/\isL B'' lb/\isL br lc/\isL br' lc/\la.length<=1000000/\lb.length<=1000000/\lc.length<=1000000
theorem Znq {o1 o2:Option Out} {e:Int} (h1:o1=OK (V.tup [V.agg [C.v (.int .i64 0),C.nl,C.nl],V.c C.nl,I e])) (h2:o2=OK (V.tup [V.agg [C.v (.int .i64 0),C.nl,C.nl],V.c C.nl,I e])):cmB o1 o2:=⟨0,_,_,_,_,_,_,[],[],[],e,h1,h2,V6,V6,V6,V6,V6,V6,by simp,by simp,by simp⟩
theorem Zq0 {o1 o2:Option Out} {n:Nat} {dp fw br:List Int} (l1:dp.length<=1000000) (l2:fw.length<=1000000) (l3:br.length<=1000000) (h1:o1=OK (V.tup [V.agg (stC n dp fw),V.c (C.sl br.length (ints br)),I 0])) (h2:o2=OK (V.tup [V.agg (stC n dp fw),V.c (C.sl br.length (ints br)),I 0])):cmB o1 o2:=
 ⟨n,_,_,_,_,_,_,dp,fw,br,0,h1,h2,Z0 dp,Z0 dp,Z0 fw,Z0 fw,Z0 br,Z0 br,l1,l2,l3⟩
theorem Zkh (a b c:Int):(∃x y z:Nat,a=x/\b=y/\c=z/\(1<=x/\x<=4)/\(1<=y/\y<=4)/\(1<=z/\z<=4))\/Qu 1 4 [a,b,c]=true:=by
 cases h:Qu 1 4 [a,b,c]with
 |true=>exact .inr rfl
 |false=>exact .inl (Zpe h)
section
variable (fu d:Nat) (hf:18446744073709551616<=fu)
theorem Znr (x:Int):cl fu (d+1) fn_synopticref28_Clip [I x,I (-16777216),I 16777216] []=OK (I (clp x)):=by rw[eq_synopticref28_Clip,Zno]
include hf
theorem Ly (n:Int) {c1 c2:C} {dp fw:List Int} (h1:isL c1 dp) (h2:isL c2 fw) (l1:dp.length<=1000000) (l2:fw.length<=1000000) (hst: ¬Zev n dp fw):
  cl fu (d+11) fn_model_Slopes [V.agg [C.v (.int .i64 n),c1,c2]] []=OK (V.tup [V.c C.nl,I 1])/\cl fu (d+11) fn_synopticref30_Slopes [V.agg [C.v (.int .i64 n),c1,c2]] []=OK (V.tup [V.c C.nl,I 1]):=by
 have e:=(H2 fu d hf n h1 h2 l1 l2).2 hst;have f:=(Q2 fu d hf n h1 h2 l1 l2).2 hst;constructor
 ·rw[eq_model_Slopes];simp(disch:=omega)only[Zb,QM,QD,e]
 ·rw[eq_synopticref30_Slopes];simp(disch:=omega)only[Zb,QM,QD,f]
set_option maxHeartbeats 4000000 in
theorem J2 (n:Nat) (h:Zu n) (dp fw:List Int) (hv:Vst n dp fw):
  cl fu (d+11) fn_synopticref30_Slopes [V.agg (stC n dp fw)] []=OK (V.tup [V.c (C.sl (edg n).length (ints (slp dp (edg n) (edg n).length))),I 0]):=by
 have hNl:=Ye h;have heL:=Xd h;have h1:=hv.dl;have h2:=hv.fl;have h3:=hv.dw;have e1:=(Q2 fu d hf (n:Int) (Z0 dp) (Z0 fw) (by omega) (by omega)).1 ⟨n,rfl,h,hv⟩;have e2:=Qf fu (d+1) hf n h;have hin:=Rc h;have hsl:=λk=>Ri dp (edg n) k;have hbd:=λj=>Zbx h3 (edg n) j;have hls:=λk=>Zep dp (edg n) k;unfold stC at*
 generalize hE:edg n=E at*
 generalize (Zg n).length=N at*
 rw[eq_synopticref30_Slopes];simp(disch:=omega)only[Zb,QM,QD,e1,e2];rw[Zk (λj:Nat=>(ints (slp dp E j),((j:Nat):Int),())) 0 (ints (slp dp E E.length),((E.length:Nat):Int),()) E.length ?_ ?_ ?_ (by omega)]
 ·have htk:List.take E.length (ints (slp dp E E.length))=ints (slp dp E E.length):=Zrc (by rw[Ze,hsl];exact Zrf _);simp(disch:=omega)only[Zb,QM,QD,Ze,hsl,Zro,Zrd,Zq4,htk]
 ·rfl
 ·intro j hj;have hin:=hin E[j] (Zr2 hj);have hgd:=Re E hj;have hsE:slE dp E j=at0 dp E[j].1.toNat-at0 dp E[j].2.toNat:=by unfold slE;rw[hgd]
  have hea:=λx y e=>Zb2 E hj (x:=x) (y:=y) e;have hbd:=hbd j;have hls:=hls j;have hslj:=hsl j;generalize slE dp E j=z at*
  generalize E[j]=e at*
  obtain⟨ea,eb⟩:=e;simp only at hin hsE;obtain⟨x,rfl⟩: ∃x:Nat,ea=x:=⟨ea.toNat,by omega⟩;obtain⟨y,rfl⟩: ∃y:Nat,eb=y:=⟨eb.toNat,by omega⟩;obtain⟨q1,q2⟩:=hea x y rfl;rw[Zq5,Zq5]at hsE;have g1:=Zr dp (i:=x) (by omega);have g2:=Zr dp (i:=y) (by omega);have b1:=Xq h3 (by omega) x;have b2:=Xq h3 (by omega) y;rw[hls];simp(disch:=omega)only[Zb,QM,QD,Zq5,Zrd,Zro,q1,q2,g1,g2,<-hsE,Ze,hslj,Zre,Zq6,Zq8,Zq4,Xo];rfl
 ·simp(disch:=omega)only[Zb,QM,QD,Ze,hsl,Zro,Zrd]
set_option maxHeartbeats 4000000 in
theorem Tp (n:Nat) (h:Zu n) (dp fw:List Int) (hv:Vst n dp fw) (a b c:Nat) (ha:1<=a/\a<=4) (hb:1<=b/\b<=4) (hc:1<=c/\c<=4):
  cl fu (d+12) fn_synopticref30_Accelerate [V.agg [C.v (.int .i64 (a:Int)),C.v (.int .i64 (b:Int)),C.v (.int .i64 (c:Int))],V.agg (stC n dp fw)] []=OK (V.tup [V.agg (stC n dp (stF n a b dp fw)),I 0]):=by
 have hNl:=Ye h;have heL:=Xd h;have h1:=hv.dl;have h2:=hv.fl;have h3:=hv.dw;have e1:=Nj fu (d+10) hf (a:Int) (b:Int) (c:Int);rw[Ud.2 (λv hv'=>by simp at hv';rcases hv' with rfl|rfl|rfl<;>omega)]at e1;unfold scC at e1;have e2:=J2 fu d hf n h dp fw hv;have eC:=λx=>Znr fu (d+10) x;have hal:=λk=>Mu a b dp fw (edg n) k;have has:=λk=>Wn a b dp fw (edg n) k;have hsl:=Ri dp (edg n) (edg n).length;have hsa: ∀{j:Nat},j<(edg n).length->at0 (slp dp (edg n) (edg n).length) j=slE dp (edg n) j:=λhj=>Ng _ _ hj;have hbd:=λj=>Zbx h3 (edg n) j;have wa:IntKind.u64.wrap (a:Int)=(a:Int):=IntWalk.u64_in _ ⟨by omega,by omega⟩;have wb:IntKind.u64.wrap (b:Int)=(b:Int):=IntWalk.u64_in _ ⟨by omega,by omega⟩;have ma:min a (IntKind.bits .i64)=a:=by show min a 64=a;omega
 have mb:min b (IntKind.bits .i64)=b:=by show min b 64=b;omega
 have htk1:List.take dp.length (ints dp)=ints dp:=Zrc (by rw[Ze];exact Zrf _);unfold stF;unfold stC at*
 rw[hal];have hac: ∀j,Zg0 a b dp fw (edg n) j=clp (at0 fw j+(shr (slE dp (edg n) j) b-shr (at0 fw j) a)):=λj=>rfl;generalize slp dp (edg n) (edg n).length=sl at*
 generalize hE:edg n=E at*
 generalize (Zg n).length=N at*
 rw[eq_synopticref30_Accelerate];simp(disch:=omega)only[Zb,QM,QD,e1,Zs0,if_false,e2,Ze,Zrd,Zq4,htk1];rw[<-hsl];rw[Zk (λj:Nat=>(((j:Nat):Int),((0:Int),C.nl,C.nl,()),((n:Int),C.sl dp.length (ints dp),ints (Lk a b dp fw E j),()),())) 0 (((sl.length:Nat):Int),((0:Int),C.nl,C.nl,()),((n:Int),C.sl dp.length (ints dp),ints (Lk a b dp fw E sl.length),()),()) sl.length ?_ ?_ ?_ (by omega)]
 ·have htk2:List.take sl.length (ints (Lk a b dp fw E sl.length))=ints (Lk a b dp fw E sl.length):=Zrc (by rw[Ze,hal];exact Zrf _);simp(disch:=omega)only[Zb,QM,QD,Ze,hal,Zro,Zrd,Zq4,htk2]
 ·rfl
 ·intro j hj;have hjE:j<E.length:=by omega
  have i1:=Zr fw (i:=j) (by omega);have i2:=Zr sl (i:=j) (by omega);have b1:=Xq hv.fw (by omega) j;have b2:=hbd j;have hac:=hac j;have has:=has j;have halj:=hal j;rw[hsa hjE]at i2;rw[has];have q1:=Zby b (by omega:(0:Int)<=16777216) b2;have q2:=Zby a (by omega:(0:Int)<=16777216) b1;have f1:Int.fdiv (slE dp E j) (2^b)=shr (slE dp E j) b:=rfl;have f2:Int.fdiv (at0 fw j) (2^a)=shr (at0 fw j) a:=rfl;generalize Zg0 a b dp fw E j=z at*
  generalize shr (slE dp E j) b=p at*
  generalize shr (at0 fw j) a=q at*
  generalize slE dp E j=s at*
  generalize at0 fw j=f at*
  have hz:clp (f-q+p)=z:=by rw[hac,show f-q+p=f+(p-q) by omega]
  simp(disch:=omega)only[Zb,QM,QD,Zq5,Zrd,Zro,i1,i2,wa,wb,ma,mb,f1,f2,eC,hz,Ze,halj,Zre,Zq6,Zq8,Zq4,Xo];rfl
 ·simp(disch:=omega)only[Zb,QM,QD,Ze,hal,Zro,Zrd]
theorem Nk (a b c n:Int) {c1 c2:C} {dp fw:List Int} (h1:isL c1 dp) (h2:isL c2 fw) (l1:dp.length<=1000000) (l2:fw.length<=1000000):
  (∃(x y z m:Nat),a=x/\b=y/\c=z/\n=m/\(1<=x/\x<=4)/\(1<=y/\y<=4)/\(1<=z/\z<=4)/\Zu m/\Vst m dp fw/\c1=C.sl dp.length (ints dp)/\c2=C.sl fw.length (ints fw))\/
  (cl fu (d+12) fn_model_Accelerate [V.agg (scC a b c),V.agg [C.v (.int .i64 n),c1,c2]] []=OK (V.tup [V.agg [C.v (.int .i64 0),C.nl,C.nl],I 1])/\cl fu (d+12) fn_synopticref30_Accelerate [V.agg (scC a b c),V.agg [C.v (.int .i64 n),c1,c2]] []=OK (V.tup [V.agg [C.v (.int .i64 0),C.nl,C.nl],I 1])/\cl fu (d+12) fn_model_check [V.agg (scC a b c),V.agg [C.v (.int .i64 n),c1,c2]] []=OK (I 1)):=by
 have e1:=Fq fu (d+5) hf a b c;have f1:=Nj fu (d+10) hf a b c;rcases Zkh a b c with⟨x,y,z,rfl,rfl,rfl,hx,hy,hz⟩|hbad
 ·by_cases hst:Zev n dp fw
  ·obtain⟨m,rfl,h,hv⟩:=hst;have p1:=Wq h;have p2:=Zbu h;have hdl:=hv.dl;have hfl:=hv.fl;exact .inl ⟨x,y,z,m,rfl,rfl,rfl,rfl,hx,hy,hz,h,hv,F8 h1 (by omega),F8 h2 (by omega)⟩
  ·obtain⟨g1,g2⟩:=Ly fu d hf n h1 h2 l1 l2 hst;have g3:=(H2 fu (d+1) hf n h1 h2 l1 l2).2 hst;rw[Ud.2 (λv hv'=>by simp at hv';rcases hv' with rfl|rfl|rfl<;>omega)]at e1 f1;unfold scC at*
   refine .inr ⟨?_, ?_, ?_⟩
   ·rw[eq_model_Accelerate];simp(disch:=omega)only[Zb,QM,QD,e1,Zs0,if_false,g1]
   ·rw[eq_synopticref30_Accelerate];simp(disch:=omega)only[Zb,QM,QD,f1,Zs0,if_false,g2]
   ·rw[eq_model_check];simp(disch:=omega)only[Zb,QM,QD,e1,Zs0,if_false,g3]
 ·rw[hbad]at e1 f1;unfold scC at*
  refine .inr ⟨?_, ?_, ?_⟩
  ·rw[eq_model_Accelerate];simp(disch:=omega)only[Zb,QM,QD,e1,if_true]
  ·rw[eq_synopticref30_Accelerate];simp(disch:=omega)only[Zb,QM,QD,f1,if_true]
  ·rw[eq_model_check];simp(disch:=omega)only[Zb,QM,QD,e1,if_true]
theorem C4 (n:Nat) (h:Zu n) (dp fw:List Int) (hv:Vst n dp fw) (a b c:Nat) (ha:1<=a/\a<=4) (hb:1<=b/\b<=4) (hc:1<=c/\c<=4):
  cl fu (d+13) fn_synopticref30_Step [V.agg [C.v (.int .i64 (a:Int)),C.v (.int .i64 (b:Int)),C.v (.int .i64 (c:Int))],V.agg (stC n dp fw)] []=Zg1 n a b c dp fw:=by
 have e1:=Tp fu d hf n h dp fw hv a b c ha hb hc;have v2:=hv.acc a b;have e2:=Bl fu (d+1) hf n h (Z0 dp) (Z0 (stF n a b dp fw)) v2 a b c ha hb hc;have e3:=Zg3 fu (d+1) hf n h (Z0 dp) (Z0 (stF n a b dp fw)) v2 (stA n a b c dp fw) (Ni ..) (Zh6 h hv a b c);have hlA:=Ni n a b c dp fw;have hlB:=Kw n a b c dp fw;have hA:amL dp (Uf (Zg n).length (edg n)) (stF n a b dp fw) c (edg n) (edg n).length=stA n a b c dp fw:=rfl;have hB:brL dp (Uf (Zg n).length (edg n)) (stF n a b dp fw) c (edg n) (edg n).length=stB n a b c dp fw:=rfl;have hD:Qi dp ((edg n).zip (stA n a b c dp fw))=stD n a b c dp fw:=rfl;rw[hA,hB]at e2;rw[hD,hlA]at e3;unfold scC at e2;unfold Zg1 Nt;rw[hlB];unfold stC at*
 generalize stA n a b c dp fw=am at*
 generalize stB n a b c dp fw=br at*
 generalize stD n a b c dp fw=D at*
 generalize stF n a b dp fw=F at*
 rw[eq_synopticref30_Step];cases ho:Qu 0 16777216 D with
 |true=>
  rw[ho]at e3;simp(disch:=omega)only[Zb,QM,QD,e1,e2,e3,Zq6,Zq8,Zq4,Nat.reduceAdd]
 |false=>
  rw[ho]at e3;simp(disch:=omega)only[Zb,QM,QD,e1,e2,e3,Zq6,Zq8,Zq4,Nat.reduceAdd]
theorem Zki (a b c n:Int) {c1 c2:C} {dp fw:List Int} (h1:isL c1 dp) (h2:isL c2 fw) (l1:dp.length<=1000000) (l2:fw.length<=1000000):
  cmB (cl fu (d+15) fn_model_Step [V.agg (scC a b c),V.agg [C.v (.int .i64 n),c1,c2]] []) (cl fu (d+15) fn_synopticref30_Step [V.agg (scC a b c),V.agg [C.v (.int .i64 n),c1,c2]] []):=by
 rcases Nk fu d hf a b c n h1 h2 l1 l2 with⟨x,y,z,m,rfl,rfl,rfl,rfl,hx,hy,hz,h,hv,rfl,rfl⟩|⟨r1,_,_⟩
 ·have r1:=Zh7 fu d hf m h dp fw hv x y z hx hy hz;have r2:=C4 fu (d+2) hf m h dp fw hv x y z hx hy hz;have q1:=C2 m x y z dp fw;have q2:=Nh m x y dp fw;have q3:=Kw m x y z dp fw;have heL:=Xd h;unfold Zg1 at r1 r2;unfold stC at r1 r2;cases ho:Nt m x y z dp fw with
  |true=>
   rw[ho]at r1 r2;exact Znq r1 r2
  |false=>
   rw[ho]at r1 r2;exact Zq0 (by omega) (by omega) (by omega) r1 r2
 ·rcases Nk fu (d+2) hf a b c n h1 h2 l1 l2 with⟨x,y,z,m,rfl,rfl,rfl,rfl,hx,hy,hz,h,hv,rfl,rfl⟩|⟨_,r2,_⟩
  ·have e1:=R3 fu d hf m h dp fw hv x y z hx hy hz;unfold scC at r1;unfold stC at e1;rw[e1]at r1;simp at r1
  ·unfold scC at*
   have f1:=eq_model_accelerate fu (d+13) a b c;have f2:=eq_model_move fu (d+13) a b c;have g1:=eq_model_accelerate_1 fu (d+12) n c1 c2 C.nl [C.v (.int .i64 a),C.v (.int .i64 b),C.v (.int .i64 c)];simp(disch:=omega)only[Zb,QM,QD,r1,Zq6,Zq8,Zq4,Nat.reduceAdd]at g1;refine Znq (e:=1) ?_ ?_
   ·rw[eq_model_Step];simp(disch:=omega)only[Zb,QM,QD,f1,f2];rw[eq_model_chain_model_progress_do];simp(disch:=omega)only[Zb,QM,QD,g1,Zq6,Zq8,Zq4,Nat.reduceAdd]
   ·rw[eq_synopticref30_Step];simp(disch:=omega)only[Zb,QM,QD,r2,Zq6,Zq8,Zq4,Nat.reduceAdd]
end
end Go.Proofs.YtoaanfjcjbghaaaGreatDoor
/- Both programs' Run, at any numbers. -/
namespace Go.Proofs.YtoaanfjcjbghaaaGreatDoor
open Go Go.PM Go.Grid
attribute [local congr] Z1 Z2 Z3 Yp Z4 Z5 Yq Yr Ys Yt Z6 Z7 Yu Xt Xu Xv Xw Xx Xz X0 X1 X2 Xy Z9 Ya X3 Yb Yc Zt Yd Z8
section
variable (fu d:Nat) (hf:18446744073709551616<=fu)
include hf
set_option maxHeartbeats 4000000 in
theorem Zkj (n:Nat) (h:Zu n) (dp fw:List Int) (hv:Vst n dp fw) (a b c:Nat) (ha:1<=a/\a<=4) (hb:1<=b/\b<=4) (hc:1<=c/\c<=4) (m:Nat) (hm:m<=400):
  cl fu (d+14) fn_synopticref30_Run [V.agg [C.v (.int .i64 (a:Int)),C.v (.int .i64 (b:Int)),C.v (.int .i64 (c:Int))],V.agg (stC n dp fw),I (m:Int)] []=Zbz n (runN n a b c m (dp,fw)):=by
 have e1:=Tp fu (d+1) hf n h dp fw hv a b c ha hb hc;have hst:=λ(s:List Int×List Int) (hs:Vst n s.1 s.2)=>C4 fu d hf n h s.1 s.2 hs a b c ha hb hc;unfold Zg1 at hst;unfold stC at*
 rw[eq_synopticref30_Run];simp(disch:=omega)only[Zb,QM,QD,e1,Zq6,Zq8,Zq4,Nat.reduceAdd];refine Qt (A:=Int×Int×(Int×C×C×Unit)×(Int×C×C×Unit)×Unit) (B:=Out) (fu:=fu) (λo=>o=Zbz n (runN n a b c m (dp,fw)))
  (λy=> ∃(j:Nat) (s:List Int×List Int),j<=m/\Vst n s.1 s.2/\runN n a b c j (dp,fw)=some s/\y=(0,(j:Int),((n:Int),C.sl s.1.length (ints s.1),C.sl s.2.length (ints s.2),()),(0,C.nl,C.nl,()),())) (λy=>m-y.2.1.toNat)
  (λe z=>e=0/\(∃s:List Int×List Int,runN n a b c m (dp,fw)=some s/\z=(0,(m:Int),((n:Int),C.sl s.1.length (ints s.1),C.sl s.2.length (ints s.2),()),(0,C.nl,C.nl,()),()))\/e=1/\runN n a b c m (dp,fw)=none/\ ∃j:Int,z=(7,j,(0,C.nl,C.nl,()),(0,C.nl,C.nl,()),())) ?_ ?_ ?_ ?_
 ·exact⟨0,(dp,fw),by omega,hv,rfl,rfl⟩
 ·show m-_<fu;omega
 ·rintro y ⟨j,s,hj,hs,hr,rfl⟩
  by_cases hlt:j<m
  ·have hst:=hst s hs;cases hbad:Nt n a b c s.1 s.2 with
   |true=>
    rw[hbad]at hst;refine .inr ⟨1,_, ?_, .inr ⟨rfl,Zeu hr hbad hlt,(j:Int),rfl⟩⟩;simp(disch:=omega)only[Zb,QM,QD,hst,Zq6,Zq8,Zq4,Nat.reduceAdd]
   |false=>
    rw[hbad]at hst;refine .inl ⟨_, ?_,⟨j+1,(stD n a b c s.1 s.2,stF n a b s.1 s.2),by omega,hs.step hbad,Zh9 hr hbad,rfl⟩, ?_⟩
    ·simp(disch:=omega)only[Zb,QM,QD,hst,Zq6,Zq8,Zq4,Nat.reduceAdd];rfl
    ·show m-((j+1:Nat):Int).toNat<m-((j:Nat):Int).toNat;omega
  ·obtain rfl:j=m:=by omega
   refine .inr ⟨0,_, ?_, .inl ⟨rfl,s,hr,rfl⟩⟩;simp(disch:=omega)only[Zb,QM,QD]
 ·rintro e z (⟨rfl,s,hr,rfl⟩|⟨rfl,hr,j,rfl⟩)
  ·rw[hr];unfold Zbz stC;simp(disch:=omega)only[Zb,QM,QD]
  ·rw[hr];unfold Zbz;simp(disch:=omega)only[Zb,QM,QD]
theorem Zns (a b c n:Int) {c1 c2:C} {dp fw:List Int} (h1:isL c1 dp) (h2:isL c2 fw) (l1:dp.length<=1000000) (l2:fw.length<=1000000) (m:Int):
  cmS (cl fu (d+16) fn_model_Run [V.agg (scC a b c),V.agg [C.v (.int .i64 n),c1,c2],I m] []) (cl fu (d+16) fn_synopticref30_Run [V.agg (scC a b c),V.agg [C.v (.int .i64 n),c1,c2],I m] []):=by
 by_cases hm:m<0
 ·unfold scC;refine Mx (e:=1) ?_ ?_
  ·rw[eq_model_Run];simp(disch:=omega)only[Zb,QM,QD]
  ·rw[eq_synopticref30_Run];simp(disch:=omega)only[Zb,QM,QD]
 by_cases hm2:m>400
 ·unfold scC;refine Mx (e:=1) ?_ ?_
  ·rw[eq_model_Run];simp(disch:=omega)only[Zb,QM,QD]
  ·rw[eq_synopticref30_Run];simp(disch:=omega)only[Zb,QM,QD]
 obtain⟨k,rfl⟩: ∃k:Nat,m=k:=⟨m.toNat,by omega⟩;rcases Nk fu (d+3) hf a b c n h1 h2 l1 l2 with⟨x,y,z,q,rfl,rfl,rfl,rfl,hx,hy,hz,h,hv,rfl,rfl⟩|⟨_,r2,r3⟩
 ·have r1:=Znn fu d hf q h dp fw hv x y z hx hy hz k (by omega);have r2:=Zkj fu (d+2) hf q h dp fw hv x y z hx hy hz k (by omega);have heL:=Xd h;have hNl:=Ye h;cases hr:runN q x y z k (dp,fw)with
  |none=>
   rw[hr]at r1 r2;exact Mx r1 r2
  |some s=>
   rw[hr]at r1 r2;have hs:=Zer (s:=(dp,fw)) hv hr;have q1:=hs.dl;have q2:=hs.fl;exact Znp (by omega) (by omega) r1 r2
 ·unfold scC at*
  refine Mx (e:=1) ?_ ?_
  ·rw[eq_model_Run];simp(disch:=omega)only[Zb,QM,QD,r3]
  ·rw[eq_synopticref30_Run];simp(disch:=omega)only[Zb,QM,QD,r2,Zq6,Zq8,Zq4,Nat.reduceAdd]
end
end Go.Proofs.YtoaanfjcjbghaaaGreatDoor
/- Both programs' FromField and Rest, at any numbers. -/
namespace Go.Proofs.YtoaanfjcjbghaaaGreatDoor
open Go Go.PM Go.Grid
attribute [local congr] Z1 Z2 Z3 Yp Z4 Z5 Yq Yr Ys Yt Z6 Z7 Yu Xt Xu Xv Xw Xx Xz X0 X1 X2 Xy Z9 Ya X3 Yb Yc Zt Yd Z8
section
variable (fu d:Nat) (hf:18446744073709551616<=fu)
theorem Zkk (l:List Int) (hl:l.length<=1000000):cl fu (d+1) fn_slices_Clone_sint_int [V.c (C.sl l.length (ints l))] []=some ⟨V.own 1000000 0 l.length,[.sb ty_int 0 (ints l)],none⟩:=by
 by_cases h:0<l.length
 ·exact Rh fu d l h hl
 ·obtain rfl:l=[]:=Zri (by omega);rw[eq_slices_Clone_sint_int];exact Zjh (some (⟨V.own 1000000 0 0,[.sb ty_int 0 []],none⟩:Out))
theorem Zex {n:Int} (h: ¬(1<=n/\n<=8)):(decide (1<=n)&&decide (n<=8))=false:=by
 cases e:(decide (1<=n)&&decide (n<=8))with
 |false=>rfl
 |true=>
  rw[Zq3,decide_eq_true_iff,decide_eq_true_iff]at e;exact absurd e h
theorem Zb3 (n:Int) (h:n<1\/8<n):cl fu (d+2) fn_grid_Count [I n] []=OK (I 0):=by
 have e:=G9 fu d n h;rw[eq_grid_Count,e];simp(disch:=omega)only[Zb,QM,QD]
include hf
theorem F9 (n:Int) (l:List Int) (hl:l.length<=1000000):cmS (cl fu (d+11) fn_model_FromField [I n,V.c (C.sl l.length (ints l))] []) (cl fu (d+11) fn_synopticref30_FromField [I n,V.c (C.sl l.length (ints l))] []):=by
 have k1:=Zkk fu (d+9) l hl;have f0:=Lc fu (d+9) n;have htk:List.take l.length (ints l)=ints l:=Zrc (by rw[Ze];exact Zrf _);by_cases hn:1<=n/\n<=8
 ·obtain⟨m,rfl⟩: ∃m:Nat,n=m:=⟨n.toNat,by omega⟩;have h:Zu m:=by unfold Zu;omega
  have heL:=Xd h;have e3:=Qn fu (d+1) hf m h;have f3:=Qf fu (d+1) hf m h;have hz:(List.replicate (edg m).length (0:Int)).length=(edg m).length:=Zrp;have e4:=H2 fu d hf (m:Int) (Z0 l) (Z0 (List.replicate (edg m).length (0:Int))) hl (by omega);have f4:=Q2 fu d hf (m:Int) (Z0 l) (Z0 (List.replicate (edg m).length (0:Int))) hl (by omega);have htz:List.take (edg m).length (ints (List.replicate (edg m).length (0:Int)))=ints (List.replicate (edg m).length (0:Int)):=Zrc (by rw[Ze,hz];exact Zrf _);rw[decide_eq_true hn.1,decide_eq_true hn.2]at f0;rw[hz]at e4 f4;have key: ∀e:Int,cl fu (d+10) fn_flux_Check [V.agg [C.v (.int .i64 (m:Int)),C.sl l.length (ints l),C.sl (edg m).length (ints (List.replicate (edg m).length 0))]] []=OK (I e)->cl fu (d+10) fn_synopticref29_Check [V.agg [C.v (.int .i64 (m:Int)),C.sl l.length (ints l),C.sl (edg m).length (ints (List.replicate (edg m).length 0))]] []=OK (I e)->(e=0\/e=1)->
    cmS (cl fu (d+11) fn_model_FromField [I m,V.c (C.sl l.length (ints l))] []) (cl fu (d+11) fn_synopticref30_FromField [I m,V.c (C.sl l.length (ints l))] []):=by
   intro e h1 h2 he;generalize edg m=E at*
   rcases he with rfl|rfl
   ·refine⟨m,_,_,_,_,l,List.replicate E.length 0,0, ?_, ?_,Z0 l,Z0 l,by have:=Z0 (List.replicate E.length (0:Int));rw[hz]at this;exact this,by have:=Z0 (List.replicate E.length (0:Int));rw[hz]at this;exact this,hl,by omega⟩
    ·rw[eq_model_FromField];simp(disch:=omega)only[Zb,QM,QD,e3,k1,Zd9,Mm,Ze,Zrd,Zq4,htk,Vp,Zq5,h1,decide_true]
    ·rw[eq_synopticref30_FromField];simp(disch:=omega)only[Zb,QM,QD,f0,f3,Ze,hz,Zrd,Zq4,htk,htz,Vp,Zq5,h2,decide_true]
   ·refine Mx (e:=1) ?_ ?_
    ·rw[eq_model_FromField];simp(disch:=omega)only[Zb,QM,QD,e3,k1,Zd9,Mm,Ze,Zrd,Zq4,htk,Vp,Zq5,h1,decide_true]
    ·rw[eq_synopticref30_FromField];simp(disch:=omega)only[Zb,QM,QD,f0,f3,Ze,hz,Zrd,Zq4,htk,htz,Vp,Zq5,h2,decide_true]
  by_cases hst:Zev (m:Int) l (List.replicate (edg m).length 0)
  ·exact key 0 (e4.1 hst) (f4.1 hst) (.inl rfl)
  ·exact key 1 (e4.2 hst) (f4.2 hst) (.inr rfl)
 ·have e3:=V7 fu (d+8) n (by omega);have f4:=(Q2 fu d hf n (Z0 l) V6 hl (by simp)).2 (λ⟨m,hm,hfm,_⟩=>hn (by unfold Zu at hfm;omega));rw[Zex hn]at f0;refine Mx (e:=1) ?_ ?_
  ·rw[eq_model_FromField];simp(disch:=omega)only[Zb,QM,QD,e3]
  ·rw[eq_synopticref30_FromField];simp(disch:=omega)only[Zb,QM,QD,f0,Ze,Zrd,Zq4,htk,f4]
set_option maxHeartbeats 2000000 in
theorem Zkl (n v:Int):cmS (cl fu (d+12) fn_model_Rest [I n,I v] []) (cl fu (d+12) fn_synopticref30_Rest [I n,I v] []):=by
 have f0:=Lc fu (d+10) n;by_cases hn:1<=n/\n<=8
 ·obtain⟨m,rfl⟩: ∃m:Nat,n=m:=⟨n.toNat,by omega⟩;have h:Zu m:=by unfold Zu;omega
  have hNl:=Ye h;have e1:=Ve fu (d+9) m h;have e2:=H0 fu (d+8) hf v (Zg m).length (.inr ⟨m,h,rfl⟩);have f1:=Nc fu (d+10) m h;have hl:(List.replicate (Zg m).length v).length=(Zg m).length:=Zrp;obtain⟨n',A,B',A',B'',la,lb,e,r1,r2,g1,g2,g3,g4,g5,g6⟩:=F9 fu d hf (m:Int) (List.replicate (Zg m).length v) (by omega);rw[decide_eq_true hn.1,decide_eq_true hn.2]at f0;rw[hl]at r1 r2;refine⟨n',A,B',A',B'',la,lb,e, ?_, ?_,g1,g2,g3,g4,g5,g6⟩
  ·rw[eq_model_Rest];simp(disch:=omega)only[Zb,QM,QD,e1,e2,r1,Zq6,Zq8,Zq4,Nat.reduceAdd]
  ·generalize (Zg m).length=N at*
   have l0: ∀t,t<=N->(ints (List.replicate t v++List.replicate (N-t) (0:Int))).length=N:=λt ht=>by rw[Ze,Zre,Zrp,Zrp];omega
   have l00:=l0 0 (by omega);have lN:=l0 N (by omega);have htk:List.take N (ints (List.replicate N v++List.replicate (N-N) (0:Int)))=ints (List.replicate N v):=by
    rw[Zrc (by rw[lN];exact Zrf _),Nat.sub_self,List.replicate_zero,Zs8]
   rw[List.replicate_zero,Zr6,Nat.sub_zero]at l00;rw[eq_synopticref30_Rest];simp(disch:=omega)only[Zb,QM,QD,f0,f1,Zq5,Zrd,Vp,l00,decide_true];rw[Zk (λj:Nat=>(ints (List.replicate j v++List.replicate (N-j) (0:Int)),(j:Int),((0:Int),C.nl,C.nl,()),())) 0 (ints (List.replicate N v++List.replicate (N-N) (0:Int)),(N:Int),((0:Int),C.nl,C.nl,()),()) N ?_ ?_ ?_ (by omega)]
   ·simp(disch:=omega)only[Zb,QM,QD,lN,Zro,Zrd,Zq4,htk,r2,Zq6,Zq8,Nat.reduceAdd]
   ·rfl
   ·intro j hj;have a1:=l0 j (by omega);have a2:=l0 (j+1) (by omega);have hp:=Zb0 N j 1 v (by omega);have h1:ints (List.replicate 1 v)=[C.v (.int .i64 v)]:=rfl;rw[h1]at hp;simp(disch:=omega)only[Zb,QM,QD,a1,Zro,Zrd,Zq4,Zq5,hp,a2];rfl
   ·simp(disch:=omega)only[Zb,QM,QD,lN,Zro,Zrd,Zq4]
 ·have e1:=Zb3 fu (d+9) n (by omega);have e2:=H0 fu (d+8) hf v 0 (.inl rfl);obtain⟨n',A,B',A',B'',la,lb,e,r1,r2,g1,g2,g3,g4,g5,g6⟩:=F9 fu d hf n [] (by simp);have e3:=V7 fu (d+8) n (by omega);have r3:cl fu (d+11) fn_model_FromField [I n,V.c (C.sl 0 [])] []=OK (V.tup [V.agg [C.v (.int .i64 0),C.nl,C.nl],I 1]):=by
   rw[eq_model_FromField];simp(disch:=omega)only[Zb,QM,QD,e3]
  rw[Zex hn]at f0;replace e2:cl fu (d+11) fn_slices_Repeat_sint_int [V.c (C.sl 1 [C.v (.int .i64 v)]),I 0] []=OK (V.c (C.sl 0 [])):=e2;refine Mx (e:=1) ?_ ?_
  ·rw[eq_model_Rest];simp(disch:=omega)only[Zb,QM,QD,e1,e2,r3,Zq6,Zq8,Zq4,Nat.reduceAdd]
  ·rw[eq_synopticref30_Rest];simp(disch:=omega)only[Zb,QM,QD,f0]
end
end Go.Proofs.YtoaanfjcjbghaaaGreatDoor
/- Numbers of all sorts. -/
namespace Go.Proofs.YtoaanfjcjbghaaaGreatDoor
open Go Go.PM Go.Grid
attribute [local congr] Z1 Z2 Z3 Yp Z4 Z5 Yq Yr Ys Yt Z6 Z7 Yu Xt Xu Xv Xw Xx Xz X0 X1 X2 Xy Z9 Ya X3 Yb Yc Zt Yd Z8
section
variable (fu d:Nat)
theorem Zb4 {bs:List Int} (hb:bytes bs) {i:Nat} (hi:i<=1000): ∃(v:Int) (j:Nat),j<=1000/\cl fu (d+3) fn_synopticfield_Codes_Int [V.ptr 1000000 0] [Yn bs i]=some ⟨I v,[Yn bs j],none⟩:=by
 obtain⟨v1,j1,hv1,hj1,e1⟩:=Xp fu d hb hi 4 (by omega);replace e1:cl fu (d+2) fn_synopticfield_Codes_Next [V.ptr 1000000 0,I 4] _=_:=e1;obtain⟨v2,j2,hv2,hj2,e2⟩:=Xp fu d hb hj1 12 (by omega);replace e2:cl fu (d+2) fn_synopticfield_Codes_Next [V.ptr 1000000 0,I 12] _=_:=e2;obtain⟨v3,j3,hv3,hj3,e3⟩:=Xp fu d hb hj1 256 (by omega);replace e3:cl fu (d+2) fn_synopticfield_Codes_Next [V.ptr 1000000 0,I 256] _=_:=e3;unfold Yn at*
 rw[eq_synopticfield_Codes_Int];by_cases q:v1=3
 ·subst q;obtain⟨x,r,hx⟩: ∃(x:Int) (r:List C),List.drop v2 [C.v (.int .i64 9223372036854775807),C.v (.int .i64 (-9223372036854775808)),C.v (.int .i64 144115188075855872),C.v (.int .i64 144115188075855873),C.v (.int .i64 (-1)),C.v (.int .i64 4294967296),C.v (.int .i64 1048576),C.v (.int .i64 1048577),C.v (.int .i64 4194304),C.v (.int .i64 1000001),C.v (.int .i64 0),C.v (.int .i64 17)]=C.v (.int .i64 x)::r:=by
   rcases(show v2=0\/v2=1\/v2=2\/v2=3\/v2=4\/v2=5\/v2=6\/v2=7\/v2=8\/v2=9\/v2=10\/v2=11 by omega)with rfl|rfl|rfl|rfl|rfl|rfl|rfl|rfl|rfl|rfl|rfl|rfl<;>exact⟨_,_,rfl⟩
  exact⟨x,j2,hj2,by simp(disch:=omega)only[Zb,QM,QD,e1,e2,Zq6,Zq8,Zq4,Nat.reduceAdd,Zq5,Zrd,hx]⟩
 ·exact⟨(v3:Int)-60,j3,hj3,by simp(disch:=omega)only[Zb,QM,QD,e1,e3,Zq6,Zq8,Zq4,Nat.reduceAdd]⟩
end
end Go.Proofs.YtoaanfjcjbghaaaGreatDoor
/- FluxComputes answers true. -/
namespace Go.Proofs.YtoaanfjcjbghaaaGreatDoor
open Go Go.PM Go.Grid
attribute [local congr] Z1 Z2 Z3 Yp Z4 Z5 Yq Yr Ys Yt Z6 Z7 Yu Xt Xu Xv Xw Xx Xz X0 X1 X2 Xy Z9 Ya X3 Yb Yc Zt Yd Z8
theorem beqB (b:Bool):(b==b)=true:=by cases b<;>rfl
section
variable (fu d:Nat) (hf:18446744073709551616<=fu)
set_option maxHeartbeats 4000000 in
theorem Bm {bs:List Int} (hb:bytes bs) {i:Nat} (hi:i<=1000) (n:Nat) (dp fw:List Int) (l1:dp.length<=20000) (l2:fw.length<=20000):
  ∃(n':Int) (c1 c2:C) (dp' fw':List Int) (j:Nat),isL c1 dp'/\isL c2 fw'/\dp'.length<=30000/\fw'.length<=30000/\j<=1000/\cl fu (d+4) fn_synopticfield_Codes_SpoilState [V.ptr 1000000 0,V.agg (stC n dp fw)] [Yn bs i]=some ⟨V.agg [C.v (.int .i64 n'),c1,c2],[Yn bs j],none⟩:=by
 obtain⟨v1,j1,hv1,hj1,e1⟩:=Xp fu (d+1) hb hi 5 (by omega);replace e1:cl fu (d+3) fn_synopticfield_Codes_Next [V.ptr 1000000 0,I 5] _=_:=e1;have htk1:List.take dp.length (ints dp)=ints dp:=Zrc (by rw[Ze];exact Zrf _);have htk2:List.take fw.length (ints fw)=ints fw:=Zrc (by rw[Ze];exact Zrf _);unfold Yn stC at*
 rw[eq_synopticfield_Codes_SpoilState];rcases(show v1=0\/v1=1\/v1=2\/v1=3\/v1=4 by omega)with rfl|rfl|rfl|rfl|rfl
 ·obtain⟨v,j2,hj2,e2⟩:=Zb4 fu d hb hj1;unfold Yn at e2;exact⟨v,_,_,dp,fw,j2,Z0 dp,Z0 fw,by omega,by omega,hj2,by simp(disch:=omega)only[Zb,QM,QD,e1,e2,Ze,Zq6,Zq8,Zq4,Nat.reduceAdd,Zrd,htk1,htk2]⟩
 ·by_cases h0:0<dp.length
  ·obtain⟨v2,j2,hv2,hj2,e2⟩:=Xp fu (d+1) hb hj1 dp.length (by omega);obtain⟨v3,j3,hj3,e3⟩:=Zb4 fu d hb hj2;obtain⟨v4,j4,hv4,hj4,e4⟩:=Xp fu (d+1) hb hj3 4 (by omega);replace e2:cl fu (d+3) fn_synopticfield_Codes_Next _ _=_:=e2;replace e4:cl fu (d+3) fn_synopticfield_Codes_Next [V.ptr 1000000 0,I 4] _=_:=e4;obtain⟨x,r,hx⟩: ∃(x:Int) (r:List C),List.drop v4 [C.v (.int .i64 (-1)),C.v (.int .i64 16777216),C.v (.int .i64 16777217),C.v (.int .i64 v3)]=C.v (.int .i64 x)::r:=by
    rcases(show v4=0\/v4=1\/v4=2\/v4=3 by omega)with rfl|rfl|rfl|rfl<;>exact⟨_,_,rfl⟩
   have hp:=C0 dp hv2 x;have hs:=Z0 (dp.set v2 x);rw[List.length_set]at hs;have hls:(ints (dp.set v2 x)).length=dp.length:=by rw[Ze,List.length_set]
   have htk3:List.take dp.length (ints (dp.set v2 x))=ints (dp.set v2 x):=Zrc (by rw[hls];exact Zrf _);unfold Yn at e2 e3 e4;exact⟨(n:Int),_,_,dp.set v2 x,fw,j4,hs,Z0 fw,by rw[List.length_set];omega,by omega,hj4,by simp(disch:=omega)only[Zb,QM,QD,e1,e2,e3,e4,Ze,Zq6,Zq8,Zq4,Nat.reduceAdd,Zrd,Zq5,hx,hp,hls,htk3,htk2]⟩
  ·exact⟨(n:Int),_,_,dp,fw,j1,Z0 dp,Z0 fw,by omega,by omega,hj1,by simp(disch:=omega)only[Zb,QM,QD,e1,Ze,Zq6,Zq8,Zq4,Nat.reduceAdd,Zrd,htk1,htk2]⟩
 ·by_cases h0:0<fw.length
  ·obtain⟨v2,j2,hv2,hj2,e2⟩:=Xp fu (d+1) hb hj1 fw.length (by omega);obtain⟨v3,j3,hj3,e3⟩:=Zb4 fu d hb hj2;obtain⟨v4,j4,hv4,hj4,e4⟩:=Xp fu (d+1) hb hj3 4 (by omega);replace e2:cl fu (d+3) fn_synopticfield_Codes_Next _ _=_:=e2;replace e4:cl fu (d+3) fn_synopticfield_Codes_Next [V.ptr 1000000 0,I 4] _=_:=e4;obtain⟨x,r,hx⟩: ∃(x:Int) (r:List C),List.drop v4 [C.v (.int .i64 16777216),C.v (.int .i64 16777217),C.v (.int .i64 (-16777217)),C.v (.int .i64 v3)]=C.v (.int .i64 x)::r:=by
    rcases(show v4=0\/v4=1\/v4=2\/v4=3 by omega)with rfl|rfl|rfl|rfl<;>exact⟨_,_,rfl⟩
   have hp:=C0 fw hv2 x;have hs:=Z0 (fw.set v2 x);rw[List.length_set]at hs;have hls:(ints (fw.set v2 x)).length=fw.length:=by rw[Ze,List.length_set]
   have htk3:List.take fw.length (ints (fw.set v2 x))=ints (fw.set v2 x):=Zrc (by rw[hls];exact Zrf _);unfold Yn at e2 e3 e4;exact⟨(n:Int),_,_,dp,fw.set v2 x,j4,Z0 dp,hs,by omega,by rw[List.length_set];omega,hj4,by simp(disch:=omega)only[Zb,QM,QD,e1,e2,e3,e4,Ze,Zq6,Zq8,Zq4,Nat.reduceAdd,Zrd,Zq5,hx,hp,hls,htk3,htk1]⟩
  ·exact⟨(n:Int),_,_,dp,fw,j1,Z0 dp,Z0 fw,by omega,by omega,hj1,by simp(disch:=omega)only[Zb,QM,QD,e1,Ze,Zq6,Zq8,Zq4,Nat.reduceAdd,Zrd,htk1,htk2]⟩
 ·have hs:=Z0 (dp++[0]);have hls:(dp++[(0:Int)]).length=dp.length+1:=by simp
  rw[hls]at hs;have htk3:List.take (dp.length+1) (ints (dp++[0]))=ints (dp++[0]):=Zrc (by rw[Ze,hls];exact Zrf _);have hl3:(ints (dp++[0])).length=dp.length+1:=by rw[Ze,hls]
  exact⟨(n:Int),_,_,dp++[0],fw,j1,hs,Z0 fw,by rw[hls];omega,by omega,hj1,by simp(disch:=omega)only[Zb,QM,QD,e1,Ze,Xo,Zq6,Zq8,Zq4,Nat.reduceAdd,Zrd,hl3,htk3,htk2]⟩
 ·exact⟨(n:Int),_,_,dp,[],j1,Z0 dp,V6,by omega,by simp,hj1,by simp(disch:=omega)only[Zb,QM,QD,e1,Ze,Zq6,Zq8,Zq4,Nat.reduceAdd,Zrd,htk1]⟩
end
end Go.Proofs.YtoaanfjcjbghaaaGreatDoor
/- ModelSteps answers true. -/
namespace Go.Proofs.YtoaanfjcjbghaaaGreatDoor
open Go Go.PM Go.Grid
attribute [local congr] Z1 Z2 Z3 Yp Z4 Z5 Yq Yr Ys Yt Z6 Z7 Yu Xt Xu Xv Xw Xx Xz X0 X1 X2 Xy Z9 Ya X3 Yb Yc Zt Yd Z8
section
variable (fu d:Nat) (hf:18446744073709551616<=fu)
include hf
theorem Zey (n:Int) {c1 c2:C} {dp fw:List Int} (h1:isL c1 dp) (h2:isL c2 fw) (l1:dp.length<=1000000) (l2:fw.length<=1000000):
  ∃(A A':C) (la:List Int) (e:Int),cl fu (d+11) fn_model_Slopes [V.agg [C.v (.int .i64 n),c1,c2]] []=OK (V.tup [V.c A,I e])/\cl fu (d+11) fn_synopticref30_Slopes [V.agg [C.v (.int .i64 n),c1,c2]] []=OK (V.tup [V.c A',I e])/\isL A la/\isL A' la/\la.length<=1000000:=by
 by_cases hst:Zev n dp fw
 ·obtain⟨m,rfl,h,hv⟩:=hst;have p1:=Wq h;have p2:=Zbu h;have hdl:=hv.dl;have hfl:=hv.fl;have heL:=Xd h;obtain rfl:=F8 h1 (by omega);obtain rfl:=F8 h2 (by omega);have r1:=Wo fu d hf m h dp fw hdl hfl hv.dw hv.fw;have r2:=J2 fu d hf m h dp fw hv;have hl:=Ri dp (edg m) (edg m).length;have hi:=Z0 (slp dp (edg m) (edg m).length);rw[hl]at hi;exact⟨_,_,slp dp (edg m) (edg m).length,0,r1,r2,hi,hi,by omega⟩
 ·obtain⟨r1,r2⟩:=Ly fu d hf n h1 h2 l1 l2 hst;exact⟨_,_,[],1,r1,r2,V6,V6,by simp⟩
theorem Zez (a b c n:Int) {c1 c2:C} {dp fw:List Int} (h1:isL c1 dp) (h2:isL c2 fw) (l1:dp.length<=1000000) (l2:fw.length<=1000000):
  cmS (cl fu (d+12) fn_model_Accelerate [V.agg (scC a b c),V.agg [C.v (.int .i64 n),c1,c2]] []) (cl fu (d+12) fn_synopticref30_Accelerate [V.agg (scC a b c),V.agg [C.v (.int .i64 n),c1,c2]] []):=by
 rcases Nk fu d hf a b c n h1 h2 l1 l2 with⟨x,y,z,m,rfl,rfl,rfl,rfl,hx,hy,hz,h,hv,rfl,rfl⟩|⟨r1,r2,_⟩
 ·have q2:=Nh m x y dp fw;have heL:=Xd h;exact Znp l1 (by omega) (R3 fu d hf m h dp fw hv x y z hx hy hz) (Tp fu d hf m h dp fw hv x y z hx hy hz)
 ·exact Mx r1 r2
set_option maxHeartbeats 16000000 in
theorem sp_ModelSteps (l:List Int) (hl: ∀x∈l,0<=x/\x<=255) (sa sb sc st fr dep:Int) (fd:List Int):
  cl fu (d+18) fn_synopticlaw30_ModelSteps [V.c (C.sl l.length (ik .u8 l)),V.agg (scC sa sb sc),I st,I fr,I dep,V.c (C.sl fd.length (ints fd))] []=OK (B true):=by
 have hA:=Zg2 fu d hf;unfold scC;rw[eq_synopticlaw30_ModelSteps];simp(disch:=omega)only[Zb,QM,QD,hA];by_cases g1:fd.length>200
 ·simp(disch:=omega)only[Zb,QM,QD]
 simp(disch:=omega)only[Zb,QM,QD];have hb:=Zgy hl (k:=240) (by omega);have hN:=Zo8 fu (d+16) l 240;replace hN:cl fu (d+17) fn_synopticfield_New [V.c (C.sl l.length (ik .u8 l)),I 240] []=_:=hN;generalize l.take 240=bs at hb hN;obtain⟨n,j1,hn,hj1,c1⟩:=Zbq fu (d+14) hb (i:=0) (by omega);have h:=Zo9 hn;obtain⟨dp,fw,j2,ok,hj2,c2⟩:=Znh fu (d+7) hf hb hj1 n h;obtain⟨a,b,c,j3,ha,hb',hc,hj3,c3⟩:=Zkf fu (d+14) hb hj2;have heL:=Xd h;have hNl:=Ye h;have hv:=ok.vst;have hfl:=hv.fl;have hdl:=hv.dl;obtain⟨bn,b1,b2,bd,bf,j4,hb1,hb2,lb1,lb2,hj4,c4⟩:=Bm fu (d+13) hb hj3 n dp fw (by omega) (by omega);obtain⟨fm,hfm,eM⟩:=Zqw fu (d+16) fr 4 (by omega);replace eM:cl fu (d+17) fn_synopticfield_Mod [I fr,I 4] []=_:=eM;have hInts:=λ(x:List Int) (hx:x.length<=1000000)=>Zbt fu (d+16) hf x x hx hx;have hch: ∀j,j<2-> ∃(yn:Int) (y1 y2:C) (yd yf:List Int) (r:List C),List.drop (j*3) [C.v (.int .i64 (n:Int)),C.sl dp.length (ints dp),C.sl fw.length (ints fw),C.v (.int .i64 bn),b1,b2]=C.v (.int .i64 yn)::y1::y2::r/\isL y1 yd/\isL y2 yf/\yd.length<=1000000/\yf.length<=1000000:=by
  intro j hj;rcases(show j=0\/j=1 by omega)with rfl|rfl
  ·exact⟨n,_,_,dp,fw,_,rfl,Z0 dp,Z0 fw,by omega,by omega⟩
  ·exact⟨bn,b1,b2,bd,bf,_,rfl,hb1,hb2,by omega,by omega⟩
 have hsch: ∀k,k<2-> ∃(p q r:Int) (t:List C),List.drop (k*3) [C.v (.int .i64 sa),C.v (.int .i64 sb),C.v (.int .i64 sc),C.v (.int .i64 (a:Int)),C.v (.int .i64 (b:Int)),C.v (.int .i64 (c:Int))]=C.v (.int .i64 p)::C.v (.int .i64 q)::C.v (.int .i64 r)::t:=by
  intro k hk;rcases(show k=0\/k=1 by omega)with rfl|rfl
  ·exact⟨_,_,_,_,rfl⟩
  ·exact⟨_,_,_,_,rfl⟩
 unfold Yn stC at*
 simp(disch:=omega)only[Zb,QM,QD,Zd9,Mm,Zpt,hN,c1,c2,c3,c4,Zq6,Zq8,Zq4,Nat.reduceAdd];rw[Zk (λj:Nat=>(false,((j:Nat):Int),())) 0 (false,((2:Nat):Int),()) 2 ?_ ?_ ?_ (by omega)]
 ·have hfr: ∀k,k<2-> ∃(p:Int) (t:List C),List.drop k [C.v (.int .i64 fr),C.v (.int .i64 (fm:Int))]=C.v (.int .i64 p)::t:=by
   intro k hk;rcases(show k=0\/k=1 by omega)with rfl|rfl
   ·exact⟨_,_,rfl⟩
   ·exact⟨_,_,rfl⟩
  simp(disch:=omega)only[Zb,QM,QD,eM];rw[Zk (λk:Nat=>(false,((k:Nat):Int),())) 0 (false,((2:Nat):Int),()) 2 ?_ ?_ ?_ (by omega)]
  ·obtain⟨n1,A1,B1,A2,B2,la,lb,e,r1,r2,q1,q2,q3,q4,q5,q6⟩:=F9 fu (d+6) hf (n:Int) dp (by omega);have s1:=To fu (d+15) hf n1 n1 _ _ _ _ q1 q3 q2 q4 q5 q6 q5 q6;rw[decide_eq_true (⟨rfl,rfl,rfl⟩:n1=n1/\la=la/\lb=lb)]at s1;simp(disch:=omega)only[Zb,QM,QD,r1,r2,s1,beqB,Zq6,Zq8,Zq4,Nat.reduceAdd]
  ·rfl
  ·intro k hk;obtain⟨p,t,hdp⟩:=hfr k hk;obtain⟨n1,A1,B1,A2,B2,la,lb,e,r1,r2,q1,q2,q3,q4,q5,q6⟩:=F9 fu (d+6) hf p fd (by omega);have s1:=To fu (d+15) hf n1 n1 _ _ _ _ q1 q3 q2 q4 q5 q6 q5 q6;rw[decide_eq_true (⟨rfl,rfl,rfl⟩:n1=n1/\la=la/\lb=lb)]at s1;obtain⟨n2,A3,B3,A4,B4,lc,ld,e',r3,r4,p1,p2,p3,p4,p5,p6⟩:=Zkl fu (d+5) hf p dep;have s2:=To fu (d+15) hf n2 n2 _ _ _ _ p1 p3 p2 p4 p5 p6 p5 p6;rw[decide_eq_true (⟨rfl,rfl,rfl⟩:n2=n2/\lc=lc/\ld=ld)]at s2;simp(disch:=omega)only[Zb,QM,QD,Zq5,Zrd,hdp,r1,r2,r3,r4,s1,s2,Zq6,Zq8,Zq4,Nat.reduceAdd];rfl
  ·simp(disch:=omega)only[Zb,QM,QD]
 ·rfl
 ·intro j hj;obtain⟨yn,y1,y2,yd,yf,r,hdr,hy1,hy2,ly1,ly2⟩:=hch j hj;obtain⟨A,A',la,e,k1,k2,z1,z2,z3⟩:=Zey fu (d+6) hf yn hy1 hy2 ly1 ly2;have i1:=hInts la z3;rw[decide_eq_true rfl]at i1;simp(disch:=omega)only[Zb,QM,QD,Zq5,hdr,k1,k2,z1.1,z2.1,i1];rw[Zk (λk:Nat=>(false,((k:Nat):Int),(yn,y1,y2,()),())) 0 (false,((2:Nat):Int),(yn,y1,y2,()),()) 2 ?_ ?_ ?_ (by omega)]
  ·simp(disch:=omega)only[Zb,QM,QD];rfl
  ·rfl
  ·intro k hk;obtain⟨p,q,r',t,hds⟩:=hsch k hk;obtain⟨n1,A1,B1,A2,B2,l1,l2,e1,r1,r2,u1,u2,u3,u4,u5,u6⟩:=Zez fu (d+5) hf p q r' yn hy1 hy2 ly1 ly2;have s1:=To fu (d+15) hf n1 n1 _ _ _ _ u1 u3 u2 u4 u5 u6 u5 u6;rw[decide_eq_true (⟨rfl,rfl,rfl⟩:n1=n1/\l1=l1/\l2=l2)]at s1;obtain⟨n2,A3,B3,A4,B4,br,br',l3,l4,l5,e2,r3,r4,v1,v2,v3,v4,v5,v6,v7,v8,v9⟩:=Zki fu (d+2) hf p q r' yn hy1 hy2 ly1 ly2;have s2:=To fu (d+15) hf n2 n2 _ _ _ _ v1 v3 v2 v4 v7 v8 v7 v8;rw[decide_eq_true (⟨rfl,rfl,rfl⟩:n2=n2/\l3=l3/\l4=l4)]at s2;have i2:=hInts l5 v9;rw[decide_eq_true rfl]at i2;have run: ∀m:Int,∃(n3:Int) (A5 B5 A6 B6:C) (e3:Int),cl fu (d+17) fn_model_Run [V.agg [C.v (.int .i64 p),C.v (.int .i64 q),C.v (.int .i64 r')],V.agg [C.v (.int .i64 yn),y1,y2],I m] []=OK (V.tup [V.agg [C.v (.int .i64 n3),A5,B5],I e3])/\cl fu (d+17) fn_synopticref30_Run [V.agg [C.v (.int .i64 p),C.v (.int .i64 q),C.v (.int .i64 r')],V.agg [C.v (.int .i64 yn),y1,y2],I m] []=OK (V.tup [V.agg [C.v (.int .i64 n3),A6,B6],I e3])/\cl fu (d+17) fn_synopticref29_Same [V.agg [C.v (.int .i64 n3),A5,B5],V.agg [C.v (.int .i64 n3),A6,B6]] []=OK (B true):=by
    intro m;obtain⟨n3,A5,B5,A6,B6,l6,l7,e3,r5,r6,w1,w2,w3,w4,w5,w6⟩:=Zns fu (d+1) hf p q r' yn hy1 hy2 ly1 ly2 m;have s3:=To fu (d+15) hf n3 n3 _ _ _ _ w1 w3 w2 w4 w5 w6 w5 w6;rw[decide_eq_true (⟨rfl,rfl,rfl⟩:n3=n3/\l6=l6/\l7=l7)]at s3;exact⟨n3,A5,B5,A6,B6,e3,r5,r6,s3⟩
   unfold scC at r1 r2 r3 r4;by_cases m1:st>6
   ·by_cases m2:st<=400
    ·obtain⟨n3,A5,B5,A6,B6,e3,r5,r6,s3⟩:=run (Int.tmod st 6);simp(disch:=omega)only[Zb,QM,QD,Zq5,hds,r1,r2,r3,r4,s1,s2,v5.1,v6.1,i2,r5,r6,s3,Zq6,Zq8,Zq4,Nat.reduceAdd];rfl
    ·obtain⟨n3,A5,B5,A6,B6,e3,r5,r6,s3⟩:=run st;simp(disch:=omega)only[Zb,QM,QD,Zq5,hds,r1,r2,r3,r4,s1,s2,v5.1,v6.1,i2,r5,r6,s3,Zq6,Zq8,Zq4,Nat.reduceAdd];rfl
   ·obtain⟨n3,A5,B5,A6,B6,e3,r5,r6,s3⟩:=run st;simp(disch:=omega)only[Zb,QM,QD,Zq5,hds,r1,r2,r3,r4,s1,s2,v5.1,v6.1,i2,r5,r6,s3,Zq6,Zq8,Zq4,Nat.reduceAdd];rfl
  ·simp(disch:=omega)only[Zb,QM,QD]
 ·simp(disch:=omega)only[Zb,QM,QD]
end
end Go.Proofs.YtoaanfjcjbghaaaGreatDoor
/- Data that came in, read as cells by their types. -/
namespace Go.PM
open Go
def Zia (P:Program) (r:TypeId->Option (List TypeId)):List Field->Nat->Option (List TypeId)
 | [],_=>some []
 |f::fs,off=>if f.offset=off then(r f.type).bind λl=>if l.length=P.cellsOf f.type then(Zia P r fs (off+l.length)).map (l++ ·)else none else none
def Fa (P:Program):Nat->TypeId->Option (List TypeId)
 |0,_=>none
 |d+1,t=>match P.underlying t with
  |some (.struct fs)=>(Zia P (Fa P d) fs.toList 0).bind λl=>if l.length=P.cellsOf t then some l else none
  |some (.array n e)=>(Fa P d e).bind λl=>if l.length=P.cellsOf e/\n*l.length=P.cellsOf t then some (List.replicate n l).flatten else none
  |_=>some [t]
section
variable {H:Type} {enc:TypeId×Value->H} {P:Program} {w:World} {base:Nat} {spare:Nat->Bool} {held:Bool}
def Leaves (enc:TypeId×Value->H) (P:Program) (w:World) (base:Nat) (spare:Nat->Bool) (held:Bool) (ls:List TypeId) (cs:List Value):Prop:=
 cs.length=ls.length/\ ∀(i:Nat) (l:TypeId) (u:Value),ls[i]? =some l->cs[i]? =some u-> ∃fuel x,DataW.trod enc P w base spare held fuel l [u]=some x
theorem Leaves.append {a b:List TypeId} {x y:List Value} (h:Leaves enc P w base spare held a x) (h':Leaves enc P w base spare held b y):Leaves enc P w base spare held (a++b) (x++y):=by
 refine⟨by simp[h.1,h'.1],λi l u hl hu=> ?_⟩;by_cases hi:i<a.length
 ·rw[Zr5 hi]at hl;rw[Zr5 (by rw[h.1];exact hi)]at hu;exact h.2 i l u hl hu
 ·rw[Zsm (by omega)]at hl;rw[Zsm (by rw[h.1];omega),h.1]at hu;exact h'.2 _ l u hl hu
theorem C5 {A B:Type} {f:A->Option B}: ∀{l:List A} {r:List B},l.mapM f=some r-> ∀a∈l,∃b,f a=some b
 | [],_,_,a,ha=>by cases ha
 |x::l,r,h,a,ha=>by
  rw[List.mapM_cons]at h;obtain⟨b,h1,h⟩:=Zrh.1 h;obtain⟨bs,h2,_⟩:=Zrh.1 h;rcases Zrl.1 ha with rfl|ha
  ·exact⟨b,h1⟩
  ·exact C5 h2 a ha
theorem Fb {r:TypeId->Option (List TypeId)} {cs:List Value} (hr: ∀t l,r t=some l-> ∀fuel vs x,DataW.trod enc P w base spare held fuel t vs=some x->Leaves enc P w base spare held l vs) {n:Nat}: ∀(fs:List Field) (off:Nat) (ls:List TypeId),Zia P r fs off=some ls->off+ls.length<=cs.length->
  (∀f∈fs,∃x,DataW.trod enc P w base spare held n f.type ((cs.drop f.offset).take (P.cellsOf f.type))=some x)->Leaves enc P w base spare held ls ((cs.drop off).take ls.length)
 | [],off,ls,h,_,_=>by
  injection h with h
  subst h;exact⟨by simp,λi l u hl _=>by simp at hl⟩
 |f::fs,off,ls,h,hlen,hall=>by
  unfold Zia at h;split at h
  ·rename_i ho;obtain⟨l,h1,h⟩:=Zrh.1 h;split at h
   ·rename_i hl;obtain⟨ls',h2,rfl⟩:=Zry.1 h;obtain⟨x,hx⟩:=hall f (by simp);have a1:=hr _ _ h1 _ _ _ hx;rw[Zre]at hlen;have a2:=Fb hr fs (off+l.length) ls' h2 (by omega) λg hg=>hall g (Zrr _ hg);rw[ho,<-hl]at a1;have e:(cs.drop off).take (l++ls').length=(cs.drop off).take l.length++(cs.drop (off+l.length)).take ls'.length:=by
     rw[Zre,List.take_add,List.drop_drop]
    rw[e];exact a1.append a2
   ·cases h
  ·cases h
theorem J3 {l:List TypeId} {m:Nat} (hl:l.length=m) {cs:List Value}: ∀(n:Nat),n*m<=cs.length->(∀i,i<n->Leaves enc P w base spare held l ((cs.drop (i*m)).take m))->Leaves enc P w base spare held (List.replicate n l).flatten (cs.take (n*m))
 |0,_,_=>⟨by simp,λi l u hl _=>by simp at hl⟩
 |n+1,h,hall=>by
  have ih:=J3 hl n (by rw[Zsb]at h;omega) λi hi=>hall i (by omega);have h1:=hall n (by omega);rw[List.replicate_succ',List.flatten_concat,Zsb,List.take_add];exact ih.append h1
theorem Ld: ∀(d:Nat) (t:TypeId) (ls:List TypeId),Fa P d t=some ls-> ∀fuel cs x,DataW.trod enc P w base spare held fuel t cs=some x->Leaves enc P w base spare held ls cs
 |0,t,ls,h=>by cases h
 |d+1,t,ls,h=>by
  intro fuel cs x hx;cases fuel with
  |zero=>cases hx
  |succ n=>
  rw[DataW.trod_step]at hx;unfold Fa at h;split at h
  ·rename_i fs ht;obtain⟨l,h1,h⟩:=Zrh.1 h;split at h
   ·rename_i hl;injection h with h
    subst h;simp only[DataW.trodStep,ht]at hx;split at hx
    ·rename_i hc;obtain⟨xs,hm,_⟩:=Zry.1 hx;have:=Fb (cs:=cs) (λt l hr=>Ld d t l hr) fs.toList 0 l h1 (by omega) (C5 hm);rw[Zsw,Zrc (by omega)]at this;exact this
    ·cases hx
   ·cases h
  ·rename_i m e ht;obtain⟨l,h1,h⟩:=Zrh.1 h;split at h
   ·rename_i hl;injection h with h
    subst h;simp only[DataW.trodStep,ht]at hx;split at hx
    ·rename_i hc;obtain⟨xs,hm,_⟩:=Zry.1 hx;have:=J3 (enc:=enc) (P:=P) (w:=w) (base:=base) (spare:=spare) (held:=held) hl.1 (cs:=cs) m (by rw[<-hl.1];omega) λi hi=>by
      obtain⟨y,hy⟩:=C5 hm i (Zsv.2 hi);exact Ld d e l h1 _ _ _ hy
     rw[Zrc (by rw[<-hl.1];omega)]at this;exact this
    ·cases hx
   ·cases h
  ·rename_i hne1 hne2;injection h with h
   subst h;have h1: ∃u,cs=[u]:=by
    unfold DataW.trodStep at hx;split at hx<;>first|exact⟨_,rfl⟩|(rename_i ht;exact absurd ht (hne1 _))|(rename_i ht;exact absurd ht (hne2 _ _))|cases hx
   obtain⟨u,rfl⟩:=h1;refine⟨rfl,λi l v hl hv=> ?_⟩;cases i with
   |zero=>
    simp at hl hv;subst hl hv;exact⟨n+1,x,by rw[DataW.trod_step];exact hx⟩
   |succ i=>simp at hl
end
def H3 (P:Program):Nat->TypeId->C->Prop
 |0,_,_=>False
 |d+1,t,c=>match P.underlying t with
  |some .bool=> ∃b,c= .v (.bool b)
  |some (.int k)=> ∃z,c= .v (.int k z)/\(Lit.int k z).wf=true
  |some .string=> ∃s:ByteArray,c= .v (.string s)/\s.size<=maxLen
  |some (.slice e)=>c= .nl\/ ∃(ls:List TypeId) (n:Nat) (cs:List C),c= .sl n cs/\Fa P d e=some ls/\n<=maxLen/\cs.length=n*ls.length/\ ∀(i j:Nat) (l:TypeId),i<n->ls[j]? =some l-> ∃y,cs[i*ls.length+j]? =some y/\H3 P d l y
  |_=>False
def okT (P:Program):Nat->TypeId->Bool
 |0,_=>false
 |d+1,t=>match P.underlying t with
  |some .bool=>true
  |some (.int _)=>true
  |some .string=>true
  |some (.slice e)=>match Fa P d e with
   |some ls=>Nat.beq ls.length (P.cellsOf e)&&Nat.blt 0 ls.length&&ls.all (okT P d)
   |none=>false
  |_=>false
section
variable {H:Type} {enc:TypeId×Value->H} {P:Program} {w:World} {base:Nat} {spare:Nat->Bool} {held:Bool}
theorem Znt: ∀(d:Nat) (t:TypeId),okT P d t=true-> ∀fuel u x,DataW.trod enc P w base spare held fuel t [u]=some x-> ∃c,RC w (λb _=>b<w.heap.size) c u/\H3 P d t c
 |0,t,h=>by cases h
 |d+1,t,h=>by
  intro fuel u x hx;have hx0:=hx;cases fuel with
  |zero=>cases hx
  |succ n=>
  rw[DataW.trod_step]at hx;unfold okT at h;split at h
  ·rename_i ht;unfold DataW.trodStep at hx;rw[ht]at hx;cases u<;>first|cases hx|skip
   rename_i b;exact⟨.v (.bool b), .v rfl,by unfold H3;rw[ht];exact⟨b,rfl⟩⟩
  ·rename_i k ht;unfold DataW.trodStep at hx;rw[ht]at hx;cases u<;>first|cases hx|skip
   rename_i k' z;simp only at hx;split at hx
   ·rename_i hk;obtain⟨rfl,hw⟩:=hk;exact⟨.v (.int _ z), .v rfl,by unfold H3;rw[ht];exact⟨z,rfl,hw⟩⟩
   ·cases hx
  ·rename_i ht;unfold DataW.trodStep at hx;rw[ht]at hx;cases u<;>first|cases hx|skip
   rename_i b;simp only at hx;split at hx
   ·rename_i hk;exact⟨.v (.string b), .v rfl,by unfold H3;rw[ht];exact⟨b,rfl,hk⟩⟩
   ·cases hx
  ·rename_i e ht;split at h
   ·rename_i ls hls;simp only[Zq3]at h;obtain⟨⟨h1,h2⟩,h3⟩:=h;have h1:=Zq2 h1;have h2:0<ls.length:=Zq7 h2;unfold H3;simp only[ht];rcases Go.Deep.open_slice ht hx0 with⟨hcs,_⟩|⟨a,len,cap,m,n',D,Pl,hcs,hb,hlc,hcm,hm,_,hrow⟩
    ·injection hcs with hcs
     subst hcs;exact⟨.nl, .nl, .inl rfl⟩
    ·injection hcs with hcs
     subst hcs;have hlm:len<=m:=by rw[hm];split<;>omega
     by_cases h0:len=0
     ·subst h0;exact⟨.sl 0 [], .sl0 hcm, .inr ⟨ls,0,[],rfl,hls,Zr7 _,by simp,λi j l hi=>by omega⟩⟩
     ·have hq: ∀q,q<len*ls.length-> ∃c v,w.cell? (a.add q)=some v/\RC w (λb _=>b<w.heap.size) c v/\ ∃l,ls[q%ls.length]? =some l/\H3 P d l c:=λq hq=>by
       have hi:q/ls.length<len:=Nat.div_lt_of_lt_mul (by rw[Nat.mul_comm];exact hq);have hj:q%ls.length<ls.length:=Nat.mod_lt _ h2;obtain⟨cs',c1,c2⟩:=hrow (q/ls.length) (by omega);obtain⟨_,e2,e3⟩:=World.cells?_some c1;have hL:=Ld d e ls hls _ _ _ c2;have hjc:q%ls.length<cs'.length:=by rw[hL.1];exact hj
       obtain⟨f',x',hx'⟩:=hL.2 _ _ _ (Zrb hj) (Zrb hjc);obtain⟨c,hc1,hc2⟩:=Znt d _ (Zrk.1 h3 _ (Zr2 hj)) _ _ _ hx';refine⟨c,cs'[q%ls.length], ?_,hc1,_,Zrb hj,hc2⟩;have e4:=e3 (q%ls.length) (by rw[<-h1];exact hj);rw[Go.Deep.add_add,<-h1,Nat.mul_comm,Nat.div_add_mod,Zrb hjc]at e4;exact e4
      have hq': ∀q:{q//q<len*ls.length},∃p:C×Value,w.cell? (a.add q.1)=some p.2/\RC w (λb _=>b<w.heap.size) p.1 p.2/\ ∃l,ls[q.1%ls.length]? =some l/\H3 P d l p.1:=λq=>by
       obtain⟨c,v,hh⟩:=hq q.1 q.2;exact⟨(c,v),hh⟩
      obtain⟨F,hF⟩:=Classical.axiomOfChoice hq';have hpos:0<len*ls.length:=Nat.mul_pos (by omega) h2;have hspot:=World.cell?_spot (hF ⟨0,hpos⟩).1;have hadd0:a.add 0=a:=by unfold Addr.add;simp
      rw[hadd0]at hspot;have hadd: ∀q,a.add q=⟨a.block,a.off+q,none⟩:=λq=>by
       obtain⟨b,o,sp⟩:=a;simp only at hspot;subst hspot;unfold Addr.add;by_cases h:q=0<;>simp[h]
      let cs:List C:=(List.range (len*ls.length)).map λq=>if hh:q<len*ls.length then(F ⟨q,hh⟩).1 else .nl
      have hcs: ∀q (hh:q<len*ls.length),cs[q]? =some (F ⟨q,hh⟩).1:=λq hh=>by
       show((List.range (len*ls.length)).map _)[q]? =_;rw[Zrj,List.getElem?_range hh];simp[hh]
      have hcl:cs.length=len*ls.length:=by show((List.range (len*ls.length)).map _).length=_;simp
      have ha:a=⟨a.block,a.off,none⟩:=by
       have:=hadd 0;rw[hadd0,Zsj]at this;exact this
      refine⟨.sl len cs, ?_, .inr ⟨ls,len,cs,rfl,hls,by omega,hcl,λi j l hi hj=> ?_⟩⟩
      ·rw[ha];refine RC.sl (us:=λq=>if hh:q<len*ls.length then(F ⟨q,hh⟩).2 else .bool false) hlc hcm (λq c hc=> ?_) (λq c hc=> ?_)
       ·have hh:q<len*ls.length:=by rw[<-hcl];exact(Zra.1 hc).1
        have e:=(hF ⟨q,hh⟩).1;rw[hadd q]at e;rw[dif_pos hh];exact⟨e,World.block_lt_of_cell? w ⟨a.block,a.off+q,none⟩ e⟩
       ·have hh:q<len*ls.length:=by rw[<-hcl];exact(Zra.1 hc).1
        rw[hcs q hh]at hc;injection hc with hc
        subst hc;rw[dif_pos hh];exact(hF ⟨q,hh⟩).2.1
      ·have hjl:j<ls.length:=(Zra.1 hj).1;have hh:i*ls.length+j<len*ls.length:=by
        have:=Zsq ls.length (show i+1<=len by omega);rw[Zsb]at this;omega
       refine⟨_,hcs _ hh, ?_⟩;obtain⟨l',e1,e2⟩:=(hF ⟨_,hh⟩).2.2;have e3:(i*ls.length+j)%ls.length=j:=by rw[Nat.mul_comm,Nat.mul_add_mod,Nat.mod_eq_of_lt hjl]
       simp only[e3]at e1;rw[hj]at e1;injection e1 with e1
       subst e1;exact e2
   ·cases h
  ·cases h
theorem Ze0 {A:Type} {n:Nat} {Q:Nat->A->Prop} (h: ∀i,i<n-> ∃c,Q i c): ∃ys:List A,ys.length=n/\ ∀i y,ys[i]? =some y->Q i y:=by
 induction n with
 |zero=>exact⟨[],rfl,λi y h=>by simp at h⟩
 |succ n ih=>
  obtain⟨ys,h1,h2⟩:=ih λi hi=>h i (by omega);obtain⟨c,hc⟩:=h n (by omega);refine⟨ys++[c],by simp[h1],λi y hy=> ?_⟩;by_cases hi:i<ys.length
  ·rw[Zr5 hi]at hy;exact h2 i y hy
  ·rw[Zsm (by omega)]at hy;have:i=n:=by
    have:=(Zra.1 hy).1;simp at this;omega
   subst this;rw[h1,Nat.sub_self]at hy;simp at hy;subst hy;exact hc
theorem Zpf {d:Nat} {ls:List TypeId} (hok:ls.all (okT P d)=true) {cs:List Value} (h:Leaves enc P w base spare held ls cs): ∃ys:List C,RCs w (λb _=>b<w.heap.size) ys cs/\ys.length=ls.length/\ ∀(i:Nat) (l:TypeId) (y:C),ls[i]? =some l->ys[i]? =some y->H3 P d l y:=by
 obtain⟨ys,h1,h2⟩:=Ze0 (n:=ls.length) (Q:=λi c=> ∀l u,ls[i]? =some l->cs[i]? =some u->RC w (λb _=>b<w.heap.size) c u/\H3 P d l c) λi hi=>by
  have hc:i<cs.length:=by rw[h.1];exact hi
  obtain⟨f,x,hx⟩:=h.2 _ _ _ (Zrb hi) (Zrb hc);obtain⟨c,c1,c2⟩:=Znt d _ (Zrk.1 hok _ (Zr2 hi)) _ _ _ hx;refine⟨c,λl u hl hu=> ?_⟩;rw[Zrb hi]at hl;rw[Zrb hc]at hu;injection hl with hl
  injection hu with hu
  subst hl hu;exact⟨c1,c2⟩
 refine⟨ys,⟨by rw[h1,h.1],λi c u hc hu=> ?_⟩,h1,λi l y hl hy=> ?_⟩
 ·have hi:i<ls.length:=by rw[<-h1];exact(Zra.1 hc).1
  exact(h2 i c hc _ _ (Zrb hi) hu).1
 ·have hi:=(Zra.1 hl).1;have hc:i<cs.length:=by rw[h.1];exact hi
  exact(h2 i y hy _ _ hl (Zrb hc)).2
theorem Zpg {d d':Nat} {t:TypeId} {ls:List TypeId} (hl:Fa P d' t=some ls) (hok:ls.all (okT P d)=true) {fuel:Nat} {cs:List Value} {x:DataW H×List MemPlace} (h:DataW.trod enc P w base spare held fuel t cs=some x):
  ∃ys:List C,RCs w (λb _=>b<w.heap.size) ys cs/\ys.length=ls.length/\ ∀(i:Nat) (l:TypeId) (y:C),ls[i]? =some l->ys[i]? =some y->H3 P d l y:=
 Zpf hok (Ld d' t ls hl _ _ _ h)
end
end Go.PM
/- States and schemes of all sorts, as they come in. -/
namespace Go.Proofs.YtoaanfjcjbghaaaGreatDoor
open Go Go.PM Go.Grid
theorem okWide_agg {P:Program} {w:World} {r:Reach} {b:Nat} {t:TypeId} {v:Value} {fs:Array Field} (ht:P.underlying t=some (.struct fs)) (h:Value.okWide P w r b t v): ∃cs:Array Value,v= .agg cs:=by
 simp only[Value.okWide,ht]at h;obtain⟨cs,rfl,_⟩:=h;exact⟨cs,rfl⟩
theorem Zb5 {d:Nat} {c:C} (h:H3 Tryz.prog (d+1) 3 c): ∃z,c= .v (.int .i64 z):=by
 unfold H3 at h;rw[show Tryz.prog.underlying 3=some (.int .i64) by kernel_rfl]at h;obtain⟨z,h,_⟩:=h;exact⟨z,h⟩
section
variable {H:Type} {enc:TypeId×Value->H} {w:World} {base:Nat} {spare:Nat->Bool} {held:Bool} {fuel:Nat} {cs:List Value} {x:DataW H×List MemPlace}
theorem Zph:Fa Tryz.prog 3 24=some [3,3,3]:=by kernel_rfl
theorem Zq1:([3,3,3]:List TypeId).all (okT Tryz.prog 4)=true:=by kernel_rfl
set_option maxRecDepth 10000 in
theorem open_scheme (h:DataW.trod enc Tryz.prog w base spare held fuel 24 cs=some x): ∃a b c:Int,RCs w (λb _=>b<w.heap.size) (scC a b c) cs:=by
 obtain⟨ys,h1,h2,h3⟩:=Zpg Zph Zq1 h
 match ys,h2 with
 | [y0,y1,y2],_=>
  obtain⟨a,rfl⟩:=Zb5 (h3 0 _ y0 rfl rfl);obtain⟨b,rfl⟩:=Zb5 (h3 1 _ y1 rfl rfl);obtain⟨c,rfl⟩:=Zb5 (h3 2 _ y2 rfl rfl);exact⟨a,b,c,h1⟩
end
end Go.Proofs.YtoaanfjcjbghaaaGreatDoor
/- The iterators that this seat's programs meet: the edges. -/
namespace Go.Proofs.YtoaanfjcjbghaaaGreatDoor
open Go Go.PM Go.Grid
attribute [local congr] Z1 Z2 Z3 Yp Z4 Z5 Yq Yr Ys Yt Z6 Z7 Yu Xt Xu Xv Xw Xx Xz X0 X1 X2 Xy Z9 Ya X3 Yb Yc Zt Yd Z8
section
variable (fu d:Nat) (hf:18446744073709551616<=fu)
include hf
theorem iterOk:Za4 Tryz.prog prim laid fu:=by
 intro d f caps xs h l go;replace h:(bif Nat.ble 10 d then iterC f caps else none)=some xs:=h;cases hd:Nat.ble 10 d with
 |false=>rw[hd]at h;cases h
 |true=>
  rw[hd]at h;replace h:iterC f caps=some xs:=h;have hd:=Zq7 hd;obtain⟨d',rfl⟩: ∃d',d=d'+10:=⟨d-10,by omega⟩;unfold iterC at h;cases hfq:Nat.beq f fn_flux_edges_1 with
  |false=>rw[hfq]at h;cases h
  |true=>
   have hfe:=Zq2 hfq;subst hfe;rw[hfq]at h;simp only[ct]at h;split at h
   ·rename_i c;unfold asP at h;split at h
    ·rename_i cs;cases cs with
     |nil=>cases h
     |cons c r=>
      replace h:asI .i64 c (λn=>need (decide (1<=n)&&decide (n<=8)) (some (edgesL n.toNat)))=some xs:=h;unfold asI at h;split at h
      ·split at h
       ·rename_i kd i hk;subst hk;obtain⟨hc,h⟩:=Za h;rw[Zq3]at hc;have h1:=of_decide_eq_true hc.1;have h2:=of_decide_eq_true hc.2;cases h;obtain⟨n,rfl⟩: ∃n:Nat,i=n:=⟨i.toNat,by omega⟩;exact Zni fu d' hf n (by unfold Zu;omega) l go r
       ·cases h
      ·cases h
    ·cases h
   ·cases h
end
end Go.Proofs.YtoaanfjcjbghaaaGreatDoor
