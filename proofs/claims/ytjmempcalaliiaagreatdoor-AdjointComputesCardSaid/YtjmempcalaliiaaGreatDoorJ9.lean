/- Parts put together: Pn, Po, Pp, Ft, Pq, Pr, PPe, Fx, Fy. -/
import Derived.Test.YtjmempcalaliiaaGreatDoorJ8
import Derived.Test.YtjmempcalaliiaaGreatDoorJ7
import Derived.Deep.Slices
set_option linter.constructorNameAsVariable false
set_option linter.unusedSimpArgs false
set_option linter.unusedVariables false
/- Both programs' Compose of transposed steps, at any numbers. -/
namespace Go.Proofs.YtjmempcalaliiaaGreatDoor
open Go Go.PM Go.Grid
attribute [local congr] Zy Zz Z0 Yg Z1 Z2 Yh Yi Yj Yk Z3 Z4 Yl Y5 Y6 Y7 Y8 Y9 Xb Xc Xd Xe Xa Z6 Z7 Xf Z8 Z9 Zn Ya Z5
theorem over_iter {T A B:Type} {f:T->A->Option (Nat×A)} {g:B->Option (Nat×B)} (R:Nat->A->B->Prop) (Q:A->B->Prop) (xs:List T)
  (hs: ∀j (h:j<xs.length) x y,R j x y->(∃x' y',f xs[j] x=some (0,x')/\g y=some (0,y')/\R (j+1) x' y')\/(∃x' y',f xs[j] x=some (1,x')/\g y=some (2,y')/\Q x' y'))
  (he: ∀x y,R xs.length x y->g y=some (1,y)):
  ∀m fu j x y,j+m=xs.length->m<fu->R j x y->(∃x' y',overK f (xs.drop j) x=some (0,x')/\iter g fu y=some (0,y')/\R xs.length x' y')\/(∃x' y',overK f (xs.drop j) x=some (1,x')/\iter g fu y=some (1,y')/\Q x' y'):=by
 intro m
 induction m with
 |zero=>
  intro fu j x y hj hm hR;obtain rfl:j=xs.length:=by omega
  refine .inl ⟨x,y, ?_,iter_one hm (he x y hR),hR⟩;rw[List.drop_length];rfl
 |succ m ih=>
  intro fu j x y hj hm hR;have hlt:j<xs.length:=by omega
  obtain⟨fv,rfl⟩: ∃fv,fu=fv+1:=⟨fu-1,by omega⟩;rw[List.drop_eq_getElem_cons hlt];rcases hs j hlt x y hR with⟨x',y',e1,e2,hR'⟩|⟨x',y',e1,e2,hQ⟩
  ·rcases ih fv (j+1) x' y' (by omega) (by omega) hR' with⟨x2,y2,k1,k2,k3⟩|⟨x2,y2,k1,k2,k3⟩
   ·refine .inl ⟨x2,y2, ?_, ?_,k3⟩
    ·show(f xs[j] x).bind _=_;rw[e1];exact k1
    ·rw[Af e2];exact k2
   ·refine .inr ⟨x2,y2, ?_, ?_,k3⟩
    ·show(f xs[j] x).bind _=_;rw[e1];exact k1
    ·rw[Af e2];exact k2
  ·refine .inr ⟨x',y', ?_,iter_one (by omega) e2,hQ⟩;show(f xs[j] x).bind _=_;rw[e1];rfl
theorem Cs {T A B C D:Type} {f:T->A->Option (Nat×A)} {g:B->Option (Nat×B)} {K1:Nat×A->Option C} {K2:Nat×B->Option D} {fu:Nat} {x:A} {y:B} {P:Option C->Option D->Prop} (R:Nat->A->B->Prop) (Q:A->B->Prop) (xs:List T)
  (hs: ∀j (h:j<xs.length) x y,R j x y->(∃x' y',f xs[j] x=some (0,x')/\g y=some (0,y')/\R (j+1) x' y')\/(∃x' y',f xs[j] x=some (1,x')/\g y=some (2,y')/\Q x' y'))
  (he: ∀x y,R xs.length x y->g y=some (1,y)) (h0:R 0 x y) (hm:xs.length<fu)
  (h1: ∀x' y',R xs.length x' y' ->P (K1 (0,x')) (K2 (0,y'))) (h2: ∀x' y',Q x' y' ->P (K1 (1,x')) (K2 (1,y'))):P ((overK f xs x).bind K1) ((iter g fu y).bind K2):=by
 rcases over_iter R Q xs hs he xs.length fu 0 x y (by omega) hm h0 with⟨x',y',e1,e2,hR⟩|⟨x',y',e1,e2,hQ⟩
 ·rw[List.drop_zero]at e1;rw[e1,e2];exact h1 x' y' hR
 ·rw[List.drop_zero]at e1;rw[e1,e2];exact h2 x' y' hQ
def cmR (k j:Nat) (x:(C×C×Unit)×(Int×Unit)×(C×C×Unit)×Unit) (y:Int×Int×(C×C×Unit)×(C×C×Unit)×Unit):Prop:=
 ∃(p q:List Int) (c1 c2 c1' c2':C),isL c1 p/\isL c2 q/\isL c1' p/\isL c2' q/\p.length<=1000000/\q.length<=1000000/\x=((C.nl,C.nl,()),(0,()),(c1,c2,()),())/\y=(0,(k:Int)-1-(j:Int),(c1',c2',()),(C.nl,C.nl,()),())
def cmQ (x:(C×C×Unit)×(Int×Unit)×(C×C×Unit)×Unit) (y:Int×Int×(C×C×Unit)×(C×C×Unit)×Unit):Prop:=
 ∃v w i,x=((C.nl,C.nl,()),(1,()),v,())/\y=(1,i,w,(C.nl,C.nl,()),())
def cmP (o1 o2:Option Out):Prop:= ∃(e:Int) (p q:List Int) (x1 x2 y1 y2:C),isL x1 p/\isL x2 q/\isL y1 p/\isL y2 q/\p.length<=1000000/\q.length<=1000000/\o1=OK (V.tup [V.agg [x1,x2],I e])/\o2=OK (V.tup [V.agg [y1,y2],I e])
section
variable (fu d:Nat) (hfu:18446744073709551616<=fu)
include hfu
omit hfu in
theorem A7 (l:List Int) (hl:l.length<=1000000):cl fu (d+1) fn_slices_Clone_sint_int [V.c (C.sl l.length (ints l))] []=some ⟨V.own 1000000 0 l.length,[.sb ty_int 0 (ints l)],none⟩:=by
 by_cases h:0<l.length
 ·exact sp_Clone fu d l h hl
 ·obtain rfl:l=[]:=List.eq_nil_of_length_eq_zero (by omega);rw[eq_slices_Clone_sint_int];exact same_self (some (⟨V.own 1000000 0 0,[.sb ty_int 0 []],none⟩:Out))
set_option maxHeartbeats 2000000 in
theorem La (a b c n:Int) (brs:List (List Int)) (hk:brs.length<=1000) (hbr: ∀br∈brs,br.length<=1000000) {c1 c2 c1' c2':C} {hd hf:List Int} (h1:isL c1 hd) (h2:isL c2 hf) (h1':isL c1' hd) (h2':isL c2' hf) (l1:hd.length<=1000000) (l2:hf.length<=1000000):
  cmP (cl fu (d+14) fn_adjoint_Compose [V.agg (scC a b c),I n,V.c (C.sl (brs.map bA).length (brs.map bA)),V.agg [c1,c2]] []) (cl fu (d+14) fn_synopticref32_Compose [V.agg (scC a b c),I n,V.c (C.sl (brs.map bA).length (brs.map bA)),V.agg [c1',c2']] []):=by
 have k1:=A7 fu (d+12) hd l1;have k2:=A7 fu (d+12) hf l2;have kb:=prim_back (d+3) (brs.map bA) (by rw[List.length_map];omega);have n1:=h1.1;have n2:=h2.1;have t1:List.take hd.length (ints hd)=ints hd:=List.take_of_length_le (by rw[Zf];exact Nat.le_refl _);have t2:List.take hf.length (ints hf)=ints hf:=List.take_of_length_le (by rw[Zf];exact Nat.le_refl _);have hap:=λ(br:List Int) (hb:br∈brs) (z1 z2 z1' z2':C) (p q:List Int) (g1:isL z1 p) (g2:isL z2 q) (g3:isL z1' p) (g4:isL z2' q) (m1:p.length<=1000000) (m2:q.length<=1000000)=>Gu fu (d+1) hfu a b c n br g1 g2 g3 g4 (hbr br hb) m1 m2;have hlen:(brs.map bA).length=brs.length:=List.length_map ..;have hbk:=Se (brs.map bA);have hget:=λ{i:Nat} (h:i<(brs.map bA).length)=>A6 (brs.map bA) h;have hbc: ∀{i:Nat} (h:i<(brs.map bA).length),∃br∈brs,(brs.map bA)[i]=C.sl br.length (ints br):=λ{i} h=>by
  rw[List.getElem_map];exact⟨_,List.getElem_mem _,rfl⟩
 unfold scC at*
 rw[eq_adjoint_Compose,eq_synopticref32_Compose,eq_slices_Backward_sapi_Branch_api_Branch];simp(disch:=omega)only[Zb,QM,QD,n1,n2,k1,k2,out0,rP_ptr,Zf,Nat.mul_one,Nat.zero_add,t1,t2,kb];generalize brs.map bA=bs at*
 refine Cs (cmR bs.length) cmQ (backL bs) ?_ ?_ ⟨hd,hf,_,_,_,_,Qa hd,Qa hf,h1',h2',l1,l2,rfl,by simp⟩ (by omega) ?_ ?_
 ·rintro j hj x y ⟨p,q,z1,z2,z1',z2',g1,g2,g3,g4,m1,m2,rfl,rfl⟩
  rw[hbk]at hj;obtain⟨i,hi⟩: ∃i:Nat,i=bs.length-1-j:=⟨_,rfl⟩;have hij:(bs.length:Int)-1-(j:Int)=(i:Int):=by omega
  have hil:i<bs.length:=by omega
  have hx:=hget hj;obtain⟨br,hbm,hbe⟩:=hbc hil;have hx:(backL bs)[j]'(by omega)=[I (i:Int),V.c (C.sl br.length (ints br))]:=by
   rw[hx];simp only[<-hi,hbe]
  have hdr:=List.drop_eq_getElem_cons hil;rw[hbe]at hdr;rw[hx,hij];rcases hap br hbm z1 z2 z1' z2' p q g1 g2 g3 g4 m1 m2 with⟨e1,e2⟩|⟨p',q',m1',m2',e1,e2⟩
  ·refine .inr ⟨((C.nl,C.nl,()),(1,()),(C.nl,C.nl,()),()),(1,(i:Int),(C.nl,C.nl,()),(C.nl,C.nl,()),()), ?_, ?_,⟨_,_,_,rfl,rfl⟩⟩
   ·simp(disch:=omega)only[Zb,QM,QD,e1,List.length_cons,List.length_nil,Nat.zero_add,Nat.reduceAdd]
   ·simp(disch:=omega)only[Zb,QM,QD,Int.toNat_natCast,Nat.mul_one,hdr,e2,List.length_cons,List.length_nil,Nat.zero_add,Nat.reduceAdd]
  ·refine .inl ⟨((C.nl,C.nl,()),(0,()),(C.sl p'.length (ints p'),C.sl q'.length (ints q'),()),()),(0,(bs.length:Int)-1-((j+1:Nat):Int),(C.sl p'.length (ints p'),C.sl q'.length (ints q'),()),(C.nl,C.nl,()),()), ?_, ?_,⟨p',q',_,_,_,_,Qa p',Qa q',Qa p',Qa q',m1',m2',rfl,rfl⟩⟩
   ·simp(disch:=omega)only[Zb,QM,QD,e1,List.length_cons,List.length_nil,Nat.zero_add,Nat.reduceAdd]
   ·rw[show(bs.length:Int)-1-((j+1:Nat):Int)=(i:Int)-1 by omega];simp(disch:=omega)only[Zb,QM,QD,Int.toNat_natCast,Nat.mul_one,hdr,e2,List.length_cons,List.length_nil,Nat.zero_add,Nat.reduceAdd]
 ·rintro x y ⟨p,q,z1,z2,z1',z2',g1,g2,g3,g4,m1,m2,rfl,rfl⟩
  rw[hbk];simp(disch:=omega)only[Zb,QM,QD]
 ·rintro x y ⟨p,q,z1,z2,z1',z2',g1,g2,g3,g4,m1,m2,rfl,rfl⟩
  exact⟨0,p,q,z1,z2,z1',z2',g1,g2,g3,g4,m1,m2,rfl,rfl⟩
 ·rintro x y ⟨v,w,i,rfl,rfl⟩
  exact⟨1,[],[],_,_,_,_,Te,Te,Te,Te,by simp,by simp,rfl,rfl⟩
end
end Go.Proofs.YtjmempcalaliiaaGreatDoor
/- Both programs' Sensitivity, at any numbers; Same of changes. -/
namespace Go.Proofs.YtjmempcalaliiaaGreatDoor
open Go Go.PM Go.Grid
attribute [local congr] Zy Zz Z0 Yg Z1 Z2 Yh Yi Yj Yk Z3 Z4 Yl Y5 Y6 Y7 Y8 Y9 Xb Xc Xd Xe Xa Z6 Z7 Xf Z8 Z9 Zn Ya Z5
theorem Ct (m:Nat) (v:Int):reps m [C.v (.int .i64 v)]=ints (List.replicate m v):=by
 unfold reps
 induction m with
 |zero=>rfl
 |succ m ih=>rw[List.replicate_succ,List.flatten_cons,ih,List.replicate_succ];rfl
theorem cmP_no {o1 o2:Option Out} (h1:o1=noC) (h2:o2=noC):cmP o1 o2:=⟨1,[],[],_,_,_,_,Te,Te,Te,Te,by simp,by simp,h1,h2⟩
section
variable (fu d:Nat) (hfu:18446744073709551616<=fu)
include hfu
theorem both_ASens (a b c n:Int) (brs:List (List Int)) (hk:brs.length<=1000) (hbr: ∀br∈brs,br.length<=1000000) (node:Int):
  cmP (cl fu (d+15) fn_adjoint_Sensitivity [V.agg (scC a b c),I n,V.c (C.sl (brs.map bA).length (brs.map bA)),I node] []) (cl fu (d+15) fn_synopticref32_Sensitivity [V.agg (scC a b c),I n,V.c (C.sl (brs.map bA).length (brs.map bA)),I node] []):=by
 rcases Jm a b c with⟨x,y,z,rfl,rfl,rfl,hx,hy,hz⟩|hbad
 ·have e1:=Cp fu (d+7) hfu x y z hx hy hz;have e3:=Mc fu (d+12) hfu x y z hx hy hz;have f0:=Hn fu (d+13) n;unfold scC at e3;by_cases hn:1<=n/\n<=8
  ·obtain⟨m,rfl⟩: ∃m:Nat,n=m:=⟨n.toNat,by omega⟩;have h:Yc m:=by unfold Yc;omega
   have heL:=Vd h;have hNl:=Xv h;have p1:=L6 h;have p2:=edg_pos h;have q1:=Q5 fu (d+5) hfu m h;have q2:=Tn fu (d+12) m h;have q3:=Qv fu (d+5) hfu m h;have q4:=Pz fu (d+13) m h;rw[decide_eq_true hn.1,decide_eq_true hn.2]at f0;by_cases hnd:0<=node/\node<((Zg m).length:Int)
   ·obtain⟨k,rfl⟩: ∃k:Nat,node=k:=⟨node.toNat,by omega⟩;have hkl:k<(List.replicate (Zg m).length (0:Int)).length:=by rw[List.length_replicate];omega
    have hp:=Qd (List.replicate (Zg m).length (0:Int)) hkl 1;have hU:((List.replicate (Zg m).length (0:Int)).set k 1).length=(Zg m).length:=by rw[List.length_set,List.length_replicate]
    have hV:(List.replicate (edg m).length (0:Int)).length=(edg m).length:=List.length_replicate;have hW:(List.replicate (Zg m).length (0:Int)).length=(Zg m).length:=List.length_replicate;have cc:=La fu d hfu (x:Int) (y:Int) (z:Int) (m:Int) brs hk hbr (Qa ((List.replicate (Zg m).length (0:Int)).set k 1)) (Qa (List.replicate (edg m).length (0:Int))) (Qa ((List.replicate (Zg m).length (0:Int)).set k 1)) (Qa (List.replicate (edg m).length (0:Int))) (by omega) (by omega);rw[hU,hV]at cc;have t1:List.take (Zg m).length (ints ((List.replicate (Zg m).length (0:Int)).set k 1))=ints ((List.replicate (Zg m).length (0:Int)).set k 1):=List.take_of_length_le (by rw[Zf,hU];exact Nat.le_refl _);have t2:List.take (edg m).length (ints (List.replicate (edg m).length (0:Int)))=ints (List.replicate (edg m).length (0:Int)):=List.take_of_length_le (by rw[Zf,hV];exact Nat.le_refl _);obtain⟨e,p,q,x1,x2,y1,y2,g1,g2,g3,g4,g5,g6,r1,r2⟩:=cc;unfold scC at*
    generalize (List.replicate (Zg m).length (0:Int)).set k 1=U at*
    refine⟨e,p,q,x1,x2,y1,y2,g1,g2,g3,g4,g5,g6, ?_, ?_⟩
    ·rw[eq_adjoint_Sensitivity];simp(disch:=omega)only[Zb,QM,QD,e1,q1,q2,Int.toNat_natCast,Nat.mul_one,Nat.zero_add,decide_true,Ct,hp,Zf,hU,hV,hW,t1,t2,r1,List.length_cons,List.length_nil,Nat.reduceAdd]
    ·rw[eq_synopticref32_Sensitivity];simp(disch:=omega)only[Zb,QM,QD,e3,f0,q3,q4,Int.toNat_natCast,Nat.mul_one,Nat.zero_add,decide_true,Ct,hp,Zf,hU,hV,hW,t1,t2,r2,List.length_cons,List.length_nil,Nat.reduceAdd]
   ·unfold scC;by_cases h0:node<0
    ·refine cmP_no ?_ ?_
     ·rw[eq_adjoint_Sensitivity];simp(disch:=omega)only[Zb,QM,QD,e1,q1,q2,decide_true]
     ·rw[eq_synopticref32_Sensitivity];simp(disch:=omega)only[Zb,QM,QD,e3,f0,q3,q4,decide_true]
    ·refine cmP_no ?_ ?_
     ·rw[eq_adjoint_Sensitivity];simp(disch:=omega)only[Zb,QM,QD,e1,q1,q2,decide_true,Int.toNat_natCast]
     ·rw[eq_synopticref32_Sensitivity];simp(disch:=omega)only[Zb,QM,QD,e3,f0,q3,q4,decide_true]
  ·have q1:=Rl fu (d+12) n (by omega);have hb:(decide (1<=n)&&decide (n<=8))=false:=by
    cases e:(decide (1<=n)&&decide (n<=8))with
    |false=>rfl
    |true=>
     rw[Bool.and_eq_true,decide_eq_true_iff,decide_eq_true_iff]at e;exact absurd e hn
   rw[hb]at f0;have q4:=eq_synopticref22_Nodes fu (d+13) n;generalize IntKind.i64.wrap (IntKind.i64.wrap (IntKind.i64.wrap (10*n)*n)+2)=v at q4;unfold scC;refine cmP_no ?_ ?_
   ·rw[eq_adjoint_Sensitivity];simp(disch:=omega)only[Zb,QM,QD,e1,q1]
   ·rw[eq_synopticref32_Sensitivity];simp(disch:=omega)only[Zb,QM,QD,e3,f0,q4]
 ·have e1:=Jn fu (d+7) hfu a b c hbad;have e3:=P9 fu (d+12) hfu a b c hbad;unfold scC at*
  refine cmP_no ?_ ?_
  ·rw[eq_adjoint_Sensitivity];simp(disch:=omega)only[Zb,QM,QD,e1]
  ·rw[eq_synopticref32_Sensitivity];simp(disch:=omega)only[Zb,QM,QD,e3]
theorem Mp {c1 c2 c3 c4:C} {a b a' b':List Int} (h1:isL c1 a) (h2:isL c2 b) (h3:isL c3 a') (h4:isL c4 b') (l1:a.length<=1000000) (l2:b.length<=1000000) (l3:a'.length<=1000000) (l4:b'.length<=1000000):
  cl fu (d+2) fn_synopticref31_Same [V.agg [c1,c2],V.agg [c3,c4]] []=OK (B (decide (a=a'/\b=b'))):=by
 have e1:=sp_Ints fu d hfu a a' l1 l3;have e2:=sp_Ints fu d hfu b b' l2 l4;rw[eq_synopticref31_Same,h1.1,h2.1,h3.1,h4.1];by_cases q1:a=a'
 ·rw[decide_eq_true q1]at e1;simp(disch:=omega)only[Zb,QM,QD,e1,e2];by_cases q2:b=b'
  ·rw[decide_eq_true q2,decide_eq_true ⟨q1,q2⟩]
  ·rw[decide_eq_false q2,decide_eq_false (λh=>q2 h.2)]
 ·rw[decide_eq_false q1]at e1;rw[decide_eq_false (λh=>q1 h.1)];simp(disch:=omega)only[Zb,QM,QD,e1]
end
end Go.Proofs.YtjmempcalaliiaaGreatDoor
/- The example of chapter 32. -/
namespace Go.Proofs.YtjmempcalaliiaaGreatDoor
open Go Go.PM Go.Grid
attribute [local congr] Zy Zz Z0 Yg Z1 Z2 Yh Yi Yj Yk Z3 Z4 Yl Y5 Y6 Y7 Y8 Y9 Xb Xc Xd Xe Xa Z6 Z7 Xf Z8 Z9 Zn Ya Z5
theorem ones_set: ∀j,j<12->(List.replicate j (1:Int)++List.replicate (12-j) 0).set j 1=List.replicate (j+1) 1++List.replicate (12-(j+1)) 0:=by decide+kernel
theorem ones_len: ∀j,j<13->(List.replicate j (1:Int)++List.replicate (12-j) 0).length=12:=by decide+kernel
section
variable (fu d:Nat) (hfu:18446744073709551616<=fu)
include hfu
theorem sp_awake32:cl fu (d+13) fn_synopticlaw32_awake [] []=OK (B true):=by
 have h1:(edg 1).length=30:=by kernel_rfl
 have h2:(Zg 1).length=12:=by kernel_rfl
 have v1:at0 (aDS 1 1 1 (X5 (Zg 1).length (edg 1)) (List.replicate 30 0) (List.replicate 12 1) (List.replicate 30 0) (edg 1) (edg 1).length) 5=120:=by kernel_rfl
 have v2:at0 (aFS 1 1 1 (List.replicate 30 0) (List.replicate 12 1) (List.replicate 30 0) (edg 1) (edg 1).length) 9=0:=by kernel_rfl
 have k1:=P0 1 1 1 (X5 (Zg 1).length (edg 1)) (List.replicate 30 0) (List.replicate 12 1) (List.replicate 30 0) (edg 1) (edg 1).length;have k2:=P1 1 1 1 (List.replicate 30 0) (List.replicate 12 1) (List.replicate 30 0) (edg 1) (edg 1).length;have ap:=A5 fu d hfu 1 (by unfold Yc;omega) 1 1 1 (by omega) (by omega) (by omega) (List.replicate 30 0) (List.replicate 12 1) (List.replicate 30 0) (by rw[h1];rfl) (by rw[h2];rfl) (by rw[h1];rfl) (λv hv=>by rw[List.eq_of_mem_replicate hv];omega) (λv hv=>by rw[List.eq_of_mem_replicate hv];omega) (λv hv=>by rw[List.eq_of_mem_replicate hv];omega);generalize aDS 1 1 1 (X5 (Zg 1).length (edg 1)) (List.replicate 30 0) (List.replicate 12 1) (List.replicate 30 0) (edg 1) (edg 1).length=X at*
 generalize aFS 1 1 1 (List.replicate 30 0) (List.replicate 12 1) (List.replicate 30 0) (edg 1) (edg 1).length=Y at*
 rw[h1]at ap k2;replace k1:X.length=12:=k1;replace ap:cl fu (d+12) fn_adjoint_Apply [V.agg [C.v (.int .i64 1),C.v (.int .i64 1),C.v (.int .i64 1)],I 1,V.c (C.sl 30 (ints (List.replicate 30 0))),V.agg [C.sl 12 (ints (List.replicate 12 1)),C.sl 30 (ints (List.replicate 30 0))]] []=OK (V.tup [V.agg [C.sl 12 (ints X),C.sl 30 (ints Y)],I 0]):=ap;have i1:=Zs X (i:=5) (by omega);have i2:=Zs Y (i:=9) (by omega);rw[v1]at i1;rw[v2]at i2;have hz:ints (List.replicate 30 0)=[C.v (.int .i64 0),C.v (.int .i64 0),C.v (.int .i64 0),C.v (.int .i64 0),C.v (.int .i64 0),C.v (.int .i64 0),C.v (.int .i64 0),C.v (.int .i64 0),C.v (.int .i64 0),C.v (.int .i64 0),C.v (.int .i64 0),C.v (.int .i64 0),C.v (.int .i64 0),C.v (.int .i64 0),C.v (.int .i64 0),C.v (.int .i64 0),C.v (.int .i64 0),C.v (.int .i64 0),C.v (.int .i64 0),C.v (.int .i64 0),C.v (.int .i64 0),C.v (.int .i64 0),C.v (.int .i64 0),C.v (.int .i64 0),C.v (.int .i64 0),C.v (.int .i64 0),C.v (.int .i64 0),C.v (.int .i64 0),C.v (.int .i64 0),C.v (.int .i64 0)]:=rfl;have hzl:(ints (List.replicate 30 0)).length=30:=rfl;have ho:List.take 12 (ints (List.replicate 12 1++List.replicate 0 0))=ints (List.replicate 12 1):=rfl;have hz3:List.take 30 (ints (List.replicate 30 0))=ints (List.replicate 30 0):=rfl;rw[eq_synopticlaw32_awake];rw[<-hz];generalize ints (List.replicate 30 0)=Z at*
 rw[Zl (λj:Nat=>(((j:Nat):Int),(ints (List.replicate j 1++List.replicate (12-j) 0),Z,()),())) 0 (((12:Nat):Int),(ints (List.replicate 12 1++List.replicate 0 0),Z,()),()) 12 ?_ ?_ ?_ (by omega)]
 ·have hol:(List.replicate 12 (1:Int)++List.replicate 0 0).length=12:=rfl;simp(disch:=omega)only[Zb,QM,QD,Zf,hol,hzl,hz3,ho,Nat.div_one,Nat.mul_one,Nat.zero_add,ap,i1,i2,List.length_cons,List.length_nil,Nat.reduceAdd]
 ·rfl
 ·intro j hj;have s1:=ones_set j hj;have s2:=ones_len j (by omega);have s3:=ones_len (j+1) (by omega);have p1:=Qd (List.replicate j (1:Int)++List.replicate (12-j) 0) (i:=j) (by omega) 1;rw[s1]at p1;generalize List.replicate j (1:Int)++List.replicate (12-j) 0=A at*
  generalize List.replicate (j+1) (1:Int)++List.replicate (12-(j+1)) 0=A' at*
  simp(disch:=omega)only[Zb,QM,QD,Zf,s2,s3,hzl,Int.toNat_natCast,Nat.div_one,Nat.mul_one,Nat.zero_add,p1];rfl
 ·have hol:(List.replicate 12 (1:Int)++List.replicate (12-12) 0).length=12:=rfl;simp(disch:=omega)only[Zb,QM,QD,Zf,hol,hzl,Nat.div_one,Nat.mul_one]
end
end Go.Proofs.YtjmempcalaliiaaGreatDoor
/- Numbers of all sorts. -/
namespace Go.Proofs.YtjmempcalaliiaaGreatDoor
open Go Go.PM Go.Grid
attribute [local congr] Zy Zz Z0 Yg Z1 Z2 Yh Yi Yj Yk Z3 Z4 Yl Y5 Y6 Y7 Y8 Y9 Xb Xc Xd Xe Xa Z6 Z7 Xf Z8 Z9 Zn Ya Z5
section
variable (fu d:Nat)
theorem sp_IntC {bs:List Int} (hb:bytes bs) {i:Nat} (hi:i<=1000): ∃(v:Int) (j:Nat),j<=1000/\cl fu (d+3) fn_synopticfield_Codes_Int [V.ptr 1000000 0] [Yr bs i]=some ⟨I v,[Yr bs j],none⟩:=by
 obtain⟨v1,j1,hv1,hj1,e1⟩:=Ue fu d hb hi 4 (by omega);replace e1:cl fu (d+2) fn_synopticfield_Codes_Next [V.ptr 1000000 0,I 4] _=_:=e1;obtain⟨v2,j2,hv2,hj2,e2⟩:=Ue fu d hb hj1 12 (by omega);replace e2:cl fu (d+2) fn_synopticfield_Codes_Next [V.ptr 1000000 0,I 12] _=_:=e2;obtain⟨v3,j3,hv3,hj3,e3⟩:=Ue fu d hb hj1 256 (by omega);replace e3:cl fu (d+2) fn_synopticfield_Codes_Next [V.ptr 1000000 0,I 256] _=_:=e3;unfold Yr at*
 rw[eq_synopticfield_Codes_Int];by_cases q:v1=3
 ·subst q;obtain⟨x,r,hx⟩: ∃(x:Int) (r:List C),List.drop v2 [C.v (.int .i64 9223372036854775807),C.v (.int .i64 (-9223372036854775808)),C.v (.int .i64 144115188075855872),C.v (.int .i64 144115188075855873),C.v (.int .i64 (-1)),C.v (.int .i64 4294967296),C.v (.int .i64 1048576),C.v (.int .i64 1048577),C.v (.int .i64 4194304),C.v (.int .i64 1000001),C.v (.int .i64 0),C.v (.int .i64 17)]=C.v (.int .i64 x)::r:=by
   rcases(show v2=0\/v2=1\/v2=2\/v2=3\/v2=4\/v2=5\/v2=6\/v2=7\/v2=8\/v2=9\/v2=10\/v2=11 by omega)with rfl|rfl|rfl|rfl|rfl|rfl|rfl|rfl|rfl|rfl|rfl|rfl<;>exact⟨_,_,rfl⟩
  exact⟨x,j2,hj2,by simp(disch:=omega)only[Zb,QM,QD,e1,e2,List.length_cons,List.length_nil,Nat.zero_add,Nat.reduceAdd,Int.toNat_natCast,Nat.mul_one,hx]⟩
 ·exact⟨(v3:Int)-60,j3,hj3,by simp(disch:=omega)only[Zb,QM,QD,e1,e3,List.length_cons,List.length_nil,Nat.zero_add,Nat.reduceAdd]⟩
end
end Go.Proofs.YtjmempcalaliiaaGreatDoor
/- AdjointComputes answers true. -/
namespace Go.Proofs.YtjmempcalaliiaaGreatDoor
open Go Go.PM Go.Grid
attribute [local congr] Zy Zz Z0 Yg Z1 Z2 Yh Yi Yj Yk Z3 Z4 Yl Y5 Y6 Y7 Y8 Y9 Xb Xc Xd Xe Xa Z6 Z7 Xf Z8 Z9 Zn Ya Z5
def exR {A:Type} (J:A->Prop) (o:Option (Nat×A)):Prop:= ∃y,o=some (0,y)/\J y
theorem Ho {A B:Type} {body:A->Option (Nat×A)} {fu:Nat} {x:A} {K:Nat×A->Option B} (R:Option B->Prop) (J:Nat->A->Prop) (k:Nat) (hx:J 0 x)
  (h: ∀j y,j<k->J j y->exR (J (j+1)) (body y)) (he: ∀y,J k y->body y=some (1,y)) (hf:k<fu) (h0: ∀z,J k z->R (K (0,z))):R ((iter body fu x).bind K):=by
 obtain⟨e,z,hi,hq⟩:=iter_inv (body:=body) (λj y=>J j y) (λe z=>e=0/\J k z) k 0 fu x hx (λj y _ hj hJ=>by
  obtain⟨y',h1,h2⟩:=h j y (by omega) hJ;exact⟨y', .inl ⟨h1,h2⟩⟩) (λy hJ=>by
  rw[Nat.zero_add]at hJ;exact⟨0,y,he y hJ,rfl,hJ⟩) hf
 obtain⟨rfl,hJ⟩:=hq;rw[hi];exact h0 z hJ
def jS (bs:List Int) (j:Nat) (y:Bool×Int×(C×Int×Unit)×Unit):Prop:= ∃i:Nat,i<=1000/\y=(false,(j:Int),(C.sl bs.length (ik .u8 bs),(i:Int),()),())
def jM (bs:List Int) (a b c:Int) (j:Nat) (y:Bool×Int×(Int×Int×Int×Unit)×(C×Int×Unit)×Unit):Prop:= ∃i:Nat,i<=1000/\y=(false,(j:Int),(a,b,c,()),(C.sl bs.length (ik .u8 bs),(i:Int),()),())
end Go.Proofs.YtjmempcalaliiaaGreatDoor
/- AdjointComputes answers true. -/
namespace Go.Proofs.YtjmempcalaliiaaGreatDoor
open Go Go.PM Go.Grid
attribute [local congr] Zy Zz Z0 Yg Z1 Z2 Yh Yi Yj Yk Z3 Z4 Yl Y5 Y6 Y7 Y8 Y9 Xb Xc Xd Xe Xa Z6 Z7 Xf Z8 Z9 Zn Ya Z5
section
variable (fu d:Nat) (hfu:18446744073709551616<=fu)
include hfu
set_option maxHeartbeats 16000000 in
theorem sp_AdjointComputes (l:List Int) (hl: ∀x∈l,0<=x/\x<=255) (a b c:Int) {c1 c2:C} {rd rf:List Int} (g1:isL c1 rd) (g2:isL c2 rf) (node fr:Int):cl fu (d+16) fn_synopticlaw32_AdjointComputes [V.c (C.sl l.length (ik .u8 l)),V.agg (scC a b c),V.agg [c1,c2],I node,I fr] []=OK (B true):=by
 have hA:=sp_awake32 fu (d+2) hfu;have s1:=λ{R:Type} (k:Nat->List C->Option R)=>g1.2 k;have s2:=λ{R:Type} (k:Nat->List C->Option R)=>g2.2 k;unfold scC;rw[eq_synopticlaw32_AdjointComputes];simp(disch:=omega)only[Zb,QM,QD,hA];rw[s1];by_cases hr1:rd.length<=200
 rotate_left
 ·simp(disch:=omega)only[Zb,QM,QD]
 simp(disch:=omega)only[Zb,QM,QD];rw[s2];by_cases hr2:rf.length<=400
 rotate_left
 ·simp(disch:=omega)only[Zb,QM,QD]
 have hb:=bytes_take hl (k:=300) (by omega);have hN:=sp_NewC fu (d+14) l 300;replace hN:cl fu (d+15) fn_synopticfield_New [V.c (C.sl l.length (ik .u8 l)),I 300] []=_:=hN;generalize l.take 300=bs at hb hN;obtain⟨n,j1,hn,hj1,k1⟩:=sp_Frequency fu (d+12) hb (i:=0) (by omega);have h:=freq_12 hn;obtain⟨v,j2,hv,hj2,k2⟩:=Ue fu (d+13) hb hj1 4 (by omega);replace k2:cl fu (d+15) fn_synopticfield_Codes_Next [V.ptr 1000000 0,I 4] _=_:=k2;obtain⟨m,r,hm,hdr⟩: ∃(m:Nat) (r:List C),m<=1099511627776/\List.drop v [C.v (.int .i64 9),C.v (.int .i64 1000),C.v (.int .i64 1048576),C.v (.int .i64 1099511627776)]=C.v (.int .i64 (m:Int))::r:=by
  rcases(show v=0\/v=1\/v=2\/v=3 by omega)with rfl|rfl|rfl|rfl
  ·exact⟨9,_,by omega,rfl⟩
  ·exact⟨1000,_,by omega,rfl⟩
  ·exact⟨1048576,_,by omega,rfl⟩
  ·exact⟨1099511627776,_,by omega,rfl⟩
 obtain⟨hd,hf,j3,q1,q2,q3,q4,hj3,k3⟩:=sp_Change fu (d+5) hfu hb hj2 n h m (by omega) 1099511627776 (by omega);obtain⟨br,j4,q5,q6,hj4,k4⟩:=A2 fu (d+5) hfu hb hj3 n h;have heL:=Vd h;have hNl:=Xv h;have p1:=L6 h;have p2:=edg_pos h;obtain⟨u,j5,hu,hj5,k5⟩:=Ue fu (d+13) hb hj4 br.length (by omega);replace k5:cl fu (d+15) fn_synopticfield_Codes_Next _ _=_:=k5;obtain⟨t,j6,hj6,k6⟩:=sp_IntC fu (d+12) hb hj5;obtain⟨a',b',c',j7,ha,hb',hc,hj7,k7⟩:=sp_Scheme fu (d+12) hb hj6;have hp:=Qd br hu t;have hpl:(br.set u t).length=br.length:=List.length_set;have htk:List.take br.length (ints (br.set u t))=ints (br.set u t):=List.take_of_length_le (by rw[Zf,hpl];exact Nat.le_refl _);unfold Yr at*
 simp(disch:=omega)only[Zb,QM,QD,out0,rP_ptr,rN_ob,hN,k1,k2,hdr,k3,k4,k5,k6,k7,Zf,Int.toNat_natCast,Nat.mul_one,Nat.zero_add,hp,hpl,htk,List.length_cons,List.length_nil,Nat.reduceAdd];generalize hbad:br.set u t=bad at*
 refine Ho (λo=>o=OK (B true)) (jS bs) 2 ⟨j7,hj7,rfl⟩ ?_ ?_ (by omega) ?_
 ·rintro j y hj ⟨i,hi,rfl⟩
  obtain⟨A,B',Cc,rr,hsch⟩: ∃(A B' Cc:Int) (rr:List C),List.drop (j*3) [C.v (.int .i64 a),C.v (.int .i64 b),C.v (.int .i64 c),C.v (.int .i64 (a':Int)),C.v (.int .i64 (b':Int)),C.v (.int .i64 (c':Int))]=C.v (.int .i64 A)::C.v (.int .i64 B')::C.v (.int .i64 Cc)::rr:=by
   rcases(show j=0\/j=1 by omega)with rfl|rfl
   ·exact⟨a,b,c,_,rfl⟩
   ·exact⟨_,_,_,[],rfl⟩
  simp(disch:=omega)only[Zb,QM,QD,Int.toNat_natCast,hsch];refine Ho (exR (jS bs (j+1))) (jM bs A B' Cc) 2 ⟨i,hi,rfl⟩ ?_ ?_ (by omega) ?_
  ·clear hi
   rintro j0 y hj0 ⟨i,hi,rfl⟩
   obtain⟨z1,z2,p,q,rr2,f1,f2,f3,f4,hch⟩: ∃(z1 z2:C) (p q:List Int) (rr2:List C),isL z1 p/\isL z2 q/\p.length<=1000000/\q.length<=1000000/\List.drop (j0*2) [c1,c2,C.sl hd.length (ints hd),C.sl hf.length (ints hf)]=z1::z2::rr2:=by
    rcases(show j0=0\/j0=1 by omega)with rfl|rfl
    ·exact⟨c1,c2,rd,rf,_,g1,g2,by omega,by omega,rfl⟩
    ·exact⟨_,_,hd,hf,[],Qa hd,Qa hf,by omega,by omega,rfl⟩
   obtain⟨w,i2,hw,hi2,e1⟩:=Ue fu (d+13) hb hi 3 (by omega);replace e1:cl fu (d+15) fn_synopticfield_Codes_Next [V.ptr 1000000 0,I 3] _=_:=e1;obtain⟨brs,hbl,hbm,hbt⟩: ∃brs:List (List Int),brs.length=w/\(∀x∈brs,x.length<=1000000)/\List.take w [C.sl br.length (ints br),C.sl br.length (ints bad),C.sl br.length (ints br)]=brs.map bA:=by
    have hB:C.sl br.length (ints bad)=bA bad:=by unfold bA;rw[hpl]
    rcases(show w=0\/w=1\/w=2 by omega)with rfl|rfl|rfl
    ·exact⟨[],rfl,(λ_ h=>by cases h),rfl⟩
    ·exact⟨[br],rfl,(λx h=>by simp at h;rw[h];omega),rfl⟩
    ·exact⟨[br,bad],rfl,(λx h=>by simp at h;rcases h with rfl|rfl<;>omega),by rw[hB];rfl⟩
   obtain⟨e,P',Q',x1,x2,y1,y2,t1,t2,t3,t4,t5,t6,r1,r2⟩:=La fu (d+1) hfu A B' Cc (n:Int) brs (by omega) hbm f1 f2 f1 f2 f3 f4;have sm:=Mp fu (d+13) hfu t1 t2 t3 t4 t5 t6 t5 t6;rw[decide_eq_true ⟨rfl,rfl⟩]at sm;have hwl:(brs.map bA).length=w:=by rw[List.length_map];exact hbl
   rw[hwl]at r1 r2;have n0:=Mp fu (d+13) hfu Te Te Te Te (by simp) (by simp) (by simp) (by simp);rw[decide_eq_true ⟨rfl,rfl⟩]at n0;unfold Yr at e1;unfold scC at r1 r2;simp(disch:=omega)only[Zb,QM,QD,Int.toNat_natCast,hch];rw[Zl (λj:Nat=>(false,(j:Int),(A,B',Cc,()),(z1,z2,()),(C.sl bs.length (ik .u8 bs),(i:Int),()),())) 0 (false,((2:Nat):Int),(A,B',Cc,()),(z1,z2,()),(C.sl bs.length (ik .u8 bs),(i:Int),()),()) 2 ?_ ?_ ?_ (by omega)]
   ·refine⟨(false,(j0:Int)+1,(A,B',Cc,()),(C.sl bs.length (ik .u8 bs),(i2:Int),()),()), ?_,⟨i2,hi2,rfl⟩⟩;simp(disch:=omega)only[Zb,QM,QD,e1,Int.toNat_natCast,Nat.mul_one,hp,htk,hbt,r1,r2,sm,List.length_cons,List.length_nil,Nat.zero_add,Nat.reduceAdd]
   ·rfl
   ·intro j1' hj1';obtain⟨xb,rr3,hxl,hxd⟩: ∃(xb:List Int) (rr3:List C),xb.length<=1000000/\List.drop j1' [C.sl br.length (ints br),C.sl br.length (ints bad)]=C.sl xb.length (ints xb)::rr3:=by
     rcases(show j1'=0\/j1'=1 by omega)with rfl|rfl
     ·exact⟨br,_,by omega,rfl⟩
     ·exact⟨bad,[],by omega,by rw[hpl];rfl⟩
    rcases Gu fu (d+3) hfu A B' Cc (n:Int) xb f1 f2 f1 f2 hxl f3 f4 with⟨o1,o2⟩|⟨p',q',m1,m2,o1,o2⟩
    ·unfold scC at o1 o2;simp(disch:=omega)only[Zb,QM,QD,Int.toNat_natCast,Nat.mul_one,hp,htk,hxd,o1,o2,n0,List.length_cons,List.length_nil,Nat.zero_add,Nat.reduceAdd];rfl
    ·have n1:=Mp fu (d+13) hfu (Qa p') (Qa q') (Qa p') (Qa q') m1 m2 m1 m2;rw[decide_eq_true ⟨rfl,rfl⟩]at n1;unfold scC at o1 o2;simp(disch:=omega)only[Zb,QM,QD,Int.toNat_natCast,Nat.mul_one,hp,htk,hxd,o1,o2,n1,List.length_cons,List.length_nil,Nat.zero_add,Nat.reduceAdd];rfl
   ·simp(disch:=omega)only[Zb,QM,QD]
  ·rintro y ⟨i,hi,rfl⟩
   simp(disch:=omega)only[Zb,QM,QD]
  ·clear hi
   rintro y ⟨i,hi,rfl⟩
   obtain⟨nd,hnd,e0⟩:=sp_Mod fu (d+14) node 14 (by omega);replace e0:cl fu (d+15) fn_synopticfield_Mod [I node,I 14] []=OK (I (nd:Int)):=e0;simp(disch:=omega)only[Zb,QM,QD,e0];refine Ho (exR (jS bs (j+1))) (jM bs A B' Cc) 3 ⟨i,hi,rfl⟩ ?_ ?_ (by omega) ?_
   ·clear hi
    rintro j0 y hj0 ⟨i,hi,rfl⟩
    obtain⟨N0,M0,rr2,hpr⟩: ∃(N0 M0:Int) (rr2:List C),List.drop (j0*2) [C.v (.int .i64 (n:Int)),C.v (.int .i64 node),C.v (.int .i64 (n:Int)),C.v (.int .i64 (nd:Int)),C.v (.int .i64 fr),C.v (.int .i64 0)]=C.v (.int .i64 N0)::C.v (.int .i64 M0)::rr2:=by
     rcases(show j0=0\/j0=1\/j0=2 by omega)with rfl|rfl|rfl
     ·exact⟨_,_,_,rfl⟩
     ·exact⟨_,_,_,rfl⟩
     ·exact⟨_,_,[],rfl⟩
    have hput:putAt [C.v (.int .i64 0),C.v (.int .i64 0)] 0 [C.v (.int .i64 N0),C.v (.int .i64 M0)]=[C.v (.int .i64 N0),C.v (.int .i64 M0)]:=rfl;obtain⟨br2,i2,b1,b2,hi2,e1⟩:=A2 fu (d+5) hfu hb hi n h;obtain⟨w,i3,hw,hi3,e2⟩:=Ue fu (d+13) hb hi2 3 (by omega);replace e2:cl fu (d+15) fn_synopticfield_Codes_Next [V.ptr 1000000 0,I 3] _=_:=e2;obtain⟨brs,hbl,hbm,hbt⟩: ∃brs:List (List Int),brs.length=w/\(∀x∈brs,x.length<=1000000)/\List.take w [C.sl br.length (ints br),C.sl br2.length (ints br2)]=brs.map bA:=by
     rcases(show w=0\/w=1\/w=2 by omega)with rfl|rfl|rfl
     ·exact⟨[],rfl,(λ_ h=>by cases h),rfl⟩
     ·exact⟨[br],rfl,(λx h=>by simp at h;rw[h];omega),rfl⟩
     ·exact⟨[br,br2],rfl,(λx h=>by simp at h;rcases h with rfl|rfl<;>omega),rfl⟩
    obtain⟨e,P',Q',x1,x2,y1,y2,t1,t2,t3,t4,t5,t6,r1,r2⟩:=both_ASens fu d hfu A B' Cc N0 brs (by omega) hbm M0;have sm:=Mp fu (d+13) hfu t1 t2 t3 t4 t5 t6 t5 t6;rw[decide_eq_true ⟨rfl,rfl⟩]at sm;have hwl:(brs.map bA).length=w:=by rw[List.length_map];exact hbl
    rw[hwl]at r1 r2;unfold Yr at e1 e2;unfold scC at r1 r2;refine⟨(false,(j0:Int)+1,(A,B',Cc,()),(C.sl bs.length (ik .u8 bs),(i3:Int),()),()), ?_,⟨i3,hi3,rfl⟩⟩;simp(disch:=omega)only[Zb,QM,QD,Int.toNat_natCast,Nat.mul_one,hpr,List.take_succ_cons,List.take_zero,hput,List.drop_succ_cons,List.drop_zero,e1,e2,hbt,r1,r2,sm,List.length_cons,List.length_nil,Nat.zero_add,Nat.reduceAdd]
   ·rintro y ⟨i,hi,rfl⟩
    simp(disch:=omega)only[Zb,QM,QD]
   ·clear hi
    rintro y ⟨i,hi,rfl⟩
    refine⟨(false,(j:Int)+1,(C.sl bs.length (ik .u8 bs),(i:Int),()),()), ?_,⟨i,hi,rfl⟩⟩;simp(disch:=omega)only[Zb,QM,QD]
 ·rintro y ⟨i,hi,rfl⟩
  simp(disch:=omega)only[Zb,QM,QD]
 ·rintro y ⟨i,hi,rfl⟩
  rfl
end
end Go.Proofs.YtjmempcalaliiaaGreatDoor
/- Data that came in, read as cells by their types. -/
namespace Go.PM
open Go
def tileT (P:Program) (r:TypeId->Option (List TypeId)):List Field->Nat->Option (List TypeId)
 | [],_=>some []
 |f::fs,off=>if f.offset=off then(r f.type).bind λl=>if l.length=P.cellsOf f.type then(tileT P r fs (off+l.length)).map (l++ ·)else none else none
def Lb (P:Program):Nat->TypeId->Option (List TypeId)
 |0,_=>none
 |d+1,t=>match P.underlying t with
  |some (.struct fs)=>(tileT P (Lb P d) fs.toList 0).bind λl=>if l.length=P.cellsOf t then some l else none
  |some (.array n e)=>(Lb P d e).bind λl=>if l.length=P.cellsOf e/\n*l.length=P.cellsOf t then some (List.replicate n l).flatten else none
  |_=>some [t]
section
variable {H:Type} {enc:TypeId×Value->H} {P:Program} {w:World} {base:Nat} {spare:Nat->Bool} {held:Bool}
def Leaves (enc:TypeId×Value->H) (P:Program) (w:World) (base:Nat) (spare:Nat->Bool) (held:Bool) (ls:List TypeId) (cs:List Value):Prop:=
 cs.length=ls.length/\ ∀(i:Nat) (l:TypeId) (u:Value),ls[i]? =some l->cs[i]? =some u-> ∃fuel x,DataW.trod enc P w base spare held fuel l [u]=some x
theorem Leaves.append {a b:List TypeId} {x y:List Value} (h:Leaves enc P w base spare held a x) (h':Leaves enc P w base spare held b y):Leaves enc P w base spare held (a++b) (x++y):=by
 refine⟨by simp[h.1,h'.1],λi l u hl hu=> ?_⟩;by_cases hi:i<a.length
 ·rw[List.getElem?_append_left hi]at hl;rw[List.getElem?_append_left (by rw[h.1];exact hi)]at hu;exact h.2 i l u hl hu
 ·rw[List.getElem?_append_right (by omega)]at hl;rw[List.getElem?_append_right (by rw[h.1];omega),h.1]at hu;exact h'.2 _ l u hl hu
theorem Cu {A B:Type} {f:A->Option B}: ∀{l:List A} {r:List B},l.mapM f=some r-> ∀a∈l,∃b,f a=some b
 | [],_,_,a,ha=>by cases ha
 |x::l,r,h,a,ha=>by
  rw[List.mapM_cons]at h;obtain⟨b,h1,h⟩:=Option.bind_eq_some_iff.1 h;obtain⟨bs,h2,_⟩:=Option.bind_eq_some_iff.1 h;rcases List.mem_cons.1 ha with rfl|ha
  ·exact⟨b,h1⟩
  ·exact Cu h2 a ha
theorem Gv {r:TypeId->Option (List TypeId)} {cs:List Value} (hr: ∀t l,r t=some l-> ∀fuel vs x,DataW.trod enc P w base spare held fuel t vs=some x->Leaves enc P w base spare held l vs) {n:Nat}: ∀(fs:List Field) (off:Nat) (ls:List TypeId),tileT P r fs off=some ls->off+ls.length<=cs.length->
  (∀f∈fs,∃x,DataW.trod enc P w base spare held n f.type ((cs.drop f.offset).take (P.cellsOf f.type))=some x)->Leaves enc P w base spare held ls ((cs.drop off).take ls.length)
 | [],off,ls,h,_,_=>by
  injection h with h
  subst h;exact⟨by simp,λi l u hl _=>by simp at hl⟩
 |f::fs,off,ls,h,hlen,hall=>by
  unfold tileT at h;split at h
  ·rename_i ho;obtain⟨l,h1,h⟩:=Option.bind_eq_some_iff.1 h;split at h
   ·rename_i hl;obtain⟨ls',h2,rfl⟩:=Option.map_eq_some_iff.1 h;obtain⟨x,hx⟩:=hall f (by simp);have a1:=hr _ _ h1 _ _ _ hx;rw[List.length_append]at hlen;have a2:=Gv hr fs (off+l.length) ls' h2 (by omega) λg hg=>hall g (List.mem_cons_of_mem _ hg);rw[ho,<-hl]at a1;have e:(cs.drop off).take (l++ls').length=(cs.drop off).take l.length++(cs.drop (off+l.length)).take ls'.length:=by
     rw[List.length_append,List.take_add,List.drop_drop]
    rw[e];exact a1.append a2
   ·cases h
  ·cases h
theorem Jp {l:List TypeId} {m:Nat} (hl:l.length=m) {cs:List Value}: ∀(n:Nat),n*m<=cs.length->(∀i,i<n->Leaves enc P w base spare held l ((cs.drop (i*m)).take m))->Leaves enc P w base spare held (List.replicate n l).flatten (cs.take (n*m))
 |0,_,_=>⟨by simp,λi l u hl _=>by simp at hl⟩
 |n+1,h,hall=>by
  have ih:=Jp hl n (by rw[Nat.succ_mul]at h;omega) λi hi=>hall i (by omega);have h1:=hall n (by omega);rw[List.replicate_succ',List.flatten_concat,Nat.succ_mul,List.take_add];exact ih.append h1
theorem Mq: ∀(d:Nat) (t:TypeId) (ls:List TypeId),Lb P d t=some ls-> ∀fuel cs x,DataW.trod enc P w base spare held fuel t cs=some x->Leaves enc P w base spare held ls cs
 |0,t,ls,h=>by cases h
 |d+1,t,ls,h=>by
  intro fuel cs x hx;cases fuel with
  |zero=>cases hx
  |succ n=>
  rw[DataW.trod_step]at hx;unfold Lb at h;split at h
  ·rename_i fs ht;obtain⟨l,h1,h⟩:=Option.bind_eq_some_iff.1 h;split at h
   ·rename_i hl;injection h with h
    subst h;simp only[DataW.trodStep,ht]at hx;split at hx
    ·rename_i hc;obtain⟨xs,hm,_⟩:=Option.map_eq_some_iff.1 hx;have:=Gv (cs:=cs) (λt l hr=>Mq d t l hr) fs.toList 0 l h1 (by omega) (Cu hm);rw[List.drop_zero,List.take_of_length_le (by omega)]at this;exact this
    ·cases hx
   ·cases h
  ·rename_i m e ht;obtain⟨l,h1,h⟩:=Option.bind_eq_some_iff.1 h;split at h
   ·rename_i hl;injection h with h
    subst h;simp only[DataW.trodStep,ht]at hx;split at hx
    ·rename_i hc;obtain⟨xs,hm,_⟩:=Option.map_eq_some_iff.1 hx;have:=Jp (enc:=enc) (P:=P) (w:=w) (base:=base) (spare:=spare) (held:=held) hl.1 (cs:=cs) m (by rw[<-hl.1];omega) λi hi=>by
      obtain⟨y,hy⟩:=Cu hm i (List.mem_range.2 hi);exact Mq d e l h1 _ _ _ hy
     rw[List.take_of_length_le (by rw[<-hl.1];omega)]at this;exact this
    ·cases hx
   ·cases h
  ·rename_i hne1 hne2;injection h with h
   subst h;have h1: ∃u,cs=[u]:=by
    unfold DataW.trodStep at hx;split at hx<;>first|exact⟨_,rfl⟩|(rename_i ht;exact absurd ht (hne1 _))|(rename_i ht;exact absurd ht (hne2 _ _))|cases hx
   obtain⟨u,rfl⟩:=h1;refine⟨rfl,λi l v hl hv=> ?_⟩;cases i with
   |zero=>
    simp at hl hv;subst hl hv;exact⟨n+1,x,by rw[DataW.trod_step];exact hx⟩
   |succ i=>simp at hl
end
def L9 (P:Program):Nat->TypeId->C->Prop
 |0,_,_=>False
 |d+1,t,c=>match P.underlying t with
  |some .bool=> ∃b,c= .v (.bool b)
  |some (.int k)=> ∃z,c= .v (.int k z)/\(Lit.int k z).wf=true
  |some .string=> ∃s:ByteArray,c= .v (.string s)/\s.size<=maxLen
  |some (.slice e)=>c= .nl\/ ∃(ls:List TypeId) (n:Nat) (cs:List C),c= .sl n cs/\Lb P d e=some ls/\n<=maxLen/\cs.length=n*ls.length/\ ∀(i j:Nat) (l:TypeId),i<n->ls[j]? =some l-> ∃y,cs[i*ls.length+j]? =some y/\L9 P d l y
  |_=>False
def okT (P:Program):Nat->TypeId->Bool
 |0,_=>false
 |d+1,t=>match P.underlying t with
  |some .bool=>true
  |some (.int _)=>true
  |some .string=>true
  |some (.slice e)=>match Lb P d e with
   |some ls=>Nat.beq ls.length (P.cellsOf e)&&Nat.blt 0 ls.length&&ls.all (okT P d)
   |none=>false
  |_=>false
section
variable {H:Type} {enc:TypeId×Value->H} {P:Program} {w:World} {base:Nat} {spare:Nat->Bool} {held:Bool}
theorem fit_rc: ∀(d:Nat) (t:TypeId),okT P d t=true-> ∀fuel u x,DataW.trod enc P w base spare held fuel t [u]=some x-> ∃c,RC w (λb _=>b<w.heap.size) c u/\L9 P d t c
 |0,t,h=>by cases h
 |d+1,t,h=>by
  intro fuel u x hx;have hx0:=hx;cases fuel with
  |zero=>cases hx
  |succ n=>
  rw[DataW.trod_step]at hx;unfold okT at h;split at h
  ·rename_i ht;unfold DataW.trodStep at hx;rw[ht]at hx;cases u<;>first|cases hx|skip
   rename_i b;exact⟨.v (.bool b), .v rfl,by unfold L9;rw[ht];exact⟨b,rfl⟩⟩
  ·rename_i k ht;unfold DataW.trodStep at hx;rw[ht]at hx;cases u<;>first|cases hx|skip
   rename_i k' z;simp only at hx;split at hx
   ·rename_i hk;obtain⟨rfl,hw⟩:=hk;exact⟨.v (.int _ z), .v rfl,by unfold L9;rw[ht];exact⟨z,rfl,hw⟩⟩
   ·cases hx
  ·rename_i ht;unfold DataW.trodStep at hx;rw[ht]at hx;cases u<;>first|cases hx|skip
   rename_i b;simp only at hx;split at hx
   ·rename_i hk;exact⟨.v (.string b), .v rfl,by unfold L9;rw[ht];exact⟨b,rfl,hk⟩⟩
   ·cases hx
  ·rename_i e ht;split at h
   ·rename_i ls hls;simp only[Bool.and_eq_true]at h;obtain⟨⟨h1,h2⟩,h3⟩:=h;have h1:=Nat.eq_of_beq_eq_true h1;have h2:0<ls.length:=Nat.le_of_ble_eq_true h2;unfold L9;simp only[ht];rcases Go.Deep.open_slice ht hx0 with⟨hcs,_⟩|⟨a,len,cap,m,n',D,Pl,hcs,hb,hlc,hcm,hm,_,hrow⟩
    ·injection hcs with hcs
     subst hcs;exact⟨.nl, .nl, .inl rfl⟩
    ·injection hcs with hcs
     subst hcs;have hlm:len<=m:=by rw[hm];split<;>omega
     by_cases h0:len=0
     ·subst h0;exact⟨.sl 0 [], .sl0 hcm, .inr ⟨ls,0,[],rfl,hls,Nat.zero_le _,by simp,λi j l hi=>by omega⟩⟩
     ·have hq: ∀q,q<len*ls.length-> ∃c v,w.cell? (a.add q)=some v/\RC w (λb _=>b<w.heap.size) c v/\ ∃l,ls[q%ls.length]? =some l/\L9 P d l c:=λq hq=>by
       have hi:q/ls.length<len:=Nat.div_lt_of_lt_mul (by rw[Nat.mul_comm];exact hq);have hj:q%ls.length<ls.length:=Nat.mod_lt _ h2;obtain⟨cs',c1,c2⟩:=hrow (q/ls.length) (by omega);obtain⟨_,e2,e3⟩:=World.cells?_some c1;have hL:=Mq d e ls hls _ _ _ c2;have hjc:q%ls.length<cs'.length:=by rw[hL.1];exact hj
       obtain⟨f',x',hx'⟩:=hL.2 _ _ _ (List.getElem?_eq_getElem hj) (List.getElem?_eq_getElem hjc);obtain⟨c,hc1,hc2⟩:=fit_rc d _ (List.all_eq_true.1 h3 _ (List.getElem_mem hj)) _ _ _ hx';refine⟨c,cs'[q%ls.length], ?_,hc1,_,List.getElem?_eq_getElem hj,hc2⟩;have e4:=e3 (q%ls.length) (by rw[<-h1];exact hj);rw[Go.Deep.add_add,<-h1,Nat.mul_comm,Nat.div_add_mod,List.getElem?_eq_getElem hjc]at e4;exact e4
      have hq': ∀q:{q//q<len*ls.length},∃p:C×Value,w.cell? (a.add q.1)=some p.2/\RC w (λb _=>b<w.heap.size) p.1 p.2/\ ∃l,ls[q.1%ls.length]? =some l/\L9 P d l p.1:=λq=>by
       obtain⟨c,v,hh⟩:=hq q.1 q.2;exact⟨(c,v),hh⟩
      obtain⟨F,hF⟩:=Classical.axiomOfChoice hq';have hpos:0<len*ls.length:=Nat.mul_pos (by omega) h2;have hspot:=World.cell?_spot (hF ⟨0,hpos⟩).1;have hadd0:a.add 0=a:=by unfold Addr.add;simp
      rw[hadd0]at hspot;have hadd: ∀q,a.add q=⟨a.block,a.off+q,none⟩:=λq=>by
       obtain⟨b,o,sp⟩:=a;simp only at hspot;subst hspot;unfold Addr.add;by_cases h:q=0<;>simp[h]
      let cs:List C:=(List.range (len*ls.length)).map λq=>if hh:q<len*ls.length then(F ⟨q,hh⟩).1 else .nl
      have hcs: ∀q (hh:q<len*ls.length),cs[q]? =some (F ⟨q,hh⟩).1:=λq hh=>by
       show((List.range (len*ls.length)).map _)[q]? =_;rw[List.getElem?_map,List.getElem?_range hh];simp[hh]
      have hcl:cs.length=len*ls.length:=by show((List.range (len*ls.length)).map _).length=_;simp
      have ha:a=⟨a.block,a.off,none⟩:=by
       have:=hadd 0;rw[hadd0,Nat.add_zero]at this;exact this
      refine⟨.sl len cs, ?_, .inr ⟨ls,len,cs,rfl,hls,by omega,hcl,λi j l hi hj=> ?_⟩⟩
      ·rw[ha];refine RC.sl (us:=λq=>if hh:q<len*ls.length then(F ⟨q,hh⟩).2 else .bool false) hlc hcm (λq c hc=> ?_) (λq c hc=> ?_)
       ·have hh:q<len*ls.length:=by rw[<-hcl];exact(List.getElem?_eq_some_iff.1 hc).1
        have e:=(hF ⟨q,hh⟩).1;rw[hadd q]at e;rw[dif_pos hh];exact⟨e,World.block_lt_of_cell? w ⟨a.block,a.off+q,none⟩ e⟩
       ·have hh:q<len*ls.length:=by rw[<-hcl];exact(List.getElem?_eq_some_iff.1 hc).1
        rw[hcs q hh]at hc;injection hc with hc
        subst hc;rw[dif_pos hh];exact(hF ⟨q,hh⟩).2.1
      ·have hjl:j<ls.length:=(List.getElem?_eq_some_iff.1 hj).1;have hh:i*ls.length+j<len*ls.length:=by
        have:=Nat.mul_le_mul_right ls.length (show i+1<=len by omega);rw[Nat.succ_mul]at this;omega
       refine⟨_,hcs _ hh, ?_⟩;obtain⟨l',e1,e2⟩:=(hF ⟨_,hh⟩).2.2;have e3:(i*ls.length+j)%ls.length=j:=by rw[Nat.mul_comm,Nat.mul_add_mod,Nat.mod_eq_of_lt hjl]
       simp only[e3]at e1;rw[hj]at e1;injection e1 with e1
       subst e1;exact e2
   ·cases h
  ·cases h
theorem Gw {A:Type} {n:Nat} {Q:Nat->A->Prop} (h: ∀i,i<n-> ∃c,Q i c): ∃ys:List A,ys.length=n/\ ∀i y,ys[i]? =some y->Q i y:=by
 induction n with
 |zero=>exact⟨[],rfl,λi y h=>by simp at h⟩
 |succ n ih=>
  obtain⟨ys,h1,h2⟩:=ih λi hi=>h i (by omega);obtain⟨c,hc⟩:=h n (by omega);refine⟨ys++[c],by simp[h1],λi y hy=> ?_⟩;by_cases hi:i<ys.length
  ·rw[List.getElem?_append_left hi]at hy;exact h2 i y hy
  ·rw[List.getElem?_append_right (by omega)]at hy;have:i=n:=by
    have:=(List.getElem?_eq_some_iff.1 hy).1;simp at this;omega
   subst this;rw[h1,Nat.sub_self]at hy;simp at hy;subst hy;exact hc
theorem fit_rcs {d:Nat} {ls:List TypeId} (hok:ls.all (okT P d)=true) {cs:List Value} (h:Leaves enc P w base spare held ls cs): ∃ys:List C,RCs w (λb _=>b<w.heap.size) ys cs/\ys.length=ls.length/\ ∀(i:Nat) (l:TypeId) (y:C),ls[i]? =some l->ys[i]? =some y->L9 P d l y:=by
 obtain⟨ys,h1,h2⟩:=Gw (n:=ls.length) (Q:=λi c=> ∀l u,ls[i]? =some l->cs[i]? =some u->RC w (λb _=>b<w.heap.size) c u/\L9 P d l c) λi hi=>by
  have hc:i<cs.length:=by rw[h.1];exact hi
  obtain⟨f,x,hx⟩:=h.2 _ _ _ (List.getElem?_eq_getElem hi) (List.getElem?_eq_getElem hc);obtain⟨c,c1,c2⟩:=fit_rc d _ (List.all_eq_true.1 hok _ (List.getElem_mem hi)) _ _ _ hx;refine⟨c,λl u hl hu=> ?_⟩;rw[List.getElem?_eq_getElem hi]at hl;rw[List.getElem?_eq_getElem hc]at hu;injection hl with hl
  injection hu with hu
  subst hl hu;exact⟨c1,c2⟩
 refine⟨ys,⟨by rw[h1,h.1],λi c u hc hu=> ?_⟩,h1,λi l y hl hy=> ?_⟩
 ·have hi:i<ls.length:=by rw[<-h1];exact(List.getElem?_eq_some_iff.1 hc).1
  exact(h2 i c hc _ _ (List.getElem?_eq_getElem hi) hu).1
 ·have hi:=(List.getElem?_eq_some_iff.1 hl).1;have hc:i<cs.length:=by rw[h.1];exact hi
  exact(h2 i y hy _ _ hl (List.getElem?_eq_getElem hc)).2
theorem arg_rcs {d d':Nat} {t:TypeId} {ls:List TypeId} (hl:Lb P d' t=some ls) (hok:ls.all (okT P d)=true) {fuel:Nat} {cs:List Value} {x:DataW H×List MemPlace} (h:DataW.trod enc P w base spare held fuel t cs=some x):
  ∃ys:List C,RCs w (λb _=>b<w.heap.size) ys cs/\ys.length=ls.length/\ ∀(i:Nat) (l:TypeId) (y:C),ls[i]? =some l->ys[i]? =some y->L9 P d l y:=
 fit_rcs hok (Mq d' t ls hl _ _ _ h)
end
end Go.PM
/- States and schemes of all sorts, as they come in. -/
namespace Go.Proofs.YtjmempcalaliiaaGreatDoor
open Go Go.PM Go.Grid
theorem okWide_agg {P:Program} {w:World} {r:Reach} {b:Nat} {t:TypeId} {v:Value} {fs:Array Field} (ht:P.underlying t=some (.struct fs)) (h:Value.okWide P w r b t v): ∃cs:Array Value,v= .agg cs:=by
 simp only[Value.okWide,ht]at h;obtain⟨cs,rfl,_⟩:=h;exact⟨cs,rfl⟩
theorem Fw {d:Nat} {c:C} (h:L9 Tryz.prog (d+1) 3 c): ∃z,c= .v (.int .i64 z):=by
 unfold L9 at h;rw[show Tryz.prog.underlying 3=some (.int .i64) by kernel_rfl]at h;obtain⟨z,h,_⟩:=h;exact⟨z,h⟩
theorem leaf_int:Lb Tryz.prog 3 3=some [3]:=by kernel_rfl
set_option maxRecDepth 10000 in
theorem fit_row {c:C} (h:L9 Tryz.prog 4 30 c): ∃l:List Int,isL c l:=by
 unfold L9 at h;rw[show Tryz.prog.underlying 30=some (.slice 3) by kernel_rfl]at h;rcases h with rfl|⟨ls,n,cs,rfl,hls,hn,hl,hr⟩
 ·exact⟨[],Te⟩
 ·rw[leaf_int]at hls;injection hls with hls
  subst hls;replace hl:cs.length=n:=by rw[hl];exact Nat.mul_one n
  obtain⟨l,h1,h2⟩:=Gw (Q:=λi (x:Int)=>cs[i]? =some (.v (.int .i64 x))) (n:=n) λi hi=>by
   obtain⟨y,e,f⟩:=hr i 0 _ hi rfl;obtain⟨z,rfl⟩:=Fw f;exact⟨z,by rw[<-e];congr 1;exact(Nat.mul_one i).symm⟩
  have hcs:cs=ints l:=by
   refine List.ext_getElem? λi=> ?_;by_cases hi:i<n
   ·rw[h2 i l[i] (List.getElem?_eq_getElem (by omega))];show _=(l.map _)[i]?;rw[List.getElem?_map,List.getElem?_eq_getElem (by omega)];rfl
   ·rw[List.getElem?_eq_none (by omega),List.getElem?_eq_none (by rw[Zf];omega)]
  rw[hcs,<-h1];exact⟨l,Qa l⟩
section
variable {H:Type} {enc:TypeId×Value->H} {w:World} {base:Nat} {spare:Nat->Bool} {held:Bool} {fuel:Nat} {cs:List Value} {x:DataW H×List MemPlace}
theorem leaf_sc:Lb Tryz.prog 3 28=some [3,3,3]:=by kernel_rfl
theorem okT_sc:([3,3,3]:List TypeId).all (okT Tryz.prog 4)=true:=by kernel_rfl
set_option maxRecDepth 10000 in
theorem open_scheme (h:DataW.trod enc Tryz.prog w base spare held fuel 28 cs=some x): ∃a b c:Int,RCs w (λb _=>b<w.heap.size) (scC a b c) cs:=by
 obtain⟨ys,h1,h2,h3⟩:=arg_rcs leaf_sc okT_sc h
 match ys,h2 with
 | [y0,y1,y2],_=>
  obtain⟨a,rfl⟩:=Fw (h3 0 _ y0 rfl rfl);obtain⟨b,rfl⟩:=Fw (h3 1 _ y1 rfl rfl);obtain⟨c,rfl⟩:=Fw (h3 2 _ y2 rfl rfl);exact⟨a,b,c,h1⟩
end
end Go.Proofs.YtjmempcalaliiaaGreatDoor
/- Changes of all sorts, as they come in. -/
namespace Go.Proofs.YtjmempcalaliiaaGreatDoor
open Go Go.PM Go.Grid
section
variable {H:Type} {enc:TypeId×Value->H} {w:World} {base:Nat} {spare:Nat->Bool} {held:Bool} {fuel:Nat} {cs:List Value} {x:DataW H×List MemPlace}
theorem leaf_ch:Lb Tryz.prog 3 34=some [30,30]:=by kernel_rfl
theorem okT_ch:([30,30]:List TypeId).all (okT Tryz.prog 4)=true:=by kernel_rfl
set_option maxRecDepth 10000 in
theorem open_change (h:DataW.trod enc Tryz.prog w base spare held fuel 34 cs=some x): ∃(c1 c2:C) (dp fw:List Int),RCs w (λb _=>b<w.heap.size) [c1,c2] cs/\isL c1 dp/\isL c2 fw:=by
 obtain⟨ys,h1,h2,h3⟩:=arg_rcs leaf_ch okT_ch h
 match ys,h2 with
 | [y1,y2],_=>
  obtain⟨dp,h5⟩:=fit_row (h3 0 _ y1 rfl rfl);obtain⟨fw,h6⟩:=fit_row (h3 1 _ y2 rfl rfl);exact⟨y1,y2,dp,fw,h1,h5,h6⟩
end
end Go.Proofs.YtjmempcalaliiaaGreatDoor
