/- Parts put together: Sa, Sb, Sc, Sd, Se, Sf, Ta, Tb, Tc, Td, Te, Ua, Ue, Uf, W, H, Ug. -/
import Derived.Test.YtepjbmlhfhahcaaEq
import Derived.Test.YtepjbmlhfhahcaaJ5
set_option linter.defProp false
set_option linter.unusedSimpArgs false
set_option linter.unusedVariables false
open Bool renaming and_true→Zj2
open Int renaming fdiv→Zi9
open Go.IntKind renaming bits→Zi7,i64→Zi5,u64→Zi6
open List renaming range→Zjg,take→Zjc,drop→Zja,sum_cons→Zj3,drop_succ_cons→Zj5
open Nat renaming gcd→Zj1,beq→Zi8,ble→Zjb,div_div_eq_div_mul→Zj4,succ→Zjd
namespace Go.Proofs.Ytepjbmlhfhahcaa
open Go Go.PM
theorem absI (a:Int) (h: -9223372036854775807<=a/\a<=9223372036854775807):(if Zi5.wrap (0-a)>a then Zi5.wrap (0-a)else a)=(a.natAbs:Int):=by
 rw[IntWalk.i64_in (0-a) ⟨by omega,by omega⟩];split<;>omega
theorem Zfg (fu:Nat) (x y:Nat) (h:y<fu):iter (λ(y:Int×Int×(Int×Int×Unit)×Unit)=>
   bif y.2.1 !=0 then
    need (!(y.2.1==0))<|
    some (0,(y.2.1,Int.tmod y.1 y.2.1,(y.2.2.1.1,y.2.2.1.2.1,()),()))
   else
    some (1,(y.1,y.2.1,(y.2.2.1.1,y.2.2.1.2.1,()),()))) fu ((x:Int),(y:Int),(0,0,()),())=some (0,(((Zj1 x y:Nat):Int),0,(0,0,()),())):=by
 obtain⟨e,z,h1,h2⟩:=Ti (body:=(λ(y:Int×Int×(Int×Int×Unit)×Unit)=>
   bif y.2.1 !=0 then
    need (!(y.2.1==0))<|
    some (0,(y.2.1,Int.tmod y.1 y.2.1,(y.2.2.1.1,y.2.2.1.2.1,()),()))
   else
    some (1,(y.1,y.2.1,(y.2.2.1.1,y.2.2.1.2.1,()),())))) (λs=> ∃u v:Nat,s=((u:Int),(v:Int),(0,0,()),())/\Zj1 u v=Zj1 x y) (λs=>s.2.1.toNat) (λe z=>e=0/\z=(((Zj1 x y:Nat):Int),0,(0,0,()),())) (by
  rintro s ⟨u,v,rfl,hg⟩
  by_cases hv:v=0
  ·subst hv;refine .inr ⟨0,_,by simp;rfl,rfl, ?_⟩;simp at hg;simp[hg]
  ·have hv':(v:Int)≠0:=by omega
   have e:Int.tmod (u:Int) (v:Int)=((u%v:Nat):Int):=rfl;refine .inl ⟨((v:Int),((u%v:Nat):Int),(0,0,()),()), ?_,⟨v,u%v,rfl, ?_⟩, ?_⟩
   ·have t:((v:Int) !=0)=true:=by simpa using hv
    have t':((v:Int)==0)=false:=by simpa using hv
    simp[t',t,need,e]
   ·rw[<-hg,Nat.gcd_comm u v,Nat.gcd_rec v u,Nat.gcd_comm]
   ·simp only[Zgm];exact Nat.mod_lt _ (by omega)) fu ((x:Int),(y:Int),(0,0,()),()) ⟨x,y,rfl,rfl⟩ (by simpa using h)
 rw[h1,h2.1,h2.2]
theorem H6 (fu d:Nat) (hf:18446744073709551616<=fu) (a:Int) (b:Nat) (ha: -1152921504606846976<=a/\a<=1152921504606846976) (hb:0<b/\b<=1152921504606846976):
  cl fu (d+2) fn_score_Reduce [I a,I b] []=some ⟨V.tup [V.agg [C.v (.int .i64 (a/(Zj1 a.natAbs b:Nat))),C.v (.int .i64 ((b/Zj1 a.natAbs b:Nat):Int))],I 0],[],none⟩:=by
 rw[eq_score_Reduce,eq_score_within,eq_score_within];have hb0:((b:Int)==0)=false:=by simp;omega
 have hbn:decide ((b:Int)<0)=false:=decide_eq_false (by omega);simp only[hb0,hbn,cf,ct,decide_eq_true ha.1,decide_eq_true ha.2,show decide ((-1152921504606846976:Int)<=b)=true from decide_eq_true (by omega),show decide ((b:Int)<=1152921504606846976)=true from decide_eq_true (by omega),obs,V1,Vi,Zh0];rw[absI a (by omega),Zfg _ _ _ (by omega)];have hg:0<Zj1 a.natAbs b:=Nat.gcd_pos_of_pos_right _ hb.1;have hg':Zj1 a.natAbs b<=b:=Nat.gcd_le_right _ hb.1;have hz:(((Zj1 a.natAbs b:Nat):Int)==0)=false:=by simp;omega
 have hd1:((Zj1 a.natAbs b:Nat):Int)∣a:=by
  have:=Nat.gcd_dvd_left a.natAbs b;exact Int.ofNat_dvd_left.2 this
 have e1:Int.tdiv a ((Zj1 a.natAbs b:Nat):Int)=a/((Zj1 a.natAbs b:Nat):Int):=Int.tdiv_eq_ediv_of_dvd hd1;have e2:Int.tdiv (b:Int) ((Zj1 a.natAbs b:Nat):Int)=((b/Zj1 a.natAbs b:Nat):Int):=rfl;have b1:b/Zj1 a.natAbs b<=b:=Nat.div_le_self _ _;have b2:(a/((Zj1 a.natAbs b:Nat):Int)).natAbs<=a.natAbs:=by
  rw[Int.natAbs_ediv_of_dvd hd1];exact Nat.div_le_self _ _
 simp only[obs,hz,Zg8,Zr,e1,e2];generalize a/((Zj1 a.natAbs b:Nat):Int)=u at*
 generalize b/Zj1 a.natAbs b=v at*
 rw[IntWalk.i64_in u ⟨by omega,by omega⟩,IntWalk.i64_in v ⟨by omega,by omega⟩]
end Go.Proofs.Ytepjbmlhfhahcaa
namespace Go.Proofs.Ytepjbmlhfhahcaa
open Go Go.PM
def Yo:List Int->Nat->Int
 | [],_=>0
 |x::r,m=>(if m%2=1 then x else 0)+Yo r (m/2)
def small (a:List Int):Prop:= ∀x∈a,-1000000<=x/\x<=1000000
theorem Zan (a:List Int) (m j:Nat) (h:j<a.length):Yo (a.take (j+1)) m=Yo (a.take j) m+if m/2^j%2=1 then a[j]else 0:=by
 induction a generalizing m j with
 |nil=>simp at h
 |cons x r ih=>
  cases j with
  |zero=>simp[Yo]
  |succ j=>
   simp only[List.take_succ_cons,Yo,List.getElem_cons_succ];rw[ih (m/2) j (by simpa using h),Zj4,show 2*2^j=2^(j+1) by rw[Zhn];omega];omega
theorem Vk (a:List Int) (m:Nat) (h:small a): -(1000000*(a.length:Int))<=Yo a m/\Yo a m<=1000000*(a.length:Int):=by
 induction a generalizing m with
 |nil=>simp[Yo]
 |cons x r ih=>
  have h1:=h x (by simp);have h2:=ih (m/2) (λy hy=>h y (by simp[hy]));simp only[Yo,Zgf];split<;>omega
theorem Bz {a:List Int} (h:small a) (j:Nat):small (a.take j):=λx hx=>h x (Zhe hx)
theorem Zcu (x:Nat):Zi6.wrap (BitVec.ofInt (Zi7 .u64) (x:Int)&&&BitVec.ofInt (Zi7 .u64) 1).toNat=((x%2:Nat):Int):=by
 rw[and_one (kd:= .u64) (by decide)];exact IntWalk.u64_in _ ⟨by omega,by omega⟩
theorem Rm (fu d:Nat) (hf:18446744073709551616<=fu) (a:List Int) (m:Nat) (hn:a.length<=60) (hs:small a):
  cl fu (d+1) fn_sampling_chosen [V.c (C.sl a.length (ints a)),V.c (C.v (.int .u64 m))] []=some ⟨I (Yo a m),[],none⟩:=by
 rw[eq_sampling_chosen];have hz:((0:Int),(0:Int),())=(λj:Nat=>(Yo (a.take j) m,(j:Int),())) 0:=by simp[Yo]
 rw[hz,S7 (λj:Nat=>(Yo (a.take j) m,(j:Int),())) 0 (Yo a m,(a.length:Int),()) a.length 0 fu ?_ ?_ (by omega)]
 ·simp
 ·intro j _ hj;have hj:j<a.length:=by omega
  have hx:=hs a[j] (Zhp hj);have hb:=Vk (a.take j) m (Bz hs j);have hl:(a.take j).length=j:=by simp;omega
  rw[hl]at hb;simp only[F3 (show(j:Int)<(a.length:Int) by omega),ct,Ly hj,Zr,Zgm,Zgx,Pp hj,Z7,show decide ((j:Int)<0)=false from decide_eq_false (by omega),Zg8,Zer];rw[show min j (Zi7 .u64)=j by simp[Zi7];omega,Zcr,Zcu,Zan a m j hj,IntWalk.i64_in ((j:Int)+1) ⟨by omega,by omega⟩];by_cases hbit:m/2^j%2=1
  ·rw[hbit];simp only[if_true];rw[IntWalk.i64_in (Yo (a.take j) m+a[j]) ⟨by omega,by omega⟩];simp
  ·rw[if_neg hbit];have:(((m/2^j%2:Nat):Int)==1)=false:=by rw[beq_eq_false_iff_ne];omega
   rw[this];simp
 ·simp
theorem Cd: ∀{cs:List C} {xs:List (List V)},elems cs=some xs-> ∃a:List Int,cs=ints a/\xs=a.map λn=>[V.c (C.v (.int .i64 n))]
 | [],xs,h=>⟨[],rfl,by cases h;rfl⟩
 |c::cs,xs,h=>by
  unfold elems asI at h;split at h
  ·rename_i kd n;split at h
   ·rename_i hk;subst hk;obtain⟨r,h1,h2⟩:=Zfy.1 h;obtain⟨a,e1,e2⟩:=Cd h1;cases h2;exact⟨n::a,by rw[e1];rfl,by rw[e2];rfl⟩
   ·cases h
  ·cases h
theorem H7 (fu d:Nat) (hf:18446744073709551616<=fu) (a:List Int) (hn:a.length<=1000000000000) (l:Nat) (go:Nat->Bool) (c:C) (r:List C) (hc: ∀{R:Type} (k:Nat->List C->Option R),asSl c k=k a.length (ints a)): ∃out lg,cl fu (d+1) fn_slices_Values_sint_int_1 [V.c (C.yl l go (a.map λn=>[V.c (C.v (.int .i64 n))])),V.c (C.cp (c::r))] []=some out/\out.log=some lg/\(lg.st=true\/lg.rest=[]):=by
 rw[eq_slices_Values_sint_int_1];simp only[Xt,hc];generalize hbody:(λ(y:Int×Log×Unit)=>_)=body;obtain⟨e,z,h1,h2⟩:=Ti (body:=body) (λs=> ∃i:Nat,i<=a.length/\s=((i:Int),⟨l,go,i,(a.map λn=>[V.c (C.v (.int .i64 n))]).drop i,false⟩,())) (λs=>a.length-s.1.toNat) (λ_ z=>z.2.1.st=true\/z.2.1.rest=[]) (by
  rintro s ⟨i,hi,rfl⟩
  subst hbody;by_cases hlt:i<a.length
  ·have hd:(a.map λn=>[V.c (C.v (.int .i64 n))]).drop i=[V.c (C.v (.int .i64 a[i]))]::(a.map λn=>[V.c (C.v (.int .i64 n))]).drop (i+1):=by
    rw[Zg4 (by simpa using hlt)];simp
   simp only[F3 (show(i:Int)<(a.length:Int) by omega),ct,hd,Ly hlt,Zgm,Zgx,Pp hlt,Z7,D9,Ca,Xd,Zg8,Zgv,Zr];cases hg:go i with
   |true=>
    refine .inl ⟨_,by simp only[Zh0,cf];rfl,⟨i+1,by omega, ?_⟩, ?_⟩
    ·rw[IntWalk.i64_in _ ⟨by omega,by omega⟩];simp
    ·rw[IntWalk.i64_in _ ⟨by omega,by omega⟩];simp only;omega
   |false=>exact .inr ⟨1,_,by simp only[Zg8,ct];rfl, .inl rfl⟩
  ·have he:i=a.length:=by omega
   simp only[show decide ((i:Int)<(a.length:Int))=false from decide_eq_false (by omega)];exact .inr ⟨0,_,rfl, .inr (by simp only;rw[Zik];simp;omega)⟩) fu ((0:Int),⟨l,go,0,a.map λn=>[V.c (C.v (.int .i64 n))],false⟩,()) ⟨0,by omega,rfl⟩ (by simp;omega)
 rw[h1];refine⟨⟨V.tup [],[],some z.2.1⟩,z.2.1, ?_,rfl,h2⟩;cases e<;>rfl
theorem iterOk (fu:Nat) (hf:18446744073709551616<=fu):Fz Try.prog prim laid fu:=by
 intro d f caps xs h l go;cases d with
 |zero=>cases h
 |succ d=>
  replace h:iterC f caps=some xs:=h;unfold iterC at h;cases hfq:Zi8 f fn_sampling_choices_1 with
  |false=>
   rw[hfq]at h;simp only[cf]at h;cases hfv:Zi8 f fn_slices_Values_sint_int_1 with
   |false=>rw[hfv]at h;cases h
   |true=>
    have hfe:=Zfr hfv;subst hfe;rw[hfv]at h;simp only[ct]at h;split at h
    ·rename_i c;unfold asP at h;split at h
     ·rename_i cs;cases cs with
      |nil=>cases h
      |cons c r=>
       replace h:asSl c (λn l=>need (Zi8 n l.length&&Zjb n 1000000000000) (elems l))=some xs:=h;have fin: ∀(n:Nat) (cs:List C),need (Zi8 n cs.length&&Zjb n 1000000000000) (elems cs)=some xs-> ∃a:List Int,cs=ints a/\n=a.length/\a.length<=1000000000000/\xs=a.map λn=>[V.c (C.v (.int .i64 n))]:=λn cs h=>by
        obtain⟨hc,h⟩:=Za h;rw[Zfs]at hc;obtain⟨a,e1,e2⟩:=Cd h;have h1:=Zfr hc.1;have h2:=Zfu hc.2;rw[e1,Z3]at h1;exact⟨a,e1,h1,by omega,e2⟩
       cases c
       case sl n cs=>
        rw[Qh]at h;obtain⟨a,rfl,rfl,h3,rfl⟩:=fin _ _ h;exact H7 fu d hf a h3 l go _ r λ_=>Qh ..
       case nl=>
        rw[F0]at h;obtain⟨a,h1,h2,h3,rfl⟩:=fin _ _ h;obtain rfl:a=[]:=Zf2 h2.symm;exact H7 fu d hf [] h3 l go _ r λ_=>F0 ..
       all_goals
        simp only[asSl,slOf]at h;cases h
     ·cases h
    ·cases h
  |true=>
   have hfe:=Zfr hfq;subst hfe;rw[hfq]at h;simp only[ct]at h;split at h
   ·rename_i c;unfold asP at h;split at h
    ·rename_i cs;replace h:unc cs (λc _=>asI .i64 c λn=>need (decide (0<=n)&&decide (n<=13)) (some (chosen n.toNat)))=some xs:=h;unfold unc at h;split at h
     ·cases h
     ·rename_i c r;replace h:asI .i64 c (λn=>need (decide (0<=n)&&decide (n<=13)) (some (chosen n.toNat)))=some xs:=h;unfold asI at h;split at h
      ·rename_i kd n;split at h
       ·rename_i hk;subst hk;obtain⟨hc,h⟩:=Za h;simp only[Zfs,decide_eq_true_eq]at hc;cases h;obtain⟨n,rfl⟩: ∃k:Nat,n=k:=⟨n.toNat,by omega⟩;have hp:(2:Nat)^n<=2^13:=Zgu (by omega) (by omega);have hp:(2:Nat)^n<=8192:=hp;have hlen:(chosen n).length=2^n:=by simp[chosen]
        show ∃out lg,cl fu (d+1) fn_sampling_choices_1 [V.c (C.yl l go (chosen n)),V.c (C.cp (C.v (.int .i64 (n:Int))::r))] []=some out/\_;rw[eq_sampling_choices_1];simp only[Xt,Z7,show decide ((n:Int)<0)=false from decide_eq_false (by omega),Zg8,Zr,Zgm];have hw:Zi6.wrap (1*2^(min n (Zi7 .u64)))=((2^n:Nat):Int):=by
         rw[show min n (Zi7 .u64)=n by simp[Zi7];omega,show(1:Int)*2^n=((2^n:Nat):Int) by simp];exact IntWalk.u64_in _ ⟨by omega,by omega⟩
        simp only[hw];obtain⟨e,z,h1,h2⟩:=Ti (body:=λ(y:Int×Log×Unit)=>
         bif decide (y.1<((2^n:Nat):Int))then
          need ((Zi8 y.2.1.l l)&&(!y.2.1.st))<|
          unI y.2.1.rest λx rest=>
          need (eqV [V.c (C.v (.int .u64 y.1))] x)<|
          bif !(y.2.1.go y.2.1.i)then
           some (2,(y.1,⟨y.2.1.l,y.2.1.go,Zjd y.2.1.i,rest, !(y.2.1.go y.2.1.i)⟩,()))
          else
           some (0,(Zi6.wrap (y.1+1),⟨y.2.1.l,y.2.1.go,Zjd y.2.1.i,rest, !(y.2.1.go y.2.1.i)⟩,()))
         else
          some (1,(y.1,y.2.1,()))) (λs=> ∃i:Nat,i<=2^n/\s=((i:Int),⟨l,go,i,(chosen n).drop i,false⟩,())) (λs=>2^n-s.1.toNat) (λ_ z=>z.2.1.st=true\/z.2.1.rest=[]) (by
         rintro s ⟨i,hi,rfl⟩
         by_cases hlt:i<2^n
         ·have hd:(chosen n).drop i=[V.c (C.v (.int .u64 (i:Nat)))]::(chosen n).drop (i+1):=by
           rw[Zg4 (by omega)];simp[chosen]
          simp only[F3 (show(i:Int)<((2^n:Nat):Int) by omega),ct,hd,D9,Ca,Xd,Zg8,Zgv,Zr];cases hg:go i with
          |true=>
           refine .inl ⟨_,by simp only[Zh0,cf];rfl,⟨i+1,by omega, ?_⟩, ?_⟩
           ·rw[IntWalk.u64_in _ ⟨by omega,by omega⟩];simp
           ·rw[IntWalk.u64_in _ ⟨by omega,by omega⟩];simp only[Zgm];omega
          |false=>exact .inr ⟨1,_,by simp only[Zg8,ct];rfl, .inl rfl⟩
         ·have he:i=2^n:=by omega
          rw[show decide ((i:Int)<((2^n:Nat):Int))=false from decide_eq_false (by omega)];exact .inr ⟨0,_,rfl, .inr (by simp only;rw[Zik];omega)⟩) fu ((0:Int),⟨l,go,0,chosen n,false⟩,()) ⟨0,by omega,rfl⟩ (by simp;omega)
        rw[h1];refine⟨⟨V.tup [],[],some z.2.1⟩,z.2.1, ?_,rfl,h2⟩;cases e<;>rfl
       ·cases h
      ·cases h
    ·cases h
   ·cases h
theorem Jn (fu d n:Nat):cl fu (d+1) fn_sampling_choices [I (n:Int)] []=some ⟨V.c (C.fn fn_sampling_choices_1 [C.cp [C.v (.int .i64 n)]]),[],none⟩:=eq_sampling_choices fu d n
theorem Nr (d n:Nat) (h:n<=13):prim.iter (d+1) fn_sampling_choices_1 [C.cp [C.v (.int .i64 n)]]=some (chosen n):=by
 show iterC fn_sampling_choices_1 [C.cp [C.v (.int .i64 n)]]=some (chosen n);unfold iterC;simp only[Xd,ct,Zcn,Xt,Z7,Zgm,decide_eq_true (show(0:Int)<=(n:Int) by omega),decide_eq_true (show(n:Int)<=13 by omega),Zgv,Zr]
theorem F5 (fu d k:Nat) (hf:18446744073709551616<=fu) (a:List Int) (p:Int->Bool) (hn:a.length<=1000000000000) (hp: ∀x∈a,cl fu d k [I x] []=some ⟨B (p x),[],none⟩):
  cl fu (d+1) fn_slices_IndexFunc_sint_int [V.c (C.sl a.length (ints a)),V.c (C.fn k [])] []=some ⟨I (if a.any p then(a.findIdx p:Int)else -1),[],none⟩:=by
 rw[eq_slices_IndexFunc_sint_int];have hle:a.findIdx p<=a.length:=List.findIdx_le_length;have step: ∀j (hj:j<a.length),(bif decide ((j:Int)<(a.length:Int))then need (inR (j:Int) a.length)<|unc (Zja (((j:Int).toNat)*1) (ints a)) λc _=>asI .i64 c λi=>(cl fu d k [I i] []).bind λout=>rC out.r λc1=>asB c1 λb=>bif b then some (2,((j:Int),(j:Int),()))else some (0,((0:Int),Zi5.wrap ((j:Int)+1),()))else some (1,((0:Int),(j:Int),())))=bif p a[j]then some (2,((j:Int),(j:Int),()))else some (0,((0:Int),((j+1:Nat):Int),())):=by
  intro j hj;simp only[F3 (show(j:Int)<(a.length:Int) by omega),ct,Ly hj,Zr,Zgm,Zgx,Pp hj,Z7,hp a[j] (Zhp hj),obs,V1,Vi];rw[IntWalk.i64_in ((j:Int)+1) ⟨by omega,by omega⟩];rfl
 by_cases ha:a.any p=true
 ·have hlt:a.findIdx p<a.length:=by
   rw[List.findIdx_lt_length];simpa using ha
  rw[show((0:Int),(0:Int),())=(λj:Nat=>((0:Int),(j:Int),())) 0 from rfl,S7 (λj:Nat=>((0:Int),(j:Int),())) 1 ((a.findIdx p:Int),(a.findIdx p:Int),()) (a.findIdx p) 0 fu ?_ ?_ (by omega),if_pos ha]
  ·rfl
  ·intro j _ hj;have hj:j<a.findIdx p:=by omega
   have hq:=List.not_of_lt_findIdx hj;refine(step j (by omega)).trans ?_;simp[hq]
  ·simp only[Zf9];refine(step _ hlt).trans ?_;rw[List.findIdx_getElem (w:=hlt)];rfl
 ·have hno: ∀x∈a,p x=false:=by simpa using ha
  rw[show((0:Int),(0:Int),())=(λj:Nat=>((0:Int),(j:Int),())) 0 from rfl,S7 (λj:Nat=>((0:Int),(j:Int),())) 0 (0,(a.length:Int),()) a.length 0 fu ?_ ?_ (by omega),if_neg ha]
  ·rfl
  ·intro j _ hj;have hj:j<a.length:=by omega
   refine(step j hj).trans ?_;rw[hno _ (Zhp hj)];rfl
  ·simp
theorem Ln (fu d k:Nat) (hf:18446744073709551616<=fu) (a:List Int) (p:Int->Bool) (hn:a.length<=1000000000000) (hp: ∀x∈a,cl fu d k [I x] []=some ⟨B (p x),[],none⟩):
  cl fu (d+2) fn_slices_ContainsFunc_sint_int [V.c (C.sl a.length (ints a)),V.c (C.fn k [])] []=some ⟨B (a.any p),[],none⟩:=by
 rw[eq_slices_ContainsFunc_sint_int,F5 fu d k hf a p hn hp];simp only[obs,V1,Z7];cases a.any p<;>simp
def V2 (x:Int):Bool:= !(decide (-1000000<=x)&&decide (x<=1000000))
theorem Pq (fu d:Nat) (hf:18446744073709551616<=fu) (a:List Int) (hn:a.length<=1000000000000):
  cl fu (d+5) fn_sampling_outside [V.c (C.sl a.length (ints a))] []=some ⟨B (a.any V2),[],none⟩:=by
 rw[eq_sampling_outside,Ln fu (d+2) _ hf a V2 hn]
 ·simp
 ·intro x _;rw[eq_sampling_outside_1,eq_sampling_within];unfold V2;cases decide (-1000000<=x)<;>simp
theorem Qj {a:List Int} (h:small a):a.any V2=false:=by
 simp only[Zhf,V2];intro x hx;have:=h x hx;simp[this.1,this.2]
end Go.Proofs.Ytepjbmlhfhahcaa
namespace Go.Proofs.Ytepjbmlhfhahcaa
open Go Go.PM
def dev (a:List Int) (c:Nat):Nat:=(Yo a (2^a.length-1)-2*Yo a c).natAbs
def Jo (a:List Int):Nat:=(Zjg (2^a.length)).countP λc=>decide ((Yo a (2^a.length-1)).natAbs<=dev a c)
def B0 (h n:Nat):Int×Int:=(((h/Zj1 h (2^n):Nat):Int),((2^n/Zj1 h (2^n):Nat):Int))
theorem S8 (fu d:Nat) (a:Int) (h: -9223372036854775807<=a/\a<=9223372036854775807):cl fu (d+1) fn_sampling_absolute [I a] []=some ⟨I (a.natAbs:Int),[],none⟩:=by
 rw[eq_sampling_absolute,absI a h]
theorem J2 (fu d:Nat) (hf:18446744073709551616<=fu) (h n:Nat) (hh:h<=2^n) (hn:n<=60):
  cl fu (d+2) fn_score_Reduce [I (h:Int),I ((2^n:Nat):Int)] []=some ⟨V.tup [V.agg [C.v (.int .i64 (B0 h n).1),C.v (.int .i64 (B0 h n).2)],I 0],[],none⟩:=by
 have h1:=Zha n;have h2:(2:Nat)^n<=2^60:=Zgu (by omega) hn;have h2:(2:Nat)^n<=1152921504606846976:=h2;have:=H6 fu d hf (h:Int) (2^n) (by omega) ⟨h1,h2⟩;exact this
theorem Ce (n:Nat) (hn:n<=60):Zi5.wrap (1*2^(min n (Zi7 .i64)))=((2^n:Nat):Int):=by
 have h2:(2:Nat)^n<=2^60:=Zgu (by omega) hn;have h2:(2:Nat)^n<=1152921504606846976:=h2;rw[show min n (Zi7 .i64)=n by simp[Zi7];omega,show(1:Int)*2^n=((2^n:Nat):Int) by simp];generalize (2:Nat)^n=N at*
 exact IntWalk.i64_in _ ⟨by omega,by omega⟩
theorem S9 (n:Nat) (hn:n<=60):Zi6.wrap (1*2^(min n (Zi7 .u64)))=((2^n:Nat):Int):=by
 have h2:(2:Nat)^n<=2^60:=Zgu (by omega) hn;have h2:(2:Nat)^n<=1152921504606846976:=h2;rw[show min n (Zi7 .u64)=n by simp[Zi7];omega,show(1:Int)*2^n=((2^n:Nat):Int) by simp];generalize (2:Nat)^n=N at*
 exact IntWalk.u64_in _ ⟨by omega,by omega⟩
theorem Z8 (p:Nat->Bool) (j:Nat):(Zjg (j+1)).countP p=(Zjg j).countP p+if p j then 1 else 0:=by
 rw[List.range_succ,Zh2];simp[List.countP_cons]
theorem Cf (fu d:Nat) (hf:18446744073709551616<=fu) (a:List Int) (hn:a.length<=12) (hs:small a):
  cl fu (d+7) fn_sampling_Signs [V.c (C.sl a.length (ints a))] []=some ⟨V.tup [V.agg [C.v (.int .i64 (B0 (Jo a) a.length).1),C.v (.int .i64 (B0 (Jo a) a.length).2)],I 0],[],none⟩:=by
 rw[eq_sampling_Signs,Pq fu _ hf a (by omega),Qj hs];have hp:=Zha a.length;have hp2:(2:Nat)^a.length<=2^12:=Zgu (by omega) hn;have hp2:(2:Nat)^a.length<=4096:=hp2;have hb:=Vk a (2^a.length-1) hs;simp only[show decide ((a.length:Int)>12)=false from decide_eq_false (by omega),show decide ((a.length:Int)<0)=false from decide_eq_false (by omega),Zg8,cf,obs,V1,Vi,Zr,Zgm,S9 a.length (by omega),Ce a.length (by omega)];rw[show Zi6.wrap (((2^a.length:Nat):Int)-1)=((2^a.length-1:Nat):Int) by rw[IntWalk.u64_in _ ⟨by omega,by omega⟩];omega,Rm fu _ hf a _ (by omega) hs,Jn];simp only[obs,V1,Z7,F1,Nr _ a.length (show a.length<=13 by omega)];have hlen:(chosen a.length).length=2^a.length:=by simp[chosen]
 have hz:(((0:Int),(0:Int),()),((0:Int),()),())=(λj:Nat=>(((0:Int),(0:Int),()),((((Zjg j).countP λc=>decide ((Yo a (2^a.length-1)).natAbs<=dev a c):Nat):Int),()),())) 0:=by simp
 rw[hz,H4 (chosen a.length) (λj:Nat=>(((0:Int),(0:Int),()),((((Zjg j).countP λc=>decide ((Yo a (2^a.length-1)).natAbs<=dev a c):Nat):Int),()),())),hlen]
 ·have hh:Jo a<=2^a.length:=by
   have:=Zia (p:=λc=>decide ((Yo a (2^a.length-1)).natAbs<=dev a c)) (l:=Zjg (2^a.length));simpa[Jo]using this
  simp only[obs];rw[show(Zjg (2^a.length)).countP (λc=>decide ((Yo a (2^a.length-1)).natAbs<=dev a c))=Jo a from rfl,J2 fu (d+4) hf (Jo a) a.length hh (by omega)];simp
 ·intro j hj;rw[hlen]at hj;have hb2:=Vk a j hs;have hx:(chosen a.length)[j]'(by omega)=[V.c (C.v (.int .u64 (j:Nat)))]:=by simp[chosen]
  have hc:((Zjg j).countP λc=>decide ((Yo a (2^a.length-1)).natAbs<=dev a c))<=j:=by
   have:=Zia (p:=λc=>decide ((Yo a (2^a.length-1)).natAbs<=dev a c)) (l:=Zjg j);simpa using this
  rw[hx];simp only[Me,V1,Z7,Jm,Rm fu _ hf a j (by omega) hs,obs];rw[IntWalk.i64_in (2*Yo a j) ⟨by omega,by omega⟩,IntWalk.i64_in (Yo a (2^a.length-1)-2*Yo a j) ⟨by omega,by omega⟩,S8 _ _ _ ⟨by omega,by omega⟩,S8 _ _ _ ⟨by omega,by omega⟩];simp only[V1,Z7,obs];rw[Z8];have hd:decide (((Yo a (2^a.length-1)-2*Yo a j).natAbs:Int)≥((Yo a (2^a.length-1)).natAbs:Int))=decide ((Yo a (2^a.length-1)).natAbs<=dev a j):=by
   unfold dev;by_cases h:(Yo a (2^a.length-1)).natAbs<=(Yo a (2^a.length-1)-2*Yo a j).natAbs
   ·rw[decide_eq_true h,decide_eq_true (by omega)]
   ·rw[decide_eq_false h,decide_eq_false (by omega)]
  rw[hd];cases decide ((Yo a (2^a.length-1)).natAbs<=dev a j)with
  |true=>
   simp only[ct,if_true];rw[IntWalk.i64_in _ ⟨by omega,by omega⟩];rfl
  |false=>rfl
end Go.Proofs.Ytepjbmlhfhahcaa
namespace Go.Proofs.Ytepjbmlhfhahcaa
open Go Go.PM
def bytes (bs:List Int):Prop:= ∀x∈bs,0<=x/\x<=255
def Ra (bs:List Int) (i:Nat):List C:=[C.sl bs.length (ik .u8 bs),C.v (.int .i64 (i:Nat))]
abbrev U0 (bs:List Int) (i:Nat):PM.Obj:= .ob ty_synopticfield_Codes 0 (Ra bs i)
theorem Zdw (fu d:Nat) (bs:List Int) (i:Nat):cl fu (d+1) fn_synopticfield_Codes_Left [V.ptr 1000000 0] [U0 bs i]=some ⟨B (decide (i<bs.length)),[U0 bs i],none⟩:=by
 unfold U0 Ra;rw[eq_synopticfield_Codes_Left];simp
theorem Ns (fu d:Nat) (bs:List Int) (hb:bytes bs) (i:Nat) (hi:i<=1000000000000) (hl:bs.length<=1000000000000) (n:Int) (hn:1<=n/\n<=1000000):
  ∃(v:Int) (j:Nat),cl fu (d+2) fn_synopticfield_Codes_Next [V.ptr 1000000 0,I n] [U0 bs i]=some ⟨I v,[U0 bs j],none⟩/\0<=v/\v<n/\j<=1000000000000:=by
 have hL:=Zdw fu d bs i;unfold U0 Ra at hL⊢;rw[eq_synopticfield_Codes_Next,hL];simp only[obs,Tg,Ax,Xd,Zgv,Zr,Zgf,Zgz,Zf9,Nat.reduceAdd,Xt,Z7,V1,Vi];by_cases h:i<bs.length
 ·rw[decide_eq_true h];have hx:=hb bs[i] (Zhp h);simp only[Zh0,cf,show decide (n<1)=false from decide_eq_false (by omega),Qh];rw[IntWalk.i64_in ((i:Int)+1) ⟨by omega,by omega⟩,show(i:Int)+1-1=i by omega,IntWalk.i64_in (i:Int) ⟨by omega,by omega⟩];simp only[Ly h,Zr,Zgm,Zgx,Pp h,Z7,show(n==0)=false by rw[beq_eq_false_iff_ne];omega,Zg8];rw[IntWalk.i64_in bs[i] ⟨by omega,by omega⟩,IntWalk.rem_in _ _ hx.1];refine⟨bs[i]%n,i+1,by simp,Int.emod_nonneg _ (by omega),Int.emod_lt_of_pos _ (by omega),by omega⟩
 ·rw[decide_eq_false h];exact⟨0,i,by simp,by omega,by omega,hi⟩
theorem pick5 (v1 v2 v3:Int) (h1:0<=v1/\v1<7) (h2:0<=v2/\v2<200) (h3:0<=v3/\v3<5): ∃w:Int,(∀{R:Type} (f:C->Option R),unc (Zja (v3.toNat*1) ([C.v (.int .i64 (Zi5.wrap (v1-3))),C.v (.int .i64 (Zi5.wrap (v2-100))),C.v (.int .i64 1000000),C.v (.int .i64 (-1000000)),C.v (.int .i64 0)])) (λc _=>f c)=f (C.v (.int .i64 w)))/\ -1000000<=w/\w<=1000000:=by
 rw[IntWalk.i64_in (v1-3) ⟨by omega,by omega⟩,IntWalk.i64_in (v2-100) ⟨by omega,by omega⟩,Zgx];obtain⟨n,rfl⟩: ∃n:Nat,v3=n:=⟨v3.toNat,by omega⟩;rw[Zgm];rcases n with _|_|_|_|_|n
 ·exact⟨v1-3,λf=>rfl,by omega,by omega⟩
 ·exact⟨v2-100,λf=>rfl,by omega,by omega⟩
 ·exact⟨1000000,λf=>rfl,by omega,by omega⟩
 ·exact⟨-1000000,λf=>rfl,by omega,by omega⟩
 ·exact⟨0,λf=>rfl,by omega,by omega⟩
 ·omega
theorem H8 (fu d:Nat) (hf:18446744073709551616<=fu) (bs:List Int) (hb:bytes bs) (i:Nat) (hi:i<=1000000000000) (hl:bs.length<=1000000000000) (k:Int) (hk:0<=k/\k<=1000):
  ∃(a:List Int) (j:Nat),cl fu (d+3) fn_synopticlaw39_sample [V.ptr 1000000 0,I k] [U0 bs i]=some ⟨V.c (C.sl a.length (ints a)),[U0 bs j],none⟩/\small a/\(a.length:Int)<=k/\j<=1000000000000:=by
 show ∃(a:List Int) (j:Nat),cl fu (d+3) fn_synopticlaw39_sample [V.ptr 1000000 0,I k] [.ob ty_synopticfield_Codes 0 [C.sl bs.length (ik .u8 bs),C.v (.int .i64 (i:Nat))]]=_/\_;rw[eq_synopticlaw39_sample];obtain⟨m,j,h1,h2,h3,h4⟩:=Ns fu d bs hb i hi hl (Zi5.wrap (k+1)) (by rw[IntWalk.i64_in _ ⟨by omega,by omega⟩];omega);unfold U0 Ra at h1;rw[IntWalk.i64_in (k+1) ⟨by omega,by omega⟩]at h1 h3;rw[IntWalk.i64_in (k+1) ⟨by omega,by omega⟩,h1];simp only[obs,Tg,Ax,Xd,Zgv,Zr,Zgf,Zgz,Zf9,Nat.reduceAdd,Xt,Z7,V1,Vi];generalize hbody:(λ(y:List C×Int×(C×Int×Unit)×Unit)=>_)=body;obtain⟨e,z,r1,r2⟩:=Ti (body:=body) (λs=> ∃(l:List Int) (r:Nat) (q:Nat),s=(ints l,(r:Int),(C.sl bs.length (ik .u8 bs),(q:Int),()),())/\small l/\(l.length:Int)+r=m/\q<=1000000000000) (λs=>s.2.1.toNat) (λe z=>e=0/\ ∃(l:List Int) (q:Nat),z=(ints l,0,(C.sl bs.length (ik .u8 bs),(q:Int),()),())/\small l/\(l.length:Int)=m/\q<=1000000000000) (by
  rintro s ⟨l,r,q,rfl,hs,hm,hq⟩
  subst hbody;by_cases hr:r=0
  ·subst hr;refine .inr ⟨0,(ints l,0,(C.sl bs.length (ik .u8 bs),(q:Int),()),()), ?_,rfl,l,q,rfl,hs,by omega,hq⟩;simp
  ·obtain⟨v1,q1,a1,a2,a3,a4⟩:=Ns fu d bs hb q hq hl 7 (by omega);obtain⟨v2,q2,b1,b2,b3,b4⟩:=Ns fu d bs hb q1 a4 hl 200 (by omega);obtain⟨v3,q3,c1,c2,c3,c4⟩:=Ns fu d bs hb q2 b4 hl 5 (by omega);unfold U0 Ra at a1 b1 c1;obtain⟨w,hw,hw1,hw2⟩:=pick5 v1 v2 v3 (by omega) (by omega) (by omega);refine .inl ⟨(ints (l++[w]),((r-1:Nat):Int),(C.sl bs.length (ik .u8 bs),(q3:Int),()),()), ?_,⟨l++[w],r-1,q3,rfl, ?_,by simp;omega,c4⟩, ?_⟩
   ·simp only[decide_eq_true (show(r:Int)>0 by omega),ct,a1,b1,c1,obs,Tg,Ax,Xd,Zgv,Zr,Zgf,Zgz,Zf9,Nat.reduceAdd,Xt,Z7,V1,Ay c2 (show v3<((5:Nat):Int) by omega)];rw[hw];simp only[Z7,Zhw,Zgx,Xd,Z3,Az,Zgj,Zgf,Zgz,Zf9,Zgv,Zj2];rw[Qi (show(l.length+1)*8<=140737488355328 by omega),Qi (show l.length+1<=140737488355328 by omega),IntWalk.i64_in ((r:Int)-1) ⟨by omega,by omega⟩];simp only[Zgv,Zr];rw[show((r-1:Nat):Int)=(r:Int)-1 by omega]
   ·intro x hx;rcases Zg9.1 hx with h|h
    ·exact hs x h
    ·simp at h;subst h;exact⟨hw1,hw2⟩
   ·simp only[Zgm];omega) fu ([],m,(C.sl bs.length (ik .u8 bs),(j:Int),()),()) ⟨[],m.toNat,j,by simp;omega,by simp[small],by simp;omega,h4⟩ (by simp only;omega)
 rw[r1];obtain⟨rfl,l,q,rfl,hs,hm,hq⟩:=r2;refine⟨l,q, ?_,hs,by omega,hq⟩;simp only[obs,Zhw,Zgx,Z3,Zf9,Qi (Zf4 _),Zr,Lz,Zg3];rfl
end Go.Proofs.Ytepjbmlhfhahcaa
namespace Go.Proofs.Ytepjbmlhfhahcaa
open Go Go.PM
def A4:List Int->Nat->List Int
 | [],_=>[]
 |x::r,m=>(if m%2=1 then -x else x)::A4 r (m/2)
@[simp] theorem Zdx (a:List Int) (m:Nat):(A4 a m).length=a.length:=by
 induction a generalizing m with
 |nil=>rfl
 |cons x r ih=>simp[A4,ih]
theorem Mf (a:List Int):Yo a (2^a.length-1)=a.sum:=by
 induction a with
 |nil=>rfl
 |cons x r ih=>
  have hp:=Zha r.length;have e1:(2^(r.length+1)-1)%2=1:=by rw[Zhn];omega
  have e2:(2^(r.length+1)-1)/2=2^r.length-1:=by rw[Zhn];omega
  simp only[Yo,Zgf,e1,e2,ih,Zj3,if_true]
theorem B3 (f:Nat->Bool) (N:Nat):(Zjg (2*N)).countP f=(Zjg N).countP (λc=>f (2*c))+(Zjg N).countP (λc=>f (2*c+1)):=by
 induction N with
 |zero=>rfl
 |succ N ih=>
  rw[show 2*(N+1)=2*N+1+1 by omega,Z8,Z8,Z8,Z8,ih];omega
end Go.Proofs.Ytepjbmlhfhahcaa
namespace Go.Proofs.Ytepjbmlhfhahcaa
open Go Go.PM
theorem Zcv (fu d:Nat) (hf:18446744073709551616<=fu):cl fu (d+8) fn_synopticlaw39_awake [] []=some ⟨B true,[],none⟩:=by
 rw[eq_synopticlaw39_awake];have h:=Cf fu d hf [1,1,1] (by decide) (by intro x hx;simp at hx;omega);have e:B0 (Jo [1,1,1]) ([1,1,1]:List Int).length=(1,4):=by decide
 rw[e]at h;have h':cl fu (d+7) fn_sampling_Signs [V.c (C.sl 3 ([C.v (.int .i64 1),C.v (.int .i64 1),C.v (.int .i64 1)]))] []=some ⟨V.tup [V.agg [C.v (.int .i64 1),C.v (.int .i64 4)],I 0],[],none⟩:=h;rw[h'];simp
def mix (a:List Int) (m j:Nat):List Int:=A4 (a.take j) m++a.drop j
theorem Zcw (fu d:Nat) (bs:List Int) (k:Nat):cl fu (d+1) fn_synopticfield_New [V.c (C.sl bs.length (ik .u8 bs)),I (k:Int)] []=some ⟨V.ptr 1000000 0,[U0 (bs.take k) 0],none⟩:=by
 rw[eq_synopticfield_New];unfold U0 Ra;by_cases h:bs.length>k
 ·rw[decide_eq_true (show(bs.length:Int)>(k:Int) by omega)];simp only[ct,decide_eq_true (show(0:Int)<=(k:Int) by omega),decide_eq_true (show(k:Int)<=(bs.length:Int) by omega),Zgv,Zr,Zgm,Zgx,Lz,Zgp,Zhs (Nat.le_of_lt h)];rfl
 ·rw[decide_eq_false (show ¬(bs.length:Int)>(k:Int) by omega),show bs.take k=bs from Zgg (by omega)];rfl
end Go.Proofs.Ytepjbmlhfhahcaa
namespace Go.Proofs.Ytepjbmlhfhahcaa
open Go Go.PM
theorem Cg (fu d n:Nat) (hn:n<=1000):cl fu (d+1) fn_slices_Grow_sint_int [V.c C.nl,I (n:Int)] []=some ⟨V.own 1000000 0 0,[.sb ty_int 0 []],none⟩:=by
 rw[eqn0_slices_Grow_sint_int];simp only[show decide ((n:Int)<0)=false from decide_eq_false (by omega),cf,obs,show(n:Int)-0=n by omega,IntWalk.i64_in (n:Int) ⟨by omega,by omega⟩];by_cases h:n=0
 ·subst h;rfl
 ·simp only[show decide ((n:Int)>0)=true from decide_eq_true (by omega),ct,show decide ((0:Int)<(n:Int))=true from decide_eq_true (by omega),show decide ((8:Int)*n<=140737488355328)=true from decide_eq_true (by omega),show decide ((n:Int)<=140737488355328)=true from decide_eq_true (by omega),Zgv,Zr,show decide ((0:Int)<=(((n:Int).toNat:Nat):Int))=true from decide_eq_true (by omega),Qi (Zgi _),Zh3]
theorem Zao (fu d:Nat) (hf:18446744073709551616<=fu) (a b:List Int) (ha:a.length<=100) (hb:b.length<=100):
  cl fu (d+2) fn_slices_Concat_sint_int [V.c (C.sl 2 [C.sl a.length (ints a),C.sl b.length (ints b)])] []=some ⟨V.c (C.sl (a++b).length (ints (a++b))),[],none⟩:=by
 obtain⟨fu,rfl⟩: ∃n,fu=n+3:=⟨fu-3,by omega⟩;rw[eq_slices_Concat_sint_int];rw[Rl (z:=((a.length:Int),1,())) (by
  simp only[show decide ((0:Int)<((2:Nat):Int))=true from rfl,ct,show inR (0:Int) 2=true from rfl,Zr,show(0:Int).toNat*1=0 from rfl,Zis,Xt,Qh];rw[IntWalk.i64_in (0+(a.length:Int)) ⟨by omega,by omega⟩,show decide ((0:Int)+(a.length:Int)<0)=false from decide_eq_false (by omega)];simp only[cf,Int.zero_add,show Zi5.wrap 1=1 from rfl]),
  Rl (z:=(((a.length+b.length:Nat):Int),2,())) (by
  simp only[show decide ((1:Int)<((2:Nat):Int))=true from rfl,ct,show inR (1:Int) 2=true from rfl,Zr,show(1:Int).toNat*1=1 from rfl,Zj5,Zis,Xt,Qh];rw[IntWalk.i64_in ((a.length:Int)+(b.length:Int)) ⟨by omega,by omega⟩,show decide ((a.length:Int)+(b.length:Int)<0)=false from decide_eq_false (by omega)];simp only[cf,show Zi5.wrap (1+1)=2 from rfl,Int.natCast_add]),
  Cb (e:=0) (z:=(((a.length+b.length:Nat):Int),2,())) (by omega) (by simp)]
 simp only[obs];rw[Cg _ _ _ (by omega)];simp only[obs,Zcm,Tg,Zep,Xd,show Zi8 1000000 (OUT+0)=true from rfl,Zgv,Zr,Zgx,Zgz];rw[Rl (z:=(ints a,1,())) (by
  simp only[show decide ((0:Int)<((2:Nat):Int))=true from rfl,ct,show inR (0:Int) 2=true from rfl,Zr,Int.toNat_zero,Zis,Xt,Qh,Z3,Xd,Zgz,Nat.zero_div,Zhq,Zgx,Zhw,Zgv,Zj2,Zf9,Qi (show a.length*8<=140737488355328 by omega),Qi (show a.length<=140737488355328 by omega),Zil,show Zi5.wrap (0+1)=1 from rfl]),
  Rl (z:=(ints (a++b),2,())) (by
  simp only[show decide ((1:Int)<((2:Nat):Int))=true from rfl,ct,show inR (1:Int) 2=true from rfl,Zr,show(1:Int).toNat=1 from rfl,Zj5,Zis,Xt,Qh,Z3,Zj2,Xd,Zgx,Zhw,Zgv,Qi (show(a.length+b.length)*8<=140737488355328 by omega),Qi (show a.length+b.length<=140737488355328 by omega),<-Zal,Zgj,show Zi5.wrap (1+1)=2 from rfl]),
  Cb (e:=0) (z:=(ints (a++b),2,())) (by omega) (by simp)]
 simp only[obs,Z3,Zhw,Zgx,Zf9,Qi (Zf4 _),Zr,Lz,Zg3]
def Vl:Nat->Nat->Nat
 |0,_=>0
 |n+1,m=>m%2+Vl n (m/2)
theorem H9 (n:Nat):Vl n 0=0:=by
 induction n with
 |zero=>rfl
 |succ n ih=>simp[Vl,ih]
theorem Zcx (n k m:Nat):Vl (n+k) m=Vl n m+Vl k (m/2^n):=by
 induction n generalizing m with
 |zero=>simp[Vl]
 |succ n ih=>
  rw[show n+1+k=n+k+1 by omega];simp only[Vl];rw[ih (m/2),Zj4,show 2*2^n=2^(n+1) by rw[Zhn];omega];omega
theorem B5 {n k m:Nat} (h:m<2^n):Vl (n+k) m=Vl n m:=by
 rw[Zcx,Nat.div_eq_of_lt h,H9,Zgq]
def Zcy (a0:Int):Int:=
 let z:=Zi6.wrap (BitVec.ofInt (Zi7 .u64) (Zi9 a0 (2^1))&&&BitVec.ofInt (Zi7 .u64) 6148914691236517205).toNat
 let z1:=Zi6.wrap (z+(Zi6.wrap (BitVec.ofInt (Zi7 .u64) a0&&&BitVec.ofInt (Zi7 .u64) 6148914691236517205).toNat))
 let z2:=Zi6.wrap (BitVec.ofInt (Zi7 .u64) (Zi9 z1 (2^2))&&&BitVec.ofInt (Zi7 .u64) 3689348814741910323).toNat
 let z3:=Zi6.wrap (z2+(Zi6.wrap (BitVec.ofInt (Zi7 .u64) z1&&&BitVec.ofInt (Zi7 .u64) 3689348814741910323).toNat))
 let z4:=Zi6.wrap (BitVec.ofInt (Zi7 .u64) (Zi6.wrap ((Zi9 z3 (2^4))+z3))&&&BitVec.ofInt (Zi7 .u64) 1085102592571150095).toNat
 let z5:=Zi6.wrap ((Zi6.wrap (z4+(Zi9 z4 (2^8))))+(Zi9 (Zi6.wrap (z4+(Zi9 z4 (2^8)))) (2^16)))
 Zi5.wrap (BitVec.ofInt (Zi7 .i64) (Zi5.wrap (Zi6.wrap (z5+(Zi9 z5 (2^32)))))&&&BitVec.ofInt (Zi7 .i64) 127).toNat
theorem Zcz:((Zjg 4096).all λx=>Zcy (x:Int)==((Vl 12 x:Nat):Int))=true:=by decide+kernel
theorem F6 (fu d n m:Nat) (hn:n<=12) (hm:m<2^n):cl fu (d+2) fn_bits_OnesCount [V.c (C.v (.int .u64 (m:Int)))] []=some ⟨I ((Vl n m:Nat):Int),[],none⟩:=by
 have h2:(2:Nat)^n<=2^12:=Zgu (by omega) hn;have h2:(2:Nat)^n<=4096:=h2;have h:=Zfz.1 Zcz m (by simp;omega);have h:Zcy (m:Int)=((Vl 12 m:Nat):Int):=by simpa using h
 have h64:cl fu (d+1) fn_bits_OnesCount64 [V.c (C.v (.int .u64 (m:Int)))] []=some ⟨I (Zcy (m:Int)),[],none⟩:=eq_bits_OnesCount64 fu d m;rw[eq_bits_OnesCount,h64,h,show 12=n+(12-n) by omega,B5 hm];simp only[obs,V1,Z7]
end Go.Proofs.Ytepjbmlhfhahcaa
namespace Go.Proofs.Ytepjbmlhfhahcaa
open Go Go.PM
def Vm (a:List Int):Int×Int×Int:=
 if a.length<=12/\a.any V2=false then((B0 (Jo a) a.length).1,(B0 (Jo a) a.length).2,0)else(0,0,1)
def out3 (r:Int×Int×Int):Out:=⟨V.tup [V.agg [C.v (.int .i64 r.1),C.v (.int .i64 r.2.1)],I r.2.2],[],none⟩
theorem Ch {a:List Int} (h:a.any V2=false):small a:=by
 intro x hx;have:=Zhf.1 h x hx;simp only[V2,Zgb,Bool.not_eq_false',Zfs,decide_eq_true_eq,Bool.not_eq_true,Bool.not_eq_false]at this;exact this
theorem T6 (fu d:Nat) (hf:18446744073709551616<=fu) (a:List Int) (hn:a.length<=1000000000000):
  cl fu (d+7) fn_sampling_Signs [V.c (C.sl a.length (ints a))] []=some (out3 (Vm a)):=by
 unfold Vm;by_cases h:a.length<=12/\a.any V2=false
 ·rw[if_pos h];exact Cf fu d hf a h.1 (Ch h.2)
 ·rw[if_neg h,eq_sampling_Signs];by_cases h1:a.length<=12
  ·have h2:a.any V2=true:=by
    cases hx:a.any V2 with
    |true=>rfl
    |false=>exact absurd ⟨h1,hx⟩ h
   rw[Pq fu _ hf a (by omega),h2,show decide ((a.length:Int)>12)=false from decide_eq_false (by omega)];rfl
  ·rw[show decide ((a.length:Int)>12)=true from decide_eq_true (by omega)];rfl
theorem Zap {a:List Int} (h:small a): -(1000000*(a.length:Int))<=a.sum/\a.sum<=1000000*(a.length:Int):=by
 rw[<-Mf];exact Vk a _ h
def redI (h n:Nat):Int×Int:=(((h/Zj1 h n:Nat):Int),((n/Zj1 h n:Nat):Int))
theorem J3 (fu d:Nat) (hf:18446744073709551616<=fu) (h n:Nat) (hh:h<=n) (h0:0<n) (hn:n<=1152921504606846976):
  cl fu (d+2) fn_score_Reduce [I (h:Int),I (n:Int)] []=some (out3 ((redI h n).1,(redI h n).2,0)):=
 H6 fu d hf (h:Int) n (by omega) ⟨h0,hn⟩
end Go.Proofs.Ytepjbmlhfhahcaa
namespace Go.Proofs.Ytepjbmlhfhahcaa
open Go Go.PM
def F7 (n k:Nat) (T s:Int):Nat:=(s*(n:Int)-T*(k:Int)).natAbs
def ways (l:List Int) (k m:Nat):Nat:=(Zjg m).countP λc=>Vl l.length c==k
def Jp (l:List Int) (k w m:Nat):Nat:=(Zjg m).countP λc=>Vl l.length c==k&&decide (w<=F7 l.length k l.sum (Yo l c))
def Lc (a b:List Int):Int×Int×Int:=
 if(a++b).length<=12/\(a++b).any V2=false then
  ((redI (Jp (a++b) a.length (F7 (a++b).length a.length (a++b).sum a.sum) (2^(a++b).length)) (ways (a++b) a.length (2^(a++b).length))).1,
   (redI (Jp (a++b) a.length (F7 (a++b).length a.length (a++b).sum a.sum) (2^(a++b).length)) (ways (a++b) a.length (2^(a++b).length))).2,0)
 else(0,0,1)
theorem Zc0 (a b:List Int):Yo (a++b) (2^a.length-1)=a.sum:=by
 induction a with
 |nil=>
  have: ∀l:List Int,Yo l 0=0:=by
   intro l
   induction l with
   |nil=>rfl
   |cons x r ih=>simp[Yo,ih]
  simpa using this b
 |cons x r ih=>
  have hp:=Zha r.length;have e1:(2^(r.length+1)-1)%2=1:=by rw[Zhn];omega
  have e2:(2^(r.length+1)-1)/2=2^r.length-1:=by rw[Zhn];omega
  simp only[Zif,Yo,Zgf,e1,e2,ih,Zj3,if_true]
theorem Zc1 (k n:Nat):Vl (k+n) (2^k-1)=k:=by
 induction k with
 |zero=>simp[H9]
 |succ k ih=>
  have hp:=Zha k;have e1:(2^(k+1)-1)%2=1:=by rw[Zhn];omega
  have e2:(2^(k+1)-1)/2=2^k-1:=by rw[Zhn];omega
  rw[show k+1+n=k+n+1 by omega];simp only[Vl,e1,e2,ih];omega
theorem Zaq (l:List Int) (k m:Nat):ways l k (m+1)=ways l k m+if Vl l.length m==k then 1 else 0:=Z8 _ _
theorem Zar (l:List Int) (k w m:Nat):Jp l k w (m+1)=Jp l k w m+if Vl l.length m==k&&decide (w<=F7 l.length k l.sum (Yo l m))then 1 else 0:=Z8 _ _
theorem A5 (l:List Int) (k m:Nat):ways l k m<=m:=by
 have:=Zia (p:=λc=>Vl l.length c==k) (l:=Zjg m);simpa[ways]using this
theorem A6 (l:List Int) (k w m:Nat):Jp l k w m<=ways l k m:=by
 refine List.countP_mono_left λc _ hc=> ?_;exact(Zf5.1 hc).1
theorem B6 {n k:Nat} {T s:Int} (hn:n<=12) (hk:k<=n) (hT: -12000000<=T/\T<=12000000) (hs: -12000000<=s/\s<=12000000):
  (-144000000<=s*(n:Int)/\s*(n:Int)<=144000000)/\(-144000000<=T*(k:Int)/\T*(k:Int)<=144000000):=by
 have h: ∀(x:Int) (m:Nat),-12000000<=x/\x<=12000000->m<=12-> -144000000<=x*(m:Int)/\x*(m:Int)<=144000000:=by
  intro x m hx hm;constructor
  ·have h1: -12000000*(m:Int)<=x*(m:Int):=Zig hx.1 (by omega);omega
  ·have h1:x*(m:Int)<=12000000*(m:Int):=Zig hx.2 (by omega);omega
 exact⟨h s n hs hn,h T k hT (by omega)⟩
theorem A7 (fu d:Nat) (hf:18446744073709551616<=fu) (l a:List Int) (m:Nat) (hn:l.length<=12) (hk:a.length<=l.length) (hs:small l):
  cl fu (d+2) fn_sampling_Exchange_1 [V.c (C.v (.int .u64 m)),V.c (C.cp [C.sl l.length (ints l)]),V.c (C.cp [C.v (.int .i64 l.sum)]),V.c (C.cp [C.sl a.length (ints a)])] []=some ⟨I ((F7 l.length a.length l.sum (Yo l m):Nat):Int),[],none⟩:=by
 have hT:=Zap hs;have hc:=Vk l m hs;obtain⟨⟨b1,b2⟩,b3,b4⟩:=B6 (T:=l.sum) (s:=Yo l m) hn hk ⟨by omega,by omega⟩ ⟨by omega,by omega⟩;rw[eq_sampling_Exchange_1];simp only[Xt,Bv,F2,Zr,Rm fu d hf l m (by omega) hs,obs,V1,Z7,Qh];rw[IntWalk.i64_in (Yo l m*(l.length:Int)) ⟨by omega,by omega⟩,IntWalk.i64_in (l.sum*(a.length:Int)) ⟨by omega,by omega⟩,IntWalk.i64_in (Yo l m*(l.length:Int)-l.sum*(a.length:Int)) ⟨by omega,by omega⟩,S8 _ _ _ ⟨by omega,by omega⟩];simp only[obs,V1,Z7];rfl
theorem A8 (k:Nat) (hk:k<=60):Zi6.wrap (((2^k:Nat):Int)-1)=((2^k-1:Nat):Int):=by
 have hp:=Zha k;have h2:(2:Nat)^k<=2^60:=Zgu (by omega) hk;have h2:(2:Nat)^k<=1152921504606846976:=h2;rw[IntWalk.u64_in _ ⟨by omega,by omega⟩];omega
theorem J4 (x y:Nat):decide ((y:Int)≥(x:Int))=decide (x<=y):=by
 by_cases h:x<=y
 ·rw[decide_eq_true h,decide_eq_true (by omega)]
 ·rw[decide_eq_false h,decide_eq_false (by omega)]
theorem bneN (x y:Nat):((x:Int) !=(y:Int))= !(x==y):=by
 by_cases h:x=y
 ·subst h;simp
 ·have h1:(x==y)=false:=by simpa using h
  have h2:((x:Int) !=(y:Int))=true:=by simp;omega
  rw[h1,h2];rfl
theorem Ld (fu d:Nat) (hf:18446744073709551616<=fu) (a b:List Int) (ha:a.length<=100) (hb:b.length<=100):
  cl fu (d+7) fn_sampling_Exchange [V.c (C.sl a.length (ints a)),V.c (C.sl b.length (ints b))] []=some (out3 (Lc a b)):=by
 unfold Lc;rw[eq_sampling_Exchange,Zao fu _ hf a b ha hb];simp only[obs,V1,Qh,Bv,F2,Zr,Zgm];have hl:a.length<=(a++b).length:=by simp
 have hlen:(a++b).length<=200:=by simp;omega
 rw[<-Zc0 a b];generalize a++b=l at*
 by_cases h1:l.length<=12
 ·rw[show decide ((l.length:Int)>12)=false from decide_eq_false (by omega)];simp only[cf];rw[Pq fu _ hf l (by omega)];by_cases h2:l.any V2=true
  ·rw[if_neg (by simp[h2]),h2];rfl
  ·have h2:l.any V2=false:=by simpa using h2
   have hs:=Ch h2;rw[if_pos ⟨h1,h2⟩,h2];have hp:=Zha l.length;have hp2:(2:Nat)^l.length<=2^12:=Zgu (by omega) h1;have hp2:(2:Nat)^l.length<=4096:=hp2;have hk2:2^a.length<=2^l.length:=Zgu (by omega) hl;simp only[obs,V1,Vi,cf,show decide ((l.length:Int)<0)=false from decide_eq_false (by omega),show decide ((a.length:Int)<0)=false from decide_eq_false (by omega),Zg8,Zr,S9 l.length (by omega),S9 a.length (by omega),A8 l.length (by omega),A8 a.length (by omega)];rw[Rm fu _ hf l _ (by omega) hs,Mf];simp only[obs,V1,Z7];rw[A7 fu _ hf l a _ h1 hl hs,Jn];simp only[obs,V1,Z7,F1,Nr _ l.length (show l.length<=13 by omega)];generalize hw:F7 l.length a.length l.sum (Yo l (2^a.length-1))=w;have hcl:(chosen l.length).length=2^l.length:=by simp[chosen]
   have hz:(((0:Int),(0:Int),()),((0:Int),()),((0:Int),()),())=(λj:Nat=>(((0:Int),(0:Int),()),(((Jp l a.length w j:Nat):Int),()),(((ways l a.length j:Nat):Int),()),())) 0:=rfl;rw[hz,H4 (chosen l.length) (λj:Nat=>(((0:Int),(0:Int),()),(((Jp l a.length w j:Nat):Int),()),(((ways l a.length j:Nat):Int),()),())),hcl]
   ·have hle:=A6 l a.length w (2^l.length);have hwl:=A5 l a.length (2^l.length);have hpos:0<ways l a.length (2^l.length):=by
     unfold ways;rw[List.countP_pos_iff];refine⟨2^a.length-1,by simp only[List.mem_range];have:=Zha a.length;omega, ?_⟩;obtain⟨q,hq⟩: ∃q,l.length=a.length+q:=⟨l.length-a.length,by omega⟩;rw[hq,Zc1];simp
    simp only[obs];rw[J3 fu _ hf _ _ hle hpos (by omega)];simp[out3]
   ·intro j hj;rw[hcl]at hj;have hx:(chosen l.length)[j]'(by omega)=[V.c (C.v (.int .u64 (j:Nat)))]:=by simp[chosen]
    have w1:=A6 l a.length w j;have w2:=A5 l a.length j;rw[hx];simp only[Me,V1,Z7,Jm];rw[F6 fu _ l.length j h1 hj];simp only[obs,V1,Z7];rw[bneN,Zaq,Zar,A7 fu _ hf l a j h1 hl hs];cases hq:Vl l.length j==a.length with
    |false=>rfl
    |true=>
     simp only[Zh0,cf,obs,V1,Z7,J4,Bool.true_and,if_true];rw[IntWalk.i64_in (((Jp l a.length w j:Nat):Int)+1) ⟨by omega,by omega⟩,IntWalk.i64_in (((ways l a.length j:Nat):Int)+1) ⟨by omega,by omega⟩];cases decide (w<=F7 l.length a.length l.sum (Yo l j))<;>rfl
 ·rw[if_neg (by omega),show decide ((l.length:Int)>12)=true from decide_eq_true (by omega)];rfl
end Go.Proofs.Ytepjbmlhfhahcaa
namespace Go.Proofs.Ytepjbmlhfhahcaa
open Go Go.PM
end Go.Proofs.Ytepjbmlhfhahcaa
namespace Go.Proofs.Ytepjbmlhfhahcaa
open Go Go.PM
end Go.Proofs.Ytepjbmlhfhahcaa
namespace Go.Proofs.Ytepjbmlhfhahcaa
open Go Go.PM
def Rr:List Int->List (Nat×Int)
 | []=>[(0,0)]
 |x::r=>Rr r++(Rr r).map λq=>(q.1+1,x+q.2)
theorem Ps (l:List Int) (p:Nat->Int->Bool):(Zjg (2^l.length)).countP (λc=>p (Vl l.length c) (Yo l c))=(Rr l).countP λq=>p q.1 q.2:=by
 induction l generalizing p with
 |nil=>rfl
 |cons x r ih=>
  have e:(2:Nat)^(x::r).length=2*2^r.length:=by rw[Zgf,Zhn];omega
  rw[e,B3];simp only[Rr,Zgf,Vl,Yo,show ∀c:Nat,2*c%2=0 by omega,show ∀c:Nat,(2*c+1)%2=1 by omega,show ∀c:Nat,2*c/2=c by omega,show ∀c:Nat,(2*c+1)/2=c by omega,show ¬(0:Nat)=1 by omega,if_true,if_false,Zh2,Zim,Function.comp_def,Zf9,Int.zero_add];rw[ih p,ih λk s=>p (1+k) (x+s)];simp only[Zhy]
theorem Mg {l l':List Int} (h:l.Perm l'): ∀p:Nat×Int->Bool,(Rr l).countP p=(Rr l').countP p:=by
 induction h with
 |nil=>intro p;rfl
 |cons x h ih=>
  intro p;simp only[Rr,Zh2,Zim];rw[ih,ih]
 |swap x y r=>
  intro p;simp only[Rr,Zh2,Zim,Zi1,Zh6,Function.comp_def,show ∀s:Int,y+(x+s)=x+(y+s) by intro s;omega];omega
 |trans _ _ ih1 ih2=>intro p;rw[ih1,ih2]
def others:List Int->Nat->List Int
 | [],_=>[]
 |x::r,m=>if m%2=1 then others r (m/2)else x::others r (m/2)
theorem Nt {a b:List Int} (h:a.Perm b):a.sum=b.sum:=by
 induction h with
 |nil=>rfl
 |cons x _ ih=>simp[ih]
 |swap x y r=>simp;omega
 |trans _ _ h1 h2=>rw[h1,h2]
theorem Ci {a b:List Int} (h:a.Perm b) (p:Int->Bool):a.any p=b.any p:=by
 rw[Zhl,Zie,Zie];exact⟨λ⟨x,hx,hp⟩=>⟨x,h.mem_iff.1 hx,hp⟩,λ⟨x,hx,hp⟩=>⟨x,h.mem_iff.2 hx,hp⟩⟩
theorem Ga (l:List Int) (k:Nat):ways l k (2^l.length)=(Rr l).countP λq=>q.1==k:=Ps l λn _=>n==k
theorem Gb (l:List Int) (k w:Nat):Jp l k w (2^l.length)=(Rr l).countP λq=>q.1==k&&decide (w<=F7 l.length k l.sum q.2):=Ps l λn s=>n==k&&decide (w<=F7 l.length k l.sum s)
theorem Gc {l l':List Int} (h:l.Perm l') (k w:Nat):ways l k (2^l.length)=ways l' k (2^l'.length)/\Jp l k w (2^l.length)=Jp l' k w (2^l'.length):=by
 rw[Ga,Ga,Gb,Gb,Mg h,Mg h,h.length_eq,Nt h];exact⟨rfl,rfl⟩
theorem B7 {a b a' b':List Int} (ha:a.Perm a') (hb:b.Perm b'):Lc a b=Lc a' b':=by
 have hp:(a++b).Perm (a'++b'):=ha.append hb;unfold Lc;rw[Ci hp V2,Nt hp,(Gc hp _ 0).1,(Gc hp _ _).2,hp.length_eq,ha.length_eq,Nt ha]
end Go.Proofs.Ytepjbmlhfhahcaa
namespace Go.Proofs.Ytepjbmlhfhahcaa
open Go Go.PM
theorem Rn (a:List Int):Jo a=(Rr a).countP λq=>decide (a.sum.natAbs<=(a.sum-2*q.2).natAbs):=by
 unfold Jo dev;rw[Mf];exact Ps a λ_ s=>decide (a.sum.natAbs<=(a.sum-2*s).natAbs)
theorem Cj {a a':List Int} (h:a.Perm a'):Vm a=Vm a':=by
 unfold Vm;rw[Rn,Rn,Ci h V2,Nt h,Mg h,h.length_eq]
theorem Zc2 (a:List Int):Rr (a.map λx=> -x)=(Rr a).map λq=>(q.1,-q.2):=by
 induction a with
 |nil=>rfl
 |cons x r ih=>
  simp only[Zg1,Rr,ih,Zi1,Zh6]
  congr 1
  refine Zho λq _=> ?_;simp only[Function.comp_def,Prod.mk.injEq,true_and];omega
theorem Zdy (a:List Int):(a.map λx=> -x).sum= -a.sum:=by
 induction a with
 |nil=>rfl
 |cons x r ih=>simp only[Zg1,Zj3,ih];omega
theorem Zdz (a:List Int):(a.map λx=> -x).any V2=a.any V2:=by
 rw[List.any_map]
 congr 1
 funext x
 show V2 (-x)=V2 x;unfold V2;by_cases h1: -1000000<=x<;>by_cases h2:x<=1000000
 ·rw[decide_eq_true h1,decide_eq_true h2,decide_eq_true (by omega),decide_eq_true (by omega)]
 ·rw[decide_eq_true h1,decide_eq_false h2,decide_eq_false (p:= -1000000<= -x) (by omega)];simp
 ·rw[decide_eq_false h1,decide_eq_false (p:= -x<=1000000) (by omega)];simp
 ·omega
theorem B8 (a:List Int):Vm (a.map λx=> -x)=Vm a:=by
 unfold Vm;rw[Rn,Rn,Zdz,Zdy,Zc2,Zim,Zg2];have e:(Rr a).countP ((λq:Nat×Int=>decide ((-a.sum).natAbs<=(-a.sum-2*q.2).natAbs)) ∘ λq=>(q.1,-q.2))=(Rr a).countP λq=>decide (a.sum.natAbs<=(a.sum-2*q.2).natAbs):=by
  refine List.countP_congr λq _=> ?_;simp only[Function.comp_def,decide_eq_true_eq];omega
 rw[e]
end Go.Proofs.Ytepjbmlhfhahcaa
namespace Go.Proofs.Ytepjbmlhfhahcaa
open Go Go.PM
set_option maxRecDepth 100000
noncomputable def B9 (fu d n:Nat):Nat->Int->List C->C->Int->(List C->C->Int->Option Out)->Option Out
 |0,_,_,_,_,_=>none
 |r+1,k,cs,c,i,K=>
  bif decide (k>0)then
   (cl fu d fn_synopticfield_Codes_Next [V.ptr 1000000 0,I (Zi5.wrap (k+1))] [.ob ty_synopticfield_Codes 0 ([c,C.v (.int .i64 i)])]).bind λout=>
   uncO out.objs λo os=>
   rO o ty_synopticfield_Codes 0 λcs1=>
   need ((Zi8 cs1.length 2)&&true)<|
   unc cs1 λc1 r1=>
   unc r1 λc2 _=>
   asI .i64 c2 λi1=>
   rC out.r λc3=>
   asI .i64 c3 λi2=>
   need (inR k n)<|
   unc (Zja (0+(k.toNat*1)) cs) λc4 _=>
   asI .i64 c4 λi3=>
   need (inR i2 n)<|
   unc (Zja (0+(i2.toNat*1)) cs) λc5 _=>
   asI .i64 c5 λi4=>
   need (inR i2 n)<|
   need (((Zjb 0 (0+(i2.toNat*1)))&&(Zjb ((0+(i2.toNat*1))+1) cs.length))&&true)<|
   need (inR k n)<|
   need (((Zjb 0 (0+(k.toNat*1)))&&(Zjb ((0+(k.toNat*1))+1) ((putAt cs (0+(i2.toNat*1)) ([C.v (.int .i64 i3)])).length)))&&true)<|
   B9 fu d n r (Zi5.wrap (k-1)) (putAt (putAt cs (0+(i2.toNat*1)) ([C.v (.int .i64 i3)])) (0+(k.toNat*1)) ([C.v (.int .i64 i4)])) c1 i1 K
  else K cs c i
theorem Pt (fu d:Nat) (n0:Nat) (a0:List C) (n1:Nat) (a1:List C):
  cl fu (d+1) fn_synopticlaw39_SamplingErrors [V.c (C.sl n0 a0),V.c (C.sl n1 a1)] []=(
  (cl fu d fn_synopticlaw39_awake [] []).bind λout=>
  rC out.r λc=>
  asB c λb=>
  bif !b then
   some ⟨B false,[],none⟩
  else
   (cl fu d fn_synopticfield_New [V.c (C.sl n0 a0),I 80] []).bind λout1=>
   rP out1.r 0<|
   uncO out1.objs λo os=>
   rN o ty_synopticfield_Codes 2 λcs=>
   unc cs λc1 r=>
   unc r λc2 _=>
   asI .i64 c2 λi=>
   (cl fu d fn_synopticlaw39_sample [V.ptr 1000000 0,I 5] [.ob ty_synopticfield_Codes 0 ([c1,C.v (.int .i64 i)])]).bind λout2=>
   uncO out2.objs λo1 os1=>
   rO o1 ty_synopticfield_Codes 0 λcs1=>
   need ((Zi8 cs1.length 2)&&true)<|
   unc cs1 λc3 r2=>
   unc r2 λc4 _=>
   asI .i64 c4 λi1=>
   rC out2.r λc5=>
   (cl fu d fn_synopticlaw39_sample [V.ptr 1000000 0,I 5] [.ob ty_synopticfield_Codes 0 ([c3,C.v (.int .i64 i1)])]).bind λout3=>
   uncO out3.objs λo2 os2=>
   rO o2 ty_synopticfield_Codes 0 λcs2=>
   need ((Zi8 cs2.length 2)&&true)<|
   unc cs2 λc6 r4=>
   unc r4 λc7 _=>
   asI .i64 c7 λi2=>
   rC out3.r λc8=>
   (cl fu d fn_synopticfield_New [V.c (C.sl n1 a1),I 20] []).bind λout4=>
   rP out4.r 0<|
   uncO out4.objs λo3 os3=>
   rN o3 ty_synopticfield_Codes 2 λcs3=>
   unc cs3 λc9 r6=>
   unc r6 λc10 _=>
   asI .i64 c10 λi3=>
   asSl c5 λn cs4=>
   need (Zi8 (n*1) cs4.length)<|
   need ((Zjb (n*8) 140737488355328)&&(Zjb n 140737488355328))<|
   asSl c8 λn2 cs5=>
   need (Zi8 (n2*1) cs5.length)<|
   need ((Zjb (n2*8) 140737488355328)&&(Zjb n2 140737488355328))<|
   B9 fu d n 5 (Zi5.wrap (((n:Nat):Int)-1)) cs4 c9 i3 λcs6 c i=>
   B9 fu d n2 5 (Zi5.wrap (((n2:Nat):Int)-1)) cs5 c i λcs7 _ _=>
   asSl c5 λn51 cs248=>
   need (Zjb (0+(n*1)) cs6.length)<|
   need (Zjb (0+(n2*1)) cs7.length)<|
   (iter (λ(y24:List C×Int×Unit)=>
    bif decide (y24.2.1<((n51:Nat):Int))then
     asSl c5 λn52 cs249=>
     need (inR y24.2.1 n52)<|
     unc (Zja (y24.2.1.toNat*1) cs249) λc545 _=>
     asI .i64 c545 λi508=>
     need ((((Zi8 ((y24.1.length/1)*1) y24.1.length)&&true)&&(Zjb (((y24.1.length/1)+1)*8) 140737488355328))&&(Zjb ((y24.1.length/1)+1) 140737488355328))<|
     need (((Zi8 (((y24.1.length/1)+1)*1) ((y24.1++([C.v (.int .i64 (Zi5.wrap (0-i508)))])).length))&&true)&&true)<|
     some (0,(y24.1++([C.v (.int .i64 (Zi5.wrap (0-i508)))]),Zi5.wrap (y24.2.1+1),()))
    else
     need (((Zi8 ((y24.1.length/1)*1) y24.1.length)&&true)&&true)<|
     some (1,(y24.1,y24.2.1,()))) fu ([],0,())).bind λp24=>
   need (noYl [V.c (nrm c5)])<|
   (cl fu d fn_sampling_Signs [V.c (nrm c5)] []).bind λout155=>
   rT out155.r λxs120=>
   uncV xs120 λx240 ys240=>
   rA x240 λcs250=>
   need (Zi8 cs250.length 2)<|
   unc cs250 λc546 r393=>
   asI .i64 c546 λi509=>
   unc r393 λc547 _=>
   asI .i64 c547 λi510=>
   uncV ys240 λx241 ys241=>
   rC x241 λc548=>
   asI .i64 c548 λi511=>
   nilV ys241<|
   (cl fu d fn_sampling_Signs [V.c (C.sl n (Zjc (n*1) cs6))] []).bind λout156=>
   rT out156.r λxs121=>
   uncV xs121 λx242 ys242=>
   rA x242 λcs251=>
   need (Zi8 cs251.length 2)<|
   unc cs251 λc549 r395=>
   asI .i64 c549 λi512=>
   unc r395 λc550 _=>
   asI .i64 c550 λi513=>
   uncV ys242 λx243 ys243=>
   rC x243 λc551=>
   asI .i64 c551 λi514=>
   nilV ys243<|
   need (Zjb (0+((p24.2.1.length/1)*1)) p24.2.1.length)<|
   (cl fu d fn_sampling_Signs [V.c (C.sl (p24.2.1.length/1) (Zjc ((p24.2.1.length/1)*1) p24.2.1))] []).bind λout157=>
   rT out157.r λxs122=>
   uncV xs122 λx244 ys244=>
   rA x244 λcs252=>
   need (Zi8 cs252.length 2)<|
   unc cs252 λc552 r397=>
   asI .i64 c552 λi515=>
   unc r397 λc553 _=>
   asI .i64 c553 λi516=>
   uncV ys244 λx245 ys245=>
   rC x245 λc554=>
   asI .i64 c554 λi517=>
   nilV ys245<|
   need (noYl [V.c (nrm c5)])<|
   (cl fu d fn_sampling_Exchange [V.c (nrm c5),V.c (nrm c8)] []).bind λout158=>
   rT out158.r λxs123=>
   uncV xs123 λx246 ys246=>
   rA x246 λcs253=>
   need (Zi8 cs253.length 2)<|
   unc cs253 λc555 r399=>
   asI .i64 c555 λi518=>
   unc r399 λc556 _=>
   asI .i64 c556 λi519=>
   uncV ys246 λx247 ys247=>
   rC x247 λc557=>
   asI .i64 c557 λi520=>
   nilV ys247<|
   (cl fu d fn_sampling_Exchange [V.c (C.sl n (Zjc (n*1) cs6)),V.c (C.sl n2 (Zjc (n2*1) cs7))] []).bind λout159=>
   rT out159.r λxs124=>
   uncV xs124 λx248 ys248=>
   rA x248 λcs254=>
   need (Zi8 cs254.length 2)<|
   unc cs254 λc558 r401=>
   asI .i64 c558 λi521=>
   unc r401 λc559 _=>
   asI .i64 c559 λi522=>
   uncV ys248 λx249 ys249=>
   rC x249 λc560=>
   asI .i64 c560 λi523=>
   nilV ys249<|
   bif i511==0 then
    bif i514==0 then
     bif i517==0 then
      bif i520==0 then
       bif i523==0 then
        bif (i509==i512)&&((i510==i513)&&true)then
         bif (i512==i515)&&((i513==i516)&&true)then
          some ⟨B ((i518==i521)&&((i519==i522)&&true)),[],none⟩
         else
          some ⟨B false,[],none⟩
        else
         some ⟨B false,[],none⟩
       else
        some ⟨B false,[],none⟩
      else
       some ⟨B false,[],none⟩
     else
      some ⟨B false,[],none⟩
    else
     some ⟨B false,[],none⟩
   else
    some ⟨B false,[],none⟩):=by kernel_rfl
end Go.Proofs.Ytepjbmlhfhahcaa
namespace Go.PM
open Go
theorem Zd0 {x:Int} (h1: -9223372036854775808<=x) (h2:x<=9223372036854775807):Zi5.wrap x=x:=IntWalk.i64_in x ⟨by omega,by omega⟩
theorem dlt_t {a b:Int} (h:a<b):decide (a<b)=true:=decide_eq_true h
theorem dlt_f {a b:Int} (h:b<=a):decide (a<b)=false:=decide_eq_false (by omega)
theorem dle_t {a b:Int} (h:a<=b):decide (a<=b)=true:=decide_eq_true h
theorem dle_f {a b:Int} (h:b<a):decide (a<=b)=false:=decide_eq_false (by omega)
theorem dgt_t {a b:Int} (h:b<a):decide (a>b)=true:=decide_eq_true h
theorem dgt_f {a b:Int} (h:a<=b):decide (a>b)=false:=decide_eq_false (by omega)
theorem dge_t {a b:Int} (h:b<=a):decide (a≥b)=true:=decide_eq_true h
theorem dge_f {a b:Int} (h:a<b):decide (a≥b)=false:=decide_eq_false (by omega)
theorem Zfh {a b:Int} (h:a=b):(a==b)=true:=beq_iff_eq.2 h
theorem Zfi {a b:Int} (h:a≠b):(a==b)=false:=beq_eq_false_iff_ne.2 h
theorem Zfj {a b:Int} (h:a≠b):(a !=b)=true:=bne_iff_ne.2 h
theorem Zfk {a b:Int} (h:a=b):(a !=b)=false:=by subst h;simp
def fl {A:Type} (e:A->List C) (l:List A):List C:=l.flatMap e
section
variable {A:Type} {e:A->List C} {m:Nat}
@[simp] theorem fl_nil:fl e []=[]:=rfl
end
theorem Zas {A:Type} {body:A->Option (Nat×A)} {x:A} {fu:Nat} (f:Nat->A) (e:Nat) (z:A) (k:Nat) (hx:x=f 0) (h: ∀j,j<k->body (f j)=some (0,f (j+1))) (he:body (f k)=some (e+1,z)) (hf:k<fu):iter body fu x=some (e,z):=by
 rw[hx];exact S7 f e z k 0 fu (λj _ hj=>h j (by omega)) (by rw[Zf9];exact he) hf
def QM:=And.intro @obs (And.intro @V1 (And.intro @Ze8 (And.intro @Ze9 (And.intro @Zcl (And.intro @Zcm (And.intro @Zep (And.intro @rF_sb (And.intro @Me (And.intro @Tg (And.intro @Jm (And.intro @Ax (And.intro @Zeq (And.intro @Xt (And.intro @Z7 (And.intro @Vi (And.intro @Bu (And.intro @Qh (And.intro @F0 (And.intro @F1 (And.intro @Zcn (And.intro @Bv (And.intro @Zfa (And.intro @Zr (And.intro @ct (And.intro @cf (And.intro @Zer (And.intro @Zaj (And.intro @Zak (And.intro @Zco (And.intro @Zfb (And.intro @F2 (And.intro @Zdr (And.intro @Zds (And.intro @Zdt (And.intro @Bool.and_true (And.intro @Bool.true_and (And.intro @Bool.and_self (And.intro @Xd (And.intro @Bool.not_true (And.intro @Bool.not_false (And.intro @Bool.and_false (And.intro @Bool.false_and (And.intro @Bool.or_false (And.intro @Bool.false_or (And.intro @Bool.or_true @Bool.true_or)))))))))))))))))))))))))))))))))))))))))))))
def QD:=And.intro @Zd0 (And.intro @dlt_t (And.intro @dlt_f (And.intro @dle_t (And.intro @dle_f (And.intro @dgt_t (And.intro @dgt_f (And.intro @dge_t (And.intro @dge_f (And.intro @Zfh (And.intro @Zfi (And.intro @Zfj (And.intro @Zfk (And.intro @Ay (And.intro @Zdu @Qi))))))))))))))
end Go.PM
namespace Go.PM
open Go
def hdt {A:Type} (x:A):A:=x
theorem Mh {A:Type} (x:A):hdt x=x:=id rfl
theorem out1:Zi8 1000001 (OUT+1)=true:=id rfl
theorem out2:Zi8 1000002 (OUT+2)=true:=id rfl
section
variable {R A B':Type}
theorem Zd1 {x x':Option A} {k:A->Option B'} (h:hdt x=x'):x.bind k=x'.bind k:=by rw[<-h];rfl
theorem Zd2 {b b':Bool} {k:Option R} (h:hdt b=b'):need b k=need b' k:=by rw[<-h];rfl
theorem Zd3 {b b':Bool} {x y:R} (h:hdt b=b'):(bif b then x else y)=(bif b' then x else y):=by rw[<-h];rfl
theorem Zfl {c c':List C} {k:C->List C->Option R} (h:hdt c=c'):unc c k=unc c' k:=by rw[<-h];rfl
theorem Zd4 {c c':List V} {k:V->List V->Option R} (h:hdt c=c'):uncV c k=uncV c' k:=by rw[<-h];rfl
theorem Zd5 {c c':List PM.Obj} {k:PM.Obj->List PM.Obj->Option R} (h:hdt c=c'):uncO c k=uncO c' k:=by rw[<-h];rfl
theorem Zfm {c c':List (List V)} {k:List V->List (List V)->Option R} (h:hdt c=c'):unI c k=unI c' k:=by rw[<-h];rfl
theorem Zfn {kd:IntKind} {c c':C} {k:Int->Option R} (h:hdt c=c'):asI kd c k=asI kd c' k:=by rw[<-h];rfl
theorem Zfo {c c':C} {k:Bool->Option R} (h:hdt c=c'):asB c k=asB c' k:=by rw[<-h];rfl
theorem Zfp {c c':C} {k:ByteArray->Option R} (h:hdt c=c'):asS c k=asS c' k:=by rw[<-h];rfl
theorem Zd6 {c c':C} {k:Nat->List C->Option R} (h:hdt c=c'):asSl c k=asSl c' k:=by rw[<-h];rfl
theorem Zd7 {c c':C} {k:FuncId->List C->Option R} (h:hdt c=c'):asFn c k=asFn c' k:=by rw[<-h];rfl
theorem Zfq {c c':C} {k:List C->Option R} (h:hdt c=c'):asP c k=asP c' k:=by rw[<-h];rfl
theorem Zd8 {c c':C} {ky:Nat->Option R} {k:FuncId->List C->Option R} (h:hdt c=c'):Gf c ky k=Gf c' ky k:=by rw[<-h];rfl
theorem hd_rC {x x':V} {k:C->Option R} (h:hdt x=x'):rC x k=rC x' k:=by rw[<-h];rfl
theorem hd_rA {x x':V} {k:List C->Option R} (h:hdt x=x'):rA x k=rA x' k:=by rw[<-h];rfl
theorem hd_rT {x x':V} {k:List V->Option R} (h:hdt x=x'):rT x k=rT x' k:=by rw[<-h];rfl
theorem hd_rG {x x':V} {k:List V->Option R} (h:hdt x=x'):rG x k=rG x' k:=by rw[<-h];rfl
theorem hd_rP {x x':V} {m:Nat} {k:Option R} (h:hdt x=x'):rP x m k=rP x' m k:=by rw[<-h];rfl
theorem hd_rW {x x':V} {m:Nat} {k:Nat->Option R} (h:hdt x=x'):rW x m k=rW x' m k:=by rw[<-h];rfl
theorem hd_rO {o o':PM.Obj} {t fz:Nat} {k:List C->Option R} (h:hdt o=o'):rO o t fz k=rO o' t fz k:=by rw[<-h];rfl
theorem hd_rN {o o':PM.Obj} {t n:Nat} {k:List C->Option R} (h:hdt o=o'):rN o t n k=rN o' t n k:=by rw[<-h];rfl
theorem hd_rF {o o':PM.Obj} {t:Nat} {k:Nat->List C->Option R} (h:hdt o=o'):rF o t k=rF o' t k:=by rw[<-h];rfl
theorem hd_rS {o o':PM.Obj} {t fz:Nat} {k:List C->Option R} (h:hdt o=o'):rS o t fz k=rS o' t fz k:=by rw[<-h];rfl
theorem Zd9 {x x':List V} {k:Option R} (h:hdt x=x'):nilV x k=nilV x' k:=by rw[<-h];rfl
theorem Zea {n n':Nat} {a:Option R} {b:Nat->Option R} (h:hdt n=n'):natD n a b=natD n' a b:=by rw[<-h];rfl
theorem hd_bd {x x':A} {k:A->Option R} (h:hdt x=x'):bd x k=bd x' k:=by rw[<-h];rfl
theorem Zeb {body:A->Option (Nat×A)} {fu:Nat} {x x':A} (h:hdt x=x'):iter body fu x=iter body fu x':=by rw[<-h];rfl
theorem Zec {I:Type} {body:I->A->Option (Nat×A)} {l l':List I} {x x':A} (h1:hdt l=l') (h:hdt x=x'):overK body l x=overK body l' x':=by rw[<-h,<-h1];rfl
theorem Zat {sz:Nat} {lo lo' hi hi':Option V} {c c':C} {k:C->Option R} (h1:hdt lo=lo') (h2:hdt hi=hi') (h:hdt c=c'):Tm sz lo hi c k=Tm sz lo' hi' c' k:=by rw[<-h,<-h1,<-h2];rfl
theorem Zed {c c':C} {kt et:TypeId} {ka va:Option Nat} {k:List (List C×List C)->Option R} (h:hdt c=c'):Ee c kt et ka va k=Ee c' kt et ka va k:=by rw[<-h];rfl
end
end Go.PM
namespace Go.Proofs.Ytepjbmlhfhahcaa
open Go Go.PM
attribute [local congr] Zd1 Zd2 Zd3 Zfl Zd4 Zd5 Zfm Zfn Zfo Zfp Zd6 Zd7 Zfq hd_rC hd_rA hd_rT hd_rG hd_rP hd_rO hd_rN hd_rF hd_rS hd_rW Zd9 Zea hd_bd Zeb Zec Zat Zed Zd8
section
variable (fu d:Nat)
theorem Gd {bs:List Int} (hb:bytes bs) (hl:bs.length<=1000000000000) (R:Option Out->Prop) (K:List C->C->Int->Option Out) (l0:List Int) (hl0:l0.length<=1000)
  (hK: ∀(l:List Int) (i:Nat),l.Perm l0->i<=1000000000000->R (K (ints l) (C.sl bs.length (ik .u8 bs)) (i:Int))):
  ∀(r:Nat) (k:Int) (l:List Int) (i:Nat),k<=r->k<l.length->l.Perm l0->i<=1000000000000->R (B9 fu (d+2) l0.length (r+1) k (ints l) (C.sl bs.length (ik .u8 bs)) (i:Int) K):=by
 have hstop: ∀(r:Nat) (k:Int) (l:List Int) (i:Nat),¬k>0->l.Perm l0->i<=1000000000000->R (B9 fu (d+2) l0.length (r+1) k (ints l) (C.sl bs.length (ik .u8 bs)) (i:Int) K):=by
  intro r k l i hk hp hi;unfold B9;rw[decide_eq_false hk];exact hK l i hp hi
 intro r
 induction r with
 |zero=>intro k l i h1 _ hp hi;exact hstop 0 k l i (by omega) hp hi
 |succ r ih=>
  intro k l i h1 h2 hp hi;by_cases hk:k>0
  ·obtain⟨m,rfl⟩: ∃m:Nat,k=m:=⟨k.toNat,by omega⟩;have hlen:=hp.length_eq;obtain⟨v,j,e1,v1,v2,hj⟩:=Ns fu d bs hb i hi hl ((m:Int)+1) (by omega);obtain⟨q,rfl⟩: ∃q:Nat,v=q:=⟨v.toNat,by omega⟩;have hq:q<l.length:=by omega
   have hm:m<l.length:=by omega
   have i1:=Pp (kd:= .i64) (R:=Out) hm;have i2:=Pp (kd:= .i64) (R:=Out) hq;have p1:=Zcp (kd:= .i64) hq l[m];have p2:=Zcp (kd:= .i64) (l:=l.set q l[m]) (k:=m) (by rw[List.length_set];exact hm) l[q];have l1:(l.set q l[m]).length=l.length:=List.length_set;have hP:((l.set q l[m]).set m l[q]).Perm l:=List.set_set_perm hq hm;have IH:=ih ((m:Int)-1) ((l.set q l[m]).set m l[q]) j (by omega) (by rw[hP.length_eq];omega) (hP.trans hp) hj;unfold U0 Ra at e1;unfold B9;simp(disch:=omega)only[Mh,QM,QD,e1,Zgm,Zgx,Zf9,i1,i2,Z3,p1,p2,l1,Zgf,Zgz,Nat.reduceAdd];exact IH
  ·exact hstop (r+1) k l i hk hp hi
variable (hf:18446744073709551616<=fu)
include hf
set_option maxHeartbeats 4000000 in
theorem sp_SamplingErrors (bs cs:List Int) (hbs:bytes bs) (hcs:bytes cs):
  cl fu (d+9) fn_synopticlaw39_SamplingErrors [V.c (C.sl bs.length (ik .u8 bs)),V.c (C.sl cs.length (ik .u8 cs))] []=some ⟨B true,[],none⟩:=by
 have hA:=Zcv fu d hf;have hb':bytes (bs.take 80):=λx hx=>hbs x (Zhe hx);have hc':bytes (cs.take 20):=λx hx=>hcs x (Zhe hx);have hl':(bs.take 80).length<=1000000000000:=by rw[Zgp];omega
 have hm':(cs.take 20).length<=1000000000000:=by rw[Zgp];omega
 have hN:=Zcw fu (d+7) bs 80;have hM:=Zcw fu (d+7) cs 20;replace hN:cl fu (d+8) fn_synopticfield_New [V.c (C.sl bs.length (ik .u8 bs)),I 80] []=_:=hN;replace hM:cl fu (d+8) fn_synopticfield_New [V.c (C.sl cs.length (ik .u8 cs)),I 20] []=_:=hM;generalize bs.take 80=b0 at*
 generalize cs.take 20=c0 at*
 obtain⟨a,j1,e1,sa,la,hj1⟩:=H8 fu (d+5) hf b0 hb' 0 (by omega) hl' 5 (by omega);obtain⟨b,j2,e2,sb,lb,hj2⟩:=H8 fu (d+5) hf b0 hb' j1 hj1 hl' 5 (by omega);have la':a.length<=5:=by omega
 have lb':b.length<=5:=by omega
 unfold U0 Ra at hN hM e1 e2;rw[Pt];simp(disch:=omega)only[Mh,QM,QD,hA,hN,hM,e1,e2,Zcl,Zeq,show(Zi8 1000000 (OUT+0))=true from rfl,Z3,Zgx,Zgf,Zgz,Zf9,Nat.reduceAdd];refine Gd fu (d+6) hc' hm' (λo=>o=some ⟨B true,[],none⟩) _ a (by omega) ?_ 4 (((a.length:Nat):Int)-1) a 0 (by omega) (by omega) (.refl _) (by omega);intro a' i1 pa hi1;refine Gd fu (d+6) hc' hm' (λo=>o=some ⟨B true,[],none⟩) _ b (by omega) ?_ 4 (((b.length:Nat):Int)-1) b i1 (by omega) (by omega) (.refl _) hi1;intro b' i2 pb hi2;have la1:=pa.length_eq;have lb1:=pb.length_eq;have hn:(a.map λx=> -x).length=a.length:=Zg2 ..;have s1:=T6 fu (d+1) hf a (by omega);have s2:=T6 fu (d+1) hf a' (by omega);have s3:=T6 fu (d+1) hf (a.map λx=> -x) (by omega);have s4:=Ld fu (d+1) hf a b (by omega) (by omega);have s5:=Ld fu (d+1) hf a' b' (by omega) (by omega);rw[Cj pa]at s2;rw[B8]at s3;rw[B7 pa pb]at s5;have ok1:(Vm a).2.2=0:=by
  unfold Vm;rw[if_pos ⟨by omega,Qj sa⟩]
 have ok2:(Lc a b).2.2=0:=by
  unfold Lc;rw[if_pos ⟨by rw[Zgj];omega,by rw[Zi0,Qj sa,Qj sb];rfl⟩]
 obtain⟨u1,u2,u3,hu⟩: ∃u1 u2 u3,Vm a=(u1,u2,u3):=⟨_,_,_,rfl⟩;obtain⟨w1,w2,w3,hw⟩: ∃w1 w2 w3,Lc a b=(w1,w2,w3):=⟨_,_,_,rfl⟩;rw[hu]at s1 s2 s3 ok1;rw[hw]at s4 s5 ok2;subst ok1;subst ok2;unfold out3 at s1 s2 s3 s4 s5;replace s1:cl fu (d+8) fn_sampling_Signs _ []=_:=s1;replace s2:cl fu (d+8) fn_sampling_Signs _ []=_:=s2;replace s3:cl fu (d+8) fn_sampling_Signs _ []=_:=s3;replace s4:cl fu (d+8) fn_sampling_Exchange _ []=_:=s4;replace s5:cl fu (d+8) fn_sampling_Exchange _ []=_:=s5;rw[la1]at s2 s5;rw[lb1]at s5;rw[hn]at s3;have t1:Zjc a.length (ints a')=ints a':=Zgg (by rw[Z3,la1];exact Zf4 _);have t2:Zjc b.length (ints b')=ints b':=Zgg (by rw[Z3,lb1];exact Zf4 _);have t3:Zjc a.length (ints (a.map λx=> -x))=ints (a.map λx=> -x):=Zgg (by rw[Z3,hn];exact Zf4 _);simp(disch:=omega)only[Mh,QM,QD,Z3,la1,lb1,Zgx,Zf9];rw[Zas (λj:Nat=>(ints ((a.take j).map λx=> -x),((j:Nat):Int),())) 0 (ints (a.map λx=> -x),((a.length:Nat):Int),()) a.length ?_ ?_ ?_ (by omega)]
 ·simp(disch:=omega)only[Mh,QM,QD,Z3,hn,Zhw,Zgx,Zf9,t1,t2,t3,s1,s2,s3,s4,s5,beq_self_eq_true,Zgv,Zgf,Zgz,Nat.reduceAdd]
 ·rfl
 ·intro j hj;have hx:=sa a[j] (Zhp hj);have i1:=Pp (kd:= .i64) (R:=Nat×List C×Int×Unit) hj;have hlt:((a.take j).map λx=> -x).length=j:=by rw[Zg2,Zgp];omega
  have hlt1:((a.take (j+1)).map λx=> -x).length=j+1:=by rw[Zg2,Zgp];omega
  have hw0:Zi5.wrap (0-a[j])= -a[j]:=by rw[IntWalk.i64_in _ ⟨by omega,by omega⟩];omega
  have hsn:ints ((a.take j).map λx=> -x)++[C.v (.int .i64 (-a[j]))]=ints ((a.take (j+1)).map λx=> -x):=by
   rw[Zh4 hj,Zi1];simp only[Az,Zg1,List.map_nil]
  simp(disch:=omega)only[Mh,QM,QD,Zgm,Zgx,i1,hw0,Z3,hlt,hlt1,Zhw,hsn,Zgj,Zgf,Zgz,Zf9];rfl
 ·rw[Zg3];simp(disch:=omega)only[Mh,QM,QD,Z3,hn,Zhw,Zgx]
end
end Go.Proofs.Ytepjbmlhfhahcaa
