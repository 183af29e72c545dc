/- Parts put together: Iy, Pn, Po, Pp, Dd. -/
import Derived.Test.YtjmempcalaliiaaGreatDoorJ8
set_option linter.unusedSimpArgs false
set_option linter.unusedVariables false
/- The iterators that this seat's programs meet: the edges, and slices.Backward. -/
namespace Go.Proofs.YtjmempcalaliiaaGreatDoor
open Go Go.PM Go.Grid
attribute [local congr] Zw Zx Zy Ye Zz Z0 Yf Yg Yh Yi Z1 Z2 Yj Y7 Y8 Y9 Xa Xb Xd Xe Xf Xg Xc Z4 Z5 Xh Z6 Z7 Zm Z8 Z3
theorem Nl (cs:List C):(backL cs).length=cs.length:=by simp[backL]
theorem Zj8 (cs:List C) {i:Nat} (h:i<cs.length):(backL cs)[i]'(by rw[Nl];exact h)=[I ((cs.length-1-i:Nat):Int),V.c (cs[cs.length-1-i]'(by omega))]:=by
 simp only[backL,Zuc,List.getElem_reverse,List.getElem_zipIdx,List.length_zipIdx,Zrp]
theorem Zgq (cs:List C) {i:Nat} (h:i<cs.length):(backL cs).drop i=[I ((cs.length-1-i:Nat):Int),V.c (cs[cs.length-1-i]'(by omega))]::(backL cs).drop (i+1):=by
 rw[Zso (by rw[Nl];exact h),Zj8 cs h]
theorem Znn (cs:List C) {i q:Nat} (h:i<cs.length) (hq:q=cs.length-1-i) (hql:q<cs.length):(backL cs).drop i=[I (q:Int),V.c cs[q]]::(backL cs).drop (i+1):=by
 subst hq;exact Zgq cs h
section
variable (fu d:Nat) (hf:18446744073709551616<=fu)
include hf
theorem Zpg (cs:List C) (hl:cs.length<=1000000) (l:Nat) (go:Nat->Bool) (c0:C) (hc0: ∀{R:Type} (k:Nat->List C->Option R),asSl c0 k=k cs.length cs) (r:List C):
  ∃out lg,cl fu (d+1) fn_slices_Backward_sapi_Branch_api_Branch_1 [V.c (C.yl l go (backL cs)),V.c (C.cp (c0::r))] []=some out/\out.log=some lg/\(lg.st=true\/lg.rest=[]):=by
 have hll:=Nl cs;have hd:=λ{i q:Nat} (h:i<cs.length) (hq:q=cs.length-1-i) (hql:q<cs.length)=>Znn cs h hq hql;rw[eq_slices_Backward_sapi_Branch_api_Branch_1];generalize backL cs=BL at*
 have hc1:=λ{R:Type} (k:Nat->List C->Option R)=>hc0 k;simp(disch:=omega)only[Zd,QM,QD,hc1];refine Qo (A:=Int×Log×Unit) (B:=Out) (fu:=fu) (λo=> ∃out lg,o=some out/\out.log=some lg/\(lg.st=true\/lg.rest=[]))
  (λs=> ∃i:Nat,i<=cs.length/\s=((cs.length:Int)-1-(i:Int),⟨l,go,i,BL.drop i,false⟩,())) (λs=>(s.1+1).toNat) (λ_ z=>z.2.1.st=true\/z.2.1.rest=[]) ⟨0,by omega, ?_⟩ ?_ ?_ ?_
 ·simp
 ·show((cs.length:Int)-1+1).toNat<fu;omega
 ·rintro y ⟨i,hi,rfl⟩
  by_cases hlt:i<cs.length
  ·obtain⟨q,hq⟩: ∃q:Nat,q=cs.length-1-i:=⟨_,rfl⟩;have hqi:(cs.length:Int)-1-(i:Int)=(q:Int):=by omega
   have hql:q<cs.length:=by omega
   have hat:=Zso hql;have hd:=hd hlt hq hql;rw[hqi];cases hg:go i with
   |true=>
    refine .inl ⟨((cs.length:Int)-1-((i+1:Nat):Int),⟨l,go,i+1,BL.drop (i+1),false⟩,()), ?_,⟨i+1,by omega,rfl⟩, ?_⟩
    ·rw[show(cs.length:Int)-1-((i+1:Nat):Int)=(q:Int)-1 by omega];simp(disch:=omega)only[Zd,QM,QD,Zrq,Zr2,hc1,hat,hd,Jj,Jk,hg]
    ·show((cs.length:Int)-1-((i+1:Nat):Int)+1).toNat<((q:Int)+1).toNat;omega
   |false=>
    refine .inr ⟨1,((q:Int),⟨l,go,i+1,BL.drop (i+1),true⟩,()), ?_, .inl rfl⟩;simp(disch:=omega)only[Zd,QM,QD,Zrq,Zr2,hc1,hat,hd,Jj,Jk,hg]
  ·refine .inr ⟨0,((cs.length:Int)-1-(i:Int),⟨l,go,i,BL.drop i,false⟩,()), ?_, .inr ?_⟩
   ·simp(disch:=omega)only[Zd,QM,QD]
   ·show BL.drop i=[];rw[List.drop_eq_nil_iff];omega
 ·rintro e z hz
  refine⟨⟨V.tup [],[],some z.2.1⟩,z.2.1, ?_,rfl,hz⟩;cases e<;>rfl
omit d in
theorem iterOk:Za2 Tryz.prog prim laid fu:=by
 intro d f caps xs h l go;replace h:(bif Nat.ble 10 d then iterC f caps else none)=some xs:=h;cases hd:Nat.ble 10 d with
 |false=>rw[hd]at h;cases h
 |true=>
  rw[hd]at h;replace h:iterC f caps=some xs:=h;have hd:=Zrn hd;obtain⟨d',rfl⟩: ∃d',d=d'+10:=⟨d-10,by omega⟩;unfold iterC at h;cases hfq:Nat.beq f fn_flux_edges_1 with
  |false=>
   rw[hfq]at h;simp only[cf]at h;cases hfv:Nat.beq f fn_slices_Backward_sapi_Branch_api_Branch_1 with
   |false=>rw[hfv]at h;cases h
   |true=>
    have hfe:=Zrl hfv;subst hfe;rw[hfv]at h;simp only[ct]at h;split at h
    ·rename_i c;unfold asP at h;split at h
     ·rename_i cs;cases cs with
      |nil=>cases h
      |cons c r=>
       replace h:asSl c (λn l=>need (Nat.beq n l.length&&Nat.ble n 1000000) (some (backL l)))=some xs:=h;have fin: ∀(n:Nat) (cs:List C),need (Nat.beq n cs.length&&Nat.ble n 1000000) (some (backL cs))=some xs->n=cs.length/\cs.length<=1000000/\xs=backL cs:=λn cs h=>by
        obtain⟨hc,h⟩:=Za h;rw[Zrm]at hc;have h1:=Zrl hc.1;have h2:=Zrn hc.2;cases h;exact⟨h1,by omega,rfl⟩
       unfold asSl at h;split at h
       ·rename_i p hp;obtain⟨e1,h3,rfl⟩:=fin _ _ h;refine Zpg fu (d'+9) hf p.2 h3 l go _ (λk=> ?_) r;unfold asSl;rw[hp];show k p.1 p.2=_;rw[e1]
       ·cases h
     ·cases h
    ·cases h
  |true=>
   have hfe:=Zrl hfq;subst hfe;rw[hfq]at h;simp only[ct]at h;split at h
   ·rename_i c;unfold asP at h;split at h
    ·rename_i cs;cases cs with
     |nil=>cases h
     |cons c r=>
      replace h:asI .i64 c (λn=>need (decide (1<=n)&&decide (n<=8)) (some (edgesL n.toNat)))=some xs:=h;unfold asI at h;split at h
      ·split at h
       ·rename_i kd i hk;subst hk;obtain⟨hc,h⟩:=Za h;rw[Zrm]at hc;have h1:=of_decide_eq_true hc.1;have h2:=of_decide_eq_true hc.2;cases h;obtain⟨n,rfl⟩: ∃n:Nat,i=n:=⟨i.toNat,by omega⟩;exact Zm6 fu d' hf n (by unfold Yl;omega) l go r
       ·cases h
      ·cases h
    ·cases h
   ·cases h
end
end Go.Proofs.YtjmempcalaliiaaGreatDoor
/- Both programs' Compose of transposed steps, at any numbers. -/
namespace Go.Proofs.YtjmempcalaliiaaGreatDoor
open Go Go.PM Go.Grid
attribute [local congr] Zw Zx Zy Ye Zz Z0 Yf Yg Yh Yi Z1 Z2 Yj Y7 Y8 Y9 Xa Xb Xd Xe Xf Xg Xc Z4 Z5 Xh Z6 Z7 Zm Z8 Z3
section
variable (fu d:Nat) (hfu:18446744073709551616<=fu)
include hfu
end
end Go.Proofs.YtjmempcalaliiaaGreatDoor
/- Both programs' Sensitivity, at any numbers; Same of changes. -/
namespace Go.Proofs.YtjmempcalaliiaaGreatDoor
open Go Go.PM Go.Grid
attribute [local congr] Zw Zx Zy Ye Zz Z0 Yf Yg Yh Yi Z1 Z2 Yj Y7 Y8 Y9 Xa Xb Xd Xe Xf Xg Xc Z4 Z5 Xh Z6 Z7 Zm Z8 Z3
section
variable (fu d:Nat) (hfu:18446744073709551616<=fu)
include hfu
end
end Go.Proofs.YtjmempcalaliiaaGreatDoor
/- The example of chapter 32. -/
namespace Go.Proofs.YtjmempcalaliiaaGreatDoor
open Go Go.PM Go.Grid
attribute [local congr] Zw Zx Zy Ye Zz Z0 Yf Yg Yh Yi Z1 Z2 Yj Y7 Y8 Y9 Xa Xb Xd Xe Xf Xg Xc Z4 Z5 Xh Z6 Z7 Zm Z8 Z3
theorem Zno: ∀j,j<12->(List.replicate j (1:Int)++List.replicate (12-j) 0).set j 1=List.replicate (j+1) 1++List.replicate (12-(j+1)) 0:=by decide+kernel
theorem Zef: ∀j,j<13->(List.replicate j (1:Int)++List.replicate (12-j) 0).length=12:=by decide+kernel
section
variable (fu d:Nat) (hfu:18446744073709551616<=fu)
include hfu
theorem Zgr:cl fu (d+13) fn_synopticlaw32_awake [] []=OK (B true):=by
 have h1:(edg 1).length=30:=by kernel_rfl
 have h2:(Zf 1).length=12:=by kernel_rfl
 have v1:at0 (aDS 1 1 1 (Ys (Zf 1).length (edg 1)) (List.replicate 30 0) (List.replicate 12 1) (List.replicate 30 0) (edg 1) (edg 1).length) 5=120:=by kernel_rfl
 have v2:at0 (aFS 1 1 1 (List.replicate 30 0) (List.replicate 12 1) (List.replicate 30 0) (edg 1) (edg 1).length) 9=0:=by kernel_rfl
 have k1:=Ra 1 1 1 (Ys (Zf 1).length (edg 1)) (List.replicate 30 0) (List.replicate 12 1) (List.replicate 30 0) (edg 1) (edg 1).length;have k2:=Nk 1 1 1 (List.replicate 30 0) (List.replicate 12 1) (List.replicate 30 0) (edg 1) (edg 1).length;have ap:=Wj fu d hfu 1 (by unfold Yl;omega) 1 1 1 (by omega) (by omega) (by omega) (List.replicate 30 0) (List.replicate 12 1) (List.replicate 30 0) (by rw[h1];rfl) (by rw[h2];rfl) (by rw[h1];rfl) (λv hv=>by rw[Zt3 hv];omega) (λv hv=>by rw[Zt3 hv];omega) (λv hv=>by rw[Zt3 hv];omega);generalize aDS 1 1 1 (Ys (Zf 1).length (edg 1)) (List.replicate 30 0) (List.replicate 12 1) (List.replicate 30 0) (edg 1) (edg 1).length=X at*
 generalize aFS 1 1 1 (List.replicate 30 0) (List.replicate 12 1) (List.replicate 30 0) (edg 1) (edg 1).length=Y at*
 rw[h1]at ap k2;replace k1:X.length=12:=k1;replace ap:cl fu (d+12) fn_adjoint_Apply [V.agg [C.v (.int .i64 1),C.v (.int .i64 1),C.v (.int .i64 1)],I 1,V.c (C.sl 30 (ints (List.replicate 30 0))),V.agg [C.sl 12 (ints (List.replicate 12 1)),C.sl 30 (ints (List.replicate 30 0))]] []=OK (V.tup [V.agg [C.sl 12 (ints X),C.sl 30 (ints Y)],I 0]):=ap;have i1:=Yb X (i:=5) (by omega);have i2:=Yb Y (i:=9) (by omega);rw[v1]at i1;rw[v2]at i2;have hz:ints (List.replicate 30 0)=[C.v (.int .i64 0),C.v (.int .i64 0),C.v (.int .i64 0),C.v (.int .i64 0),C.v (.int .i64 0),C.v (.int .i64 0),C.v (.int .i64 0),C.v (.int .i64 0),C.v (.int .i64 0),C.v (.int .i64 0),C.v (.int .i64 0),C.v (.int .i64 0),C.v (.int .i64 0),C.v (.int .i64 0),C.v (.int .i64 0),C.v (.int .i64 0),C.v (.int .i64 0),C.v (.int .i64 0),C.v (.int .i64 0),C.v (.int .i64 0),C.v (.int .i64 0),C.v (.int .i64 0),C.v (.int .i64 0),C.v (.int .i64 0),C.v (.int .i64 0),C.v (.int .i64 0),C.v (.int .i64 0),C.v (.int .i64 0),C.v (.int .i64 0),C.v (.int .i64 0)]:=rfl;have hzl:(ints (List.replicate 30 0)).length=30:=rfl;have ho:List.take 12 (ints (List.replicate 12 1++List.replicate 0 0))=ints (List.replicate 12 1):=rfl;have hz3:List.take 30 (ints (List.replicate 30 0))=ints (List.replicate 30 0):=rfl;rw[eq_synopticlaw32_awake];rw[<-hz];generalize ints (List.replicate 30 0)=Z at*
 rw[Zs (λj:Nat=>(((j:Nat):Int),(ints (List.replicate j 1++List.replicate (12-j) 0),Z,()),())) 0 (((12:Nat):Int),(ints (List.replicate 12 1++List.replicate 0 0),Z,()),()) 12 ?_ ?_ ?_ (by omega)]
 ·have hol:(List.replicate 12 (1:Int)++List.replicate 0 0).length=12:=rfl;simp(disch:=omega)only[Zd,QM,QD,Zi,hol,hzl,hz3,ho,Zsf,Zr2,Zrp,ap,i1,i2,Zrr,Zru,Nat.reduceAdd]
 ·rfl
 ·intro j hj;have s1:=Zno j hj;have s2:=Zef j (by omega);have s3:=Zef (j+1) (by omega);have p1:=Ps (List.replicate j (1:Int)++List.replicate (12-j) 0) (i:=j) (by omega) 1;rw[s1]at p1;generalize List.replicate j (1:Int)++List.replicate (12-j) 0=A at*
  generalize List.replicate (j+1) (1:Int)++List.replicate (12-(j+1)) 0=A' at*
  simp(disch:=omega)only[Zd,QM,QD,Zi,s2,s3,hzl,Zrq,Zsf,Zr2,Zrp,p1];rfl
 ·have hol:(List.replicate 12 (1:Int)++List.replicate (12-12) 0).length=12:=rfl;simp(disch:=omega)only[Zd,QM,QD,Zi,hol,hzl,Zsf,Zr2]
end
end Go.Proofs.YtjmempcalaliiaaGreatDoor
/- AdjointExact answers true. -/
namespace Go.Proofs.YtjmempcalaliiaaGreatDoor
open Go Go.PM Go.Grid
attribute [local congr] Zw Zx Zy Ye Zz Z0 Yf Yg Yh Yi Z1 Z2 Yj Y7 Y8 Y9 Xa Xb Xd Xe Xf Xg Xc Z4 Z5 Xh Z6 Z7 Zm Z8 Z3
theorem Zbv (x:Int): -9223372036854775808<=IntKind.i64.wrap x/\IntKind.i64.wrap x<=9223372036854775807:=by simp only[IntKind.wrap_i64];omega
theorem Zph {a b c:Nat} {dg br gd gf:List Int} {E:List (Int×Int)} (hE: ∀e∈E,e.1.toNat<gd.length/\e.2.toNat<gd.length) (hg: ∀i,-1099511627776<=at0 gd i/\at0 gd i<=1099511627776):wid (-9223372036854775808) 9223372036854775807 (aDS a b c dg br gd gf E E.length):=
 F6 λk hk=>by
  rw[Zgo a b c dg br gd gf E hE hg E.length (Zry _) k hk];exact Zbv _
theorem Zpi {a b c:Nat} {br gd gf:List Int} {E:List (Int×Int)}:wid (-9223372036854775808) 9223372036854775807 (aFS a b c br gd gf E E.length):=
 F6 λk hk=>by
  rw[Nk]at hk;unfold aFS;rw[Qv _ _ hk];unfold aFl;split
  ·exact Zbv _
  ·exact Zbv _
section
variable (fu d:Nat) (hfu:18446744073709551616<=fu)
include hfu
set_option maxHeartbeats 4000000 in
theorem sp_AdjointExact (l:List Int) (hl: ∀x∈l,0<=x/\x<=255):cl fu (d+14) fn_synopticlaw32_AdjointExact [V.c (C.sl l.length (ik .u8 l))] []=OK (B true):=by
 have hA:=Zgr fu d hfu;have hb:=Zgi hl (k:=300) (by omega);have hN:=Zo6 fu (d+12) l 300;replace hN:cl fu (d+13) fn_synopticfield_New [V.c (C.sl l.length (ik .u8 l)),I 300] []=_:=hN;generalize l.take 300=bs at hb hN;obtain⟨n,j1,hn,hj1,c1⟩:=Zbm fu (d+10) hb (i:=0) (by omega);have h:=Zbn hn;obtain⟨a,b,c,j2,ha,hb',hc,hj2,c2⟩:=Zjz fu (d+10) hb hj1;obtain⟨br,j3,hbl,hbw,hj3,c3⟩:=Zj4 fu (d+3) hfu hb hj2 n h;obtain⟨v,j4,hv,hj4,c4⟩:=Vy fu (d+11) hb hj3 4 (by omega);replace c4:cl fu (d+13) fn_synopticfield_Codes_Next [V.ptr 1000000 0,I 4] _=_:=c4;obtain⟨m,r,hm,hdr⟩: ∃(m:Nat) (r:List C),m<=1099511627776/\List.drop v [C.v (.int .i64 9),C.v (.int .i64 1000),C.v (.int .i64 1048576),C.v (.int .i64 1099511627776)]=C.v (.int .i64 (m:Int))::r:=by
  rcases(show v=0\/v=1\/v=2\/v=3 by omega)with rfl|rfl|rfl|rfl
  ·exact⟨9,_,by omega,rfl⟩
  ·exact⟨1000,_,by omega,rfl⟩
  ·exact⟨1048576,_,by omega,rfl⟩
  ·exact⟨1099511627776,_,by omega,rfl⟩
 obtain⟨hd,hf,j5,h1,h2,h3,h4,hj5,c5⟩:=We fu (d+3) hfu hb hj4 n h m (by omega) 1099511627776 (by omega);obtain⟨gd,gf,j6,g1,g2,g3,g4,hj6,c6⟩:=We fu (d+3) hfu hb hj5 n h m (by omega) 1099511627776 (by omega);have heL:=R2 h;have hNl:=Qn h;have a1:=Zj5 fu (d+1) hfu n hn a b c ha hb' hc br hd hf hbl h1 h2 hbw 1099511627776 (by omega) h3 h4;have a2:=Wj fu (d+1) hfu n h a b c ha hb' hc br gd gf hbl g1 g2 hbw g3 g4;have bh:=Ru h3 (by omega);have bh':=Ru h4 (by omega);have bg:=Ru g3 (by omega);have B1:=Zpa (br:=br) ha.2 hb'.2 hc.2 hn (by omega) h1 bh bh';have F1:=λj=>Znd ha.2 hb'.2 hc.2 (E:=edg n) (by omega) bh bh' j;have D1:=Kq a b c (Ys (Zf n).length (edg n)) br hd hf (edg n);have D2:=Kp a b c hd hf (edg n) (edg n).length;have D3:=Ra a b c (Ys (Zf n).length (edg n)) br gd gf (edg n) (edg n).length;have D4:=Nk a b c br gd gf (edg n) (edg n).length;have W1:wid (-9223372036854775808) 9223372036854775807 (tDL a b c (Ys (Zf n).length (edg n)) br hd hf (edg n)):=S7 B1 (by omega) (by omega);have W2:wid (-9223372036854775808) 9223372036854775807 (tFL a b c hd hf (edg n) (edg n).length):=F6 λk hk=>by
  rw[D2]at hk;have:=F1 k;rw[Zrd a b c hd hf (edg n) hk];omega
 have W3:wid (-9223372036854775808) 9223372036854775807 (aDS a b c (Ys (Zf n).length (edg n)) br gd gf (edg n) (edg n).length):=Zph (λe he=>by have:=Mt h e he;omega) bg;have W4:wid (-9223372036854775808) 9223372036854775807 (aFS a b c br gd gf (edg n) (edg n).length):=Zpi;have V1:wid (-9223372036854775808) 9223372036854775807 hd:=S7 h3 (by omega) (by omega);have V2:wid (-9223372036854775808) 9223372036854775807 hf:=S7 h4 (by omega) (by omega);have V3:wid (-9223372036854775808) 9223372036854775807 gd:=S7 g3 (by omega) (by omega);have V4:wid (-9223372036854775808) 9223372036854775807 gf:=S7 g4 (by omega) (by omega);have key:=Zj6 a b c ha.2 hb'.2 hc.2 hn h1 h2 g1 g2 hbw g3 g4;generalize tDL a b c (Ys (Zf n).length (edg n)) br hd hf (edg n)=X1 at*
 generalize tFL a b c hd hf (edg n) (edg n).length=X2 at*
 generalize aDS a b c (Ys (Zf n).length (edg n)) br gd gf (edg n) (edg n).length=Y1 at*
 generalize aFS a b c br gd gf (edg n) (edg n).length=Y2 at*
 have k1:=Zht fu (d+8) hfu X1 X2 gd gf (by omega) (by omega) (by omega) (by omega) W1 W2 V3 V4;have k2:=Zht fu (d+8) hfu hd hf Y1 Y2 (by omega) (by omega) (by omega) (by omega) V1 V2 W3 W4;rw[key]at k1;rw[D1,D2]at k1;rw[D3,D4]at k2;unfold Y5 wdC at*
 rw[eq_synopticlaw32_AdjointExact];simp(disch:=omega)only[Zd,QM,QD,out0,Zfq,Zpu,hA,hN,c1,c2,c3,c4,c5,c6,hdr,a1,a2,k1,k2,Zrq,Zr2,beq_self_eq_true,Bool.and_self,Zrr,Zru,Zrp,Nat.reduceAdd]
end
end Go.Proofs.YtjmempcalaliiaaGreatDoor
