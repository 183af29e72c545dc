/- Parts put together: Fg, Fl, Fm, PPe, Fx. -/
import Derived.Test.YtdcdfjijhmbbpaaGreatDoorJ8
import Derived.Test.YtdcdfjijhmbbpaaGreatDoorJ7
import Derived.Deep.Slices
set_option linter.constructorNameAsVariable false
set_option linter.unusedSimpArgs false
set_option linter.unusedVariables false
/- FluxReverses and FluxLimits answer true. -/
namespace Go.Proofs.YtdcdfjijhmbbpaaGreatDoor
open Go Go.PM Go.Grid
attribute [local congr] hd_bind hd_need hd_cond hd_unc hd_uncV hd_uncO hd_unI hd_asI hd_asB hd_asS hd_asSl hd_asFn hd_asP hd_rC hd_rA hd_rT hd_rG hd_rP hd_rO hd_rN hd_rF hd_rS hd_rW hd_nilV hd_natD hd_bd hd_iter hd_over hd_sliceC hd_asMp hd_asYF
section
variable (fu d:Nat) (hf:18446744073709551616<=fu)
include hf
omit hf in
theorem edg1:(edg 1).length=30:=by kernel_rfl
omit hf in
theorem nodes1:(nodes 1).length=12:=by kernel_rfl
omit hf in
theorem am1:amL (List.replicate 12 10) (degS (nodes 1).length (edg 1)) (List.replicate 30 100) 1 (edg 1) (edg 1).length=List.replicate 30 2:=by kernel_rfl
omit hf in
theorem br1:brL (List.replicate 12 10) (degS (nodes 1).length (edg 1)) (List.replicate 30 100) 1 (edg 1) (edg 1).length=List.replicate 30 1:=by kernel_rfl
theorem sp_awake29:cl fu (d+13) fn_synopticlaw29_awake [] []=OK (B true):=by
 have eA:=sp_Amounts fu d hf 1 (by unfold freq;omega) (List.replicate 12 10) (List.replicate 30 100) (by rw [nodes1];rfl) (by rw [edg1];rfl) (wid_rep (by omega)) (wid_rep (by omega)) 1 1 1 (by omega) (by omega) (by omega);have eM:=sp_Mass fu (d+11) hf 1 (List.replicate 12 10) (C.sl 30 (ints (List.replicate 30 100))) (by rw [List.length_replicate];omega) (wid_rep (by omega));rw [am1,br1,edg1] at eA;rw [eq_synopticlaw29_awake];rw [iter_runx (fun j:Nat=>(((j:Nat):Int),((1:Int),([]:List C),ints (List.replicate j 100),()),())) 0 ((30:Int),((1:Int),([]:List C),ints (List.replicate 30 100),()),()) 30 ?_ ?_ ?_ (by omega)]
 rotate_left
 ·rfl
 ·intro j hj;have e1:ints (List.replicate j 100)++[C.v (.int .i64 100)]=ints (List.replicate (j+1) 100):=by rw [ints_snoc,List.replicate_succ']
  simp (disch:=omega) only [hdt_eq,QM,QD,ik_length,List.length_replicate,Nat.div_one,Nat.mul_one,e1,List.length_nil,List.length_append,List.length_cons,Nat.zero_add];rfl
 ·simp (disch:=omega) only [hdt_eq,QM,QD,ik_length,List.length_replicate,Nat.div_one,Nat.mul_one,List.length_nil];rfl
 simp (disch:=omega) only [hdt_eq,QM,QD,ik_length,List.length_replicate,Nat.div_one,Nat.mul_one,List.length_nil];rw [iter_runx (fun j:Nat=>(((j:Nat):Int),((1:Int),ints (List.replicate j 10),ints (List.replicate 30 100),()),())) 0 ((12:Int),((1:Int),ints (List.replicate 12 10),ints (List.replicate 30 100),()),()) 12 ?_ ?_ ?_ (by omega)]
 rotate_left
 ·rfl
 ·intro j hj;have e1:ints (List.replicate j 10)++[C.v (.int .i64 10)]=ints (List.replicate (j+1) 10):=by rw [ints_snoc,List.replicate_succ']
  simp (disch:=omega) only [hdt_eq,QM,QD,ik_length,List.length_replicate,Nat.div_one,Nat.mul_one,e1,List.length_nil,List.length_append,List.length_cons,Nat.zero_add];rfl
 ·simp (disch:=omega) only [hdt_eq,QM,QD,ik_length,List.length_replicate,Nat.div_one,Nat.mul_one,List.length_nil];rfl
 replace eA:cl fu (d+12) fn_flux_Amounts [V.agg [C.v (.int .i64 1),C.v (.int .i64 1),C.v (.int .i64 1)],V.agg [C.v (.int .i64 1),C.sl 12 (ints (List.replicate 12 10)),C.sl 30 (ints (List.replicate 30 100))]] []=OK (V.tup [V.c (C.sl 30 (ints (List.replicate 30 2))),V.c (C.sl 30 (ints (List.replicate 30 1))),I 0]):=eA;replace eM:cl fu (d+12) fn_flux_Mass [V.agg [C.v (.int .i64 1),C.sl 12 (ints (List.replicate 12 10)),C.sl 30 (ints (List.replicate 30 100))]] []=OK (I 120):=eM;have t1:List.take 12 (ints (List.replicate 12 10))=ints (List.replicate 12 10):=rfl;have t2:List.take 30 (ints (List.replicate 30 100))=ints (List.replicate 30 100):=rfl;have t3:List.drop 7 (ints (List.replicate 30 2))=C.v (.int .i64 2)::ints (List.replicate 22 2):=rfl;have t4:List.drop 7 (ints (List.replicate 30 1))=C.v (.int .i64 1)::ints (List.replicate 22 1):=rfl;simp (disch:=omega) only [hdt_eq,QM,QD,ik_length,List.length_replicate,Nat.div_one,Nat.mul_one,List.length_nil,t1,t2,eA,t3,t4,eM]
end
end Go.Proofs.YtdcdfjijhmbbpaaGreatDoor
/- FluxComputes answers true. -/
namespace Go.Proofs.YtdcdfjijhmbbpaaGreatDoor
open Go Go.PM Go.Grid
attribute [local congr] hd_bind hd_need hd_cond hd_unc hd_uncV hd_uncO hd_unI hd_asI hd_asB hd_asS hd_asSl hd_asFn hd_asP hd_rC hd_rA hd_rT hd_rG hd_rP hd_rO hd_rN hd_rF hd_rS hd_rW hd_nilV hd_natD hd_bd hd_iter hd_over hd_sliceC hd_asMp hd_asYF
theorem beqB (b:Bool):(b==b)=true:=by cases b<;>rfl
section
variable (fu d:Nat) (hf:18446744073709551616<=fu)
theorem sp_IntC {bs:List Int} (hb:bytes bs) {i:Nat} (hi:i<=1000): ∃(v:Int) (j:Nat),j<=1000/\cl fu (d+3) fn_synopticfield_Codes_Int [V.ptr 1000000 0] [codesO bs i]=some ⟨I v,[codesO bs j],none⟩:=by
 obtain ⟨v1,j1,hv1,hj1,e1⟩:=sp_Next fu d hb hi 4 (by omega);replace e1:cl fu (d+2) fn_synopticfield_Codes_Next [V.ptr 1000000 0,I 4] _=_:=e1;obtain ⟨v2,j2,hv2,hj2,e2⟩:=sp_Next fu d hb hj1 12 (by omega);replace e2:cl fu (d+2) fn_synopticfield_Codes_Next [V.ptr 1000000 0,I 12] _=_:=e2;obtain ⟨v3,j3,hv3,hj3,e3⟩:=sp_Next fu d hb hj1 256 (by omega);replace e3:cl fu (d+2) fn_synopticfield_Codes_Next [V.ptr 1000000 0,I 256] _=_:=e3;unfold codesO at*
 rw [eq_synopticfield_Codes_Int];by_cases q:v1=3
 ·subst q;obtain ⟨x,r,hx⟩: ∃(x:Int) (r:List C),List.drop v2 [C.v (.int .i64 9223372036854775807),C.v (.int .i64 (-9223372036854775808)),C.v (.int .i64 144115188075855872),C.v (.int .i64 144115188075855873),C.v (.int .i64 (-1)),C.v (.int .i64 4294967296),C.v (.int .i64 1048576),C.v (.int .i64 1048577),C.v (.int .i64 4194304),C.v (.int .i64 1000001),C.v (.int .i64 0),C.v (.int .i64 17)]=C.v (.int .i64 x)::r:=by
   rcases (show v2=0\/v2=1\/v2=2\/v2=3\/v2=4\/v2=5\/v2=6\/v2=7\/v2=8\/v2=9\/v2=10\/v2=11 by omega) with rfl|rfl|rfl|rfl|rfl|rfl|rfl|rfl|rfl|rfl|rfl|rfl<;>exact ⟨_,_,rfl⟩
  exact ⟨x,j2,hj2,by simp (disch:=omega) only [hdt_eq,QM,QD,e1,e2,List.length_cons,List.length_nil,Nat.zero_add,Nat.reduceAdd,Int.toNat_natCast,Nat.mul_one,hx]⟩
 ·exact ⟨(v3:Int)-60,j3,hj3,by simp (disch:=omega) only [hdt_eq,QM,QD,e1,e3,List.length_cons,List.length_nil,Nat.zero_add,Nat.reduceAdd]⟩
theorem sp_ModC (x:Int) (n:Nat) (hn:1<=n/\n<=1000000000000): ∃v:Nat,v<n/\cl fu (d+1) fn_synopticfield_Mod [I x,I (n:Int)] []=OK (I (v:Int)):=by
 rw [eq_synopticfield_Mod];have h1:Int.tmod x n=x-n*Int.tdiv x n:=by have:=Int.tmod_add_mul_tdiv x n;omega
 have h2: -(n:Int)<Int.tmod x n/\Int.tmod x n<n:=by
  have:=Int.tmod_lt_of_pos x (by omega:(0:Int)<n);have:=Int.lt_tmod_of_pos x (by omega:(0:Int)<n);omega
 generalize Int.tmod x n=q at*
 by_cases h0:q<0
 ·refine ⟨(q+n).toNat,by omega, ?_⟩;rw [Int.toNat_of_nonneg (by omega)];simp (disch:=omega) only [hdt_eq,QM,QD]
 ·refine ⟨q.toNat,by omega, ?_⟩;rw [Int.toNat_of_nonneg (by omega)];simp (disch:=omega) only [hdt_eq,QM,QD]
set_option maxHeartbeats 4000000 in
theorem sp_SpoilState {bs:List Int} (hb:bytes bs) {i:Nat} (hi:i<=1000) (n:Nat) (dp fw:List Int) (l1:dp.length<=20000) (l2:fw.length<=20000):
  ∃(n':Int) (c1 c2:C) (dp' fw':List Int) (j:Nat),isL c1 dp'/\isL c2 fw'/\dp'.length<=30000/\fw'.length<=30000/\j<=1000/\cl fu (d+4) fn_synopticfield_Codes_SpoilState [V.ptr 1000000 0,V.agg (stC n dp fw)] [codesO bs i]=some ⟨V.agg [C.v (.int .i64 n'),c1,c2],[codesO bs j],none⟩:=by
 obtain ⟨v1,j1,hv1,hj1,e1⟩:=sp_Next fu (d+1) hb hi 5 (by omega);replace e1:cl fu (d+3) fn_synopticfield_Codes_Next [V.ptr 1000000 0,I 5] _=_:=e1;have htk1:List.take dp.length (ints dp)=ints dp:=List.take_of_length_le (by rw [ik_length];exact Nat.le_refl _);have htk2:List.take fw.length (ints fw)=ints fw:=List.take_of_length_le (by rw [ik_length];exact Nat.le_refl _);unfold codesO stC at*
 rw [eq_synopticfield_Codes_SpoilState];rcases (show v1=0\/v1=1\/v1=2\/v1=3\/v1=4 by omega) with rfl|rfl|rfl|rfl|rfl
 ·obtain ⟨v,j2,hj2,e2⟩:=sp_IntC fu d hb hj1;unfold codesO at e2;exact ⟨v,_,_,dp,fw,j2,isL_sl dp,isL_sl fw,by omega,by omega,hj2,by simp (disch:=omega) only [hdt_eq,QM,QD,e1,e2,ik_length,List.length_cons,List.length_nil,Nat.zero_add,Nat.reduceAdd,Nat.mul_one,htk1,htk2]⟩
 ·by_cases h0:0<dp.length
  ·obtain ⟨v2,j2,hv2,hj2,e2⟩:=sp_Next fu (d+1) hb hj1 dp.length (by omega);obtain ⟨v3,j3,hj3,e3⟩:=sp_IntC fu d hb hj2;obtain ⟨v4,j4,hv4,hj4,e4⟩:=sp_Next fu (d+1) hb hj3 4 (by omega);replace e2:cl fu (d+3) fn_synopticfield_Codes_Next _ _=_:=e2;replace e4:cl fu (d+3) fn_synopticfield_Codes_Next [V.ptr 1000000 0,I 4] _=_:=e4;obtain ⟨x,r,hx⟩: ∃(x:Int) (r:List C),List.drop v4 [C.v (.int .i64 (-1)),C.v (.int .i64 16777216),C.v (.int .i64 16777217),C.v (.int .i64 v3)]=C.v (.int .i64 x)::r:=by
    rcases (show v4=0\/v4=1\/v4=2\/v4=3 by omega) with rfl|rfl|rfl|rfl<;>exact ⟨_,_,rfl⟩
   have hp:=ints_put dp hv2 x;have hs:=isL_sl (dp.set v2 x);rw [List.length_set] at hs;have hls:(ints (dp.set v2 x)).length=dp.length:=by rw [ik_length,List.length_set]
   have htk3:List.take dp.length (ints (dp.set v2 x))=ints (dp.set v2 x):=List.take_of_length_le (by rw [hls];exact Nat.le_refl _);unfold codesO at e2 e3 e4;exact ⟨(n:Int),_,_,dp.set v2 x,fw,j4,hs,isL_sl fw,by rw [List.length_set];omega,by omega,hj4,by simp (disch:=omega) only [hdt_eq,QM,QD,e1,e2,e3,e4,ik_length,List.length_cons,List.length_nil,Nat.zero_add,Nat.reduceAdd,Nat.mul_one,Int.toNat_natCast,hx,hp,hls,htk3,htk2]⟩
  ·exact ⟨(n:Int),_,_,dp,fw,j1,isL_sl dp,isL_sl fw,by omega,by omega,hj1,by simp (disch:=omega) only [hdt_eq,QM,QD,e1,ik_length,List.length_cons,List.length_nil,Nat.zero_add,Nat.reduceAdd,Nat.mul_one,htk1,htk2]⟩
 ·by_cases h0:0<fw.length
  ·obtain ⟨v2,j2,hv2,hj2,e2⟩:=sp_Next fu (d+1) hb hj1 fw.length (by omega);obtain ⟨v3,j3,hj3,e3⟩:=sp_IntC fu d hb hj2;obtain ⟨v4,j4,hv4,hj4,e4⟩:=sp_Next fu (d+1) hb hj3 4 (by omega);replace e2:cl fu (d+3) fn_synopticfield_Codes_Next _ _=_:=e2;replace e4:cl fu (d+3) fn_synopticfield_Codes_Next [V.ptr 1000000 0,I 4] _=_:=e4;obtain ⟨x,r,hx⟩: ∃(x:Int) (r:List C),List.drop v4 [C.v (.int .i64 16777216),C.v (.int .i64 16777217),C.v (.int .i64 (-16777217)),C.v (.int .i64 v3)]=C.v (.int .i64 x)::r:=by
    rcases (show v4=0\/v4=1\/v4=2\/v4=3 by omega) with rfl|rfl|rfl|rfl<;>exact ⟨_,_,rfl⟩
   have hp:=ints_put fw hv2 x;have hs:=isL_sl (fw.set v2 x);rw [List.length_set] at hs;have hls:(ints (fw.set v2 x)).length=fw.length:=by rw [ik_length,List.length_set]
   have htk3:List.take fw.length (ints (fw.set v2 x))=ints (fw.set v2 x):=List.take_of_length_le (by rw [hls];exact Nat.le_refl _);unfold codesO at e2 e3 e4;exact ⟨(n:Int),_,_,dp,fw.set v2 x,j4,isL_sl dp,hs,by omega,by rw [List.length_set];omega,hj4,by simp (disch:=omega) only [hdt_eq,QM,QD,e1,e2,e3,e4,ik_length,List.length_cons,List.length_nil,Nat.zero_add,Nat.reduceAdd,Nat.mul_one,Int.toNat_natCast,hx,hp,hls,htk3,htk1]⟩
  ·exact ⟨(n:Int),_,_,dp,fw,j1,isL_sl dp,isL_sl fw,by omega,by omega,hj1,by simp (disch:=omega) only [hdt_eq,QM,QD,e1,ik_length,List.length_cons,List.length_nil,Nat.zero_add,Nat.reduceAdd,Nat.mul_one,htk1,htk2]⟩
 ·have hs:=isL_sl (dp++[0]);have hls:(dp++[(0:Int)]).length=dp.length+1:=by simp
  rw [hls] at hs;have htk3:List.take (dp.length+1) (ints (dp++[0]))=ints (dp++[0]):=List.take_of_length_le (by rw [ik_length,hls];exact Nat.le_refl _);have hl3:(ints (dp++[0])).length=dp.length+1:=by rw [ik_length,hls]
  exact ⟨(n:Int),_,_,dp++[0],fw,j1,hs,isL_sl fw,by rw [hls];omega,by omega,hj1,by simp (disch:=omega) only [hdt_eq,QM,QD,e1,ik_length,ints_snoc,List.length_cons,List.length_nil,Nat.zero_add,Nat.reduceAdd,Nat.mul_one,hl3,htk3,htk2]⟩
 ·exact ⟨(n:Int),_,_,dp,[],j1,isL_sl dp,isL_nl,by omega,by simp,hj1,by simp (disch:=omega) only [hdt_eq,QM,QD,e1,ik_length,List.length_cons,List.length_nil,Nat.zero_add,Nat.reduceAdd,Nat.mul_one,htk1]⟩
end
end Go.Proofs.YtdcdfjijhmbbpaaGreatDoor
/- FluxComputes answers true: at any state, scheme, frequency. -/
namespace Go.Proofs.YtdcdfjijhmbbpaaGreatDoor
open Go Go.PM Go.Grid
attribute [local congr] hd_bind hd_need hd_cond hd_unc hd_uncV hd_uncO hd_unI hd_asI hd_asB hd_asS hd_asSl hd_asFn hd_asP hd_rC hd_rA hd_rT hd_rG hd_rP hd_rO hd_rN hd_rF hd_rS hd_rW hd_nilV hd_natD hd_bd hd_iter hd_over hd_sliceC hd_asMp hd_asYF
section
variable (fu d:Nat) (hf:18446744073709551616<=fu)
include hf
theorem sp_Mass29 (n:Int) (l:List Int) (c:C) (hl:l.length<=1000000) (hw:wid (-16777216) 16777216 l):cl fu (d+1) fn_synopticref29_Mass [V.agg [C.v (.int .i64 n),C.sl l.length (ints l),c]] []=OK (I l.sum):=by
 rw [eq_synopticref29_Mass];rw [iter_runx (fun j:Nat=>((l.take j).sum,((j:Nat):Int),())) 0 (l.sum,((l.length:Nat):Int),()) l.length ?_ ?_ ?_ (by omega)]
 ·simp (disch:=omega) only [hdt_eq,QM,QD]
 ·rfl
 ·intro j hj;have hia:=ints_at l hj;have hs:(l.take (j+1)).sum=(l.take j).sum+l[j]:=by rw [List.take_succ_eq_append_getElem hj,List.sum_append];simp
  have hb:=sum_wid (l:=l.take j) (fun v hv=>hw v (List.mem_of_mem_take hv));have hx:=wid_at hw hj;rw [List.length_take,Nat.min_eq_left (by omega)] at hb;rw [hs];generalize (l.take j).sum=S at*
  generalize l[j]=x at*
  simp (disch:=omega) only [hdt_eq,QM,QD,Int.toNat_natCast,Nat.mul_one,hia];rfl
 ·rw [List.take_length];simp (disch:=omega) only [hdt_eq,QM,QD]
theorem both_Check (n:Int) {c1 c2:C} {dp fw:List Int} (h1:isL c1 dp) (h2:isL c2 fw) (l1:dp.length<=1000000) (l2:fw.length<=1000000):
  ∃e:Int,cl fu (d+10) fn_flux_Check [V.agg [C.v (.int .i64 n),c1,c2]] []=OK (I e)/\cl fu (d+10) fn_synopticref29_Check [V.agg [C.v (.int .i64 n),c1,c2]] []=OK (I e):=by
 have e2:=sp_CheckG fu d hf n h1 h2 l1 l2;have f2:=sp_refCheckG fu d hf n h1 h2 l1 l2;by_cases hst:isSt n dp fw
 ·exact ⟨0,e2.1 hst,f2.1 hst⟩
 ·exact ⟨1,e2.2 hst,f2.2 hst⟩
set_option maxHeartbeats 16000000 in
theorem sp_FluxComputes (l:List Int) (hl: ∀x∈l,0<=x/\x<=255) (rn:Int) {r1 r2:C} {rd rf:List Int} (hr1:isL r1 rd) (hr2:isL r2 rf) (sa sb sc fr:Int):
  cl fu (d+14) fn_synopticlaw29_FluxComputes [V.c (C.sl l.length (ik .u8 l)),V.agg [C.v (.int .i64 rn),r1,r2],V.agg (scC sa sb sc),I fr] []=OK (B true):=by
 have hA:=sp_awake29 fu d hf;unfold scC;rw [eq_synopticlaw29_FluxComputes];simp (disch:=omega) only [hdt_eq,QM,QD,hA];rw [hr1.2];by_cases g1:rd.length>700
 ·simp (disch:=omega) only [hdt_eq,QM,QD]
 simp (disch:=omega) only [hdt_eq,QM,QD];rw [hr2.2];by_cases g2:rf.length>2000
 ·simp (disch:=omega) only [hdt_eq,QM,QD]
 simp (disch:=omega) only [hdt_eq,QM,QD];have hb:=bytes_take hl (k:=240) (by omega);have hN:=sp_NewC fu (d+12) l 240;replace hN:cl fu (d+13) fn_synopticfield_New [V.c (C.sl l.length (ik .u8 l)),I 240] []=_:=hN;generalize l.take 240=bs at hb hN;obtain ⟨n,j1,hn,hj1,c1⟩:=sp_Frequency fu (d+10) hb (i:=0) (by omega);have h:=freq_12 hn;obtain ⟨dp,fw,j2,ok,hj2,c2⟩:=sp_State fu (d+3) hf hb hj1 n h;obtain ⟨a,b,c,j3,ha,hb',hc,hj3,c3⟩:=sp_Scheme fu (d+10) hb hj2;have heL:=edg_le h;have hNl:=nodes_le h;have hv:=ok.vst;have hfl:=hv.fl;have hdl:=hv.dl;obtain ⟨bn,b1,b2,bd,bf,j4,hb1,hb2,lb1,lb2,hj4,c4⟩:=sp_SpoilState fu (d+9) hb hj3 n dp fw (by omega) (by omega);have hdw:=wid_mono hv.dw (lo':= -16777216) (hi':=16777216) (by omega) (by omega);have m1:=sp_Mass fu (d+12) hf n dp (C.sl fw.length (ints fw)) (by omega) hdw;have m2:=sp_Mass29 fu (d+12) hf n dp (C.sl fw.length (ints fw)) (by omega) hdw;obtain ⟨fm,hfm,eM⟩:=sp_ModC fu (d+12) fr 4 (by omega);replace eM:cl fu (d+13) fn_synopticfield_Mod [I fr,I 4] []=_:=eM;have hInts:=fun (x:List Int) (hx:x.length<=1000000)=>sp_Ints fu (d+12) hf x x hx hx;have hch: ∀j,j<3 -> ∃(yn:Int) (y1 y2:C) (yd yf:List Int) (r:List C),List.drop (j*3) [C.v (.int .i64 rn),r1,r2,C.v (.int .i64 (n:Int)),C.sl dp.length (ints dp),C.sl fw.length (ints fw),C.v (.int .i64 bn),b1,b2]=C.v (.int .i64 yn)::y1::y2::r/\isL y1 yd/\isL y2 yf/\yd.length<=1000000/\yf.length<=1000000:=by
  intro j hj;rcases (show j=0\/j=1\/j=2 by omega) with rfl|rfl|rfl
  ·exact ⟨rn,r1,r2,rd,rf,_,rfl,hr1,hr2,by omega,by omega⟩
  ·exact ⟨n,_,_,dp,fw,_,rfl,isL_sl dp,isL_sl fw,by omega,by omega⟩
  ·exact ⟨bn,b1,b2,bd,bf,_,rfl,hb1,hb2,by omega,by omega⟩
 have hsch: ∀k,k<2 -> ∃(p q r:Int) (t:List C),List.drop (k*3) [C.v (.int .i64 sa),C.v (.int .i64 sb),C.v (.int .i64 sc),C.v (.int .i64 (a:Int)),C.v (.int .i64 (b:Int)),C.v (.int .i64 (c:Int))]=C.v (.int .i64 p)::C.v (.int .i64 q)::C.v (.int .i64 r)::t:=by
  intro k hk;rcases (show k=0\/k=1 by omega) with rfl|rfl
  ·exact ⟨_,_,_,_,rfl⟩
  ·exact ⟨_,_,_,_,rfl⟩
 have hvec: ∀i,i<=1000 -> ∃(am:List Int) (t:List C) (v j k:Nat) (m:Nat),am.length=fw.length/\j<=1000/\v<4/\List.drop v [C.v (.int .i64 1),C.v (.int .i64 20),C.v (.int .i64 16777216),C.v (.int .i64 16777217)]=C.v (.int .i64 (m:Int))::t/\cl fu (d+13) fn_synopticfield_Codes_Next [V.ptr 1000000 0,I 4] [codesO bs i]=some ⟨I v,[codesO bs k],none⟩/\cl fu (d+13) fn_synopticfield_Codes_Vector [V.ptr 1000000 0,I ((fw.length:Nat):Int),I (m:Int)] [codesO bs k]=some ⟨V.c (C.sl am.length (ints am)),[codesO bs j],none⟩:=by
  intro i hi;obtain ⟨v,k,hv,hk,e1⟩:=sp_Next fu (d+11) hb hi 4 (by omega);obtain ⟨m,t,hm,hd⟩: ∃(m:Nat) (t:List C),m<=16777217/\List.drop v [C.v (.int .i64 1),C.v (.int .i64 20),C.v (.int .i64 16777216),C.v (.int .i64 16777217)]=C.v (.int .i64 (m:Int))::t:=by
   rcases (show v=0\/v=1\/v=2\/v=3 by omega) with rfl|rfl|rfl|rfl
   ·exact ⟨1,_,by omega,rfl⟩
   ·exact ⟨20,_,by omega,rfl⟩
   ·exact ⟨16777216,_,by omega,rfl⟩
   ·exact ⟨16777217,_,by omega,rfl⟩
  obtain ⟨am,j,hl,_,hj,e2⟩:=sp_Vector fu (d+9) hf hb hk fw.length m (by omega) (by omega) 16777217 (by omega);exact ⟨am,t,v,j,k,m,hl,hj,hv,hd,e1,e2⟩
 unfold codesO stC at*
 simp (disch:=omega) only [hdt_eq,QM,QD,out0,rP_ptr,rN_ob,hN,c1,c2,c3,c4,List.length_cons,List.length_nil,Nat.zero_add,Nat.reduceAdd];refine iter_bind_meas (A:=Bool×Int×(C×Int×Unit)×Unit) (B:=Out) (fu:=fu) (fun o=>o=OK (B true))
  (fun y=> ∃(j i:Nat),j<=3/\i<=1000/\y=(false,(j:Int),(C.sl bs.length (ik .u8 bs),(i:Int),()),())) (fun y=>3-y.2.1.toNat) (fun e y=>e=0/\ ∃i:Nat,y=(false,3,(C.sl bs.length (ik .u8 bs),(i:Int),()),())) ?_ ?_ ?_ ?_
 ·exact ⟨0,j4,by omega,hj4,rfl⟩
 ·show 3-_<fu;omega
 ·rintro y ⟨j,i,hj,hi,rfl⟩
  by_cases hlt:j<3
  ·obtain ⟨yn,y1,y2,yd,yf,r,hdr,hy1,hy2,ly1,ly2⟩:=hch j hlt;obtain ⟨e,k1,k2⟩:=both_Check fu (d+3) hf yn hy1 hy2 ly1 ly2;have s1:=sp_SameF fu (d+11) hf yn yn y1 y2 y1 y2 hy1 hy2 hy1 hy2 ly1 ly2 ly1 ly2;rw [decide_eq_true (⟨rfl,rfl,rfl⟩:yn=yn/\yd=yd/\yf=yf)] at s1;have s2:=sp_SameF fu (d+11) hf yn n y1 y2 _ _ hy1 hy2 (isL_sl dp) (isL_sl fw) ly1 ly2 (by omega) (by omega);have s3:=sp_Same29 fu (d+11) hf yn n y1 y2 _ _ hy1 hy2 (isL_sl dp) (isL_sl fw) ly1 ly2 (by omega) (by omega);obtain ⟨am,t,v,j5,k,m,hal,hj5,hv4,hdv,e1,e2⟩:=hvec i hi;obtain ⟨n',A,B',A',B'',la,lb,e',mv1,mv2,q1,q2,q3,q4,q5,q6⟩:=both_Move fu (d+1) hf yn hy1 hy2 ly1 ly2 am (by omega);have s4:=sp_Same29 fu (d+11) hf n' n' _ _ _ _ q1 q3 q2 q4 q5 q6 q5 q6;rw [decide_eq_true (⟨rfl,rfl,rfl⟩:n'=n'/\la=la/\lb=lb)] at s4;refine .inl ⟨(false,((j+1:Nat):Int),(C.sl bs.length (ik .u8 bs),(j5:Int),()),()), ?_,⟨j+1,j5,by omega,hj5,rfl⟩, ?_⟩
   ·simp (disch:=omega) only [hdt_eq,QM,QD,Int.toNat_natCast,hdr,k1,k2,s1,s2,s3,beqB];rw [iter_runx (fun k:Nat=>(false,((k:Nat):Int),(yn,y1,y2,()),(C.sl bs.length (ik .u8 bs),(i:Int),()),())) 0 (false,((2:Nat):Int),(yn,y1,y2,()),(C.sl bs.length (ik .u8 bs),(i:Int),()),()) 2 ?_ ?_ ?_ (by omega)]
    ·simp (disch:=omega) only [hdt_eq,QM,QD,e1,List.length_cons,List.length_nil,Nat.zero_add,Nat.reduceAdd,Int.toNat_natCast,Nat.mul_one,hdv,e2,mv1,mv2,s4];rfl
    ·rfl
    ·intro k hk;obtain ⟨p,q,r,t,hds⟩:=hsch k hk;obtain ⟨A,B',A',B'',la,lb,e',am1,am2,q1,q2,q3,q4,q5,q6⟩:=both_Amounts fu (d+1) hf p q r yn hy1 hy2 ly1 ly2;have x1:=sp_CheckSchemeG fu (d+7) hf p q r;have x2:=sp_refScheme fu (d+12) hf p q r;have i1:=hInts la q5;have i2:=hInts lb q6;rw [decide_eq_true rfl] at i1 i2;unfold scC at*
     simp (disch:=omega) only [hdt_eq,QM,QD,Int.toNat_natCast,hds,am1,am2,q1.1,q2.1,q3.1,q4.1,i1,i2,x1,x2];rfl
    ·simp (disch:=omega) only [hdt_eq,QM,QD]
   ·show 3-((j+1:Nat):Int).toNat<3-((j:Nat):Int).toNat;omega
  ·obtain rfl:j=3:=by omega
   refine .inr ⟨0,_, ?_,rfl,i,rfl⟩;simp (disch:=omega) only [hdt_eq,QM,QD];rfl
 ·rintro e z ⟨rfl,i,rfl⟩
  have hfr: ∀k,k<2 -> ∃(p:Int) (t:List C),List.drop k [C.v (.int .i64 fr),C.v (.int .i64 (fm:Int))]=C.v (.int .i64 p)::t:=by
   intro k hk;rcases (show k=0\/k=1 by omega) with rfl|rfl
   ·exact ⟨_,_,rfl⟩
   ·exact ⟨_,_,rfl⟩
  simp (disch:=omega) only [hdt_eq,QM,QD,eM];rw [iter_runx (fun k:Nat=>(false,((k:Nat):Int),())) 0 (false,((2:Nat):Int),()) 2 ?_ ?_ ?_ (by omega)]
  ·simp (disch:=omega) only [hdt_eq,QM,QD,m1,m2]
  ·rfl
  ·intro k hk;obtain ⟨p,t,hdp⟩:=hfr k hk;obtain ⟨A,A',la,e',g1,g2,q1,q2,q3⟩:=both_Degrees fu (d+2) hf p;have i1:=hInts la q3;rw [decide_eq_true rfl] at i1;simp (disch:=omega) only [hdt_eq,QM,QD,Int.toNat_natCast,Nat.mul_one,hdp,g1,g2,q1.1,q2.1,i1];rfl
  ·simp (disch:=omega) only [hdt_eq,QM,QD]
end
end Go.Proofs.YtdcdfjijhmbbpaaGreatDoor
/- Data that came in, read as cells by their types. -/
namespace Go.PM
open Go
def tileT (P:Program) (r:TypeId ->Option (List TypeId)):List Field ->Nat ->Option (List TypeId)
 | [],_=>some []
 |f::fs,off=>if f.offset=off then (r f.type).bind fun l=>if l.length=P.cellsOf f.type then (tileT P r fs (off+l.length)).map (l++ ·) else none else none
def leafT (P:Program):Nat ->TypeId ->Option (List TypeId)
 |0,_=>none
 |d+1,t=>match P.underlying t with
  |some (.struct fs)=>(tileT P (leafT P d) fs.toList 0).bind fun l=>if l.length=P.cellsOf t then some l else none
  |some (.array n e)=>(leafT P d e).bind fun l=>if l.length=P.cellsOf e/\n*l.length=P.cellsOf t then some (List.replicate n l).flatten else none
  |_=>some [t]
section
variable {H:Type} {enc:TypeId×Value ->H} {P:Program} {w:World} {base:Nat} {spare:Nat ->Bool} {held:Bool}
def Leaves (enc:TypeId×Value ->H) (P:Program) (w:World) (base:Nat) (spare:Nat ->Bool) (held:Bool) (ls:List TypeId) (cs:List Value):Prop:=
 cs.length=ls.length/\ ∀(i:Nat) (l:TypeId) (u:Value),ls[i]? =some l ->cs[i]? =some u -> ∃fuel x,DataW.trod enc P w base spare held fuel l [u]=some x
theorem Leaves.append {a b:List TypeId} {x y:List Value} (h:Leaves enc P w base spare held a x) (h':Leaves enc P w base spare held b y):Leaves enc P w base spare held (a++b) (x++y):=by
 refine ⟨by simp [h.1,h'.1],fun i l u hl hu=> ?_⟩;by_cases hi:i<a.length
 ·rw [List.getElem?_append_left hi] at hl;rw [List.getElem?_append_left (by rw [h.1];exact hi)] at hu;exact h.2 i l u hl hu
 ·rw [List.getElem?_append_right (by omega)] at hl;rw [List.getElem?_append_right (by rw [h.1];omega),h.1] at hu;exact h'.2 _ l u hl hu
theorem mapM_all {A B:Type} {f:A ->Option B}: ∀{l:List A} {r:List B},l.mapM f=some r -> ∀a∈l,∃b,f a=some b
 | [],_,_,a,ha=>by cases ha
 |x::l,r,h,a,ha=>by
  rw [List.mapM_cons] at h;obtain ⟨b,h1,h⟩:=Option.bind_eq_some_iff.1 h;obtain ⟨bs,h2,_⟩:=Option.bind_eq_some_iff.1 h;rcases List.mem_cons.1 ha with rfl|ha
  ·exact ⟨b,h1⟩
  ·exact mapM_all h2 a ha
theorem tile_leaves {r:TypeId ->Option (List TypeId)} {cs:List Value} (hr: ∀t l,r t=some l -> ∀fuel vs x,DataW.trod enc P w base spare held fuel t vs=some x ->Leaves enc P w base spare held l vs) {n:Nat}: ∀(fs:List Field) (off:Nat) (ls:List TypeId),tileT P r fs off=some ls ->off+ls.length<=cs.length ->
  (∀f∈fs,∃x,DataW.trod enc P w base spare held n f.type ((cs.drop f.offset).take (P.cellsOf f.type))=some x)->Leaves enc P w base spare held ls ((cs.drop off).take ls.length)
 | [],off,ls,h,_,_=>by
  injection h with h
  subst h;exact ⟨by simp,fun i l u hl _=>by simp at hl⟩
 |f::fs,off,ls,h,hlen,hall=>by
  unfold tileT at h;split at h
  ·rename_i ho;obtain ⟨l,h1,h⟩:=Option.bind_eq_some_iff.1 h;split at h
   ·rename_i hl;obtain ⟨ls',h2,rfl⟩:=Option.map_eq_some_iff.1 h;obtain ⟨x,hx⟩:=hall f (by simp);have a1:=hr _ _ h1 _ _ _ hx;rw [List.length_append] at hlen;have a2:=tile_leaves hr fs (off+l.length) ls' h2 (by omega) fun g hg=>hall g (List.mem_cons_of_mem _ hg);rw [ho,<-hl] at a1;have e:(cs.drop off).take (l++ls').length=(cs.drop off).take l.length++(cs.drop (off+l.length)).take ls'.length:=by
     rw [List.length_append,List.take_add,List.drop_drop]
    rw [e];exact a1.append a2
   ·cases h
  ·cases h
theorem array_leaves {l:List TypeId} {m:Nat} (hl:l.length=m) {cs:List Value}: ∀(n:Nat),n*m<=cs.length ->(∀i,i<n ->Leaves enc P w base spare held l ((cs.drop (i*m)).take m))->Leaves enc P w base spare held (List.replicate n l).flatten (cs.take (n*m))
 |0,_,_=>⟨by simp,fun i l u hl _=>by simp at hl⟩
 |n+1,h,hall=>by
  have ih:=array_leaves hl n (by rw [Nat.succ_mul] at h;omega) fun i hi=>hall i (by omega);have h1:=hall n (by omega);rw [List.replicate_succ',List.flatten_concat,Nat.succ_mul,List.take_add];exact ih.append h1
theorem leaf_trod: ∀(d:Nat) (t:TypeId) (ls:List TypeId),leafT P d t=some ls -> ∀fuel cs x,DataW.trod enc P w base spare held fuel t cs=some x ->Leaves enc P w base spare held ls cs
 |0,t,ls,h=>by cases h
 |d+1,t,ls,h=>by
  intro fuel cs x hx;cases fuel with
  |zero=>cases hx
  |succ n=>
  rw [DataW.trod_step] at hx;unfold leafT at h;split at h
  ·rename_i fs ht;obtain ⟨l,h1,h⟩:=Option.bind_eq_some_iff.1 h;split at h
   ·rename_i hl;injection h with h
    subst h;simp only [DataW.trodStep,ht] at hx;split at hx
    ·rename_i hc;obtain ⟨xs,hm,_⟩:=Option.map_eq_some_iff.1 hx;have:=tile_leaves (cs:=cs) (fun t l hr=>leaf_trod d t l hr) fs.toList 0 l h1 (by omega) (mapM_all hm);rw [List.drop_zero,List.take_of_length_le (by omega)] at this;exact this
    ·cases hx
   ·cases h
  ·rename_i m e ht;obtain ⟨l,h1,h⟩:=Option.bind_eq_some_iff.1 h;split at h
   ·rename_i hl;injection h with h
    subst h;simp only [DataW.trodStep,ht] at hx;split at hx
    ·rename_i hc;obtain ⟨xs,hm,_⟩:=Option.map_eq_some_iff.1 hx;have:=array_leaves (enc:=enc) (P:=P) (w:=w) (base:=base) (spare:=spare) (held:=held) hl.1 (cs:=cs) m (by rw [<-hl.1];omega) fun i hi=>by
      obtain ⟨y,hy⟩:=mapM_all hm i (List.mem_range.2 hi);exact leaf_trod d e l h1 _ _ _ hy
     rw [List.take_of_length_le (by rw [<-hl.1];omega)] at this;exact this
    ·cases hx
   ·cases h
  ·rename_i hne1 hne2;injection h with h
   subst h;have h1: ∃u,cs=[u]:=by
    unfold DataW.trodStep at hx;split at hx<;>first|exact ⟨_,rfl⟩|(rename_i ht;exact absurd ht (hne1 _))|(rename_i ht;exact absurd ht (hne2 _ _))|cases hx
   obtain ⟨u,rfl⟩:=h1;refine ⟨rfl,fun i l v hl hv=> ?_⟩;cases i with
   |zero=>
    simp at hl hv;subst hl hv;exact ⟨n+1,x,by rw [DataW.trod_step];exact hx⟩
   |succ i=>simp at hl
end
def FitC (P:Program):Nat ->TypeId ->C ->Prop
 |0,_,_=>False
 |d+1,t,c=>match P.underlying t with
  |some .bool=> ∃b,c= .v (.bool b)
  |some (.int k)=> ∃z,c= .v (.int k z)/\(Lit.int k z).wf=true
  |some .string=> ∃s:ByteArray,c= .v (.string s)/\s.size<=maxLen
  |some (.slice e)=>c= .nl\/ ∃(ls:List TypeId) (n:Nat) (cs:List C),c= .sl n cs/\leafT P d e=some ls/\n<=maxLen/\cs.length=n*ls.length/\ ∀(i j:Nat) (l:TypeId),i<n ->ls[j]? =some l -> ∃y,cs[i*ls.length+j]? =some y/\FitC P d l y
  |_=>False
def okT (P:Program):Nat ->TypeId ->Bool
 |0,_=>false
 |d+1,t=>match P.underlying t with
  |some .bool=>true
  |some (.int _)=>true
  |some .string=>true
  |some (.slice e)=>match leafT P d e with
   |some ls=>Nat.beq ls.length (P.cellsOf e)&&Nat.blt 0 ls.length&&ls.all (okT P d)
   |none=>false
  |_=>false
section
variable {H:Type} {enc:TypeId×Value ->H} {P:Program} {w:World} {base:Nat} {spare:Nat ->Bool} {held:Bool}
theorem fit_rc: ∀(d:Nat) (t:TypeId),okT P d t=true -> ∀fuel u x,DataW.trod enc P w base spare held fuel t [u]=some x -> ∃c,RC w (fun b _=>b<w.heap.size) c u/\FitC P d t c
 |0,t,h=>by cases h
 |d+1,t,h=>by
  intro fuel u x hx;have hx0:=hx;cases fuel with
  |zero=>cases hx
  |succ n=>
  rw [DataW.trod_step] at hx;unfold okT at h;split at h
  ·rename_i ht;unfold DataW.trodStep at hx;rw [ht] at hx;cases u<;>first|cases hx|skip
   rename_i b;exact ⟨.v (.bool b), .v rfl,by unfold FitC;rw [ht];exact ⟨b,rfl⟩⟩
  ·rename_i k ht;unfold DataW.trodStep at hx;rw [ht] at hx;cases u<;>first|cases hx|skip
   rename_i k' z;simp only at hx;split at hx
   ·rename_i hk;obtain ⟨rfl,hw⟩:=hk;exact ⟨.v (.int _ z), .v rfl,by unfold FitC;rw [ht];exact ⟨z,rfl,hw⟩⟩
   ·cases hx
  ·rename_i ht;unfold DataW.trodStep at hx;rw [ht] at hx;cases u<;>first|cases hx|skip
   rename_i b;simp only at hx;split at hx
   ·rename_i hk;exact ⟨.v (.string b), .v rfl,by unfold FitC;rw [ht];exact ⟨b,rfl,hk⟩⟩
   ·cases hx
  ·rename_i e ht;split at h
   ·rename_i ls hls;simp only [Bool.and_eq_true] at h;obtain ⟨⟨h1,h2⟩,h3⟩:=h;have h1:=Nat.eq_of_beq_eq_true h1;have h2:0<ls.length:=Nat.le_of_ble_eq_true h2;unfold FitC;simp only [ht];rcases Go.Deep.open_slice ht hx0 with ⟨hcs,_⟩|⟨a,len,cap,m,n',D,Pl,hcs,hb,hlc,hcm,hm,_,hrow⟩
    ·injection hcs with hcs
     subst hcs;exact ⟨.nl, .nl, .inl rfl⟩
    ·injection hcs with hcs
     subst hcs;have hlm:len<=m:=by rw [hm];split<;>omega
     by_cases h0:len=0
     ·subst h0;exact ⟨.sl 0 [], .sl0 hcm, .inr ⟨ls,0,[],rfl,hls,Nat.zero_le _,by simp,fun i j l hi=>by omega⟩⟩
     ·have hq: ∀q,q<len*ls.length -> ∃c v,w.cell? (a.add q)=some v/\RC w (fun b _=>b<w.heap.size) c v/\ ∃l,ls[q%ls.length]? =some l/\FitC P d l c:=fun q hq=>by
       have hi:q/ls.length<len:=Nat.div_lt_of_lt_mul (by rw [Nat.mul_comm];exact hq);have hj:q%ls.length<ls.length:=Nat.mod_lt _ h2;obtain ⟨cs',c1,c2⟩:=hrow (q/ls.length) (by omega);obtain ⟨_,e2,e3⟩:=World.cells?_some c1;have hL:=leaf_trod d e ls hls _ _ _ c2;have hjc:q%ls.length<cs'.length:=by rw [hL.1];exact hj
       obtain ⟨f',x',hx'⟩:=hL.2 _ _ _ (List.getElem?_eq_getElem hj) (List.getElem?_eq_getElem hjc);obtain ⟨c,hc1,hc2⟩:=fit_rc d _ (List.all_eq_true.1 h3 _ (List.getElem_mem hj)) _ _ _ hx';refine ⟨c,cs'[q%ls.length], ?_,hc1,_,List.getElem?_eq_getElem hj,hc2⟩;have e4:=e3 (q%ls.length) (by rw [<-h1];exact hj);rw [Go.Deep.add_add,<-h1,Nat.mul_comm,Nat.div_add_mod,List.getElem?_eq_getElem hjc] at e4;exact e4
      have hq': ∀q:{q//q<len*ls.length},∃p:C×Value,w.cell? (a.add q.1)=some p.2/\RC w (fun b _=>b<w.heap.size) p.1 p.2/\ ∃l,ls[q.1%ls.length]? =some l/\FitC P d l p.1:=fun q=>by
       obtain ⟨c,v,hh⟩:=hq q.1 q.2;exact ⟨(c,v),hh⟩
      obtain ⟨F,hF⟩:=Classical.axiomOfChoice hq';have hpos:0<len*ls.length:=Nat.mul_pos (by omega) h2;have hspot:=World.cell?_spot (hF ⟨0,hpos⟩).1;have hadd0:a.add 0=a:=by unfold Addr.add;simp
      rw [hadd0] at hspot;have hadd: ∀q,a.add q=⟨a.block,a.off+q,none⟩:=fun q=>by
       obtain ⟨b,o,sp⟩:=a;simp only at hspot;subst hspot;unfold Addr.add;by_cases h:q=0<;>simp [h]
      let cs:List C:=(List.range (len*ls.length)).map fun q=>if hh:q<len*ls.length then (F ⟨q,hh⟩).1 else .nl
      have hcs: ∀q (hh:q<len*ls.length),cs[q]? =some (F ⟨q,hh⟩).1:=fun q hh=>by
       show ((List.range (len*ls.length)).map _)[q]? =_;rw [List.getElem?_map,List.getElem?_range hh];simp [hh]
      have hcl:cs.length=len*ls.length:=by show ((List.range (len*ls.length)).map _).length=_;simp
      have ha:a=⟨a.block,a.off,none⟩:=by
       have:=hadd 0;rw [hadd0,Nat.add_zero] at this;exact this
      refine ⟨.sl len cs, ?_, .inr ⟨ls,len,cs,rfl,hls,by omega,hcl,fun i j l hi hj=> ?_⟩⟩
      ·rw [ha];refine RC.sl (us:=fun q=>if hh:q<len*ls.length then (F ⟨q,hh⟩).2 else .bool false) hlc hcm (fun q c hc=> ?_) (fun q c hc=> ?_)
       ·have hh:q<len*ls.length:=by rw [<-hcl];exact (List.getElem?_eq_some_iff.1 hc).1
        have e:=(hF ⟨q,hh⟩).1;rw [hadd q] at e;rw [dif_pos hh];exact ⟨e,World.block_lt_of_cell? w ⟨a.block,a.off+q,none⟩ e⟩
       ·have hh:q<len*ls.length:=by rw [<-hcl];exact (List.getElem?_eq_some_iff.1 hc).1
        rw [hcs q hh] at hc;injection hc with hc
        subst hc;rw [dif_pos hh];exact (hF ⟨q,hh⟩).2.1
      ·have hjl:j<ls.length:=(List.getElem?_eq_some_iff.1 hj).1;have hh:i*ls.length+j<len*ls.length:=by
        have:=Nat.mul_le_mul_right ls.length (show i+1<=len by omega);rw [Nat.succ_mul] at this;omega
       refine ⟨_,hcs _ hh, ?_⟩;obtain ⟨l',e1,e2⟩:=(hF ⟨_,hh⟩).2.2;have e3:(i*ls.length+j)%ls.length=j:=by rw [Nat.mul_comm,Nat.mul_add_mod,Nat.mod_eq_of_lt hjl]
       simp only [e3] at e1;rw [hj] at e1;injection e1 with e1
       subst e1;exact e2
   ·cases h
  ·cases h
theorem exists_list {A:Type} {n:Nat} {Q:Nat ->A ->Prop} (h: ∀i,i<n -> ∃c,Q i c): ∃ys:List A,ys.length=n/\ ∀i y,ys[i]? =some y ->Q i y:=by
 induction n with
 |zero=>exact ⟨[],rfl,fun i y h=>by simp at h⟩
 |succ n ih=>
  obtain ⟨ys,h1,h2⟩:=ih fun i hi=>h i (by omega);obtain ⟨c,hc⟩:=h n (by omega);refine ⟨ys++[c],by simp [h1],fun i y hy=> ?_⟩;by_cases hi:i<ys.length
  ·rw [List.getElem?_append_left hi] at hy;exact h2 i y hy
  ·rw [List.getElem?_append_right (by omega)] at hy;have:i=n:=by
    have:=(List.getElem?_eq_some_iff.1 hy).1;simp at this;omega
   subst this;rw [h1,Nat.sub_self] at hy;simp at hy;subst hy;exact hc
theorem fit_rcs {d:Nat} {ls:List TypeId} (hok:ls.all (okT P d)=true) {cs:List Value} (h:Leaves enc P w base spare held ls cs): ∃ys:List C,RCs w (fun b _=>b<w.heap.size) ys cs/\ys.length=ls.length/\ ∀(i:Nat) (l:TypeId) (y:C),ls[i]? =some l ->ys[i]? =some y ->FitC P d l y:=by
 obtain ⟨ys,h1,h2⟩:=exists_list (n:=ls.length) (Q:=fun i c=> ∀l u,ls[i]? =some l ->cs[i]? =some u ->RC w (fun b _=>b<w.heap.size) c u/\FitC P d l c) fun i hi=>by
  have hc:i<cs.length:=by rw [h.1];exact hi
  obtain ⟨f,x,hx⟩:=h.2 _ _ _ (List.getElem?_eq_getElem hi) (List.getElem?_eq_getElem hc);obtain ⟨c,c1,c2⟩:=fit_rc d _ (List.all_eq_true.1 hok _ (List.getElem_mem hi)) _ _ _ hx;refine ⟨c,fun l u hl hu=> ?_⟩;rw [List.getElem?_eq_getElem hi] at hl;rw [List.getElem?_eq_getElem hc] at hu;injection hl with hl
  injection hu with hu
  subst hl hu;exact ⟨c1,c2⟩
 refine ⟨ys,⟨by rw [h1,h.1],fun i c u hc hu=> ?_⟩,h1,fun i l y hl hy=> ?_⟩
 ·have hi:i<ls.length:=by rw [<-h1];exact (List.getElem?_eq_some_iff.1 hc).1
  exact (h2 i c hc _ _ (List.getElem?_eq_getElem hi) hu).1
 ·have hi:=(List.getElem?_eq_some_iff.1 hl).1;have hc:i<cs.length:=by rw [h.1];exact hi
  exact (h2 i y hy _ _ hl (List.getElem?_eq_getElem hc)).2
theorem arg_rcs {d d':Nat} {t:TypeId} {ls:List TypeId} (hl:leafT P d' t=some ls) (hok:ls.all (okT P d)=true) {fuel:Nat} {cs:List Value} {x:DataW H×List MemPlace} (h:DataW.trod enc P w base spare held fuel t cs=some x):
  ∃ys:List C,RCs w (fun b _=>b<w.heap.size) ys cs/\ys.length=ls.length/\ ∀(i:Nat) (l:TypeId) (y:C),ls[i]? =some l ->ys[i]? =some y ->FitC P d l y:=
 fit_rcs hok (leaf_trod d' t ls hl _ _ _ h)
end
end Go.PM
/- States and schemes of all sorts, as they come in. -/
namespace Go.Proofs.YtdcdfjijhmbbpaaGreatDoor
open Go Go.PM Go.Grid
theorem okWide_agg {P:Program} {w:World} {r:Reach} {b:Nat} {t:TypeId} {v:Value} {fs:Array Field} (ht:P.underlying t=some (.struct fs)) (h:Value.okWide P w r b t v): ∃cs:Array Value,v= .agg cs:=by
 simp only [Value.okWide,ht] at h;obtain ⟨cs,rfl,_⟩:=h;exact ⟨cs,rfl⟩
theorem fit_i64 {d:Nat} {c:C} (h:FitC Tryz.prog (d+1) 3 c): ∃z,c= .v (.int .i64 z):=by
 unfold FitC at h;rw [show Tryz.prog.underlying 3=some (.int .i64) by kernel_rfl] at h;obtain ⟨z,h,_⟩:=h;exact ⟨z,h⟩
theorem leaf_int:leafT Tryz.prog 3 3=some [3]:=by kernel_rfl
set_option maxRecDepth 10000 in
theorem fit_row {c:C} (h:FitC Tryz.prog 4 27 c): ∃l:List Int,isL c l:=by
 unfold FitC at h;rw [show Tryz.prog.underlying 27=some (.slice 3) by kernel_rfl] at h;rcases h with rfl|⟨ls,n,cs,rfl,hls,hn,hl,hr⟩
 ·exact ⟨[],isL_nl⟩
 ·rw [leaf_int] at hls;injection hls with hls
  subst hls;replace hl:cs.length=n:=by rw [hl];exact Nat.mul_one n
  obtain ⟨l,h1,h2⟩:=exists_list (Q:=fun i (x:Int)=>cs[i]? =some (.v (.int .i64 x))) (n:=n) fun i hi=>by
   obtain ⟨y,e,f⟩:=hr i 0 _ hi rfl;obtain ⟨z,rfl⟩:=fit_i64 f;exact ⟨z,by rw [<-e];congr 1;exact (Nat.mul_one i).symm⟩
  have hcs:cs=ints l:=by
   refine List.ext_getElem? fun i=> ?_;by_cases hi:i<n
   ·rw [h2 i l[i] (List.getElem?_eq_getElem (by omega))];show _=(l.map _)[i]?;rw [List.getElem?_map,List.getElem?_eq_getElem (by omega)];rfl
   ·rw [List.getElem?_eq_none (by omega),List.getElem?_eq_none (by rw [ik_length];omega)]
  rw [hcs,<-h1];exact ⟨l,isL_sl l⟩
section
variable {H:Type} {enc:TypeId×Value ->H} {w:World} {base:Nat} {spare:Nat ->Bool} {held:Bool} {fuel:Nat} {cs:List Value} {x:DataW H×List MemPlace}
theorem leaf_st:leafT Tryz.prog 3 29=some [3,27,27]:=by kernel_rfl
theorem okT_st:([3,27,27]:List TypeId).all (okT Tryz.prog 4)=true:=by kernel_rfl
set_option maxRecDepth 10000 in
theorem open_state (h:DataW.trod enc Tryz.prog w base spare held fuel 29 cs=some x): ∃(n:Int) (c1 c2:C) (dp fw:List Int),RCs w (fun b _=>b<w.heap.size) [C.v (.int .i64 n),c1,c2] cs/\isL c1 dp/\isL c2 fw:=by
 obtain ⟨ys,h1,h2,h3⟩:=arg_rcs leaf_st okT_st h
 match ys,h2 with
 | [y0,y1,y2],_=>
  obtain ⟨n,rfl⟩:=fit_i64 (h3 0 _ y0 rfl rfl);obtain ⟨dp,h5⟩:=fit_row (h3 1 _ y1 rfl rfl);obtain ⟨fw,h6⟩:=fit_row (h3 2 _ y2 rfl rfl);exact ⟨n,y1,y2,dp,fw,h1,h5,h6⟩
theorem leaf_sc:leafT Tryz.prog 3 32=some [3,3,3]:=by kernel_rfl
theorem okT_sc:([3,3,3]:List TypeId).all (okT Tryz.prog 4)=true:=by kernel_rfl
set_option maxRecDepth 10000 in
theorem open_scheme (h:DataW.trod enc Tryz.prog w base spare held fuel 32 cs=some x): ∃a b c:Int,RCs w (fun b _=>b<w.heap.size) (scC a b c) cs:=by
 obtain ⟨ys,h1,h2,h3⟩:=arg_rcs leaf_sc okT_sc h
 match ys,h2 with
 | [y0,y1,y2],_=>
  obtain ⟨a,rfl⟩:=fit_i64 (h3 0 _ y0 rfl rfl);obtain ⟨b,rfl⟩:=fit_i64 (h3 1 _ y1 rfl rfl);obtain ⟨c,rfl⟩:=fit_i64 (h3 2 _ y2 rfl rfl);exact ⟨a,b,c,h1⟩
end
end Go.Proofs.YtdcdfjijhmbbpaaGreatDoor
