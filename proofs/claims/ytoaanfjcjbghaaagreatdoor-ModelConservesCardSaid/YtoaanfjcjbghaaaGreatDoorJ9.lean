/- Parts put together: Nd, Ne. -/
import Derived.Test.YtoaanfjcjbghaaaGreatDoorJ8
set_option linter.unusedSimpArgs false
set_option linter.unusedVariables false
/- Runs of the model; states at rest. -/
namespace Go.Proofs.YtoaanfjcjbghaaaGreatDoor
open Go Go.PM Go.Grid
attribute [local congr] hd_bind hd_need hd_cond hd_unc hd_uncV hd_uncO hd_unI hd_asI hd_asB hd_asS hd_asSl hd_asFn hd_asP hd_rC hd_rA hd_rT hd_rG hd_rP hd_rO hd_rN hd_rF hd_rS hd_rW hd_nilV hd_natD hd_bd hd_iter hd_over hd_sliceC hd_asMp hd_asYF
theorem at0_repl (n:Nat) (v:Int) {k:Nat} (h:k<n):at0 (List.replicate n v) k=v:=by
 unfold at0
 rw [List.getD_eq_getElem?_getD,List.getElem?_replicate,if_pos h];rfl
theorem net_zero: ∀(P:List ((Int×Int)×Int)) (k:Nat),(∀p∈P,p.2=0)->net P k=0
 | [],k,_=>rfl
 |p::P,k,h=>by
  rw [net_cons,net_zero P k fun q hq=>h q (List.mem_cons_of_mem _ hq),h p (List.mem_cons_self ..)]
  repeat' split
  all_goals rfl
theorem map_rep (f:Nat ->Int) (n:Nat) (v:Int) (h: ∀j,j<n ->f j=v):(List.range n).map f=List.replicate n v:=by
 refine ext_at0 (by simp) fun k hk=> ?_
 rw [List.length_map,List.length_range] at hk
 rw [map_range_at f n hk,at0_repl n v hk,h k hk]
theorem shr_zero (s:Nat):shr 0 s=0:=by unfold shr;exact Int.zero_fdiv _
theorem rest_F {n:Nat} (h:freq n) (a b:Nat) (v:Int):stF n a b (List.replicate (nodes n).length v) (List.replicate (edg n).length 0)=List.replicate (edg n).length 0:=by
 refine map_rep _ _ _ fun j hj=> ?_
 have hin:=edg_in h _ (List.getElem_mem hj)
 unfold accE acc1 slE
 rw [at0_repl _ _ hj,getD_get _ hj,at0_repl _ _ (by omega),at0_repl _ _ (by omega),Int.sub_self,shr_zero,shr_zero]
 rfl
theorem rest_A {n:Nat} (h:freq n) (a b c:Nat) {v:Int} (hv:0<=v/\v<=16777216):stA n a b c (List.replicate (nodes n).length v) (List.replicate (edg n).length 0)=List.replicate (edg n).length 0:=by
 unfold stA
 rw [rest_F h]
 refine map_rep _ _ _ fun j hj=> ?_
 have hd:=deg_pos h _ (List.getElem_mem hj)
 have hw:wid 0 16777216 (List.replicate (nodes n).length v):=wid_rep hv
 unfold amE
 rw [at0_repl _ _ hj,getD_get _ hj,shr_zero]
 have L1:=lim_bd (dp:=List.replicate (nodes n).length v) (k:=(edg n)[j].1) (m:=16777216) (wid_at0 hw (by omega) _) hd.1
 have L2:=lim_bd (dp:=List.replicate (nodes n).length v) (k:=(edg n)[j].2) (m:=16777216) (wid_at0 hw (by omega) _) hd.2
 unfold amt
 rw [if_neg (by omega),if_neg (by omega)]
theorem rest_D {n:Nat} (h:freq n) (a b c:Nat) {v:Int} (hv:0<=v/\v<=16777216):stD n a b c (List.replicate (nodes n).length v) (List.replicate (edg n).length 0)=List.replicate (nodes n).length v:=by
 unfold stD
 rw [rest_A h a b c hv]
 refine ext_at0 (movS_length ..) fun k hk=> ?_
 rw [movS_length] at hk
 rw [movS_at _ _ _ hk,net_zero _ _ fun p hp=>List.eq_of_mem_replicate (List.of_mem_zip hp).2,Int.add_zero]
theorem rest_run {n:Nat} (h:freq n) (a b c:Nat) {v:Int} (hv:0<=v/\v<=16777216): ∀k,runN n a b c k (List.replicate (nodes n).length v,List.replicate (edg n).length 0)=some (List.replicate (nodes n).length v,List.replicate (edg n).length 0)
 |0=>rfl
 |k+1=>by
  simp only [runN]
  have hb:stBad n a b c (List.replicate (nodes n).length v) (List.replicate (edg n).length 0)=false:=by
   unfold stBad
   rw [rest_D h a b c hv]
   exact outB_f.2 (wid_rep hv)
  rw [hb,rest_D h a b c hv,rest_F h]
  simp only [Bool.false_eq_true,if_false]
  exact rest_run h a b c hv k
theorem rest_vst (n:Nat) {v:Int} (hv:0<=v/\v<=16777216):Vst n (List.replicate (nodes n).length v) (List.replicate (edg n).length 0):=⟨List.length_replicate ..,List.length_replicate ..,wid_rep hv,wid_rep (by omega)⟩
theorem runN_bad {n a b c j m:Nat} {s t:List Int×List Int} (h:runN n a b c j s=some t) (hb:stBad n a b c t.1 t.2=true) (hj:j<m):runN n a b c m s=none:=by
 obtain ⟨k,rfl⟩: ∃k,m=j+(k+1):=⟨m-j-1,by omega⟩
 rw [runN_add,h]
 show runN n a b c (k+1) t=none
 simp only [runN,hb,if_true]
theorem runN_ok {n a b c j:Nat} {s t:List Int×List Int} (h:runN n a b c j s=some t) (hb:stBad n a b c t.1 t.2=false):runN n a b c (j+1) s=some (stD n a b c t.1 t.2,stF n a b t.1 t.2):=by
 rw [runN_add,h]
 show runN n a b c 1 t=_
 simp only [runN,hb]
 rfl
section
variable (fu d:Nat) (hf:18446744073709551616<=fu)
include hf
set_option maxHeartbeats 4000000 in
theorem sp_Run (n:Nat) (h:freq n) (dp fw:List Int) (hv:Vst n dp fw) (a b c:Nat) (ha:1<=a/\a<=4) (hb:1<=b/\b<=4) (hc:1<=c/\c<=4) (m:Nat) (hm:m<=400):
  cl fu (d+16) fn_model_Run [V.agg [C.v (.int .i64 (a:Int)),C.v (.int .i64 (b:Int)),C.v (.int .i64 (c:Int))],V.agg (stC n dp fw),I (m:Int)] []=runO n (runN n a b c m (dp,fw)):=by
 have hNl:=nodes_le h
 have heL:=edg_le h
 have hN0:0<(nodes n).length:=by rw [nodes_length h];omega
 have hE0:0<(edg n).length:=edg_pos h
 have h1:=hv.dl
 have h2:=hv.fl
 have e1:=sp_CheckScheme fu (d+8) hf a b c ha hb hc
 have e2:=sp_CheckS fu (d+4) hf n h dp fw h1 h2 hv.dw hv.fw
 have k1:=sp_Clone fu (d+14) dp (by omega) (by omega)
 have k2:=sp_Clone fu (d+14) fw (by omega) (by omega)
 have hst:=fun (s:List Int×List Int) (hs:Vst n s.1 s.2)=>sp_Step fu d hf n h s.1 s.2 hs a b c ha hb hc
 have htk1:List.take dp.length (ints dp)=ints dp:=List.take_of_length_le (by rw [ik_length];exact Nat.le_refl _)
 have htk2:List.take fw.length (ints fw)=ints fw:=List.take_of_length_le (by rw [ik_length];exact Nat.le_refl _)
 have ec:cl fu (d+15) fn_model_check [V.agg [C.v (.int .i64 (a:Int)),C.v (.int .i64 (b:Int)),C.v (.int .i64 (c:Int))],V.agg (stC n dp fw)] []=OK (I 0):=by
  unfold stC at*
  rw [eq_model_check]
  simp (disch:=omega) only [hdt_eq,QM,QD,e1,e2]
 unfold stpO at hst
 unfold stC at*
 rw [eq_model_Run]
 simp (disch:=omega) only [hdt_eq,QM,QD,ec,k1,k2,out0,rP_ptr,ik_length,Nat.mul_one,Nat.zero_add,htk1,htk2]
 refine iter_bind_meas (A:=Int×Int×(Int×C×C×Unit)×(Int×C×C×Unit)×Unit) (B:=Out) (fu:=fu) (fun o=>o=runO n (runN n a b c m (dp,fw)))
  (fun y=> ∃(j:Nat) (s:List Int×List Int),j<=m/\Vst n s.1 s.2/\runN n a b c j (dp,fw)=some s/\y=(0,(j:Int),(0,C.nl,C.nl,()),((n:Int),C.sl s.1.length (ints s.1),C.sl s.2.length (ints s.2),()),())) (fun y=>m-y.2.1.toNat)
  (fun e z=>e=0/\(∃s:List Int×List Int,runN n a b c m (dp,fw)=some s/\z=(0,(m:Int),(0,C.nl,C.nl,()),((n:Int),C.sl s.1.length (ints s.1),C.sl s.2.length (ints s.2),()),()))\/e=1/\runN n a b c m (dp,fw)=none/\ ∃j:Int,z=(7,j,(0,C.nl,C.nl,()),(0,C.nl,C.nl,()),())) ?_ ?_ ?_ ?_
 ·exact ⟨0,(dp,fw),by omega,hv,rfl,rfl⟩
 ·show m-_<fu
  omega
 ·rintro y ⟨j,s,hj,hs,hr,rfl⟩
  by_cases hlt:j<m
  ·have hst:=hst s hs
   cases hbad:stBad n a b c s.1 s.2 with
   |true=>
    rw [hbad] at hst
    refine .inr ⟨1,_, ?_, .inr ⟨rfl,runN_bad hr hbad hlt,(j:Int),rfl⟩⟩
    simp (disch:=omega) only [hdt_eq,QM,QD,hst,List.length_cons,List.length_nil,Nat.zero_add,Nat.reduceAdd]
   |false=>
    rw [hbad] at hst
    refine .inl ⟨_, ?_,⟨j+1,(stD n a b c s.1 s.2,stF n a b s.1 s.2),by omega,hs.step hbad,runN_ok hr hbad,rfl⟩, ?_⟩
    ·simp (disch:=omega) only [hdt_eq,QM,QD,hst,List.length_cons,List.length_nil,Nat.zero_add,Nat.reduceAdd]
     rfl
    ·show m-((j+1:Nat):Int).toNat<m-((j:Nat):Int).toNat
     omega
  ·obtain rfl:j=m:=by omega
   refine .inr ⟨0,_, ?_, .inl ⟨rfl,s,hr,rfl⟩⟩
   simp (disch:=omega) only [hdt_eq,QM,QD]
 ·rintro e z (⟨rfl,s,hr,rfl⟩|⟨rfl,hr,j,rfl⟩)
  ·rw [hr]
   unfold runO stC
   simp (disch:=omega) only [hdt_eq,QM,QD]
  ·rw [hr]
   unfold runO
   simp (disch:=omega) only [hdt_eq,QM,QD]
theorem sp_awake30:cl fu (d+17) fn_synopticlaw30_awake [] []=OK (B true):=by
 have h:freq 1:=by unfold freq;omega
 have hv0:(0:Int)<=500/\(500:Int)<=16777216:=by omega
 have e1:=sp_Rest fu (d+4) hf 1 h 500 hv0
 have e2:=sp_Run fu d hf 1 h _ _ (rest_vst 1 hv0) 2 1 3 (by omega) (by omega) (by omega) 4 (by omega)
 rw [rest_run h 2 1 3 hv0] at e2
 unfold runO at e2
 have e3:=sp_Same29 fu (d+14) hf 1 1 _ _ _ _ (isL_sl (List.replicate (nodes 1).length 500)) (isL_sl (List.replicate (edg 1).length 0)) (isL_sl (List.replicate (nodes 1).length 500)) (isL_sl (List.replicate (edg 1).length 0)) (by rw [List.length_replicate];have:=nodes_le h;omega) (by rw [List.length_replicate];have:=edg_le h;omega) (by rw [List.length_replicate];have:=nodes_le h;omega) (by rw [List.length_replicate];have:=edg_le h;omega)
 rw [decide_eq_true (⟨rfl,rfl,rfl⟩:(1:Int)=1/\List.replicate (nodes 1).length (500:Int)=List.replicate (nodes 1).length 500/\List.replicate (edg 1).length (0:Int)=List.replicate (edg 1).length 0)] at e3
 have hl:(List.replicate (nodes 1).length (500:Int)).length=12:=by rw [List.length_replicate,nodes_length h]
 unfold stC at*
 have hl':((((List.replicate (nodes 1).length (500:Int)).length:Nat):Int)==12)=true:=by rw [hl];rfl
 rw [Int.natCast_one] at e1 e2
 replace e2:cl fu (d+16) fn_model_Run [V.agg [C.v (.int .i64 2),C.v (.int .i64 1),C.v (.int .i64 3)],V.agg [C.v (.int .i64 1),_,_],I 4] []=_:=e2
 generalize List.replicate (nodes 1).length (500:Int)=dp at*
 generalize List.replicate (edg 1).length (0:Int)=fw at*
 rw [eq_synopticlaw30_awake]
 simp (disch:=omega) only [hdt_eq,QM,QD,e1,e2,e3,hl',List.length_cons,List.length_nil,Nat.zero_add,Nat.reduceAdd]
end
end Go.Proofs.YtoaanfjcjbghaaaGreatDoor
/- ModelConserves, ModelParts, ModelRests answer true. -/
namespace Go.Proofs.YtoaanfjcjbghaaaGreatDoor
open Go Go.PM Go.Grid
attribute [local congr] hd_bind hd_need hd_cond hd_unc hd_uncV hd_uncO hd_unI hd_asI hd_asB hd_asS hd_asSl hd_asFn hd_asP hd_rC hd_rA hd_rT hd_rG hd_rP hd_rO hd_rN hd_rF hd_rS hd_rW hd_nilV hd_natD hd_bd hd_iter hd_over hd_sliceC hd_asMp hd_asYF
section
variable (fu d:Nat) (hf:18446744073709551616<=fu)
theorem u8_mod (x:Int) (hx:0<=x/\x<=255) (n:Nat) (hn:1<=n/\n<=1000): ∃m:Nat,m<n/\Int.tmod (IntKind.i64.wrap x) (n:Int)=(m:Int):=by
 rw [wrap_in (by omega) (by omega),IntWalk.rem_in _ _ hx.1]
 have h1:0<=x%(n:Int):=Int.emod_nonneg _ (by omega)
 have h2:x%(n:Int)<n:=Int.emod_lt_of_pos _ (by omega)
 exact ⟨(x%(n:Int)).toNat,by omega,by omega⟩
include hf
omit hf in
theorem sum_step {n:Nat} (h:freq n) {dp fw:List Int} (hv:Vst n dp fw) (a b c:Nat):(stD n a b c dp fw).sum=dp.sum:=sum_movS _ _ (by rw [hv.dl];exact zip_in (edg_in h))
set_option maxHeartbeats 8000000 in
theorem sp_ModelConserves (l:List Int) (hl: ∀x∈l,0<=x/\x<=255) (st:Int) (hst:0<=st/\st<=255):cl fu (d+18) fn_synopticlaw30_ModelConserves [V.c (C.sl l.length (ik .u8 l)),V.c (C.v (.int .u8 st))] []=OK (B true):=by
 have hb:=bytes_take hl (k:=240) (by omega)
 have hN:=sp_NewC fu (d+16) l 240
 replace hN:cl fu (d+17) fn_synopticfield_New [V.c (C.sl l.length (ik .u8 l)),I 240] []=_:=hN
 generalize l.take 240=bs at hb hN
 obtain ⟨n,j1,hn,hj1,c1⟩:=sp_Frequency fu (d+14) hb (i:=0) (by omega)
 have h:=freq_12 hn
 obtain ⟨dp,fw,j2,ok,hj2,c2⟩:=sp_State fu (d+7) hf hb hj1 n h
 obtain ⟨a,b,c,j3,ha,hb',hc,hj3,c3⟩:=sp_Scheme fu (d+14) hb hj2
 have hv:=ok.vst
 have heL:=edg_le h
 have hNl:=nodes_le h
 have hA:=sp_awake30 fu d hf
 obtain ⟨m,hm,hmod⟩:=u8_mod st hst 12 (by omega)
 have hS:=fun (s:List Int×List Int) (hs:Vst n s.1 s.2)=>sp_Step fu (d+2) hf n h s.1 s.2 hs a b c ha hb' hc
 have hM:=fun (s:List Int×List Int) (hs:Vst n s.1 s.2)=>sp_Mass fu (d+16) hf n s.1 (C.sl s.2.length (ints s.2)) (by have:=hs.dl;omega) (wid_mono hs.dw (by omega) (by omega))
 have hC:=fun (s:List Int×List Int) (hs:Vst n s.1 s.2)=>sp_CheckS fu (d+7) hf n h s.1 s.2 hs.dl hs.fl hs.dw hs.fw
 have hsum:=fun (s:List Int×List Int) (hs:Vst n s.1 s.2)=>sum_step h hs a b c
 have hM0:=hM (dp,fw) hv
 replace hmod:Int.tmod (IntKind.i64.wrap st) 12=(m:Int):=hmod
 unfold stpO at hS
 unfold codesO stC at*
 rw [eq_synopticlaw30_ModelConserves,hmod]
 simp (disch:=omega) only [hdt_eq,QM,QD,out0,rP_ptr,rN_ob,hA,hN,c1,c2,c3,hM0,List.length_cons,List.length_nil,Nat.zero_add,Nat.reduceAdd]
 refine iter_bind_meas (A:=Bool×Int×(Int×C×C×Unit)×Unit) (B:=Out) (fu:=fu) (fun o=>o=OK (B true))
  (fun y=> ∃(j:Nat) (s:List Int×List Int),j<=1+m/\Vst n s.1 s.2/\s.1.sum=dp.sum/\y=(false,(j:Int),((n:Int),C.sl s.1.length (ints s.1),C.sl s.2.length (ints s.2),()),())) (fun y=>1+m-y.2.1.toNat)
  (fun e z=>e=0\/e=1/\z.1=true) ?_ ?_ ?_ ?_
 ·exact ⟨0,(dp,fw),by omega,hv,rfl,rfl⟩
 ·show 1+m-_<fu
  omega
 ·rintro y ⟨j,s,hj,hs,hr,rfl⟩
  by_cases hlt:j<1+m
  ·have hS:=hS s hs
   cases hbad:stBad n a b c s.1 s.2 with
   |true=>
    rw [hbad] at hS
    refine .inr ⟨1,(true,(j:Int),((n:Int),C.sl s.1.length (ints s.1),C.sl s.2.length (ints s.2),()),()), ?_, .inr ⟨rfl,rfl⟩⟩
    simp (disch:=omega) only [hdt_eq,QM,QD,hS,List.length_cons,List.length_nil,Nat.zero_add,Nat.reduceAdd]
   |false=>
    rw [hbad] at hS
    have hs':=hs.step hbad
    have hsum:=hsum s hs
    have hM:=hM (stD n a b c s.1 s.2,stF n a b s.1 s.2) hs'
    have hC:=hC (stD n a b c s.1 s.2,stF n a b s.1 s.2) hs'
    have hBl:=stB_length n a b c s.1 s.2
    have hsf:=hs.fl
    rw [hsum,hr] at hM
    refine .inl ⟨_, ?_,⟨j+1,(stD n a b c s.1 s.2,stF n a b s.1 s.2),by omega,hs',hsum.trans hr,rfl⟩, ?_⟩
    ·simp (disch:=omega) only [hdt_eq,QM,QD,hS,hM,hC,List.length_cons,List.length_nil,Nat.zero_add,Nat.reduceAdd]
     rfl
    ·show 1+m-((j+1:Nat):Int).toNat<1+m-((j:Nat):Int).toNat
     omega
  ·refine .inr ⟨0,(false,(j:Int),((n:Int),C.sl s.1.length (ints s.1),C.sl s.2.length (ints s.2),()),()), ?_, .inl rfl⟩
   simp (disch:=omega) only [hdt_eq,QM,QD]
 ·rintro e z (rfl|⟨rfl,hz⟩)
  ·simp (disch:=omega) only [hdt_eq,QM,QD]
  ·simp (disch:=omega) only [hdt_eq,QM,QD,hz]
end
end Go.Proofs.YtoaanfjcjbghaaaGreatDoor
