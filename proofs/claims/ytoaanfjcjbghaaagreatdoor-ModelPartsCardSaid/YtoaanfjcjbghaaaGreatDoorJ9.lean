/- Parts put together: Ne. -/
import Derived.Test.YtoaanfjcjbghaaaGreatDoorJ8
set_option linter.unusedSimpArgs false
set_option linter.unusedVariables false
/- ModelConserves, ModelParts, ModelRests answer true. -/
namespace Go.Proofs.YtoaanfjcjbghaaaGreatDoor
open Go Go.PM Go.Grid
attribute [local congr] hd_bind hd_need hd_cond hd_unc hd_uncV hd_uncO hd_unI hd_asI hd_asB hd_asS hd_asSl hd_asFn hd_asP hd_rC hd_rA hd_rT hd_rG hd_rP hd_rO hd_rN hd_rF hd_rS hd_rW hd_nilV hd_natD hd_bd hd_iter hd_over hd_sliceC hd_asMp hd_asYF
section
variable (fu d:Nat) (hf:18446744073709551616<=fu)
theorem u8_mod (x:Int) (hx:0<=x/\x<=255) (n:Nat) (hn:1<=n/\n<=1000): ∃m:Nat,m<n/\Int.tmod (IntKind.i64.wrap x) (n:Int)=(m:Int):=by
 rw [wrap_in (by omega) (by omega),IntWalk.rem_in _ _ hx.1]
 have h1:0<=x%(n:Int):=Int.emod_nonneg _ (by omega)
 have h2:x%(n:Int)<n:=Int.emod_lt_of_pos _ (by omega)
 exact ⟨(x%(n:Int)).toNat,by omega,by omega⟩
include hf
omit hf in
theorem runO_cases (n:Nat) (o:Option (List Int×List Int)):(∃s,o=some s/\runO n o=OK (V.tup [V.agg (stC n s.1 s.2),I 0]))\/o=none/\runO n o=OK (V.tup [V.agg [C.v (.int .i64 0),C.nl,C.nl],I 7]):=by
 cases o with
 |none=>exact .inr ⟨rfl,rfl⟩
 |some s=>exact .inl ⟨s,rfl,rfl⟩
set_option maxHeartbeats 8000000 in
theorem sp_ModelParts (l:List Int) (hl: ∀x∈l,0<=x/\x<=255) (x y:Int) (hx:0<=x/\x<=255) (hy:0<=y/\y<=255):cl fu (d+18) fn_synopticlaw30_ModelParts [V.c (C.sl l.length (ik .u8 l)),V.c (C.v (.int .u8 x)),V.c (C.v (.int .u8 y))] []=OK (B true):=by
 have hb:=bytes_take hl (k:=240) (by omega)
 have hN:=sp_NewC fu (d+16) l 240
 replace hN:cl fu (d+17) fn_synopticfield_New [V.c (C.sl l.length (ik .u8 l)),I 240] []=_:=hN
 generalize l.take 240=bs at hb hN
 obtain ⟨n,j1,hn,hj1,c1⟩:=sp_Frequency fu (d+14) hb (i:=0) (by omega)
 have h:=freq_12 hn
 obtain ⟨dp,fw,j2,ok,hj2,c2⟩:=sp_State fu (d+7) hf hb hj1 n h
 obtain ⟨a,b,c,j3,ha,hb',hc,hj3,c3⟩:=sp_Scheme fu (d+14) hb hj2
 have hv:=ok.vst
 have heL:=edg_le h
 have hNl:=nodes_le h
 have hA:=sp_awake30 fu d hf
 obtain ⟨k,hk,hmk⟩:=u8_mod x hx 7 (by omega)
 obtain ⟨m,hm,hmm⟩:=u8_mod y hy 7 (by omega)
 have hR:=fun (s:List Int×List Int) (hs:Vst n s.1 s.2) (m:Nat) (hm:m<=400)=>sp_Run fu (d+1) hf n h s.1 s.2 hs a b c ha hb' hc m hm
 have r1:=hR (dp,fw) hv k (by omega)
 have r2:=hR (dp,fw) hv (k+m) (by omega)
 replace hmk:Int.tmod (IntKind.i64.wrap x) 7=(k:Int):=hmk
 replace hmm:Int.tmod (IntKind.i64.wrap y) 7=(m:Int):=hmm
 have hkm:IntKind.i64.wrap ((k:Int)+(m:Int))=((k+m:Nat):Int):=by rw [wrap_in (by omega) (by omega)];rfl
 rw [runN_add] at r2
 have hvt:=fun {t:List Int×List Int} (e:runN n a b c k (dp,fw)=some t)=>runN_vst (s:=(dp,fw)) hv e
 unfold codesO at*
 rw [eq_synopticlaw30_ModelParts,hmk,hmm,hkm]
 rcases runO_cases n (runN n a b c k (dp,fw)) with ⟨s,q1,q2⟩|⟨q1,q2⟩
 ·have hvs:=hvt q1
  have r3:=hR s hvs m (by omega)
  rw [q2] at r1
  rw [q1] at r2
  replace r2:_=runO n (runN n a b c m s):=r2
  rcases runO_cases n (runN n a b c m s) with ⟨t,q3,q4⟩|⟨q3,q4⟩
  ·have hvt:=runN_vst hvs q3
   rw [q4] at r2 r3
   have hSm:=sp_Same29 fu (d+15) hf n n _ _ _ _ (isL_sl t.1) (isL_sl t.2) (isL_sl t.1) (isL_sl t.2) (by have:=hvt.dl;omega) (by have:=hvt.fl;omega) (by have:=hvt.dl;omega) (by have:=hvt.fl;omega)
   rw [decide_eq_true (⟨rfl,rfl,rfl⟩:(n:Int)=n/\t.1=t.1/\t.2=t.2)] at hSm
   unfold stC at*
   simp (disch:=omega) only [hdt_eq,QM,QD,out0,rP_ptr,rN_ob,hA,hN,c1,c2,c3,r1,r2,r3,hSm,List.length_cons,List.length_nil,Nat.zero_add,Nat.reduceAdd]
  ·rw [q4] at r2 r3
   have hSm:=sp_Same29 fu (d+15) hf 0 0 _ _ _ _ isL_nl isL_nl isL_nl isL_nl (by simp) (by simp) (by simp) (by simp)
   rw [decide_eq_true (⟨rfl,rfl,rfl⟩:(0:Int)=0/\([]:List Int)=[]/\([]:List Int)=[])] at hSm
   unfold stC at*
   simp (disch:=omega) only [hdt_eq,QM,QD,out0,rP_ptr,rN_ob,hA,hN,c1,c2,c3,r1,r2,r3,hSm,List.length_cons,List.length_nil,Nat.zero_add,Nat.reduceAdd]
 ·rw [q2] at r1
  rw [q1] at r2
  replace r2:_=OK (V.tup [V.agg [C.v (.int .i64 0),C.nl,C.nl],I 7]):=r2
  unfold stC at*
  simp (disch:=omega) only [hdt_eq,QM,QD,out0,rP_ptr,rN_ob,hA,hN,c1,c2,c3,r1,r2,List.length_cons,List.length_nil,Nat.zero_add,Nat.reduceAdd]
end
end Go.Proofs.YtoaanfjcjbghaaaGreatDoor
