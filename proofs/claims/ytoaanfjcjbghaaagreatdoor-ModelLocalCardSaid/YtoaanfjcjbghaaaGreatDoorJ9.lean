/- Parts put together: Nf. -/
import Derived.Test.YtoaanfjcjbghaaaGreatDoorJ8
set_option linter.unusedSimpArgs false
set_option linter.unusedVariables false
/- ModelLocal answers true. -/
namespace Go.Proofs.YtoaanfjcjbghaaaGreatDoor
open Go Go.PM Go.Grid
attribute [local congr] hd_bind hd_need hd_cond hd_unc hd_uncV hd_uncO hd_unI hd_asI hd_asB hd_asS hd_asSl hd_asFn hd_asP hd_rC hd_rA hd_rT hd_rG hd_rP hd_rO hd_rN hd_rF hd_rS hd_rW hd_nilV hd_natD hd_bd hd_iter hd_over hd_sliceC hd_asMp hd_asYF
theorem beq_dec (a b:Int):(a==b)=decide (a=b):=by by_cases h:a=b<;>simp [h]
theorem at0_set (l:List Int) (k:Nat) (v:Int) {i:Nat} (h:i≠k):at0 (l.set k v) i=at0 l i:=by
 unfold at0;rw [List.getD_eq_getElem?_getD,List.getElem?_set_ne (by omega),<-List.getD_eq_getElem?_getD]
theorem wid_set {lo hi:Int} {l:List Int} (h:wid lo hi l) (k:Nat) {v:Int} (hv:lo<=v/\v<=hi):wid lo hi (l.set k v):=fun x hx=>by
 rcases List.mem_or_eq_of_mem_set hx with hx|rfl
 ·exact h x hx
 ·exact hv
theorem push_mem (k:Nat) (z:Int): ∀(E:List Ed) (R:List (List Int)),k<R.length ->(z∈R.getD k []\/ ∃e∈E,k=e.1.toNat/\z=e.2\/k=e.2.toNat/\z=e.1)->z∈(E.foldl pushE R).getD k []
 | [],R,_,h=>by
  rcases h with h|⟨e,he,_⟩
  ·exact h
  ·cases he
 |e::E,R,hk,h=>by
  rw [List.foldl_cons];refine push_mem k z E _ (by unfold pushE;rw [push1_length,push1_length];exact hk) ?_;have g: ∀(R:List (List Int)) (j:Nat) (x:Int),k<R.length ->(z∈R.getD k []\/k=j/\z=x)->z∈(push1 R j x).getD k []:=fun R j x hk h=>by
   rw [push1_getD];rcases h with h|⟨h1,h2⟩
   ·split
    ·exact List.mem_append_left _ h
    ·exact h
   ·rw [if_pos ⟨h1,hk⟩,h2];simp
  have hk1:k<(push1 R e.1.toNat e.2).length:=by rw [push1_length];exact hk
  rcases h with h|⟨e',he,h⟩
  ·exact .inl (g _ _ _ hk1 (.inl (g _ _ _ hk (.inl h))))
  ·rcases List.mem_cons.1 he with rfl|he
   ·left;rcases h with h|h
    ·exact g _ _ _ hk1 (.inl (g _ _ _ hk (.inr h)))
    ·exact g _ _ _ hk1 (.inr h)
   ·exact .inr ⟨e',he,h⟩
theorem nxt_mem {n k:Nat} (hk:k<(nodes n).length) {z:Int} (h: ∃e∈edg n,k=e.1.toNat/\z=e.2\/k=e.2.toNat/\z=e.1):z∈(nxt n).getD k []:=by
 rw [nxt_getD n k hk,(sortI_perm _).mem_iff];exact push_mem k z _ _ (by rw [List.length_replicate];exact hk) (.inr h)
theorem acc_same {a b:Nat} {dp fw:List Int} {E:List (Int×Int)} {j k:Nat} {v:Int} (h1:(E.getD j (0,0)).1.toNat≠k) (h2:(E.getD j (0,0)).2.toNat≠k):accE a b (dp.set k v) fw E j=accE a b dp fw E j:=by
 unfold accE slE;rw [at0_set _ _ _ h1,at0_set _ _ _ h2]
theorem stF_at (n a b:Nat) (dp fw:List Int) {j:Nat} (h:j<(edg n).length):at0 (stF n a b dp fw) j=accE a b dp fw (edg n) j:=map_range_at _ _ h
theorem stA_at (n a b c:Nat) (dp fw:List Int) {j:Nat} (h:j<(edg n).length):at0 (stA n a b c dp fw) j=amE dp (degS (nodes n).length (edg n)) (stF n a b dp fw) c (edg n) j:=map_range_at _ _ h
theorem stA_same {n a b c:Nat} {dp fw:List Int} {j k:Nat} {v:Int} (hj:j<(edg n).length) (h1:((edg n).getD j (0,0)).1.toNat≠k) (h2:((edg n).getD j (0,0)).2.toNat≠k):at0 (stA n a b c (dp.set k v) fw) j=at0 (stA n a b c dp fw) j:=by
 rw [stA_at _ _ _ _ _ _ hj,stA_at _ _ _ _ _ _ hj];unfold amE lim;rw [at0_set _ _ _ h1,at0_set _ _ _ h2,stF_at _ _ _ _ _ hj,stF_at _ _ _ _ _ hj,acc_same h1 h2]
theorem net_same {E:List (Int×Int)} {am am':List Int} (h1:am.length=E.length) (h2:am'.length=E.length) {i:Nat} (h: ∀j (hj:j<E.length),i=E[j].1.toNat\/i=E[j].2.toNat ->at0 am' j=at0 am j):net (E.zip am') i=net (E.zip am) i:=by
 rw [zip_range h1,zip_range h2];unfold net;rw [List.map_map,List.map_map];refine congrArg List.sum (List.map_congr_left fun j hj=> ?_);have hj:=List.mem_range.1 hj;show (if i=(E.getD j (0,0)).1.toNat then -(at0 am' j) else 0)+(if i=(E.getD j (0,0)).2.toNat then at0 am' j else 0)=(if i=(E.getD j (0,0)).1.toNat then -(at0 am j) else 0)+(if i=(E.getD j (0,0)).2.toNat then at0 am j else 0);rw [getD_get E hj];have h:=h j hj;by_cases q1:i=E[j].1.toNat
 ·rw [h (.inl q1)]
 ·by_cases q2:i=E[j].2.toNat
  ·rw [h (.inr q2)]
  ·rw [if_neg q1,if_neg q2,if_neg q1,if_neg q2]
theorem far_same {n:Nat} (h:freq n) (a b c:Nat) {dp fw:List Int} (hd:dp.length=(nodes n).length) {k i:Nat} {v:Int} (hk:k<(nodes n).length) (hi:i<(nodes n).length) (hne:i≠k) (hn:(i:Int)∉(nxt n).getD k []):
  at0 (stD n a b c (dp.set k v) fw) i=at0 (stD n a b c dp fw) i:=by
 have e1:=movS_at ((edg n).zip (stA n a b c (dp.set k v) fw)) (dp.set k v) i (by rw [List.length_set,hd];exact hi);have e2:=movS_at ((edg n).zip (stA n a b c dp fw)) dp i (by rw [hd];exact hi);have e3:=net_same (stA_length n a b c dp fw) (stA_length n a b c (dp.set k v) fw) (i:=i) (fun j hj hq=>by
  have he:=List.getElem_mem hj;have hin:=edg_in h _ he;have hs:=stA_same (a:=a) (b:=b) (c:=c) (dp:=dp) (fw:=fw) (k:=k) (v:=v) hj;rw [getD_get _ hj] at hs;have hm:=fun q=>hn (nxt_mem hk ⟨_,he,q⟩);clear hn;generalize (edg n)[j]=e at*
  rcases hq with hq|hq
  ·exact hs (by omega) (fun w=>hm (.inr ⟨w.symm,by omega⟩))
  ·exact hs (fun w=>hm (.inl ⟨w.symm,by omega⟩)) (by omega))
 rw [at0_set dp k v hne,e3] at e1;exact e1.trans e2.symm
section
variable (fu d:Nat) (hf:18446744073709551616<=fu)
include hf
set_option maxHeartbeats 16000000 in
theorem sp_ModelLocal (l:List Int) (hl: ∀x∈l,0<=x/\x<=255) (x:Int) (hx:0<=x/\x<=255):cl fu (d+18) fn_synopticlaw30_ModelLocal [V.c (C.sl l.length (ik .u8 l)),V.c (C.v (.int .u8 x))] []=OK (B true):=by
 have hb:=bytes_take hl (k:=240) (by omega);have hN:=sp_NewC fu (d+16) l 240;replace hN:cl fu (d+17) fn_synopticfield_New [V.c (C.sl l.length (ik .u8 l)),I 240] []=_:=hN;generalize l.take 240=bs at hb hN;obtain ⟨n,j1,hn,hj1,c1⟩:=sp_Frequency fu (d+14) hb (i:=0) (by omega);have h:=freq_12 hn;obtain ⟨dp,fw,j2,ok,hj2,c2⟩:=sp_State fu (d+7) hf hb hj1 n h;obtain ⟨a,b,c,j3,ha,hb',hc,hj3,c3⟩:=sp_Scheme fu (d+14) hb hj2;obtain ⟨v,j4,hv',hj4,c4⟩:=sp_Next fu (d+15) hb hj3 256 (by omega);replace c4:cl fu (d+17) fn_synopticfield_Codes_Next [V.ptr 1000000 0,I 256] _=_:=c4;have hv:=ok.vst;have heL:=edg_le h;have hNl:=nodes_le h;have hN0:0<(nodes n).length:=by rw [nodes_length h];omega
 have hdl:=hv.dl;have hA:=sp_awake30 fu d hf;obtain ⟨k,hk,hmod⟩:=u8_mod x hx dp.length (by omega);have hkN:k<(nodes n).length:=by omega
 rw [wrap_in (by omega) (by omega)] at hmod;have hw9:IntKind.i64.wrap ((v:Int)*9000)=(v:Int)*9000:=wrap_in (by omega) (by omega);have hvo:Vst n (dp.set k ((v:Int)*9000)) fw:=⟨by rw [List.length_set];exact hdl,hv.fl,wid_set hv.dw k (by omega),hv.fw⟩;have s1:=sp_Step fu (d+2) hf n h dp fw hv a b c ha hb' hc;have s2:=sp_Step fu (d+2) hf n h _ fw hvo a b c ha hb' hc;have eE:=sp_grid_Edges fu (d+8) hf n h;have eN:=sp_Neighbours fu (d+8) hf n h k hkN;have hput:=ints_put dp hk ((v:Int)*9000);have hri:=nxt_in h hkN;have hrl:=nxt_le h hkN;have hfar:=fun {i:Nat} (hi:i<(nodes n).length)=>far_same h a b c (dp:=dp) (fw:=fw) hdl (k:=k) (i:=i) (v:=(v:Int)*9000) hkN hi;have hFs:=fun {j:Nat} (hj:j<(edg n).length)=>stF_at n a b dp fw hj;have hFs':=fun {j:Nat} (hj:j<(edg n).length)=>stF_at n a b (dp.set k ((v:Int)*9000)) fw hj;have hac:=fun (j:Nat)=>acc_same (a:=a) (b:=b) (dp:=dp) (fw:=fw) (E:=edg n) (j:=j) (k:=k) (v:=(v:Int)*9000);have l1:=stF_length n a b dp fw;have l2:=stF_length n a b (dp.set k ((v:Int)*9000)) fw;have l3:=stD_length n a b c dp fw;have l4:=stD_length n a b c (dp.set k ((v:Int)*9000)) fw;have l5:=stB_length n a b c dp fw;have l6:=stB_length n a b c (dp.set k ((v:Int)*9000)) fw;have htk:List.take dp.length (ints (dp.set k ((v:Int)*9000)))=ints (dp.set k ((v:Int)*9000)):=List.take_of_length_le (by rw [ik_length,List.length_set];exact Nat.le_refl _);have hin:=edg_in h;have hls:(ints (dp.set k ((v:Int)*9000))).length=dp.length:=by rw [ik_length,List.length_set]
 unfold stpO at s1 s2;unfold codesO stC at*
 rw [List.length_set] at s2 l4;generalize stB n a b c dp fw=B1 at*
 generalize stB n a b c (dp.set k ((v:Int)*9000)) fw=B2 at*
 generalize stD n a b c dp fw=D1 at*
 generalize stD n a b c (dp.set k ((v:Int)*9000)) fw=D2 at*
 generalize stF n a b dp fw=F1 at*
 generalize stF n a b (dp.set k ((v:Int)*9000)) fw=F2 at*
 generalize (nxt n).getD k []=r at*
 rw [eq_synopticlaw30_ModelLocal];simp (disch:=omega) only [hdt_eq,QM,QD,out0,rP_ptr,rN_ob,hA,hN,c1,c2,c3,List.length_cons,List.length_nil,Nat.zero_add,Nat.reduceAdd,hmod,c4,ik_length,Nat.mul_one,Int.toNat_natCast,s1,hw9,hput,hls,htk,s2];cases b1:stBad n a b c dp fw with
 |true=>
  cases b2:stBad n a b c (dp.set k ((v:Int)*9000)) fw with
  |true=>simp (disch:=omega) only [hdt_eq,QM,QD,List.length_cons,List.length_nil,Nat.zero_add,Nat.reduceAdd,hmod,s1,s2,b2,hput,hw9,hls,htk,eE,eN,ik_length,Nat.mul_one,Int.toNat_natCast]
  |false=>simp (disch:=omega) only [hdt_eq,QM,QD,List.length_cons,List.length_nil,Nat.zero_add,Nat.reduceAdd,hmod,s1,s2,b2,hput,hw9,hls,htk,eE,eN,ik_length,Nat.mul_one,Int.toNat_natCast]
 |false=>
  cases b2:stBad n a b c (dp.set k ((v:Int)*9000)) fw with
  |true=>simp (disch:=omega) only [hdt_eq,QM,QD,List.length_cons,List.length_nil,Nat.zero_add,Nat.reduceAdd,hmod,s1,s2,b2,hput,hw9,hls,htk,eE,eN,ik_length,Nat.mul_one,Int.toNat_natCast]
  |false=>
   simp (disch:=omega) only [hdt_eq,QM,QD,List.length_cons,List.length_nil,Nat.zero_add,Nat.reduceAdd,hmod,s1,s2,b2,hput,hw9,hls,htk,eE,eN,ik_length,Nat.mul_one,Int.toNat_natCast];rw [iter_runx (fun j:Nat=>(false,((j:Nat):Int),())) 0 (false,(((edg n).length:Nat):Int),()) (edg n).length ?_ ?_ ?_ (by omega)]
   ·simp (disch:=omega) only [hdt_eq,QM,QD,hmod];rw [iter_runx (fun j:Nat=>(false,((j:Nat):Int),())) 0 (false,((D1.length:Nat):Int),()) D1.length ?_ ?_ ?_ (by omega)]
    ·simp (disch:=omega) only [hdt_eq,QM,QD,hmod]
    ·rfl
    ·intro i hi;have hiN:i<(nodes n).length:=by omega
     have g1:=ints_at0 D1 (i:=i) (by omega);have g2:=ints_at0 D2 (i:=i) (by omega);have hfar:=hfar hiN;simp (disch:=omega) only [hdt_eq,QM,QD,hmod];rw [iter_runx (fun t:Nat=>(decide ((i:Int)=(k:Int)\/(i:Int)∈r.take t),((t:Nat):Int),())) 0 (decide ((i:Int)=(k:Int)\/(i:Int)∈r),((r.length:Nat):Int),()) r.length ?_ ?_ ?_ (by omega)]
     ·by_cases q:(i:Int)=(k:Int)\/(i:Int)∈r
      ·rw [decide_eq_true q];simp (disch:=omega) only [hdt_eq,QM,QD,hmod];rfl
      ·rw [decide_eq_false q];have e1:=hfar (fun e=>q (.inl (by omega))) (fun e=>q (.inr e));rw [e1] at g2;simp (disch:=omega) only [hdt_eq,QM,QD,hmod,Int.toNat_natCast,Nat.mul_one,g1,g2];rfl
     ·have:decide ((i:Int)=(k:Int)\/(i:Int)∈r.take 0)=((i:Int)==(k:Int)):=by rw [beq_dec];simp
      rw [this];rfl
     ·intro t ht;have hrt:=ints_at r ht;have hm:((i:Int)=(k:Int)\/(i:Int)∈r.take (t+1))↔(((i:Int)=(k:Int)\/(i:Int)∈r.take t)\/r[t]=(i:Int)):=by
       rw [List.take_succ_eq_append_getElem ht,List.mem_append,List.mem_singleton,eq_comm (a:=r[t])];exact ⟨fun q=>q.elim (fun q=> .inl (.inl q)) fun q=>q.elim (fun q=> .inl (.inr q)) .inr,fun q=>q.elim (fun q=>q.elim .inl fun q=> .inr (.inl q)) fun q=> .inr (.inr q)⟩
      generalize r[t]=z at*
      rw [decide_eq_decide.2 hm];by_cases q:(i:Int)=(k:Int)\/(i:Int)∈r.take t
      ·rw [decide_eq_true q,decide_eq_true (.inl q:((i:Int)=(k:Int)\/(i:Int)∈r.take t)\/z=(i:Int))];simp (disch:=omega) only [hdt_eq,QM,QD,hmod,Int.toNat_natCast,Nat.mul_one,hrt];rfl
      ·rw [decide_eq_false q];have e1:decide (((i:Int)=(k:Int)\/(i:Int)∈r.take t)\/z=(i:Int))=(z==(i:Int)):=by
        rw [beq_dec];exact decide_eq_decide.2 ⟨fun w=>w.elim (fun w=>absurd w q) id, .inr⟩
       rw [e1];simp (disch:=omega) only [hdt_eq,QM,QD,hmod,Int.toNat_natCast,Nat.mul_one,hrt];rfl
     ·rw [List.take_length];simp (disch:=omega) only [hdt_eq,QM,QD,hmod]
    ·simp (disch:=omega) only [hdt_eq,QM,QD,hmod]
   ·rfl
   ·intro j hj;have hea:=fl_at edC_length hj;have hin:=hin _ (List.getElem_mem hj);have g1:=ints_at0 F1 (i:=j) (by omega);have g2:=ints_at0 F2 (i:=j) (by omega);have hac:=hac j;rw [getD_get _ hj] at hac;rw [hFs hj] at g1;rw [hFs' hj] at g2;generalize (edg n)[j]=e at*
    obtain ⟨ea,eb⟩:=e;simp only at hin hac;have edx:edC (ea,eb)=[C.v (.int .i64 ea),C.v (.int .i64 eb)]:=rfl;rw [edx] at hea;by_cases q1:ea=(k:Int)
    ·simp (disch:=omega) only [hdt_eq,QM,QD,hmod,List.cons_append,List.nil_append,Int.toNat_natCast,Nat.mul_one,hea];rfl
    ·by_cases q2:eb=(k:Int)
     ·simp (disch:=omega) only [hdt_eq,QM,QD,hmod,List.cons_append,List.nil_append,Int.toNat_natCast,Nat.mul_one,hea];rfl
     ·rw [hac (by omega) (by omega)] at g2;simp (disch:=omega) only [hdt_eq,QM,QD,hmod,List.cons_append,List.nil_append,Int.toNat_natCast,Nat.mul_one,hea,g1,g2];rfl
   ·simp (disch:=omega) only [hdt_eq,QM,QD,hmod]
end
end Go.Proofs.YtoaanfjcjbghaaaGreatDoor
