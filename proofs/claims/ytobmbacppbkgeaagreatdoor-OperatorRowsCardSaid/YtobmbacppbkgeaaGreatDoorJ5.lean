/- Parts put together: PNb, PNc, PNd, PPa, PPb, PQa, PQb. -/
import Derived.Test.YtobmbacppbkgeaaGreatDoorJ4
import Derived.WalkKit
import Derived.Below
import Derived.Sort.Grow
import Derived.Lib.SlicesCompact
set_option linter.unusedSimpArgs false
set_option linter.unusedVariables false
open Array renaming replicate→Zro
open List renaming range→Zq6,mem_cons_self→Zrp
open Nat renaming beq→Zqv,add_assoc→Zq9
namespace Go.PM
open Go
variable {P:Program} {R:Type} {r:R}
def Nz (tmps:Array Value):ResultVar->Sem Value
 | .tmp t=>pure (tmps.getD t undef)
 | .cell a t=>do loadVar t (<-asAddr (tmps.getD a undef))
theorem Zao {tmps:Array Value} {w:World}: ∀(rs:List ResultVar) (us:List Value),rs.length=us.length->(∀(j:Nat) (x:ResultVar) (u:Value),rs[j]? =some x->us[j]? =some u->(Nz tmps x).run P w= .ok u w)->
  (rs.mapM (Nz tmps)).run P w= .ok us w
 | [],[],_,_=>by simp
 | [],u::us,h,_=>by simp at h
 |x::rs,[],h,_=>by simp at h
 |x::rs,u::us,h,hr=>by
  have h1:=hr 0 x u rfl rfl;have h2:=Zao rs us (by simpa using h) λj x u hx hu=>hr (j+1) x u (by simpa using hx) (by simpa using hu);rw[Zqa];simp[h1,h2]
def Zea:List Value->Value
 | [u]=>u
 |us=> .tuple us.toArray
theorem J6 {fn:Func} {tmps:Array Value} {w:World} {us:List Value} (hl:fn.results.toList.length=us.length) (h: ∀(j:Nat) (x:ResultVar) (u:Value),fn.results.toList[j]? =some x->us[j]? =some u->(Nz tmps x).run P w= .ok u w):
  (results fn tmps).run P w= .ok (Zea us) w:=by
 have e:results fn tmps=(do
   let vs<-fn.results.mapM (Nz tmps)
   pure (if h:vs.size=1 then vs[0]else .tuple vs)):=by
  unfold results
  congr 1
 rw[e,Zqe];have:=Zao (P:=P) (tmps:=tmps) (w:=w) fn.results.toList us hl h;simp only[Sem.run_bind,Sem.run_map,this,Result.andThen_ok,Sem.run_pure];cases us with
 |nil=>simp[Zea]
 |cons u us=>cases us<;>simp[Zea]
section
variable {A:Fr} {E:Env} {σ:St} {l:Loc} {a:Act}
def Plain (v:V):Prop:=(∃c,v= .c c)\/ ∃cs,v= .agg cs
inductive NewR (P:Program) (E:Env) (l:Loc) (m:Nat):Qe->V->Value->Prop
 |own {s n:Nat} {te:TypeId} {u:Value} (h:RV P E l (.own s 0 n) u):NewR P E l m (some s,te,some (n*Zg P te)) (.own (OUT+m) 0 n) u
 |ptr {s:Nat} {te:TypeId} {u:Value} (h:RV P E l (.ptr s 0) u):NewR P E l m (some s,te,none) (.ptr (OUT+m) 0) u
 |clo {f:FuncId} {s:Nat} {te:TypeId} {u:Value} (h:RV P E l (.clo f s) u):NewR P E l m (some s,te,none) (.clo f (OUT+m)) u
 |nil {te:TypeId}:NewR P E l m (none,te,some 0) (.own (OUT+m) 0 0) (.slice none 0 0)
theorem NewR.mono {E E':Env} {l l':Loc} (hx: ∀y v,RV P E l y v->RV P E' l' y v) {m:Nat} {q:Qe} {v:V} {u:Value} (h:NewR P E l m q v u):NewR P E' l' m q v u:=by
 cases h with
 |own h=>exact .own (hx _ _ h)
 |ptr h=>exact .ptr (hx _ _ h)
 |clo h=>exact .clo (hx _ _ h)
 |nil=>exact .nil
def Zap (P:Program) (E:Env) (l:Loc) (m:Nat) (os:List Qe) (v:V) (u:Value):Prop:=
 ∃(ys:List V) (us:List Value),v= .mag ys/\u= .agg us.toArray/\us.length=ys.length/\(∀u∈us,u.oneCell'=true)/\
  ∀(j:Nat) (y:V) (u:Value),ys[j]? =some y->us[j]? =some u->(∃c,y= .c c/\RC E.w E.Pr c u)\/ ∃i q,os[i]? =some q/\NewR P E l (m+i) q y u
theorem Zap.mono {E E':Env} {l l':Loc} (hh:Zo E.w E.Pr E'.w E'.Pr) (hx: ∀y v,RV P E l y v->RV P E' l' y v) {m:Nat} {os:List Qe} {v:V} {u:Value} (h:Zap P E l m os v u):Zap P E' l' m os v u:=by
 obtain⟨ys,us,h1,h2,h3,h4,h5⟩:=h;refine⟨ys,us,h1,h2,h3,h4,λj y u hy hu=> ?_⟩;rcases h5 j y u hy hu with⟨c,e,hc⟩|⟨i,q,hq,hn⟩
 ·exact .inl ⟨c,e,hc.held hh⟩
 ·exact .inr ⟨i,q,hq,hn.mono hx⟩
theorem Lx {E:Env} {l:Loc} {te m:Nat} {x:V} {u:Value} (hx:RV P E l x u) {k:V->Loc->List Qe->Option R} (h:R7 P te m x l k=some r): ∃v q,k v l [q]=some r/\NewR P E l m q v u:=by
 unfold R7 at h;split at h
 ·obtain⟨hb,h'⟩:=Za h;have:=Zmp hb;subst this;exact⟨_,_,h', .own hx⟩
 ·cases hx with|c hc=>cases hc with|nl=>exact⟨_,_,h, .nil⟩
 ·cases h
theorem V7 {E:Env} {l:Loc}: ∀{ts:List (TypeId×Option TypeId)} {xs:List V} {m:Nat} {us:List Value} (_:us.length=xs.length) (_: ∀(j:Nat) (x:V) (u:Value),xs[j]? =some x->us[j]? =some u->RV P E l x u)
  {k:List V->Loc->List Qe->Option R} (_:Mq P m ts xs l k=some r),
  ∃ys os,k ys l os=some r/\ys.length=us.length/\ ∀(j:Nat) (y:V) (u:Value),ys[j]? =some y->us[j]? =some u->(∃c,y= .c c/\RC E.w E.Pr c u)\/ ∃i q,os[i]? =some q/\NewR P E l (m+i) q y u
 | [],xs,m,us,hl,hx,k,h=>by
  unfold Mq at h;split at h
  ·exact⟨[],[],h,by simpa using hl.symm,by simp⟩
  ·cases h
 |q::ts,[],m,us,hl,hx,k,h=>by cases h
 |q::ts,x::xs,m,[],hl,hx,k,h=>by simp at hl
 |q::ts,x::xs,m,u::us,hl,hx,k,h=>by
  have hv:=hx 0 x u rfl rfl;have hxt: ∀(q:Nat) (y:V) (v:Value),xs[q]? =some y->us[q]? =some v->RV P E l y v:=λq y v h1 h2=>hx (q+1) y v (by simpa using h1) (by simpa using h2);unfold Mq uncV at h;simp only at h;split at h
  ·split at h
   ·rename_i c;obtain⟨ys,os,h1,h2,h3⟩:=V7 (ts:=ts) (xs:=xs) (us:=us) (by simpa using hl) hxt h;refine⟨.c c::ys,os,h1,by simp[h2],λj y v hy hu=> ?_⟩;cases j with
    |zero=>
     simp at hy hu;subst hy hu;cases hv with|c h=>exact .inl ⟨c,rfl,h⟩
    |succ j=>exact h3 j y v (by simpa using hy) (by simpa using hu)
   ·cases h
  ·obtain⟨v,q1,h,hq⟩:=Lx hv h;obtain⟨ys,os,h1,h2,h3⟩:=V7 (ts:=ts) (xs:=xs) (us:=us) (by simpa using hl) hxt h;refine⟨_,_,h1,by simp[h2],λj y v hy hu=> ?_⟩;cases j with
   |zero=>
    simp at hy hu;subst hy hu;exact .inr ⟨0,_,rfl,hq⟩
   |succ j=>
    rcases h3 j y v (by simpa using hy) (by simpa using hu)with h|⟨i,q,hq,hn⟩
    ·exact .inl h
    ·refine .inr ⟨i+1,q,by simpa using hq, ?_⟩;rw[show m+(i+1)=m+[q1].length+i by simp;omega];exact hn
theorem Ft (hr:Rel P A E ⟨σ.slots,l⟩ (λ_=>False) a) {ex:Option TypeId} {m:Nat} {x:ResultVar} {k:V->Loc->List Qe->Option R} (h:Zg2 P ex m σ l x k=some r):
  ∃v l' os E' u,k v l' os=some r/\E'.w=E.w/\Rel P A E' ⟨σ.slots,l'⟩ (λ_=>False) a/\(∀y v,RV P E l y v->RV P E' l' y v)/\Zo E.w E.Pr E'.w E'.Pr/\(Nz a.tmps x).run P E.w= .ok u E.w/\
   ((Plain v/\os=[]/\RV P E' l' v u)\/(∃q,os=[q]/\NewR P E' l' m q v u)\/Zap P E' l' m os v u):=by
 have slot: ∀t y,σ.get t=y->y≠ .und->RV P E l y (a.tmps.getD t undef):=λt y hy hn=>by
  by_cases ht:t<σ.slots.length
  ·have:=hr.slots t ht;have e:St.get ⟨σ.slots,l⟩ t=y:=hy;rw[e]at this;exact this
  ·rw[Mz (E:=E) (l:=l) (u:=undef) ht]at hy;exact absurd hy.symm hn
 have new1: ∀{y:V} {u:Value} {te:TypeId},RV P E l y u->(Nz a.tmps x).run P E.w= .ok u E.w->R7 P te m y l k=some r->
   ∃v l' os E' u,k v l' os=some r/\E'.w=E.w/\Rel P A E' ⟨σ.slots,l'⟩ (λ_=>False) a/\(∀y v,RV P E l y v->RV P E' l' y v)/\Zo E.w E.Pr E'.w E'.Pr/\(Nz a.tmps x).run P E.w= .ok u E.w/\
   ((Plain v/\os=[]/\RV P E' l' v u)\/(∃q,os=[q]/\NewR P E' l' m q v u)\/Zap P E' l' m os v u):=by
  intro y u te hy hrun ho;obtain⟨v,q,hk,hq⟩:=Lx hy ho;exact⟨v,l,[q],E,u,hk,rfl,hr,λ_ _ h=>h, .refl _ _,hrun, .inr (.inl ⟨q,rfl,hq⟩)⟩
 have pure1: ∀{y:V} {u:Value},RV P E l y u->Zbo y=true->(Nz a.tmps x).run P E.w= .ok u E.w->pur P false y l (λcs l'=>match cs with| [c]=>k (.c c) l' []|_=>none)=some r->
   ∃v l' os E' u,k v l' os=some r/\E'.w=E.w/\Rel P A E' ⟨σ.slots,l'⟩ (λ_=>False) a/\(∀y v,RV P E l y v->RV P E' l' y v)/\Zo E.w E.Pr E'.w E'.Pr/\(Nz a.tmps x).run P E.w= .ok u E.w/\
   ((Plain v/\os=[]/\RV P E' l' v u)\/(∃q,os=[q]/\NewR P E' l' m q v u)\/Zap P E' l' m os v u):=by
  intro y u hy ho hrun hp;have h1:=Rf hy hp ho;obtain⟨cs,l1,E1,hk,hG,hM,hc,_⟩:=Xf (show Good P A E l (λ_=>False) from hr.good) hy hp;rw[cells_one h1]at hc;split at hk
  ·rename_i c;obtain⟨u',us,e,hcu,_⟩:=hc.uncons;have e':u=u':=by simpa using congrArg List.head? e
   subst e';have hr1:Rel P A E1 ⟨σ.slots,l1⟩ (λ_=>False) a:=⟨hG,λt' ht'=>hM.rv (hr.slots t' ht'),hr.size,by rw[hM.D];exact hr.defers,hr.tm,hr.len,λk g n hk=>hM.rv (hr.outs k g n hk)⟩;exact⟨_,_,_,E1,u,hk,hM.w,hr1,λ_ _ h=>hM.rv h,hM.held,hrun, .inl ⟨.inl ⟨_,rfl⟩,rfl, .c hcu⟩⟩
  ·cases hk
 cases x with
 |tmp t=>
  have hrun:(Nz a.tmps (.tmp t)).run P E.w= .ok (a.tmps.getD t undef) E.w:=by simp[Nz]
  simp only[Zg2]at h;split at h
  ·rename_i c hc;split at h
   ·exact new1 (slot t _ hc (by simp)) hrun h
   ·exact⟨_,_,_,E,_,h,rfl,hr,λ_ _ h=>h, .refl _ _,hrun, .inl ⟨.inl ⟨_,rfl⟩,rfl,slot t _ hc (by simp)⟩⟩
  ·rename_i cs hc;exact⟨_,_,_,E,_,h,rfl,hr,λ_ _ h=>h, .refl _ _,hrun, .inl ⟨.inr ⟨_,rfl⟩,rfl,slot t _ hc (by simp)⟩⟩
  ·rename_i s off n hc;split at h
   ·exact new1 (slot t _ hc (by simp)) hrun h
   ·exact pure1 (slot t _ hc (by simp)) rfl hrun h
  ·rename_i s off hc;split at h
   ·split at h
    ·obtain⟨σ2,E2,z1,z2,z3,z4,z5⟩:=Q6 _ hr h;obtain⟨h0,h'⟩:=Za z3;have e1:=Zmp h0;subst e1;obtain⟨sl2,l2⟩:=σ2;obtain rfl:sl2=σ.slots:=z4;exact⟨_,_,_,E2,_,h',z1.1,z2,z5,z1.2.2.2,hrun, .inr (.inl ⟨_,rfl, .ptr (z5 _ _ (slot t _ hc (by simp)))⟩)⟩
    ·obtain⟨h0,h'⟩:=Za h;have e1:=Zmp h0;subst e1;exact⟨_,_,_,E,_,h',rfl,hr,λ_ _ h=>h, .refl _ _,hrun, .inr (.inl ⟨_,rfl, .ptr (slot t _ hc (by simp))⟩)⟩
   ·exact pure1 (slot t _ hc (by simp)) rfl hrun h
  ·rename_i f s hc;split at h
   ·obtain⟨_,h⟩:=Za h;exact⟨_,_,_,E,_,h,rfl,hr,λ_ _ h=>h, .refl _ _,hrun, .inr (.inl ⟨_,rfl, .clo (slot t _ hc (by simp))⟩)⟩
   ·cases h
  ·rename_i s hc;split at h
   ·cases h
   ·exact pure1 (slot t _ hc (by simp)) rfl hrun h
  ·rename_i xs hc;split at h
   ·have hx:=slot t _ hc (by simp);generalize hu:a.tmps.getD t undef=u at hx;cases hx with
    | @mag _ us hs h1 hrv=>
     split at h
     ·obtain⟨ys,os,hk,hl2,hx2⟩:=V7 hs hrv h;exact⟨_,l,os,E, .agg us.toArray,hk,rfl,hr,λ_ _ h=>h, .refl _ _,by rw[<-hu];exact hrun, .inr (.inr ⟨ys,us,rfl,rfl,hl2.symm,h1,hx2⟩)⟩
     ·cases h
   ·cases h
  ·cases h
 |cell b t=>
  simp only[Zg2]at h;split at h
  ·rename_i s off hc;have hx:=slot b _ hc (by simp);have addr: ∀ad v,a.tmps.getD b undef= .pointer (some ad)->(loadVar t ad).run P E.w= .ok v E.w->(Nz a.tmps (.cell b t)).run P E.w= .ok v E.w:=by
    intro ad v h1 h2;simp[Nz,h1,h2,asAddr]
   generalize hu:a.tmps.getD b undef=u at hx;split at h
   ·rename_i t' fz cs hl;split at h
    ·cases h
    cases hx with
    |ptrDead hd=>rw[hd]at hl;cases hl
    | @ptr _ _ g hg=>
     have hat:=((Tm (show Good P A E l (λ_=>False) from hr.good) (show Z4 (l s)=some (t',fz,cs) by rw[hl];rfl) hg).1.at_).drop off;rw[Zmt]at hat;obtain⟨d,hd⟩:=Qk h;obtain⟨v,u',hk,hr',hv⟩:=Yv (P:=P) hd hat h;refine⟨v,l,[],E,u',hk,rfl,hr,λ_ _ h=>h, .refl _ _,addr _ _ hu hr', .inl ⟨?_,rfl,Uf hv⟩⟩;rcases hv with⟨c,e,_⟩|⟨cs',_,e,_⟩
     ·exact .inl ⟨c,e⟩
     ·exact .inr ⟨cs',e⟩
   ·rename_i t' xs hl;cases hx with
    |ptrDead hd'=>rw[hd']at hl;cases hl
    | @ptr _ _ g hg=>
     have hG:Good P A E l (λ_=>False):=hr.good;obtain⟨cur,hrow,hlen,hxx,_⟩:=Wa hG hl hg;have hcell: ∀(j:Nat) (u:Value),cur[j]? =some u->E.w.cell? ⟨g,j,none⟩=some u:=λj u hj=>(cell_of_row E.w _ j _ _ _ hrow).trans hj;split at h
     ·rename_i ha;split at h
      ·split at h
       ·obtain⟨hb,hk⟩:=Za h;rw[Zmq]at hb;have hle:=Zmu hb.1;obtain⟨i,hi⟩:=Zng.1 hb.2;have hsub: ∀(j:Nat) (x:V) (u:Value),((xs.drop off).take (Zg P t))[j]? =some x->((cur.toList.drop off).take (Zg P t))[j]? =some u->RV P E l x u/\u.oneCell'=true:=λj x u hx hu=>by
         rw[Znc]at hx hu;split at hx
         ·rename_i hj;rw[if_pos hj,Znd]at hu;rw[Znd]at hx;exact hxx _ x u hx (by simpa using hu)
         ·cases hx
        have hll:((cur.toList.drop off).take (Zg P t)).length=((xs.drop off).take (Zg P t)).length:=by simp;omega
        obtain⟨ys,os,hk2,hl2,hx2⟩:=V7 hll (λj x u hx hu=>(hsub j x u hx hu).1) hk;have hload:=T5 (P:=P) (w:=E.w) (g:=g) (o:=off) (us:=(cur.toList.drop off).take (Zg P t)) hi ha (λj u hu=>by
         rw[Znc]at hu;split at hu
         ·rw[Znd]at hu;exact hcell _ u (by simpa using hu)
         ·cases hu) (by simp;omega)
        refine⟨_,l,os,E,_,hk2,rfl,hr,λ_ _ h=>h, .refl _ _,addr _ _ hu hload, .inr (.inr ⟨ys,_,rfl,rfl,hl2.symm,λu hu=> ?_,hx2⟩)⟩;obtain⟨j,hj,rfl⟩:=Znp.1 hu;exact(hsub j ((xs.drop off).take (Zg P t))[j] _ (Zm0 (by omega)) (Zm0 hj)).2
       ·cases h
      obtain⟨hb,hk⟩:=Za h;have hle:=Zmu hb;obtain⟨cs,l1,E1,h1,hG1,hM,hc',_⟩:=Rb (us:=(cur.toList.drop off).take (Zg P t)) hG (by simp;omega) (λj x u hx hu=>by
       rw[Znc]at hx hu;split at hx
       ·rename_i hj;rw[if_pos hj,Znd]at hu;rw[Znd]at hx;exact hxx _ x u hx (by simpa using hu)
       ·cases hx) hk
      have hat:At E1.w E1.Pr g off cs:=hc'.at_ rfl λj u hu=>by
       rw[Znc]at hu;split at hu
       ·rw[Znd]at hu;rw[hM.w];exact hcell _ u (by simpa using hu)
       ·cases hu
      obtain⟨d,hd⟩:=Qk h1;obtain⟨v,u',hk,hr',hv⟩:=Yv (P:=P) hd hat h1;rw[hM.w]at hr';have hr1:Rel P A E1 ⟨σ.slots,l1⟩ (λ_=>False) a:=⟨hG1,λt' ht'=>hM.rv (hr.slots t' ht'),hr.size,by rw[hM.D];exact hr.defers,hr.tm,hr.len,λk g n hk=>hM.rv (hr.outs k g n hk)⟩;refine⟨v,l1,[],E1,u',hk,hM.w,hr1,λ_ _ h=>hM.rv h,hM.held,addr _ _ hu hr', .inl ⟨?_,rfl,Uf hv⟩⟩;rcases hv with⟨c,e,_⟩|⟨cs',_,e,_⟩
      ·exact .inl ⟨c,e⟩
      ·exact .inr ⟨cs',e⟩
     ·rename_i ha;have cell1: ∀y ys,xs.drop off=y::ys-> ∃u',RV P E l y u'/\u'.oneCell'=true/\E.w.cell? ⟨g,off,none⟩=some u':=λy ys e=>by
       have hy:xs[off]? =some y:=by
        have:(xs.drop off)[0]? =some y:=by rw[e];rfl
        rwa [Znd,Znz]at this
       have hlt:off<cur.size:=by have:=(Zmx.1 hy).1;omega
       obtain⟨h1,h2⟩:=hxx off y cur[off] hy (by simp[hlt]);exact⟨_,h1,h2,hcell off cur[off] (by simp[hlt])⟩
      split at h
      ·rename_i s' off' n' ys hxs;obtain⟨u',h1,_,h3⟩:=cell1 _ _ hxs;obtain⟨hb,h'⟩:=Za h;obtain⟨d,hd⟩:=Zng.1 hb;have hrun:(Nz a.tmps (.cell b t)).run P E.w= .ok u' E.w:=addr _ _ hu (by simp[loadVar,Y2 t E.w d hd,ha,h3]);split at h'
       ·exact new1 h1 hrun h'
       ·exact pure1 h1 rfl hrun h'
      ·rename_i c ys hxs;obtain⟨u',h1,_,h3⟩:=cell1 _ _ hxs;cases h1 with|c hrc=>
       split at h
       ·obtain⟨hb,h⟩:=Za h;obtain⟨d,hd⟩:=Zng.1 hb;have hrun:(Nz a.tmps (.cell b t)).run P E.w= .ok u' E.w:=addr _ _ hu (by simp[loadVar,Y2 t E.w d hd,ha,h3]);exact new1 (.c hrc) hrun h
       ·have hat:At E.w E.Pr g off [c]:=λj c' hj=>by
         cases j with
         |zero=>simp at hj;subst hj;exact⟨_,h3,hrc⟩
         |succ j=>simp at hj
        obtain⟨d,hd⟩:=Qk h;obtain⟨v,u2,hk,hr',hv⟩:=Yv (P:=P) hd hat h;refine⟨v,l,[],E,u2,hk,rfl,hr,λ_ _ h=>h, .refl _ _,addr _ _ hu hr', .inl ⟨?_,rfl,Uf hv⟩⟩;rcases hv with⟨c,e,_⟩|⟨cs',_,e,_⟩
        ·exact .inl ⟨c,e⟩
        ·exact .inr ⟨cs',e⟩
      ·cases h
   ·cases h
  ·cases h
end
end Go.PM
namespace Go.PM
open Go
variable {P:Program}
section
variable {A:Fr} {E:Env} {σ:St} {l:Loc} {a:Act}
def Env.ren (E:Env) (src:Nat->Option Nat):Env:=
 {E with rho:=λs=>match src s with|some s0=>E.rho s0|none=>none,bs:=λs=>match src s with|some s0=>E.bs s0|none=>0,rb:=λs j=>match src s with|some s0=>E.rb s0 j|none=>none,rc:=λs j=>match src s with|some s0=>E.rc s0 j|none=>0}
inductive Goes (src:Nat->Option Nat) (l:Loc) (s:Nat):Obj->Prop
 |same {x:Nat} (h:src s=some x) (hq:Hb (l x)):Goes src l s (l x)
 |part {x n:Nat} {t:TypeId} {cs:List C} (h:src s=some x) (hq:Z4 (l x)=some (t,0,cs)):Goes src l s (.sb t 0 (cs.take n))
 |mxob {x:Nat} {t:TypeId} {xs:List V} {cs:List C} (h:src s=some x) (hq:l x= .mx t xs) (hc:cOf xs=some cs):Goes src l s (.ob t 0 cs)
 |dead (h:src s=none):Goes src l s .dead
 |gone {x:Nat} (h:src s=some x) (hq:l x= .dead):Goes src l s .dead
 |nil {t:TypeId} (h:src s=none):Goes src l s (.sb t 0 [])
theorem Zaq: ∀{xs:List V} {cs:List C},cOf xs=some cs->cs.length=xs.length/\ ∀(j:Nat) (c:C),cs[j]? =some c->xs[j]? =some (.c c)
 | [],cs,h=>by
  simp only[cOf,Option.some.injEq]at h;subst h;exact⟨rfl,λj c h=>by simp at h⟩
 | .c c::xs,cs,h=>by
  simp only[cOf]at h;split at h
  ·rename_i ds hd;injection h with h
   subst h;obtain⟨h1,h2⟩:=Zaq hd;refine⟨by simp[h1],λj c' hj=> ?_⟩;cases j with
   |zero=>simp at hj⊢;exact hj
   |succ j=>simpa using h2 j c' (by simpa using hj)
  ·cases h
theorem Zik (hG:Good P A E l (λ_=>False)) {src:Nat->Option Nat} {l2:Loc} (hlog:l2.log=l.log) (hinj: ∀s s' x,src s=some x->src s'=some x->s=s') (hob: ∀s,Goes src l s (l2 s)):
  Good P A (E.ren src) l2 (λ_=>False):=by
 have hr: ∀s g,(E.ren src).rho s=some g-> ∃x,src s=some x/\E.rho x=some g:=by
  intro s g h;simp only[Env.ren]at h;split at h
  ·rename_i x e;exact⟨x,e,h⟩
  ·cases h
 have hrb: ∀s j g,(E.ren src).rb s j=some g-> ∃x,src s=some x/\E.rb x j=some g:=by
  intro s j g h;simp only[Env.ren]at h;split at h
  ·rename_i x e;exact⟨x,e,h⟩
  ·cases h
 refine⟨λs _=> ?_,λs h=>h.elim,λs s' g h h'=> ?_,λs g h=> ?_,λb k hp=>⟨(hG.prot b k hp).1,λs h=> ?_⟩,by rw[hlog];exact hG.jf,hG.pr0,hG.prN,hG.size,hG.os,hG.tape,hG.output,hG.dr,hG.yok,λs g hs=> ?_,hG.ylt,hG.dm,λs j g e=> ?_⟩
 ·have hg:=hob s;generalize l2 s=o at hg;cases hg with
  |dead e=>exact .dead (by simp[Env.ren,e])
  | @gone x e hq=>
   have h0:=hG.obj x (λh=>h);rw[hq]at h0;cases h0 with|dead h1=>exact .dead (by simp only[Env.ren,e];exact h1)
  |nil e=>exact .sbNil (by simp[Env.ren,e])
  | @same x e hq=>exact ObjOk.ren (E:=E) (E':=E.ren src) (a:=x) (s':=s) rfl rfl (by simp only[Env.ren,e]) (by simp only[Env.ren,e]) (λj=>by simp only[Env.ren,e]) (λj=>by simp only[Env.ren,e]) hq (hG.obj x (λh=>h))
  | @mxob x t xs cs e hq hc=>
   have er:(E.ren src).rho s=E.rho x:=by simp only[Env.ren,e]
   have eb:(E.ren src).bs s=E.bs x:=by simp only[Env.ren,e]
   have h0:=hG.obj x (λh=>h);rw[hq]at h0;cases h0 with
   | @mx _ _ g cur h1 h2 h3 h4 h5=>
    obtain⟨hl,hcs⟩:=Zaq hc;exact .ob (er.trans h1) ⟨cur,h2,(eb.trans h5).symm,by omega,⟨by simp;omega,λj c u hj hu=>by
     rw[Znc]at hu;split at hu
     ·have hx:=(h4 j (.c c) u (hcs j c hj) (by simpa using hu)).1;cases hx with|c h=>exact h
     ·cases hu⟩⟩ (Znv _)
  | @part x n t cs e hq=>
   have er:(E.ren src).rho s=E.rho x:=by simp only[Env.ren,e]
   have eb:(E.ren src).bs s=E.bs x:=by simp only[Env.ren,e]
   have h0:=hG.obj x (λh=>h);have hblk: ∀{g:Nat},Blk E x g t cs->Blk (E.ren src) s g t (cs.take n):=by
    rintro g ⟨cur,c1,c2,c3,c4⟩
    refine⟨cur,c1,c2.trans eb.symm,by rw[Znr];omega, ?_⟩;have h4:=c4.take n;rw[Zqt]at h4;rw[Znr];exact h4
   rcases Y6 hq with e1|e1<;>rw[e1]at h0
   ·cases h0 with|ob h1 h2 h3=>exact .sb (er.trans h1) (hblk h2) (Znv _)
   ·cases h0 with
    |sbNil h1=>rw[List.take_nil];exact .sbNil (er.trans h1)
    |sb h1 h2 h3=>exact .sb (er.trans h1) (hblk h2) (Znv _)
 ·obtain⟨x,e,h⟩:=hr s g h;obtain⟨x',e',h'⟩:=hr s' g h';have:=hG.inj x x' g h h';subst this;exact hinj s s' x e e'
 ·obtain⟨x,e,h⟩:=hr s g h;exact hG.base x g h
 ·obtain⟨x,e,h⟩:=hr s b h;have h3:=(hG.prot b k hp).2 x h;have hg:=hob s;generalize l2 s=o at hg;cases hg with
  |dead e2=>rw[e]at e2;cases e2
  |gone e2 hq=>
   rw[e]at e2;injection e2 with e2;subst e2
   have h0:=hG.obj x (λh=>h);rw[hq]at h0;cases h0 with|dead h1=>rw[h]at h1;cases h1
  |nil e2=>rw[e]at e2;cases e2
  |same e2 hq=>rw[e]at e2;injection e2 with e2;subst e2;exact h3
  |mxob e2 hq _=>
   rw[e]at e2;injection e2 with e2;subst e2
   rw[hq]at h3;exact h3
  | @part x' n t cs e2 hq=>
   rw[e]at e2;injection e2 with e2;subst e2
   have:(l x).fz=0:=by rcases Y6 hq with e1|e1<;>rw[e1]<;>rfl
   omega
 ·obtain⟨x,_,h⟩:=hr s g hs;exact hG.yown x g h
 ·obtain⟨x,e1,h⟩:=hrb s j g e;have c:=hG.rbo x j g h;refine⟨c.cells,λs' e'=> ?_,λs' j' e'=> ?_,c.pr,c.y,c.base⟩
  ·obtain⟨x',_,h'⟩:=hr s' g e';exact c.rho x' h'
  ·obtain⟨x',e2,h'⟩:=hrb s' j' g e';obtain⟨rfl,rfl⟩:=c.one x' j' h';exact⟨hinj _ _ _ e2 e1,rfl⟩
theorem Te: ∀{ss:List Nat} (_:Vz l ss=true) (s:Nat),s∈ss->Hb (l s)\/l s= .dead
 | [],_,s,hs=>by cases hs
 |a::ss,h,s,hs=>by
  unfold Vz at h;split at h
  ·rename_i e;rcases Znl.1 hs with rfl|hs
   ·exact .inl (.inl ⟨_,by rw[e];rfl⟩)
   ·exact Te h s hs
  ·rename_i e;rcases Znl.1 hs with rfl|hs
   ·exact .inl (.inl ⟨_,by rw[e];rfl⟩)
   ·exact Te h s hs
  ·rename_i e;rcases Znl.1 hs with rfl|hs
   ·exact .inl (.inr ⟨_,_,_,e⟩)
   ·exact Te h s hs
  ·rename_i e;rcases Znl.1 hs with rfl|hs
   ·exact .inr e
   ·exact Te h s hs
  ·cases h
theorem Fu {E':Env} {l':Loc} (hx:Zo E.w E.Pr E'.w E'.Pr) {v:V} (hp:Plain v) {u:Value} (h:RV P E l v u):RV P E' l' v u:=by
 rcases hp with⟨c,rfl⟩|⟨cs,rfl⟩
 ·cases h with|c h=>exact .c (h.held hx)
 ·cases h with|agg h=>exact .agg (h.held hx)
def Uv (m:Nat) (os:List Qe) (s:Nat):Option Nat:=
 if OUT<=s then(if s<OUT+m then some s else(os[s-OUT-m]?).bind (·.1))else none
theorem Cf {m i:Nat} {os:List Qe} {q:Qe} (h:os[i]? =some q):Uv m os (OUT+(m+i))=q.1:=by
 have h1:OUT<=OUT+(m+i):=by omega
 have h2: ¬OUT+(m+i)<OUT+m:=by omega
 have h3:OUT+(m+i)-OUT-m=i:=by omega
 simp[Uv,h1,h2,h3,h]
theorem J7 {m:Nat} {l:Loc} {os:List Qe} (hall:Vz l ((Zq6 m).map (OUT+ ·))=true) (hos:Mp l os=true):
  (∀s,Goes (Uv m os) l s (Zs (Vn m l++os.map (Ui l)) l.log s))/\(∀s s' x,Uv m os s=some x->Uv m os s'=some x->s=s')/\
   ∀(i:Nat) (q:Qe),os[i]? =some q->Zs (Vn m l++os.map (Ui l)) l.log (OUT+(m+i))=Ui l q/\Sd l q=true:=by
 have hsp:=Te hall;unfold Mp at hos;rw[Zmq]at hos;obtain⟨hnd,hok⟩:=hos;have hok': ∀(i:Nat) (q:Qe),os[i]? =some q->Sd l q=true:=λi q hq=>by
  rw[Zm7]at hok;exact hok q (Zm4 hq)
 have hlt: ∀(i:Nat) (q:Qe) (x:Nat),os[i]? =some q->q.1=some x->x<OUT:=by
  intro i q x hq hx;have h1:=hok' i q hq;obtain⟨q1,te,qn⟩:=q;simp only at hx;subst hx;cases qn with
  |none=>
   simp only[Sd]at h1;split at h1
   ·simp only[Zmq]at h1;exact Zmu h1.2
   ·simp only[Zmq]at h1;exact Zmu h1.2
   ·cases h1
  |some n=>
   simp only[Sd]at h1;split at h1
   ·simp only[Zmq]at h1;exact Zmu h1.2
   ·cases h1
 have houter:(Vn m l).length=m:=by simp[Vn]
 have hnew: ∀(i:Nat) (q:Qe),os[i]? =some q->Zs (Vn m l++os.map (Ui l)) l.log (OUT+(m+i))=Ui l q:=by
  intro i q hq;rw[Yc,Zoe (by omega),houter,show m+i-m=i by omega,Zm9,hq];rfl
 refine⟨λs=> ?_,λs s' x h h'=> ?_,λi q hq=>⟨hnew i q hq,hok' i q hq⟩⟩
 ·by_cases h1:OUT<=s
  ·obtain⟨k,rfl⟩: ∃k,s=OUT+k:=⟨s-OUT,by omega⟩;by_cases h2:k<m
   ·have e:Zs (Vn m l++os.map (Ui l)) l.log (OUT+k)=l (OUT+k):=by
     rw[Yc,Znt (by omega)];simp[Vn,h2]
    rw[e];rcases hsp (OUT+k) (Zpu.2 ⟨k,by simp[h2],rfl⟩)with hb|hb
    ·exact .same (by simp[Uv,h2]) hb
    ·rw[hb];exact .gone (x:=OUT+k) (by simp[Uv,h2]) hb
   ·obtain⟨i,rfl⟩: ∃i,k=m+i:=⟨k-m,by omega⟩;cases hq:os[i]? with
    |none=>
     have e:Zs (Vn m l++os.map (Ui l)) l.log (OUT+(m+i))= .dead:=by
      rw[Yc,Zoe (by omega),houter,show m+i-m=i by omega,Zm9,hq];rfl
     rw[e];refine .dead ?_;have h1:OUT<=OUT+(m+i):=by omega
     have h2: ¬OUT+(m+i)<OUT+m:=by omega
     have h3:OUT+(m+i)-OUT-m=i:=by omega
     simp[Uv,h1,h2,h3,hq]
    |some q=>
     rw[hnew i q hq];have hs:=Cf (m:=m) hq;have hk:=hok' i q hq;obtain⟨q1,te,qn⟩:=q;cases q1 with
     |none=>exact .nil hs
     |some x=>
      cases qn with
      |none=>
       simp only[Sd]at hk;simp only[Ui];split at hk
       ·rename_i t fz cs e;simp only[Zmq]at hk;have e1:=Zmp hk.1.1;have e2:=Zmp hk.1.2;subst e1 e2;have h5:=Goes.same (src:=Uv m os) (l:=l) (s:=OUT+(m+i)) (x:=x) hs (.inl ⟨_,by rw[e];rfl⟩);rw[e]at h5;exact h5
       ·rename_i t xs e;simp only[Zmq]at hk;have e1:=Zmp hk.1.1;subst e1;cases hcx:cOf xs with
        |none=>rw[hcx]at hk;cases hk.1.2
        |some cs=>
         simp only[];exact .mxob hs e hcx
       ·cases hk
      |some n=>
       simp only[Sd]at hk;simp only[Ui];split at hk
       ·rename_i t fz cs e;simp only[Zmq]at hk;have e1:=Zmp hk.1.1.1;have e2:=Zmp hk.1.1.2;subst e1 e2;exact .part hs e
       ·cases hk
  ·have e:Zs (Vn m l++os.map (Ui l)) l.log s= .dead:=Dr _ _ (by omega);rw[e];exact .dead (by simp[Uv,h1])
 ·simp only[Uv]at h h';split at h
  ·rename_i hs;split at h'
   ·rename_i hs';split at h
    ·injection h with h
     subst h;split at h'
     ·injection h' with h';exact h'.symm
     ·obtain⟨q,hq,hx⟩:=Zm6.1 h';have:=hlt _ _ _ hq hx;omega
    ·obtain⟨q,hq,hx⟩:=Zm6.1 h;split at h'
     ·injection h' with h'
      subst h';have:=hlt _ _ _ hq hx;omega
     ·obtain⟨q',hq',hx'⟩:=Zm6.1 h';have:=P9 (·.1) os hnd _ _ q q' x hq hq' hx hx';omega
   ·cases h'
  ·cases h
theorem Aj {E':Env} {l':Loc} {m i:Nat} {os:List Qe} {q:Qe} (hq:os[i]? =some q) (hall:Vz l' ((Zq6 m).map (OUT+ ·))=true) (hos:Mp l' os=true) {v:V} {u:Value} (h:NewR P E' l' (m+i) q v u):
  RV P (E'.ren (Uv m os)) (Zs (Vn m l'++os.map (Ui l')) l'.log) v u:=by
 obtain⟨_,_,h3⟩:=J7 hall hos;obtain⟨hl,hk⟩:=h3 i q hq;have hs:=Cf (m:=m) hq;cases h with
 |nil=>
  exact .ownNil (fz:=0) (by simp only[Env.ren,hs]) hl
 | @ptr s te u h=>
  simp only[Sd]at hk;split at hk
  ·rename_i t fz cs e;cases h with
   |ptrDead hd=>rw[hd]at e;cases e
   |ptr h=>exact .ptr (by simp only[Env.ren,hs];exact h)
  ·rename_i t xs e;cases h with
   |ptrDead hd=>rw[hd]at e;cases e
   |ptr h=>exact .ptr (by simp only[Env.ren,hs];exact h)
  ·cases hk
 | @clo f s te u h=>
  simp only[Sd]at hk;split at hk
  ·rename_i t fz cs e;cases h with
   |cloDead hd=>rw[hd]at e;cases e
   |clo h=>exact .clo (by simp only[Env.ren,hs];exact h)
  ·rename_i t xs e;cases h with
   |cloDead hd=>rw[hd]at e;cases e
   |clo h=>exact .clo (by simp only[Env.ren,hs];exact h)
  ·cases hk
 | @own s n te u h=>
  simp only[Sd]at hk;split at hk
  ·rename_i t fz cs e;simp only[Zmq]at hk;have e1:=Zmp hk.1.1.1;have e2:=Zmp hk.1.1.2;subst e1 e2;have hl2:Ui l' (some s,t,some (n*Zg P t))= .sb t 0 (cs.take (n*Zg P t)):=by simp only[Ui,e]
   rw[hl2]at hl;cases h with
   |ownDead hd=>rw[hd]at e;cases e
   |ownMx hd=>first|exact(Uk hd e).elim|(rw[e]at hd;cases hd)
   |own0 _ _ ho=>exact absurd rfl ho
   |ownNil h1 h2=>
    rw[h2]at e;injection e with e;injection e with e1 e2;injection e2 with e2 e3
    subst e1 e3;exact .ownNil (fz:=0) (by simp only[Env.ren,hs];exact h1) (by rw[hl,List.take_nil])
   |own h1 h2 h3 h4 h5=>
    rw[e]at h2;injection h2 with h2;injection h2 with e1 e2;injection e2 with e2 e3
    subst e1 e2 e3;exact .own (t:=t) (fz:=0) (cs:=cs.take (n*Zg P t)) (by simp only[Env.ren,hs];exact h1) (by rw[hl];rfl) h3 h4 (by simp only[Env.ren,hs];exact h5)
  ·cases hk
theorem Zeb {E':Env} {l':Loc} {m i0:Nat} {os os0:List Qe} (hsub: ∀(i:Nat) (q:Qe),os0[i]? =some q->os[i0+i]? =some q) (hall:Vz l' ((Zq6 m).map (OUT+ ·))=true) (hos:Mp l' os=true) {v:V} {u:Value} (h:Zap P E' l' (m+i0) os0 v u):
  RV P (E'.ren (Uv m os)) (Zs (Vn m l'++os.map (Ui l')) l'.log) v u:=by
 obtain⟨ys,us,rfl,rfl,h3,h4,h5⟩:=h;refine .mag h3 h4 λj y u hy hu=> ?_;rcases h5 j y u hy hu with⟨c,rfl,hc⟩|⟨i,q,hq,hn⟩
 ·exact .c hc
 ·exact Aj (i:=i0+i) (hsub i q hq) hall hos (by rw[<-Zq9];exact hn)
theorem Fv {R:Type} {r:R}: ∀(rs:List ResultVar) {m:Nat} {ex:List (Option TypeId)} {E:Env} {l:Loc} {k:List V->Loc->List Qe->Option R} (_:Rel P A E ⟨σ.slots,l⟩ (λ_=>False) a) (_:Zg3 P m σ ex l rs k=some r),
  ∃(vs:List V) (l':Loc) (os:List Qe) (E':Env) (us:List Value),k vs l' os=some r/\E'.w=E.w/\Rel P A E' ⟨σ.slots,l'⟩ (λ_=>False) a/\(∀y v,RV P E l y v->RV P E' l' y v)/\Zo E.w E.Pr E'.w E'.Pr/\rs.length=us.length/\vs.length=us.length/\
   (∀(j:Nat) (x:ResultVar) (u:Value),rs[j]? =some x->us[j]? =some u->(Nz a.tmps x).run P E.w= .ok u E.w)/\ ∀(j:Nat) (v:V) (u:Value),vs[j]? =some v->us[j]? =some u->(Plain v/\RV P E' l' v u)\/(∃i q,os[i]? =some q/\NewR P E' l' (m+i) q v u)\/ ∃i0 os0,(∀(i:Nat) (q:Qe),os0[i]? =some q->os[i0+i]? =some q)/\Zap P E' l' (m+i0) os0 v u
 | [],m,ex,E,l,k,hr,h=>⟨[],l,[],E,[],by simpa[Zg3]using h,rfl,hr,λ_ _ h=>h, .refl _ _,rfl,rfl,by simp,by simp⟩
 |x::rs,m,ex,E,l,k,hr,h=>by
  simp only[Zg3]at h;obtain⟨v,l1,os,E1,u,hk,e1,hr1,hm1,hh1,hrun,hcase⟩:=Ft hr h;obtain⟨vs,l2,os2,E2,us,hk2,e2,hr2,hm2,hh2,hl,hlv,hruns,hrvs⟩:=Fv rs hr1 hk;refine⟨v::vs,l2,os++os2,E2,u::us,hk2,e2.trans e1,hr2,λy w hy=>hm2 y w (hm1 y w hy),hh1.trans hh2,by simp[hl],by simp[hlv],λj x' u' hx hu=> ?_,λj v' u' hv' hu=> ?_⟩
  ·cases j with
   |zero=>simp at hx hu;subst hx hu;exact hrun
   |succ j=>
    have:=hruns j x' u' (by simpa using hx) (by simpa using hu);rw[e1]at this;exact this
  ·cases j with
   |zero=>
    simp at hv' hu;subst hv' hu;rcases hcase with⟨hp,_,hv⟩|⟨q,rfl,hq⟩|hq
    ·exact .inl ⟨hp,Fu hh2 hp hv⟩
    ·exact .inr (.inl ⟨0,q,rfl,hq.mono hm2⟩)
    ·refine .inr (.inr ⟨0,os,λi q hi=> ?_,hq.mono hh2 hm2⟩);rw[Zmt,Znt (Zmx.1 hi).1];exact hi
   |succ j=>
    rcases hrvs j v' u' (by simpa using hv') (by simpa using hu)with h|⟨i,q,hq,hn⟩|⟨i0,os0,hs,hm⟩
    ·exact .inl h
    ·refine .inr (.inl ⟨os.length+i,q,by rw[Zoe (by omega),show os.length+i-os.length=i by omega];exact hq, ?_⟩);rw[show m+(os.length+i)=m+os.length+i by omega];exact hn
    ·refine .inr (.inr ⟨os.length+i0,os0,λi q hi=> ?_,by rw[<-Zq9];exact hm⟩);rw[Zoe (by omega),show os.length+i0+i-os.length=i0+i by omega];exact hs i q hi
theorem Zl8 {E:Env} {l:Loc} {b:Bool} {v:V} {u:Value} (h:RV P E l v u):RV P E l (nrV b v) u:=by
 unfold nrV;split
 ·cases h with
  |c h=>
   unfold nrm;split
   ·cases h with|nl=>exact .c (.sl0 (Znv _))
   ·exact .c h
 ·exact h
theorem Ak {cf:Cfg} {fn:Func} {m:Nat} {out:Out} (hcf:cf.P=P) (hr:Rel P A E σ (λ_=>False) a) (hf:finish cf fn m σ=some out):
  ∃u E',(results fn a.tmps).run P E.w= .ok u E.w/\E'.w=E.w/\Good P A E' (Zs out.objs out.log) (λ_=>False)/\RV P E' (Zs out.objs out.log) out.r u/\
   ∀k,k<m->out.objs[k]? =some .dead\/(∀g n,A.outs k=some (g,n)->E'.rho (OUT+k)=some g/\E'.bs (OUT+k)=n):=by
 have fin: ∀{E1:Env} {l':Loc} {os:List Qe},Rel P A E1 ⟨σ.slots,l'⟩ (λ_=>False) a->Vz l' ((Zq6 m).map (OUT+ ·))=true->Mp l' os=true->
   Good P A (E1.ren (Uv m os)) (Zs (Vn m l'++os.map (Ui l')) l'.log) (λ_=>False)/\ ∀k,k<m->(Vn m l'++os.map (Ui l'))[k]? =some .dead\/(∀g n,A.outs k=some (g,n)->(E1.ren (Uv m os)).rho (OUT+k)=some g/\(E1.ren (Uv m os)).bs (OUT+k)=n):=by
  intro E1 l' os hr1 hall hos;obtain⟨q1,q2,q3⟩:=J7 hall hos;refine⟨Zik hr1.good rfl q2 q1,λk hk=> ?_⟩;have hs:Uv m os (OUT+k)=some (OUT+k):=by simp[Uv,hk]
  rcases Te hall (OUT+k) (Zpu.2 ⟨k,by simp[hk],rfl⟩)with hl|hl
  case inr=>
   refine .inl ?_;rw[Znt (by simp[Vn];exact hk)];simp[Vn,hk,hl]
  refine .inr λg n ho=> ?_;have h0:=hr1.outs k g n ho;generalize hv:ghv g n=v at h0;cases h0 with
  |ghDead hd=>exact absurd hd hl.ne
  | @gh _ g2 n2 h1 h2=>
   simp only[ghv,Value.tuple.injEq]at hv;have hv:=congrArg Array.toList hv;simp only[List.cons.injEq,Value.int.injEq,true_and,and_true]at hv;have e1:g=g2:=by omega
   have e2:n=n2:=by omega
   subst e1 e2;exact⟨by simp only[Env.ren,hs];exact h1,by simp only[Env.ren,hs];exact h2⟩
 unfold finish at hf;split at hf
 ·rename_i x hx;rw[hcf]at hf;obtain⟨v,l',os,E1,u,hk,e1,hr1,hm1,hh,hrun,hcase⟩:=Ft (σ:=σ) (l:=σ.loc) hr hf;obtain⟨hb,hk⟩:=Za hk;rw[Zmq]at hb;obtain⟨hall,hos⟩:=hb;injection hk with hk
  subst hk;have hres:(results fn a.tmps).run P E.w= .ok u E.w:=J6 (us:=[u]) (by rw[hx];rfl) λj x' u' hx' hu'=>by
   rw[hx]at hx';cases j with
   |zero=>simp at hx' hu';subst hx' hu';exact hrun
   |succ j=>simp at hx'
  obtain⟨g1,g2⟩:=fin hr1 hall hos;refine⟨u,E1.ren (Uv m os),hres,e1,g1,Zl8 ?_,g2⟩;rcases hcase with⟨hp,rfl,hv⟩|⟨q,rfl,hq⟩|hq
  ·exact Fu (E:=E1) (E':=E1.ren (Uv m [])) (Zo.refl E1.w E1.Pr) hp hv
  ·exact Aj (i:=0) rfl hall hos hq
  ·exact Zeb (i0:=0) (λi q hi=>by rw[Zmt];exact hi) hall hos hq
 ·rename_i hne;rw[hcf]at hf;obtain⟨vs,l',os,E1,us,hk,e1,hr1,hm1,hh,hl,hlv,hruns,hrvs⟩:=Fv (σ:=σ) fn.results.toList hr hf;obtain⟨hb,hk⟩:=Za hk;rw[Zmq]at hb;obtain⟨hall,hos⟩:=hb;injection hk with hk
  subst hk;have hres:=J6 (P:=P) (fn:=fn) hl hruns;have hus:Zea us= .tuple us.toArray:=by
   match us,hl with
   | [],_=>rfl
   | [u],hl=>
    match hq:fn.results.toList,hl with
    | [x],_=>exact(hne x hq).elim
    | [],hl=>simp at hl
    |_::_::_,hl=>simp at hl
   |u::u'::us,_=>rfl
  rw[hus]at hres;obtain⟨g1,g2⟩:=fin hr1 hall hos;refine⟨_,E1.ren (Uv m os),hres,e1,g1, ?_,g2⟩;refine .tup hlv.symm λj x u hx hu=> ?_;rcases hrvs j x u hx hu with⟨hp,hv⟩|⟨i,q,hq,hn⟩|⟨i0,os0,hs,hm⟩
  ·exact Fu (E:=E1) (E':=E1.ren (Uv m os)) (Zo.refl E1.w E1.Pr) hp hv
  ·exact Aj hq hall hos hn
  ·exact Zeb hs hall hos hm
end
end Go.PM
namespace Go.PM
open Go
variable {P:Program}
theorem Rel.take {A:Fr} {E:Env} {σ:St} {a:Act} (h:Rel P A E σ (λ_=>False) a) {d:Nat} {ds:List Nat} (hD:E.D=d::ds):
  Rel P A {E with w:=E.w.putObj d (.deferred none),D:=ds} σ (λ_=>False) {a with defers:=ds.map Ms}:=by
 have hx:Zo E.w E.Pr ({E with D:=ds}:Env).w ({E with D:=ds}:Env).Pr:=Zo.refl E.w E.Pr;have hk: ∀s,Zi E {E with D:=ds} σ.loc σ.loc s:=U8 rfl rfl;have hn:=h.defers.2.2;rw[hD]at hn;have h1:Rel P A {E with D:=ds} σ (λ_=>False) {a with defers:=ds.map Ms}:=by
  refine⟨⟨λs hp=>(h.good.obj s hp).keep hx rfl rfl (λ_ _=>rfl) λ_ _ _ hu=>hu.mono0 hx hk,h.good.pnd,h.good.inj,h.good.base,h.good.prot,h.good.jf,h.good.pr0,h.good.prN,h.good.size,h.good.os,h.good.tape,h.good.output,h.good.dr,h.good.yok,h.good.yown,h.good.ylt,λr hr=> ?_,Qi h.good.rbo⟩,
   λt ht=>(h.slots t ht).mono0 hx hk,h.size,⟨rfl,λe=> ?_,(Zpc.1 hn).2⟩,h.tm,h.len,λk g n hk'=>(h.outs k g n hk').mono0 hx hk⟩
  ·exact h.good.dm r (by rw[hD];exact Znm _ hr)
  ·have:=h.defers.2.1 e;rw[hD]at this;cases this
 have hd:d∈E.D:=by rw[hD];exact Zrp
 have hdm:=h.good.dm d hd;exact h1.world (T8 hdm.1 rfl rfl) (λb hs=>World.putObj_heap_other (λe=>h.good.dmno' hd (e▸(show E.own b from hs)))) (λb hb=>World.putObj_heap_other (λe=>hdm.2 (e▸hb)))
  (λr hr=>World.putObj_heap_other (λe=>(Zpc.1 hn).1 (e▸hr))) (Zoy World.putObj_size.symm) rfl rfl rfl
theorem Ly {fn:Func} {R:Ending->World->Prop} {A:Fr} {σ:St}: ∀(ds:List Nat) {E:Env} {a:Act},E.D=ds->Rel P A E σ (λ_=>False) a->
  (∀E' a',E'.D=[]->a'.tmps=a.tmps->Rel P A E' σ (λ_=>False) a' -> ∃v,(results fn a.tmps).run P E'.w= .ok v E'.w/\R (.returned v) E'.w)->LeavesInM Fence.wide 0 P fn a.tmps R (ds.map Ms) .returning E.w
 | [],E,a,hD,h,hk=>by
  obtain⟨v,h1,h2⟩:=hk E a hD rfl h;exact⟨v,h1,h2⟩
 |d::ds,E,a,hD,h,hk=>by
  have hdm:=h.good.dm d (by rw[hD];exact Zrp);refine⟨by simp, .inl ⟨d,_,rfl,run_takeDeferred hdm.1, ?_⟩⟩;exact Ly ds (E:={E with w:=E.w.putObj d (.deferred none),D:=ds}) (a:={a with defers:=ds.map Ms}) rfl (h.take hD) hk
theorem Zcw {cf:Cfg} (hc: ∀A,GlobOk cf.glob A.w0 A.Pr0->CfgOk P cf A) (hP:cf.P=P) {f:FuncId} {fn:Func} {args:List V} {objs:List Obj} {out:Out} (hf:P.funcs[f]? =some fn) (h:Zbs cf fn args objs=some out):
  Gr P cf.glob f args objs out /\ fn.body ≠ none /\ (fn.name == "runtime.NumGoroutine") = false := by
 unfold Zbs at h;split at h
 ·cases h
 rename_i c hb;obtain⟨h0,hk⟩:=Za h;simp only[Zmq,Znn]at h0;obtain⟨⟨hle,hob⟩,hname⟩:=h0;have hle:=Zmu hle;refine⟨?_,by rw[hb];simp,hname⟩;intro pt E us j hlen hDe hgl hG hargs
 let A:Fr:={Xc pt E j with n:=fn.ntmps,outs:=λk=>if k<objs.length then(E.rho (OUT+k)).map λg=>(g,E.bs (OUT+k))else none}
 have hus:us.toArray.size=args.length:=by simp[hlen]
 have hrel:Rel P A E ⟨⟨λt=>args.getD t .un,fn.ntmps⟩,Zs objs (He args)⟩ (λ_=>False) {tmps:=us.toArray++Zro (fn.ntmps-us.toArray.size) undef,defers:=[]}:=by
  refine⟨⟨hG.obj,hG.pnd,hG.inj,hG.base,hG.prot,hG.jf,hG.pr0,hG.prN,hG.size,hG.os,hG.tape,hG.output,hG.dr,hG.yok,hG.yown,hG.ylt,hG.dm,Qi hG.rbo⟩,λt ht=> ?_, ?_,⟨by rw[hDe];rfl,λe=>(by cases e),by rw[hDe];exact Zpv⟩,λt u h=>(by cases h), ?_,λk g n hk'=> ?_⟩
  ·have ht':t<fn.ntmps:=ht;have e0:St.get ⟨⟨λt=>args.getD t .un,fn.ntmps⟩,Zs objs (He args)⟩ t=args.getD t .un:=Sl.get_lt (l:=⟨λt=>args.getD t .un,fn.ntmps⟩) ht';rw[e0];by_cases hlt:t<args.length
   ·have e1:args.getD t .un=args[t]:=by simp[List.getD,hlt]
    have hlt':t<us.length:=by omega
    have e2:(us.toArray++Zro (fn.ntmps-us.toArray.size) undef).getD t undef=us[t]:=by
     rw[Zn5,Array.getElem?_append_left (by simpa using hlt')];simp[hlt']
    rw[e1,e2];exact hargs t _ _ (Zm0 hlt) (Zm0 hlt')
   ·have e1:args.getD t .un= .un:=by simp[List.getD,Zp0 (Zql hlt)]
    have e2:(us.toArray++Zro (fn.ntmps-us.toArray.size) undef).getD t undef=undef:=by
     rw[Zn5,Array.getElem?_append_right (by simp;omega)];rw[Array.getElem?_replicate];split<;>rfl
    rw[e1,e2];exact .un
  ·show(us.toArray++Zro (fn.ntmps-us.toArray.size) undef).size=fn.ntmps;simp;omega
  ·rfl
  ·have:(if k<objs.length then(E.rho (OUT+k)).map λg=>(g,E.bs (OUT+k))else none)=some (g,n):=hk';split at this
   ·rename_i hlt;obtain⟨g',hg'⟩: ∃g',E.rho (OUT+k)=some g':=by
     cases hq:E.rho (OUT+k)with
     |none=>rw[hq]at this;cases this
     |some g'=>exact⟨g',rfl⟩
    rw[hg']at this;simp at this;obtain⟨e1,e2⟩:=this;subst e1;exact .gh hg' e2
   ·cases this
 refine callsIn_wide.1 (callsIn_of_wp_marks (F:=Fence.wide) (n:=0) hf hb trivial (wpM (λe a w hq=> ?_) (Ya c (hc A hgl) (ro:=none) (.inr ⟨rfl,rfl⟩) hrel (λ_ _=>rfl) hk)));obtain⟨x,σ,E1,rfl,hx,rfl,hr⟩:=hq;have fin:finish cf fn objs.length σ=some out->LeavesInM Fence.wide 0 P fn a.tmps (λe w'=> ∃u E',e= .returned u/\E'.w=w'/\Good P (Xc pt E j) E' (Zs out.objs out.log) (λ_=>False)/\RV P E' (Zs out.objs out.log) out.r u/\
   ∀k,k<objs.length-> ∀g,E.rho (OUT+k)=some g->out.objs[k]? =some .dead\/(E'.rho (OUT+k)=some g/\E'.bs (OUT+k)=E.bs (OUT+k))) a.defers .returning E1.w:=by
  intro hfin;rw[hr.defers.1];refine Ly E1.D rfl hr λE2 a2 _ ha2 hr2=> ?_;obtain⟨u,E',g1,g2,g3,g4,g5⟩:=Ak hP hr2 hfin;rw[ha2]at g1;refine⟨u,g1,u,E',rfl,g2,⟨g3.obj,g3.pnd,g3.inj,g3.base,g3.prot,g3.jf,g3.pr0,g3.prN,g3.size,g3.os,g3.tape,g3.output,g3.dr,g3.yok,g3.yown,g3.ylt,g3.dm,Qi g3.rbo⟩,g4,λk hk' g hg=> ?_⟩;refine(g5 k hk').imp id λg5=> ?_;exact g5 g (E.bs (OUT+k)) (by show(if k<objs.length then(E.rho (OUT+k)).map λg=>(g,E.bs (OUT+k))else none)=_;rw[if_pos hk',hg];rfl)
 cases x with
 |normal=>exact fin hx
 |ret=>exact fin hx
 |exit id=>cases hx
def PrimOk (P:Program) (prim:Prims):Prop:=
 (∀ f g args objs out, prim.fn f = some g -> g args objs = some out -> Gr P prim.glob f args objs out /\ ∃ fn, P.funcs[f]? = some fn /\ fn.body ≠ none /\ (fn.name == "runtime.NumGoroutine") = false) /\ ∀ f, prim.add = some f -> AddAt P f
def IterOk (P:Program) (prim:Prims) (laid:FuncId->Laid) (fu:Nat):Prop:=
 ∀d f caps xs,prim.iter d f caps=some xs-> ∀l go,∃out lg,callN P prim laid fu d f (.c (.yl l go xs)::caps.map .c) []=some out/\out.log=some lg/\(lg.st=true\/lg.rest=[])
theorem Py {prim:Prims} {laid:FuncId->Laid} {fu:Nat} (hp:PrimOk P prim) (hi:IterOk P prim laid fu) (hm:P.follows .mixedOrders=true):
  ∀ (d : Nat) (f : FuncId) (args : List V) (objs : List Obj) (out : Out), callN P prim laid fu d f args objs = some out -> Gr P prim.glob f args objs out /\ ∃ fn, P.funcs[f]? = some fn /\ fn.body ≠ none /\ (fn.name == "runtime.NumGoroutine") = false
 |0,f,args,objs,out,h=>by cases h
 |d+1,f,args,objs,out,h=>by
  simp only[callN]at h;split at h
  ·rename_i g hg;exact hp.1 f g args objs out hg h
  ·split at h
   ·cases h
   ·rename_i fn hf;have hc: ∀A,GlobOk prim.glob A.w0 A.Pr0->CfgOk P {P:=P,call:=callN P prim laid fu d,iter:=prim.iter d,rnd:=false,fuel:=fu,own:=(laid f).own,keep:=(laid f).keep,join:=(laid f).join,exp:=(laid f).exp,xo:=λf=>(laid f).exp,hand:=λf=>(laid f).hand,glob:=prim.glob,loud:=(laid f).loud,lh:=(laid f).lh,fzb:=λf=>(laid f).fzb,mix:=(laid f).mix,bar:=(laid f).bar,nr:=(laid f).nr,unr:=(laid f).unr,ent:=none,rd:=(laid f).rd,pr:=(laid f).pr,lost:=λf=>(laid f).lost,add:=prim.add} A:=λA hg=>
     ⟨rfl,λf args objs out h=>(Py hp hi hm d f args objs out h).1,λf args objs out h=>(Py hp hi hm d f args objs out h).2,hm,λf caps xs h l go=>hi d f caps xs h l go,hg, .none rfl,hp.2⟩
    obtain⟨h1,h2,h3⟩:=Zcw hc rfl hf h;exact⟨h1,fn,hf,h2,h3⟩
end Go.PM
namespace Go.PM
open Go
def bd {A R:Type} (x:A) (k:A->Option R):Option R:=k x
def natD {R:Type} (n:Nat) (a:Option R) (b:Nat->Option R):Option R:=match n with|0=>a|m+1=>b m
def nilV {R:Type} (xs:List V) (k:Option R):Option R:=match xs with| []=>k|_::_=>none
def unI {R:Type} (xs:List (List V)) (k:List V->List (List V)->Option R):Option R:=match xs with| []=>none|x::r=>k x r
def rN {R:Type} (o:PM.Obj) (t n:Nat) (k:List C->Option R):Option R:=rO o t 0 λcs=>need (Zqv cs.length n) (k cs)
def ik (kd:IntKind) (l:List Int):List C:=l.map λi=> .v (.int kd i)
abbrev ints (l:List Int):List C:=ik .i64 l
def prs:List (Int×Int)->List C
 | []=>[]
 |p::r=> .v (.int .i64 p.1):: .v (.int .i64 p.2)::prs r
section
variable {R A B':Type}
@[simp] theorem Zcx (c:C) (k:C->Option R):rC (.c c) k=k c:=id rfl
@[simp] theorem Zil (cs:List C) (k:List C->Option R):rA (.agg cs) k=k cs:=id rfl
@[simp] theorem Zim (vs:List V) (k:List V->Option R):rT (.tup vs) k=k vs:=id rfl
@[simp] theorem Zl9 (s off m:Nat) (k:Option R):rP (.ptr s off) m k=need (Zqv s (OUT+m)&&Zqv off 0) k:=id rfl
@[simp] theorem Zma (s off n m:Nat) (k:Nat->Option R):rW (.own s off n) m k=need (Zqv s (OUT+m)&&Zqv off 0) (k n):=id rfl
@[simp] theorem rS_sb (t fz t' fz':Nat) (cs:List C) (k:List C->Option R):rS (.sb t fz cs) t' fz' k=need (Zqv t t'&&Zqv fz fz') (k cs):=id rfl
@[simp] theorem rF_sb (t fz t':Nat) (cs:List C) (k:Nat->List C->Option R):rF (.sb t fz cs) t' k=need (Zqv t t'&&Nat.ble fz cs.length) (k fz cs):=id rfl
@[simp] theorem Cg (x:V) (r:List V) (k:V->List V->Option R):uncV (x::r) k=k x r:=id rfl
@[simp] theorem Q7 (x:PM.Obj) (r:List PM.Obj) (k:PM.Obj->List PM.Obj->Option R):uncO (x::r) k=k x r:=id rfl
@[simp] theorem unI_cons (x:List V) (r:List (List V)) (k:List V->List (List V)->Option R):unI (x::r) k=k x r:=id rfl
@[simp] theorem Zar (k:Option R):nilV [] k=k:=id rfl
@[simp] theorem Fw (t fz t' fz':Nat) (cs:List C) (k:List C->Option R):rO (.ob t fz cs) t' fz' k=need (Zqv t t'&&Zqv fz fz') (k cs):=id rfl
@[simp] theorem rN_ob (t fz t' n:Nat) (cs:List C) (k:List C->Option R):rN (.ob t fz cs) t' n k=need (Zqv t t'&&Zqv fz 0) (need (Zqv cs.length n) (k cs)):=id rfl
@[simp] theorem Tu (x:C) (r:List C) (k:C->List C->Option R):unc (x::r) k=k x r:=id rfl
@[simp] theorem T9 (kd:IntKind) (n:Int) (k:Int->Option R):asI kd (.v (.int kd n)) k=k n:=by simp[asI]
@[simp] theorem Zin (b:Bool) (k:Bool->Option R):asB (.v (.bool b)) k=k b:=id rfl
@[simp] theorem Fx (s:ByteArray) (k:ByteArray->Option R):asS (.v (.string s)) k=k s:=id rfl
@[simp] theorem Lz (n:Nat) (cs:List C) (k:Nat->List C->Option R):asSl (.sl n cs) k=k n cs:=id rfl
@[simp] theorem Zec (k:Nat->List C->Option R):asSl .nl k=k 0 []:=id rfl
@[simp] theorem Zkc (f:FuncId) (cs:List C) (k:FuncId->List C->Option R):Zet (.fn f cs) k=k f cs:=id rfl
@[simp] theorem Zmb (cs:List C) (k:List C->Option R):asP (.cp cs) k=k cs:=id rfl
@[simp] theorem K1 (n:Nat) (cs:List C):nrm (.sl n cs)= .sl n cs:=id rfl
@[simp] theorem Zcy:nrm .nl= .sl 0 []:=id rfl
@[simp] theorem Xg (k:Option R):need true k=k:=id rfl
theorem ct (a b:R):cond true a b=a:=id rfl
theorem cf (a b:R):cond false a b=b:=id rfl
theorem obs {A R:Type} (a:A) (f:A->Option R):Option.bind (some a) f=f a:=id rfl
@[simp] theorem bd_eq (x:A) (k:A->Option R):bd x k=k x:=id rfl
@[simp] theorem Zf2 (a:Option R) (b:Nat->Option R):natD 0 a b=a:=id rfl
@[simp] theorem Zf3 (n:Nat) (a:Option R) (b:Nat->Option R):natD (n+1) a b=b n:=id rfl
@[simp] theorem Zio (a:Option R) (b:Nat->Option R):natD 1 a b=b 0:=id rfl
@[simp] theorem eqV_self (a:List V):eqV a a=true:=by simp[eqV]
@[simp] theorem noYl_int (kd:IntKind) (n:Int) (r:List V):noYl (.c (.v (.int kd n))::r)=true:=id rfl
@[simp] theorem Zmc (x:Value) (r:List V):noYl (.c (.v x)::r)=true:=id rfl
@[simp] theorem Zkd (n:Nat) (cs:List C) (r:List V):noYl (.c (.sl n cs)::r)=true:=id rfl
@[simp] theorem Zke (r:List V):noYl (.c .nl::r)=true:=id rfl
@[simp] theorem Zkf (cs:List C) (r:List V):noYl (.c (.cp cs)::r)=true:=id rfl
@[simp] theorem Zkg (f:FuncId) (cs:List C) (r:List V):noYl (.c (.fn f cs)::r)=true:=id rfl
@[simp] theorem Q8 (n:Nat):Zqv n n=true:=Zox n
theorem Zkh {a b:Nat} (h:a=b):Zqv a b=true:=by subst h;exact Zox a
theorem Zki {a b:Nat} (h:a<=b):Nat.ble a b=true:=Zpz h
theorem Zed {k n:Nat} (h:k<n):inR (k:Int) n=true:=by simp[inR];omega
theorem Zkj {i:Int} {n:Nat} (h0:0<=i) (h:i<n):inR i n=true:=by simp[inR];omega
@[simp] theorem Xu (kd:IntKind) (l:List Int):(ik kd l).length=l.length:=by simp[ik]
@[simp] theorem Zmd (kd:IntKind):ik kd []=[]:=id rfl
theorem Zkk (kd:IntKind) (x:Int) (l:List Int):ik kd (x::l)= .v (.int kd x)::ik kd l:=rfl
theorem Zkl (kd:IntKind) (a:List Int) (x:Int):ik kd a++[.v (.int kd x)]=ik kd (a++[x]):=by simp[ik]
theorem Al (kd:IntKind) (k:Nat) (l:List Int):(ik kd l).take k=ik kd (l.take k):=by simp[ik,List.map_take]
theorem Zee (kd:IntKind) (k:Nat) (l:List Int):(ik kd l).drop k=ik kd (l.drop k):=by simp[ik,List.map_drop]
theorem Fy {kd:IntKind} {l:List Int} {k:Nat} (h:k<l.length) (f:C->List C->Option R):unc ((ik kd l).drop k) f=f (.v (.int kd l[k])) (ik kd (l.drop (k+1))):=by
 rw[Zee,Zof h];rfl
theorem Zcz {kd:IntKind} {l:List Int} {k:Nat} (h:k<l.length) (x:Int):putAt (ik kd l) k [.v (.int kd x)]=ik kd (l.set k x):=by
 unfold putAt;rw[Zpt,if_pos h,Al,Zee];simp[ik]
@[simp] theorem Zme (l:List (Int×Int)):(prs l).length=l.length*2:=by
 induction l with
 |nil=>rfl
 |cons p r ih=>simp[prs,ih];omega
theorem L0 {A:Type} {body:A->Option (Nat×A)} (f:Nat->A) (e:Nat) (z:A): ∀(k i fu:Nat),(∀j,i<=j->j<i+k->body (f j)=some (0,f (j+1)))->body (f (i+k))=some (e+1,z)->k<fu->iter body fu (f i)=some (e,z)
 |0,i,fu,_,he,hf=>by
  cases fu with
  |zero=>omega
  |succ fu=>simp only[iter,Znz]at he⊢;rw[he];rfl
 |k+1,i,fu,h,he,hf=>by
  cases fu with
  |zero=>omega
  |succ fu=>
   simp only[iter];rw[h i (Zm8 i) (by omega)];exact L0 f e z k (i+1) fu (λj h1 h2=>h j (by omega) (by omega)) (by rw[<-he];congr 2;omega) (by omega)
theorem Zas {A:Type} {body:A->Option (Nat×A)} (J:Nat->A->Prop) (Q:Nat->A->Prop): ∀(k i fu:Nat) (x:A),J i x->(∀j y,i<=j->j<i+k->J j y-> ∃y',(body y=some (0,y')/\J (j+1) y')\/ ∃e,body y=some (e+1,y')/\Q e y')->(∀y,J (i+k) y-> ∃e y',body y=some (e+1,y')/\Q e y')->k<fu-> ∃e z,iter body fu x=some (e,z)/\Q e z
 |0,i,fu,x,hx,_,he,hf=>by
  cases fu with
  |zero=>omega
  |succ fu=>
   obtain⟨e,y,h1,h2⟩:=he x hx;exact⟨e,y,by simp only[iter];rw[h1];rfl,h2⟩
 |k+1,i,fu,x,hx,h,he,hf=>by
  cases fu with
  |zero=>omega
  |succ fu=>
   obtain⟨y,h1|⟨e,h1,h2⟩⟩:=h i x (Zm8 i) (by omega) hx
   ·obtain⟨e,z,h3,h4⟩:=Zas J Q k (i+1) fu y h1.2 (λj y' p q=>h j y' (by omega) (by omega)) (λy' hy=>he y' (by rw[show i+(k+1)=i+1+k by omega];exact hy)) (by omega);refine⟨e,z, ?_,h4⟩;simp only[iter];rw[h1.1];exact h3
   ·exact⟨e,y,by simp only[iter];rw[h1];rfl,h2⟩
theorem Ch {A:Type} {body:A->Option (Nat×A)} (J:A->Prop) (m:A->Nat) (Q:Nat->A->Prop) (h: ∀y,J y->(∃y',body y=some (0,y')/\J y'/\m y'<m y)\/ ∃e z,body y=some (e+1,z)/\Q e z): ∀(fu:Nat) (x:A),J x->m x<fu-> ∃e z,iter body fu x=some (e,z)/\Q e z
 |0,_,_,hf=>by omega
 |fu+1,x,hx,hf=>by
  rcases h x hx with⟨y,h1,h2,h3⟩|⟨e,z,h1,h2⟩
  ·obtain⟨e,z,h4,h5⟩:=Ch J m Q h fu y h2 (by omega);exact⟨e,z,by simp only[iter];rw[h1];exact h4,h5⟩
  ·exact⟨e,z,by simp only[iter];rw[h1];rfl,h2⟩
end
theorem Zip {A:Type} {body:A->Option (Nat×A)} {fu:Nat} {x z:A} {e:Nat} (hf:0<fu) (h:body x=some (e+1,z)):iter body fu x=some (e,z):=by
 cases fu with
 |zero=>omega
 |succ fu=>simp only[iter];rw[h];rfl
end Go.PM
namespace Go.PM
open Go Go.RowKit
def E0 (W:World):Env:={w:=W,rho:=λ_=>none,bs:=λ_=>0,Pr:=λb _=>b<W.heap.size,Y:=λb=>b<W.heap.size,D:=[]}
theorem liftD {P:Program} {prim:Prims} {laid:FuncId->Laid} {fu d:Nat} {f:FuncId} {args:List V} {out:Out} (hp:PrimOk P prim) (hi:IterOk P prim laid fu) (hm:P.follows .mixedOrders=true)
  (h:callN P prim laid fu d f args []=some out) (hl:He args=none) (W:World) (hgl:GlobOk prim.glob W λb _=>b<W.heap.size) (us:List Value) (hlen:us.length=args.length)
  (hrel: ∀(i:Nat) (x:V) (u:Value),args[i]? =some x->us[i]? =some u->RV P (E0 W) (Zs [] none) x u):
  Calls P f us.toArray W λe w'=> ∃u E',e= .returned u/\Below W.heap.size W w'/\W.drawn<=w'.drawn/\E'.w=w'/\RV P E' (Zs out.objs out.log) out.r u:=by
 have hc:=(Py hp hi hm d f args [] out h).1;have hdead: ∀s,(Zs [] none) s= .dead:=λs=>by simp[Zs]
 have hg:Good P (Xc (λ_=>0) (E0 W) (frJ W λb=>b<W.heap.size)) (E0 W) (Zs [] none) (λ_=>False):=
  {obj:=λs _=>by rw[hdead];exact .dead rfl
   pnd:=λs h=>h.elim
   inj:=λs s' g h=>by cases h
   base:=λs g h=>by cases h
   prot:=λb k h=>⟨h,λs h=>by cases h⟩
   jf:=⟨rfl,λb hb=>⟨hb,rfl⟩⟩
   pr0:=Zo.refl _ _
   prN:=λb k h=> .inl h
   size:=Zm8 _
   os:=rfl
   tape:=rfl
   output:=rfl
   dr:=Zm8 _
   yok:=Hs W _
   yown:=λs g h=>by cases h
   ylt:=λb h=>h
   dm:=λr h=>by cases h
   rbo:=λs j g e=>by cases e}
 have hrun:=hc (λ_=>0) (E0 W) us (frJ W λb=>b<W.heap.size) hlen rfl hgl (by rw[hl];exact hg) (by rw[hl];exact hrel);refine hrun.mono λe w' ⟨u,E',he,hw,hG,hr,_⟩=>⟨u,E',he, ?_, ?_,hw,hr⟩
 ·subst hw;exact⟨hG.os,hG.tape,hG.output,hG.size,λk hk=>(hG.jf.2 k hk).2⟩
 ·subst hw;exact hG.dr
theorem lift {P:Program} {prim:Prims} {laid:FuncId->Laid} {fu d:Nat} {f:FuncId} {args:List V} {out:Out} (hp:PrimOk P prim) (hi:IterOk P prim laid fu) (hm:P.follows .mixedOrders=true)
  (h:callN P prim laid fu d f args []=some out) (hl:He args=none) (W:World) (hgl:GlobOk prim.glob W λb _=>b<W.heap.size) (us:List Value) (hlen:us.length=args.length)
  (hrel: ∀(i:Nat) (x:V) (u:Value),args[i]? =some x->us[i]? =some u->RV P (E0 W) (Zs [] none) x u):
  Calls P f us.toArray W λe w'=> ∃u E',e= .returned u/\Below W.heap.size W w'/\E'.w=w'/\RV P E' (Zs out.objs out.log) out.r u:=
 (liftD hp hi hm h hl W hgl us hlen hrel).mono λ_ _ ⟨u,E',h1,h2,_,h3,h4⟩=>⟨u,E',h1,h2,h3,h4⟩
theorem RV.scalar {P:Program} {E:Env} {l:Loc} {x:Value} {u:Value} (h:RV P E l (.c (.v x)) u):u=x:=by
 cases h with
 |c h=>cases h;rfl
end Go.PM
namespace Go.PM
open Go Go.Sort
section
variable {P:Program} {α:Type} [Inhabited α] {enc:α->Value} {cel:α->C}
end
end Go.PM
namespace Go.PM
open Go Go.Sort
def Zll (l:List Int):List Int:=l.mergeSort λx y=>decide (x<=y)
@[simp] theorem Zkm (l:List Int):(Zll l).length=l.length:=by simp[Zll]
variable {P:Program} {G:Nat->Option (List C)} {f:FuncId} {t:TypeId} {args:List V} {objs:List Obj} {out:Out}
end Go.PM
