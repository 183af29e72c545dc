/- Parts put together: PMpa, PMpb, PMq, PMr, PMs, PMt, PMu, PMv. -/
import Derived.Test.YtobmbacppbkgeaaGreatDoorJ2
import Derived.MapKept
import Derived.Maps.RangeRun
import Derived.Orders
import Derived.Tactics
set_option linter.unusedSimpArgs false
set_option linter.unusedVariables false
open Array renaming ext'→Zrc,getD→Zri,range→Zra
open Nat renaming beq→Zqv,succ→Zq4,ble→Zqw
namespace Go.PM
open Go
variable {P:Program}
section
variable {A:Fr} {E:Env} {l:Loc} {pend:Nat->Prop} {R:Type} {k:V->Loc->List Nat->Option R} {r:R} {o:Oper} {ρ:Operand->Value}
theorem Zl1 {a b:C} (h:ceq a b=true) {w:World} {Pr:Nat->Nat->Prop} {u v:Value} (hu:RC w Pr a u) (hv:RC w Pr b v):u=v/\ ∀n,Instr.sameBits n u u=true:=by
 unfold ceq at h;split at h
 ·cases hu with|v _=>cases hv with|v _=>
  simp only[Zmq,decide_eq_true_eq]at h;obtain⟨rfl,rfl⟩:=h;exact⟨rfl,λn=>by simp[Instr.sameBits]⟩
 ·cases hu with|v _=>cases hv with|v _=>
  simp only[decide_eq_true_eq]at h;subst h;exact⟨rfl,λn=>by simp[Instr.sameBits]⟩
 ·cases hu with|v _=>cases hv with|v _=>
  simp only[decide_eq_true_eq]at h;subst h;exact⟨rfl,λn=>by simp[Instr.sameBits,MapKept.bytes_beq]⟩
 ·cases h
theorem Zd2 {w:World} {Pr:Nat->Nat->Prop}: ∀{a b:List C} {us vs:List Value},Zbp a b=true->RCs w Pr a us->RCs w Pr b vs->us=vs/\ ∀n,∀u∈us,Instr.sameBits n u u=true
 | [],[],us,vs,_,hu,hv=>by
  obtain rfl:us=[]:=Zna hu.1;obtain rfl:vs=[]:=Zna hv.1;exact⟨rfl,by simp⟩
 |a::as,b::bs,us,vs,h,hu,hv=>by
  simp only[Zbp,Zmq]at h;obtain⟨u,us',rfl,h1,h2⟩:=hu.uncons;obtain⟨v,vs',rfl,h3,h4⟩:=hv.uncons;obtain⟨rfl,e2⟩:=Zl1 h.1 h1 h3;obtain⟨rfl,e4⟩:=Zd2 h.2 h2 h4;exact⟨rfl,λn x hx=>by rcases Znl.1 hx with rfl|hx;exact e2 n;exact e4 n x hx⟩
 | [],_::_,_,_,h,_,_=>by cases h
 |_::_,[],_,_,h,_,_=>by cases h
theorem Yy.vals {w:World} {Pr:Nat->Nat->Prop} {t:TypeId} {cs:List C} {u:Value} (h:Yy P w Pr t cs u): ∃us,RCs w Pr cs us/\Ge P t us u/\u.cells.toList=us:=by
 rcases h with⟨h1,h0,us,rfl,h3⟩|⟨h1,c,rfl,h3⟩
 ·exact⟨us,h3, .inl ⟨h1,rfl⟩,by simp[Value.cells]⟩
 ·exact⟨[u], .one h3, .inr ⟨h1,[],rfl⟩,by rw[cells_one h3.one]⟩
theorem Ge.uniq {t:TypeId} {us:List Value} {a b:Value} (h:Ge P t us a) (h':Ge P t us b):a=b:=by
 rcases h with⟨h1,rfl⟩|⟨h1,q,e⟩<;>rcases h' with⟨h2,rfl⟩|⟨h2,q',e'⟩
 ·rfl
 ·rw[h1]at h2;cases h2
 ·rw[h1]at h2;cases h2
 ·rw[e]at e';injection e'
theorem Zhk {w:World} {Pr:Nat->Nat->Prop} {t:TypeId} {a b:List C} {u v:Value} (h:Zbp a b=true) (hu:Yy P w Pr t a u) (hv:Yy P w Pr t b v):u=v/\Instr.sameBits 10000 u u=true:=by
 obtain⟨us,h1,h2,h3⟩:=hu.vals;obtain⟨vs,h4,h5,h6⟩:=hv.vals;obtain⟨rfl,hs⟩:=Zd2 h h1 h4;obtain rfl:=h2.uniq h5;refine⟨rfl, ?_⟩;rcases h2 with⟨ha,rfl⟩|⟨ha,q,rfl⟩
 ·show(us.toArray.size==us.toArray.size&&(us.toArray.toList.zip us.toArray.toList).all λ(x,y)=>Instr.sameBits 9999 x y)=true;simp only[beq_self_eq_true,Bool.true_and,Zm7]
  rintro ⟨x,y⟩ hxy
  have hxy:(x,y)∈us.zip us:=by simpa using hxy
  obtain⟨j,hj,e⟩:=Znp.1 hxy;rw[List.getElem_zip]at e;injection e with e1 e2
  show Instr.sameBits 9999 x y=true;rw[<-e2,<-e1];exact hs 9999 _ (Znf _)
 ·exact hs 10000 _ (by simp)
theorem run_checkKey {e:Bool} (w:World): ∀(d:Nat) (t:TypeId) (v:Value),Qy P d t=true->(Yi P t=true-> ∃us:List Value,v= .agg us.toArray/\us.length=Zg P t)-> ∀n,d<=n->(Instr.checkKey e n t v).run P w= .ok () w
 |0,t,v,h,_,_,_=>by cases h
 |d+1,t,v,h,hv,n,hn=>by
  obtain⟨n,rfl⟩: ∃m,n=m+1:=⟨n-1,by omega⟩;unfold Qy at h;unfold Instr.checkKey;cases hu:P.underlying t with
  |none=>rw[hu]at h;cases h
  |some D=>
   rw[hu]at h;rw[Sem.run_bind,run_underlying hu,Result.andThen_ok];cases D<;>simp only at h<;>try (cases h;done)
   case struct fs=>
    obtain⟨us,rfl,hl⟩:=hv (by simp[Yi,hu]);simp only;rw[<-Array.forIn_toList];generalize fs.toList=L at h
    induction L with
    |nil=>simp
    |cons f L ih=>
     rw[Zoq,Zmq]at h;obtain⟨hf,h2⟩:=h;simp only[Zmq,Znn,beq_eq_false_iff_ne]at hf;obtain⟨⟨f1,f2⟩,f3⟩:=hf;have f3:=Zmu f3;have hpart: ∃a,(part f.type us.toArray f.offset).run P w= .ok a w/\(Yi P f.type=true-> ∃vs:List Value,a= .agg vs.toArray/\vs.length=Zg P f.type):=by
      have hD: ∃D,P.underlying f.type=some D:=by
       cases d with
       |zero=>cases f2
       |succ d=>
        unfold Qy at f2;cases hD:P.underlying f.type with
        |none=>rw[hD]at f2;cases f2
        |some D=>exact⟨D,rfl⟩
      obtain⟨D,hD⟩:=hD;obtain⟨i,hi⟩:=info_of_underlying hD;have hs:=Z3 hi;cases ha:Yi P f.type with
      |true=>
       refine⟨.agg (us.toArray.extract f.offset (f.offset+i.size)),by simp[part,Y2 f.type w D hD,ha,run_sizeOf hi],λ_=>⟨(us.drop f.offset).take i.size, ?_, ?_⟩⟩
       ·congr 1;apply Zrc;simp[Zqr,Zo9]
       ·simp;omega
      |false=>
       have hne:Zg P f.type≠0:=by
        intro hz;cases d with
        |zero=>cases f2
        |succ d=>
         unfold Qy at f2;rw[hD]at f2;cases D<;>simp only at f2<;>try (cases f2;done)
         all_goals first
          |(have:=Zmp f2;omega)
          |(revert ha;simp[Yi,hD];done)
       have hlt:f.offset<us.length:=by omega
       exact⟨us[f.offset],by simp[part,Y2 f.type w D hD,ha,hlt],λh=>by cases h⟩
     obtain⟨a,p1,p2⟩:=hpart;have:=ih h2;simp only[List.forIn_cons,Sem.run_bind,f1,ne_eq,not_false_eq_true,if_true,Result.andThen_ok,p1,run_checkKey w d f.type a f2 p2 n (by omega),Sem.run_pure]at this⊢;exact this
   all_goals simp
theorem Zb4 {a b:ByteArray}:a.toList=b.toList↔a=b:=by
 refine⟨λh=> ?_,λh=>by rw[h]⟩;have h1:a.data.toList=b.data.toList:=by simpa[ByteArray.toList_eq]using h
 cases a;cases b
 congr
 exact Zrc h1
theorem Jq {w:World} {Pr:Nat->Nat->Prop} {kt:TypeId} {kc:List C} {key:Value} (hk:Yy P w Pr kt kc key): ∀{es:List (List C×List C)} {ms:List MapEntry} {i:Nat} {q:Option (Nat×List C)},mfind P kt kc es i=some q->ms.length=es.length->
  (∀(j:Nat) (a b:List C) (m:MapEntry),es[j]? =some (a,b)->ms[j]? =some m->Yy P w Pr kt a m.key)->
  ((Instr.findAsking kt key ms i).run P w= .ok (q.map λp=>(p.1,(ms[p.1-i]?.map (·.val)).getD undef)) w/\
   (∀x,Instr.findNow (match P.underlying kt with|some D=>D|none=> .bool) key ms i=some x->x=q.map λp=>(p.1,(ms[p.1-i]?.map (·.val)).getD undef)))/\
  (∀j v,q=some (j,v)->i<=j/\ ∃a m,es[j-i]? =some (a,v)/\ms[j-i]? =some m/\m.key=key/\Instr.sameBits 10000 m.key key=true)
 | [],ms,i,q,h,hl,_=>by
  obtain rfl:ms=[]:=Zna (by simpa using hl);injection h with h;subst h
  exact⟨⟨by simp[Instr.findAsking],λx hx=>by simp[Instr.findNow]at hx;simp[<-hx]⟩,λj v h=>by cases h⟩
 |e::es,[],i,q,h,hl,_=>by simp at hl
 |e::es,m::ms,i,q,h,hl,hms=>by
  obtain⟨a0,b0⟩:=e;have hm:=hms 0 a0 b0 m rfl rfl;obtain⟨us,k1,k2,_⟩:=hk.vals;obtain⟨vs,k3,k4,_⟩:=hm.vals;unfold mfind at h;split at h
  case h_2=>cases h
  case h_1 b hb=>
   obtain⟨⟨D,hD⟩,a,a',ha,ha',heq⟩:=Dl (P:=P) (w0:=w) (Pr:=Pr) w 20 kt kc a0 us vs k1 k3 b hb 10000 (by omega);obtain rfl:=k2.uniq ha;have ek:=k4.uniq ha';subst ek;have heq':(Op.equal kt key m.key).run P w= .ok b w:=heq;have hnow: ∀y,Instr.sameNow D key m.key=some y->y=b:=by
    intro y hy;have h2:=hb;unfold eqT at h2;rw[hD]at h2;cases D<;>simp only at h2<;>try (cases h2;done)
    case int kd=>
     have hna:Yi P kt=false:=by simp[Yi,hD]
     split at h2
     ·rename_i k x _ k' y' _;obtain⟨u,us',rfl,r1,_⟩:=k1.uncons;obtain⟨v,vs',rfl,r2,_⟩:=k3.uncons;cases r1 with|v _=>cases r2 with|v _=>
      have e1:key= .int k x:=by rcases k2 with⟨h,_⟩|⟨_,q,e⟩;(rw[hna]at h;cases h);injection e with e;exact e.symm
      have e2:m.key= .int k' y':=by rcases k4 with⟨h,_⟩|⟨_,q,e⟩;(rw[hna]at h;cases h);injection e with e;exact e.symm
      rw[e1,e2]at hy;simp only[Instr.sameNow]at hy;split at h2
      ·rename_i hkk;subst hkk;simp at hy;injection h2 with h2
       rw[<-hy,<-h2]
      ·cases h2
     ·cases h2
    case bool=>
     have hna:Yi P kt=false:=by simp[Yi,hD]
     split at h2
     ·rename_i x _ y' _;obtain⟨u,us',rfl,r1,_⟩:=k1.uncons;obtain⟨v,vs',rfl,r2,_⟩:=k3.uncons;cases r1 with|v _=>cases r2 with|v _=>
      have e1:key= .bool x:=by rcases k2 with⟨h,_⟩|⟨_,q,e⟩;(rw[hna]at h;cases h);injection e with e;exact e.symm
      have e2:m.key= .bool y':=by rcases k4 with⟨h,_⟩|⟨_,q,e⟩;(rw[hna]at h;cases h);injection e with e;exact e.symm
      rw[e1,e2]at hy;simp only[Instr.sameNow]at hy;injection hy with hy
      injection h2 with h2
      rw[<-hy,<-h2]
     ·cases h2
    case string=>
     have hna:Yi P kt=false:=by simp[Yi,hD]
     split at h2
     ·rename_i x _ y' _;obtain⟨u,us',rfl,r1,_⟩:=k1.uncons;obtain⟨v,vs',rfl,r2,_⟩:=k3.uncons;cases r1 with|v _=>cases r2 with|v _=>
      have e1:key= .string x:=by rcases k2 with⟨h,_⟩|⟨_,q,e⟩;(rw[hna]at h;cases h);injection e with e;exact e.symm
      have e2:m.key= .string y':=by rcases k4 with⟨h,_⟩|⟨_,q,e⟩;(rw[hna]at h;cases h);injection e with e;exact e.symm
      rw[e1,e2]at hy;simp only[Instr.sameNow]at hy;injection hy with hy
      injection h2 with h2
      rw[<-hy,<-h2];rw[Zop,MapKept.bytes_beq,beq_iff_eq,Zb4]
     ·cases h2
    case struct fs=>simp[Instr.sameNow]at hy
   cases b with
   |true=>
    obtain⟨h1,h2⟩:=Za h;injection h2 with h2;subst h2
    obtain⟨e1,e2⟩:=Zhk h1 hk hm;refine⟨⟨?_,λx hx=> ?_⟩,λj v hj=> ?_⟩
    ·simp[Instr.findAsking,heq']
    ·simp only[hD,Instr.findNow]at hx;split at hx
     ·injection hx with hx;rw[<-hx];simp
     ·rename_i hn;have:=hnow _ hn;cases this
     ·cases hx
    ·injection hj with hj;injection hj with e3 e4;subst e3 e4
     exact⟨Zm8 _,a0,m,by simp,by simp,e1.symm,by rw[<-e1];exact e2⟩
   |false=>
    simp only[cond_false]at h;obtain⟨⟨i1,i2⟩,i3⟩:=Jq hk (es:=es) (ms:=ms) h (by simpa using hl) (λj a b m' ha hm'=>hms (j+1) a b m' (by simpa using ha) (by simpa using hm'));have hget: ∀j v,q=some (j,v)->ms[j-(i+1)]? =(m::ms)[j-i]? :=λj v hq=>by
     have:=(i3 j v hq).1;rw[show j-i=(j-(i+1))+1 by omega];simp
    have hq:(q.map λp=>(p.1,(ms[p.1-(i+1)]?.map (·.val)).getD undef))=q.map λp=>(p.1,((m::ms)[p.1-i]?.map (·.val)).getD undef):=by
     cases q with
     |none=>rfl
     |some p=>obtain⟨j,v⟩:=p;simp only[Zpo];rw[hget j v rfl]
    refine⟨⟨?_,λx hx=> ?_⟩,λj v hj=> ?_⟩
    ·simp only[Instr.findAsking,Sem.run_bind,heq',Result.andThen_ok,Zpq,if_false];rw[i1,hq]
    ·simp only[hD,Instr.findNow]at hx;split at hx
     ·rename_i hn;have:=hnow _ hn;cases this
     ·rw[<-hq];exact i2 x (by rw[hD];exact hx)
     ·cases hx
    ·obtain⟨j1,a,m',j2,j3,j4,j5⟩:=i3 j v hj;refine⟨by omega,a,m', ?_, ?_,j4,j5⟩
     ·rw[show j-i=(j-(i+1))+1 by omega];simpa using j2
     ·rw[show j-i=(j-(i+1))+1 by omega];simpa using j3
theorem Gt {x:V} {u:Value} (hx:RV P E l x u) {t:TypeId} (hf:A6 P t x=true) {kk:List C->Option R} (h:R5 x kk=some r): ∃kc,kk kc=some r/\Yy P E.w E.Pr t kc u:=by
 unfold R5 at h;split at h
 ·cases hx with|c hc=>
  exact⟨_,h, .inr ⟨by simpa[A6]using hf,_,rfl,hc⟩⟩
 ·cases hx with|agg hc=>
  simp only[A6,Zmq]at hf;exact⟨_,h, .inl ⟨hf.1,Zmp hf.2,_,rfl,hc⟩⟩
 ·cases h
theorem Yy.agg_len {w:World} {Pr:Nat->Nat->Prop} {t:TypeId} {cs:List C} {u:Value} (h:Yy P w Pr t cs u) (ha:Yi P t=true): ∃us:List Value,u= .agg us.toArray/\us.length=Zg P t:=by
 rcases h with⟨_,h0,us,rfl,h3⟩|⟨h1,_⟩
 ·exact⟨us,rfl,by rw[h3.len,h0]⟩
 ·rw[ha]at h1;cases h1
theorem Yy.ld {t:TypeId} {cs:List C} {u:Value} (h:Yy P E.w E.Pr t cs u) {kk:V->Option R} (h0:ldC P t cs kk=some r): ∃v,kk v=some r/\RV P E l v u:=by
 obtain⟨i,hi,⟨ha,hle,hk⟩|⟨ha,c,rest,e,hk⟩⟩:=Gd h0
 ·rcases h with⟨_,hlen,us,rfl,h3⟩|⟨h1,_⟩
  ·refine⟨_,hk, ?_⟩;rw[Z3 hi]at hlen;rw[<-hlen,Zow];exact .agg h3
  ·rw[ha]at h1;cases h1
 ·rcases h with⟨h1,_⟩|⟨_,c',rfl,h3⟩
  ·rw[ha]at h1;cases h1
  ·injection e with e _;subst e
   exact⟨_,hk, .c h3⟩
theorem Pi {w:World} {Pr:Nat->Nat->Prop} {kt:TypeId} {kc:List C} {key:Value} (hk:Yy P w Pr kt kc key) {es:List (List C×List C)} {ms:Array MapEntry} {q:Option (Nat×List C)} (hq:mfind P kt kc es 0=some q) (hl:ms.size=es.length)
  (hms: ∀(j:Nat) (a b:List C) (m:MapEntry),es[j]? =some (a,b)->ms[j]? =some m->Yy P w Pr kt a m.key) (hD: ∃D,P.underlying kt=some D):
  (Instr.findKey kt key ms.toList).run P w= .ok (q.map λp=>(p.1,(ms[p.1]?.map (·.val)).getD undef)) w/\(∀j v,q=some (j,v)-> ∃a m,es[j]? =some (a,v)/\ms[j]? =some m/\m.key=key/\Instr.sameBits 10000 m.key key=true):=by
 obtain⟨⟨h1,h2⟩,h3⟩:=Jq (ms:=ms.toList) hk hq (by rw[Array.length_toList];exact hl) (λj a b m ha hm=>hms j a b m ha (by simpa using hm));obtain⟨D,hD⟩:=hD;rw[hD]at h2;simp only[Zp8,Zpy]at h1 h2 h3;refine⟨?_,λj v hj=> ?_⟩
 ·unfold Instr.findKey;rw[Sem.run_bind,run_underlying hD,Result.andThen_ok];cases hn:Instr.findNow D key ms.toList 0 with
  |some x=>simp only[Sem.run_pure];rw[h2 x hn]
  |none=>exact h1
 ·exact(h3 j v hj).2
theorem Gu {d:Nat} {t:TypeId} (h:Qy P d t=true): ∃D,P.underlying t=some D:=by
 cases d with
 |zero=>cases h
 |succ d=>
  unfold Qy at h;cases hD:P.underlying t with
  |none=>rw[hD]at h;cases h
  |some D=>exact⟨D,rfl⟩
theorem Jr (hG:Good P A E l pend) {T kt et:TypeId} {a b:Operand} {ok:Bool} (ho:o.op= .lookup T a b ok) {y:V} {v:Value} {g:Nat} (hy:RV P E l y v) (hu:ρ a= .map (some g)) (hv:ρ b=v) (hT:P.underlying T=some (.map kt et))
  {es:List (List C×List C)} {ms:Array MapEntry} (hg:E.w.heap[g]? =some (.map ms es.length)) (hlen:ms.size=es.length)
  (hms: ∀(j:Nat) (k v:List C) (m:MapEntry),es[j]? =some (k,v)->ms[j]? =some m->m.born=j/\Yy P E.w E.Pr kt k m.key/\Yy P E.w E.Pr et v m.val)
  (e3:A6 P kt y=true) (e4:Qy P 20 kt=true) (e6:M9 P et=true) (h1:V4 P l k kt et es y ok=some r):Zt P A E l pend ((execOp ρ o).run P E.w) k r:=by
 unfold V4 at h1;obtain⟨kc,h2,hkc⟩:=Gt hy e3 h1;obtain⟨q,hq,h3⟩:=Zm6.1 h2;split at h3
 case h_2=>cases h3
 case h_1 zs hz=>
  have hgo:(getObj g).run P E.w= .ok (.map ms es.length) E.w:=by simp[getObj,Sem.run,hg]
  obtain⟨i,z,hi,hiz,hzr,hzl,hrc⟩:=Y9 hz E.w;obtain⟨f1,f2⟩:=Pi hkc hq hlen (λj a b m ha hm=>(hms j a b m ha hm).2.1) (Gu e4);have hck:=run_checkKey (P:=P) (e:=ms.isEmpty) E.w 20 kt v e4 (λha=>hkc.agg_len ha) 10000 (by omega);have hzv:Yy P E.w E.Pr et zs z:=by
   have h1:=hrc E.w E.Pr;unfold M9 at e6;rw[hi]at e6;simp only[hiz]at e6;split at e6
   ·rename_i ws e7;injection e7 with e7;subst e7
    exact .inl ⟨e6,by rw[Z3 hi];exact hzl,ws.toList,by simp,by simpa[Value.cells]using h1⟩
   ·rename_i z' _ e7;injection e7 with e7;subst e7
    simp only[Zmq,Znn]at e6;rw[cells_one e6.2]at h1
    match zs,h1 with
    | [c],h1=>exact .inr ⟨e6.1,c,rfl,h1.2 0 c z rfl rfl⟩
    | [],h1=>exact absurd h1.1 (by simp)
    |_::_::_,h1=>exact absurd h1.1 (by simp)
   ·cases e6
  have hval: ∀{w':Value} {cs:List C},Yy P E.w E.Pr et cs w' ->orZ q zs=cs->(Instr.lookup T (.map (some g)) v ok).run P E.w= .ok (if ok then .tuple #[w', .bool q.isSome]else w') E.w->Zt P A E l pend ((execOp ρ o).run P E.w) k r:=by
   intro w' cs hw hcs hrun;have hrun':(execOp ρ o).run P E.w= .ok (.value (if ok then .tuple #[w', .bool q.isSome]else w')) E.w:=by simp[execOp,ho,hu,hv,hrun]
   rw[hrun'];rw[hcs]at h3;cases ok with
   |false=>
    obtain⟨v1,k1,k2⟩:=hw.ld (l:=l) h3;exact .quiet hG k1 k2
   |true=>
    obtain⟨v1,k1,k2⟩:=hw.ld (l:=l) h3;refine .quiet hG k1 ?_;refine .tup (us:=[w', .bool q.isSome]) rfl λj x u hx hu=> ?_
    match j,hx,hu with
    |0,hx,hu=>cases hx;cases hu;exact k2
    |1,hx,hu=>cases hx;cases hu;exact .c (.v rfl)
    |j+2,hx,hu=>simp at hx
  cases q with
  |none=>
   refine hval hzv rfl ?_;simp[Instr.lookup,run_underlying hT,hgo,hck,f1,hzr]
  |some p=>
   obtain⟨j,vc⟩:=p;obtain⟨a',m,g1,g2,_,_⟩:=f2 j vc rfl;refine hval (hms j a' vc m g1 g2).2.2 rfl ?_;simp[Instr.lookup,run_underlying hT,hgo,hck,f1,g2]
theorem Dv (hG:Good P A E l pend) {T:TypeId} {a b:Operand} {ok:Bool} (ho:o.op= .lookup T a b ok) {x y:V} {u v:Value} (hx:RV P E l x u) (hy:RV P E l y v) (hu:ρ a=u) (hv:ρ b=v)
  (h0:Qg P l k T x y ok=some r):Zt P A E l pend ((execOp ρ o).run P E.w) k r:=by
 unfold Qg at h0;split at h0
 case h_3=>cases h0
 case h_1 kt et s hT=>
  split at h0
  case h_2=>cases h0
  case h_1 kt' et' es hl=>
   obtain⟨hb,h1⟩:=Za h0;simp only[Zmq]at hb;obtain⟨⟨⟨⟨e1,e2⟩,e3⟩,e4⟩,e6⟩:=hb;have e1:=Zmp e1;have e2:=Zmp e2;subst e1 e2;cases hx with
   |mpDead hd=>rw[hd]at hl;cases hl
   | @mp _ g hr=>
    obtain⟨ms,hg,hlen,hms⟩:=Zdu hG hl hr;exact Jr hG ho hy hu hv hT hg hlen hms e3 e4 e6 h1
 case h_2 kt et c hT=>
  unfold A7 at h0;split at h0
  case h_2=>cases h0
  rename_i kt' et' ka va es;obtain⟨hb0,h0⟩:=Za h0;obtain⟨hb,h1⟩:=Za h0;simp only[Zmq]at hb hb0;obtain⟨⟨e3,e4⟩,e6⟩:=hb;obtain⟨⟨⟨e1,e2⟩,e7⟩,e8⟩:=hb0;have e1:=Zmp e1;have e2:=Zmp e2;subst e1 e2;have same: ∀{p q:Option Nat},Zdt p q=true->p=q:=by
   intro p q h;cases p<;>cases q<;>simp[Zdt]at h⊢;exact h
  obtain rfl:=same e7;obtain rfl:=same e8;cases hx with|c hc=>
  cases hc with
  | @mp _ _ _ _ _ g ms kus vus hg hp hs hk h2 h3=>
   refine Jr hG ho hy hu hv hT ((Sp).1 hg) hs (λj a b m ha hm=> ?_) e3 e4 e6 h1;obtain⟨q1,q2,q3,q4,q5⟩:=hk j (a,b) m ha hm;exact⟨q1, .of_cells q2 ⟨q4,λi c u hc hu=>h2 j (a,b) i c u ha hc hu⟩, .of_cells q3 ⟨q5,λi c u hc hu=>h3 j (a,b) i c u ha hc hu⟩⟩
theorem Zhl (hG:Good P A E l pend) {s g:Nat} (hr:E.rho s=some g) {w':World} (hsame: ∀b,b≠g->w'.heap[b]? =E.w.heap[b]?) (hs:w'.heap.size=E.w.heap.size) (hos:w'.os=E.w.os) (htp:w'.tape=E.w.tape) (hou:w'.output=E.w.output)
  (hfz:(l s).fz=0) {ob:Obj} (hof:ob.fz=0) (hob:Zo E.w E.Pr w' E.Pr->(∀s',Zi E {E with w:=w'} l (l.put s ob) s')->ObjOk P {E with w:=w'} (l.put s ob) s ob) (hsh:Sh l (l.put s ob) s) (hdr:E.w.drawn<=w'.drawn:=by exact Zm8 _) (hgn:gen ob=none/\H9 ob=false:=by exact⟨rfl,rfl⟩):
  Good P A {E with w:=w'} (l.put s ob) pend/\Zo E.w E.Pr w' E.Pr/\ ∀s',Zi E {E with w:=w'} l (l.put s ob) s':=by
 have hpg: ∀b k,E.Pr b k->b≠g:=λb k hp e=>by
  subst e;have:=(hG.prot b k hp).2 s hr;omega
 have hx:Zo E.w E.Pr w' E.Pr:=λb k hp=>⟨hp,World.cell?_of_block (w:=E.w) (hsame b (hpg b k hp)),Xi (hsame b (hpg b k hp))⟩;have hk: ∀s',Zi E {E with w:=w'} l (l.put s ob) s':=by
  intro s';by_cases hne:s'=s
  ·subst hne;exact .inr ⟨hG.ne_dead hr,rfl,rfl,hsh, .no (Zf _ _ _) hgn.1 hgn.2⟩
  ·by_cases hd:l s'= .dead
   ·exact .inl ((Zc l ob hne).trans hd)
   ·exact .inr ⟨hd,rfl,rfl, .same (Zc l ob hne), .same (Zc l ob hne)⟩
 have hps: ¬pend s:=λhp=>by rw[(hG.pnd s hp).1]at hr;cases hr
 refine⟨⟨λs' hp=> ?_,λs' hp=> ?_,hG.inj,hG.base,λb k hp=>⟨?_,λa ha=> ?_⟩,hG.jstep rfl rfl hx (λ_ _ h=> .inl h) (λb hb=>hsame b (λe=>hG.yown s g hr (e▸hb))) (Zoy hs.symm) hos htp hou hdr,hG.pr0.trans hx,hG.prN, ?_,hos.trans hG.os,htp.trans hG.tape,hou.trans hG.output,Zni hG.dr hdr,hG.yok,hG.yown,λb hb=>by have:=hG.ylt b hb;simp only[hs];exact this,λr hr'=>⟨(hsame r (λe=>hG.dmno hr' s (e▸hr))).trans (hG.dm r hr').1,(hG.dm r hr').2⟩,Uy hG.rbo (λ_ _ _ e=>e) (λ_ _ e=> .inl e) (λ_ _ e=> .inl e) (λ_ e=> .inl e) λb _ hb _=>hsame b λe=>hb s (e▸hr)⟩,hx,hk⟩
 ·by_cases hne:s'=s
  ·subst hne;rw[Zf];exact hob hx hk
  ·rw[Zc l ob hne];refine(hG.obj s' hp).keep hx rfl rfl (λg' hg'=> ?_) (λ_ _ _ hu=>hu.mono0 hx hk) λj=>⟨rfl,λg' hg'=> ?_⟩
   ·exact hsame g' (λe=>hne (hG.inj s' s g (e▸hg') hr))
   ·exact hsame g' (λe=>(hG.rbo _ _ _ hg').rho s (e▸hr))
 ·obtain⟨h1,cs',hz,ho'⟩:=hG.pnd s' hp;exact⟨h1,cs',hz,(Zc l ob (λ(e:s'=s)=>hps (e▸hp))).trans ho'⟩
 ·have:=(hG.prot b k hp).1;simp only[hs];exact this
 ·by_cases hne:a=s
  ·subst hne;rw[Zf,hof];have:=(hG.prot b k hp).2 a ha;omega
  ·rw[Zc l ob hne];exact(hG.prot b k hp).2 a ha
 ·simp only[hs];exact hG.size
theorem Bt (hG:Good P A E l pend) {T:TypeId} {a b c:Operand} (ho:o.op= .mapUpdate T a b c) {x y z:V} {u v t:Value} (hx:RV P E l x u) (hy:RV P E l y v) (hz:RV P E l z t) (hu:ρ a=u) (hv:ρ b=v) (ht:ρ c=t)
  (h0:U5 P l k T x y z=some r):Zt P A E l pend ((execOp ρ o).run P E.w) k r:=by
 unfold U5 at h0;split at h0
 case h_2=>cases h0
 case h_1 kt et s hT=>
  split at h0
  case h_2=>cases h0
  case h_1 kt' et' es hl=>
   obtain⟨hb,h1⟩:=Za h0;simp only[Zmq]at hb;obtain⟨⟨⟨⟨e1,e2⟩,e3⟩,e4⟩,e5⟩:=hb;have e1:=Zmp e1;have e2:=Zmp e2;subst e1 e2;obtain⟨kc,h2,hkc⟩:=Gt hy e3 h1;obtain⟨vc,h2,hvc⟩:=Gt hz e5 h2;obtain⟨q,hq,hk⟩:=Zm6.1 h2;cases hx with
   |mpDead hd=>rw[hd]at hl;cases hl
   | @mp _ g hr=>
    obtain⟨ms,hg,hlen,hms⟩:=Zdu hG hl hr;have hgl:g<E.w.heap.size:=(Zmy.1 hg).1;have hgo:(getObj g).run P E.w= .ok (.map ms es.length) E.w:=by simp[getObj,Sem.run,hg]
    have hso: ∀ob,(setObj g ob).run P E.w= .ok () {E.w with heap:=E.w.heap.setIfInBounds g ob}:=λob=>by simp[setObj,Sem.run,hg]
    obtain⟨f1,f2⟩:=Pi hkc hq hlen (λj a b m ha hm=>(hms j a b m ha hm).2.1) (Gu e4);have hck:=run_checkKey (P:=P) (e:=false) E.w 20 kt' v e4 (λha=>hkc.agg_len ha) 10000 (by omega);have fin: ∀(ms':Array MapEntry) (es':List (List C×List C)),ms'.size=es'.length->(∀(j:Nat) (k v:List C) (m:MapEntry),es'[j]? =some (k,v)->ms'[j]? =some m->m.born=j/\Yy P E.w E.Pr kt' k m.key/\Yy P E.w E.Pr et' v m.val)->
      (Instr.mapUpdate T (.map (some g)) v t).run P E.w= .ok () {E.w with heap:=E.w.heap.setIfInBounds g (.map ms' es'.length)}->k .und (l.put s (.mp kt' et' es')) []=some r->Zt P A E l pend ((execOp ρ o).run P E.w) k r:=by
     intro ms' es' hl' hms' hrun hk;have hrun':(execOp ρ o).run P E.w= .ok .skip {E.w with heap:=E.w.heap.setIfInBounds g (.map ms' es'.length)}:=by simp[execOp,ho,hu,hv,ht,hrun]
     rw[hrun'];obtain⟨q1,q2,q3⟩:=Zhl hG (s:=s) hr (w':={E.w with heap:=E.w.heap.setIfInBounds g (.map ms' es'.length)}) (ob:= .mp kt' et' es') (λb hb=>by simp[Array.getElem?_setIfInBounds_ne (Ne.symm hb)]) (by simp) rfl rfl rfl (by rw[hl];rfl) rfl
      (λhx' _=> .mp hr (by simp[hgl]) hl' λj k v m he hm=>⟨(hms' j k v m he hm).1,(hms' j k v m he hm).2.1.held hx',(hms' j k v m he hm).2.2.held hx'⟩)
      ⟨(λ_ _ e=>by rw[hl]at e;cases e),(λ_ _ _ e=>by rw[hl]at e;cases e),(λe=>by rw[hl]at e;cases e)⟩
     exact⟨_,_,_,hk,_,rfl,⟨q1,rfl⟩, .und,λz v' hz' _=>hz'.mono0 q2 q3⟩
    cases q with
    |none=>
     refine fin (ms.push {key:=v,val:=t,born:=es.length}) (mput es none kc vc) (by simp[mput,hlen]) (λj k' v' m he hm=> ?_) ?_ hk
     ·simp only[mput]at he;rw[Zn2]at he;rw[Array.getElem?_push]at hm;by_cases hj:j<es.length
      ·rw[if_pos hj]at he;rw[if_neg (by omega)]at hm;exact hms j k' v' m he hm
      ·rw[if_neg hj]at he;have hj0:j-es.length=0:=by
        have:=(Zmx.1 he).1;simp at this;omega
       rw[hj0]at he;rw[if_pos (by omega)]at hm;simp at he;obtain⟨rfl,rfl⟩:=he;injection hm with hm;subst hm
       exact⟨by show es.length=j;omega,hkc,hvc⟩
     ·simp[Instr.mapUpdate,run_underlying hT,hgo,hck,f1,hso,mput]
    |some p=>
     obtain⟨j,v0⟩:=p;obtain⟨a',m0,g1,g2,g3,g4⟩:=f2 j v0 rfl;have hjl:j<es.length:=(Zmx.1 g1).1;refine fin (ms.modify j λe=>{e with key:=v,val:=t}) (mput es (some (j,v0)) kc vc) (by simp[mput,hlen]) (λj' k' v' m he hm=> ?_) ?_ hk
     ·simp only[mput]at he;rw[List.getElem?_set]at he;rw[Array.getElem?_modify]at hm;by_cases hj:j=j'
      ·subst hj;rw[if_pos rfl,if_pos hjl]at he;rw[if_pos rfl,g2]at hm;injection he with he;injection he with he1 he2
       subst he1 he2;simp only[Zpo,Option.some.injEq]at hm;subst hm;exact⟨(hms j a' v0 m0 g1 g2).1,hkc,hvc⟩
      ·rw[if_neg hj]at he;rw[if_neg hj]at hm;exact hms j' k' v' m he hm
     ·have hkts:(Instr.keyThatStays m0.key v).run P E.w= .ok v E.w:=by simp[Instr.keyThatStays,g4]
      simp[Instr.mapUpdate,run_underlying hT,hgo,hck,f1,g2,hkts,hso,mput]
def Env.newM (E:Env) (s:Nat) (mo:Go.Obj) (n:Nat:=0):Env:=
 {E with w:=E.w.alloc mo,rho:=λs'=>if s'=s then some E.w.heap.size else E.rho s',bs:=λs'=>if s'=s then n else E.bs s',rb:=λs' j=>if s'=s then none else E.rb s' j}
theorem Zi.newM {E:Env} {l:Loc} {mo:Go.Obj} {n:Nat} (s:Nat) (o:Obj) {s':Nat} (hne:s'≠s):Zi E (E.newM s mo n) l (l.put s o) s':=by
 by_cases hd:l s'= .dead
 ·exact .inl ((Zc l o hne).trans hd)
 ·exact .inr ⟨hd,by simp[Env.newM,hne],by simp[Env.newM,hne], .same (Zc l o hne), .same (Zc l o hne) (by funext j;simp[Env.newM,hne])⟩
theorem Good.newM (h:Good P A E l pend) {s:Nat} {mo:Go.Obj} {n:Nat} (hd:l s= .dead) (hps: ¬pend s) {ob:Obj} (hob:(E.newM s mo n).rho s=some E.w.heap.size->(E.newM s mo n).w.heap[E.w.heap.size]? =some mo->ObjOk P (E.newM s mo n) (l.put s ob) s ob) (href: ∀s',∀x∈(l s').refs,x.at s=false):Good P A (E.newM s mo n) (l.put s ob) pend:=by
 have hx:Zo E.w E.Pr (E.newM s mo n).w (E.newM s mo n).Pr:=Xk _ _ _ λb k hp=>(h.prot b k hp).1;have hrn:(E.newM s mo n).rho s=some E.w.heap.size:=by simp[Env.newM]
 have hro: ∀s',s'≠s->(E.newM s mo n).rho s'=E.rho s':=λs' hne=>by simp[Env.newM,hne]
 refine⟨λs' hp=> ?_,λs' hp=> ?_,λa b g ha hb=> ?_,λa g ha=> ?_,λb k hp=>⟨?_,λa ha=> ?_⟩,h.jstep rfl rfl hx (λ_ _ h=> .inl h) (λb hb=>Go.RowKit.Below.heap_alloc _ _ _ (h.ylt b hb)) ?_ rfl rfl rfl,h.pr0.trans hx,h.prN, ?_,h.os,h.tape,h.output,h.dr,h.yok,λa g ha hy=> ?_,λb hb=> ?_,λr hr=>⟨(Go.RowKit.Below.heap_alloc _ _ _ (Zmy.1 (h.dm r hr).1).1).trans (h.dm r hr).1,(h.dm r hr).2⟩,Uy h.rbo (λs' j g e=>by
  simp only[Env.newM]at e;split at e
  ·cases e
  ·exact e) (λa g ha=>by
  by_cases e:a=s
  ·subst e;rw[hrn]at ha;cases ha;exact .inr (Zm8 _)
  ·rw[hro a e]at ha;exact .inl ha) (λ_ _ e=> .inl e) (λ_ e=> .inl e) λb hb _ _=>Go.RowKit.Below.heap_alloc _ _ _ hb⟩
 ·by_cases hne:s'=s
  ·subst hne;rw[Zf];exact hob hrn (heap_alloc_new _ _)
  ·rw[Zc l _ hne];exact(h.obj s' hp).keep hx (hro s' hne) (by simp[Env.newM,hne]) (λg hg=>Go.RowKit.Below.heap_alloc _ _ _ (h.lt hg)) (λx u hm hu=>
    hu.mono (λa=>a=s) hx (λa ha=>Zi.newM s _ ha) (λa ha=>by subst ha;exact href s' x hm)) λj=>⟨by simp[Env.newM,hne],λg hg=>Go.RowKit.Below.heap_alloc _ _ _ (h.rbo _ _ _ hg).lt⟩
 ·have hne:s'≠s:=λe=>hps (e▸hp);obtain⟨h1,cs',hz,ho'⟩:=h.pnd s' hp;exact⟨(hro s' hne).trans h1,cs',hz,(Zc l _ hne).trans ho'⟩
 ·by_cases ea:a=s<;>by_cases eb:b=s
  ·rw[ea,eb]
  ·subst ea;rw[hrn]at ha;rw[hro b eb]at hb;have:=h.lt hb;cases ha;omega
  ·subst eb;rw[hrn]at hb;rw[hro a ea]at ha;have:=h.lt ha;cases hb;omega
  ·rw[hro a ea]at ha;rw[hro b eb]at hb;exact h.inj a b g ha hb
 ·by_cases ea:a=s
  ·subst ea;rw[hrn]at ha;cases ha;exact .inl h.size
  ·rw[hro a ea]at ha;exact h.base a g ha
 ·have:=(h.prot b k hp).1;simp[Env.newM];omega
 ·by_cases ea:a=s
  ·subst ea;rw[hrn]at ha;have:=(h.prot b k hp).1;cases ha;omega
  ·rw[hro a ea]at ha;rw[Zc l _ ea];exact(h.prot b k hp).2 a ha
 ·simp[Env.newM]
 ·have:=h.size;simp[Env.newM];omega
 ·by_cases ea:a=s
  ·subst ea;rw[hrn]at ha;cases ha;have:=h.ylt _ hy;omega
  ·rw[hro a ea]at ha;exact h.yown a g ha hy
 ·have:=h.ylt b hb;simp[Env.newM];omega
theorem Zb5 (hG:Good P A E l pend) {t:TypeId} {d:Nat} {rs:Option Operand} {own:Bool} (ho:o.op= .makeMap t rs) (hd: ¬pend d) {e:Operand->V} (h0:Vm P l k own t d (rs.map e)=some r):Zt P A E l pend ((execOp ρ o).run P E.w) k r:=by
 have fin: ∀(ob:Obj),rs.map e=none->(((E.kill l d).newM d (.map #[] 0)).rho d=some E.w.heap.size->((E.kill l d).newM d (.map #[] 0)).w.heap[E.w.heap.size]? =some (.map #[] 0)->ObjOk P ((E.kill l d).newM d (.map #[] 0)) ((l.kill d).put d ob) d ob)->k (.mp d) ((l.kill d).put d ob) [d]=some r->Zt P A E l pend ((execOp ρ o).run P E.w) k r:=by
  intro ob hrs hob hk;have hrs:rs=none:=by simpa using hrs
  subst hrs;have hrun:(execOp ρ o).run P E.w= .ok (.value (.map (some E.w.heap.size))) (E.w.alloc (.map #[] 0)):=by
   simp[execOp,ho,Instr.makeMap]
  rw[hrun];have hG1:=hG.kill hd;have hG2:=hG1.newM (s:=d) (Ur d l) hd (ob:=ob) hob (Xq d l);refine⟨_,_,_,hk,_,rfl,⟨hG2,rfl⟩, .mp (by simp[Env.newM,Env.kill]),λy v hy hks=> ?_⟩;have hy1:RV P (E.kill l d) (Loc.kill d l) y v:=hy.mono0 (E':=E.kill l d) (Zo.refl E.w E.Pr) λs=>Zi.kill E l d s;exact hy1.mono (λs=>s=d) (Xk _ _ _ λb k hp=>(hG.prot b k hp).1) (λs hs=>Zi.newM d _ hs) (λs hs=>by subst hs;exact hks s (by simp))
 unfold Vm at h0;split at h0
 ·rename_i kt et hT hrs;obtain⟨_,hk⟩:=Za h0;exact fin (.mp kt et []) hrs (λh1 h2=> .mp (ms:= #[]) h1 h2 rfl (λj k v m he _=>by simp at he)) hk
 ·rename_i kt et hT hrs;split at h0
  ·rename_i te hte;obtain⟨hz,hk⟩:=Za h0;simp only[Zmq,Znn]at hz;exact fin (.mr kt et te []) hrs (λh1 h2=> .mr (ms:= #[]) h1 h2 rfl hte (λe=>by have:=hz.2;rw[e]at this;cases this) (λj k v m he _=>by simp at he)) hk
  ·cases h0
 ·cases h0
theorem Ze7 {el:TypeId} (hn:nilZ P el=true) (w:World): ∃z:Value,∃i:TypeInfo,P.info? el=some i/\i.zero=some z/\z.cells= #[.slice none 0 0]/\(zeroValue el).run P w= .ok z w:=by
 unfold nilZ at hn;rw[Zmq,Zmq]at hn;obtain⟨_,hn⟩:=hn;split at hn
 ·rename_i c hz;obtain⟨i,z,hi,hiz,hrun,hlen,hrc⟩:=Y9 hz w;have h1:=hrc w (λ_ _=>True);cases c with
  |nl=>
   obtain⟨u,us,e,hu,hnil⟩:=h1.uncons;have hus:us=[]:=Zna (by have:=hnil.1;simpa using this);subst hus;cases hu with
   |nl=>exact⟨z,i,hi,hiz,by apply Zrc;simpa using e,hrun⟩
  |_=>cases hn
 ·cases hn
theorem Ws (hG:Good P A E l pend) {t:TypeId} {d:Nat} {a b:Operand} (ho:o.op= .makeSlice t a b) (hd: ¬pend d) {x y:V} {u v:Value} (hx:RV P E l x u) (hy:RV P E l y v) (hu:ρ a=u) (hv:ρ b=v)
  (h0:Qz P l k t d x y=some r):Zt P A E l pend ((execOp ρ o).run P E.w) k r:=by
 unfold Qz at h0;split at h0
 case h_2=>cases h0
 case h_1 el n c hT hn hc=>
  obtain⟨kd,rfl⟩:=Uq hn hx;obtain⟨kd',rfl⟩:=Uq hc hy;split at h0
  case h_2=>cases h0
  case h_1 te i hte hi=>
   obtain⟨hb,hk⟩:=Za h0;simp only[Zmq,decide_eq_true_iff,Znn]at hb;obtain⟨⟨⟨⟨⟨⟨hnz,hb1⟩,hb2⟩,hb3⟩,hb4⟩,hb5⟩,hb6⟩:=hb;have hs1:i.size=1:=Zmp hb5;have hte0:Zg P te≠0:=λe=>by rw[e]at hb6;cases hb6
   subst hb2;obtain⟨z,i',hi',hiz,hzc,hrun⟩:=Ze7 hnz E.w;rw[hi]at hi';injection hi' with hi';subst hi'
   have w1:=wrap_small hb1 hb4;have hnot: ¬((decide (n<0)||decide ((i.bytes:Int)*n>2^48))||decide (n<0)||decide (n>n))=true:=by
    simp only[Zn7,decide_eq_true_iff,not_or];refine⟨⟨⟨by omega, ?_⟩,by omega⟩,by omega⟩;have:(2:Int)^48=281474976710656:=by decide
    rw[this];omega
   let cur:Array Value:=(Zra (n.toNat*i.size)).map (z.cells[· %z.cells.size]!)
   have hrun2:(execOp ρ o).run P E.w= .ok (.value (.slice (some ⟨E.w.heap.size,0,none⟩) n.toNat n.toNat)) (E.w.alloc (.cells cur el)):=by
    simp only[execOp,ho,hu,hv,Instr.makeSlice,Sem.run_bind,run_underlying hT,Result.andThen_ok,asInt,asIntOf,Sem.run_pure,typeInfo,run_program,hi,w1];rw[if_neg hnot];simp only[Sem.run_bind,run_askRoom,Result.andThen_ok,run_sizeOf hi];by_cases h:n.toNat*i.size=0
    ·rw[if_pos h];have hb0:(Zra (n.toNat*i.size)).map ((#[]:Array Value)[· %(#[]:Array Value).size]!)=cur:=by simp[h,cur]
     simp only[Sem.run_bind,Sem.run_pure,Result.andThen_ok];rw[hb0];simp[newRow]
    ·rw[if_neg h];simp only[Sem.run_bind,Sem.run_pure,Result.andThen_ok,hrun];simp[newRow,cur]
   have hsz:cur.size=n.toNat:=by simp[cur,hs1]
   have hcell: ∀(j:Nat) (w:Value),cur[j]? =some w->w= .slice none 0 0:=by
    intro j w hj;simp only[cur,hzc,Zqb]at hj;obtain⟨q,_,rfl⟩:=Znq.1 hj;have:q%1=0:=Nat.mod_one q;simp[this]
   rw[hrun2];have hG1:=hG.kill hd;have hG2:=hG1.newM (s:=d) (mo:= .cells cur el) (n:=cur.size) (Ur d l) hd (ob:= .pk 0 el (.rs te (List.replicate n.toNat [])) none) (λh1 h2=> .pk h1 h2 (by simp[Rws.len,hsz]) (by simp[Env.newM]) (λj p w hp hw=>by
    obtain⟨row,hrow,rfl⟩:=Znq.1 (show((List.replicate n.toNat ([]:List C))[j]?).map (PC.r te)=some p from hp);have hr0:row=[]:=by
     rw[List.getElem?_replicate]at hrow;split at hrow
     ·injection hrow with hrow;exact hrow.symm
     ·cases hrow
    subst hr0;have hw0:=hcell j w hw;subst hw0;exact⟨rfl,λ_=>⟨hte0, .inl ⟨by simp[Env.newM],rfl,rfl⟩,λ_ _ _ e=>by cases e⟩⟩) λ_ _ _ e=>by cases e) (Xq d l)
   refine⟨_,_,_,hk,_,rfl,⟨hG2,rfl⟩, .ws (by simp[Env.newM,Env.kill]) (by unfold maxLen;omega),λy v hy hks=> ?_⟩;have hy1:RV P (E.kill l d) (Loc.kill d l) y v:=hy.mono0 (E':=E.kill l d) (Zo.refl E.w E.Pr) λs=>Zi.kill E l d s;exact hy1.mono (λs=>s=d) (Xk _ _ _ λb k hp=>(hG.prot b k hp).1) (λs hs=>Zi.newM d _ hs) (λs hs=>by subst hs;exact hks s (by simp))
theorem Ep (hG:Good P A E l pend) {mix:Bool} {t:TypeId} {d:Nat} {a b:Operand} (ho:o.op= .makeSlice t a b) (hd: ¬pend d) {x y:V} {u v:Value} (hx:RV P E l x u) (hy:RV P E l y v) (hu:ρ a=u) (hv:ρ b=v)
  (h0:Q0 P l k mix t d x y=some r):Zt P A E l pend ((execOp ρ o).run P E.w) k r:=by
 cases mix with
 |true=>exact Ws hG ho hd hx hy hu hv h0
 |false=>exact Bl hG ho hd hx hy hu hv h0
end
end Go.PM
namespace Go.PM
open Go
variable {P:Program}
section
variable {A:Fr} {E:Env} {l:Loc} {pend:Nat->Prop} {R:Type} {k:V->Loc->List Nat->Option R} {r:R} {o:Oper} {ρ:Operand->Value}
end
end Go.PM
namespace Go.PM
open Go
variable {P:Program}
section
variable {A:Fr} {E:Env} {l:Loc} {pend:Nat->Prop} {R:Type} {k:V->Loc->List Nat->Option R} {r:R} {o:Oper} {ρ:Operand->Value} {cf:Cfg} {strict:Bool} {e:Operand->V}
def Q4 (pend:Nat->Prop) (o:Oper):Nat->Prop:=λs=>pend s/\ ¬(Zm o=true/\o.dst=some s)
theorem Zn {pend:Nat->Prop} {o:Oper} (h:Zm o=false):Q4 pend o=pend:=by
 funext s;simp[Q4,h]
theorem Zhm {xs:List Operand} (hop: ∀y∈xs,RV P E l (e y) (ρ y)): ∀(j:Nat) (x:V) (u:Value),(xs.map e)[j]? =some x->(xs.map ρ)[j]? =some u->RV P E l x u:=Bj hop
theorem Gv (hG:Good P A E l pend) {d:Nat} (hr:E.rho d=none) {cs:List C} {t:TypeId} {fz:Nat} (hd:l d= .ob t fz cs) {x:V} {u:Value} (h4:RV P E l x u) (h5:(∀ys,x≠ .tup ys)/\ ∀ys,x≠ .mag ys):x.at d=false:=by
 cases hx:x.at d with
 |false=>rfl
 |true=>
  have own: ∀{s off n:Nat} {u:Value},RV P E l (.own s off n) u->(V.own s off n).at d=true->False:=by
   intro s off n u h hx;have e:=Zmp hx;subst e;cases h with
   |ownDead hd'=>rw[hd]at hd';cases hd'
   |ownNil _ hl'=>rw[hd]at hl';cases hl'
   |own hr' _ _ _ _=>rw[hr]at hr';cases hr'
   |own0 hr' _ _=>rw[hr]at hr';cases hr'
   |ownMx hl'=>rw[hd]at hl';cases hl'
  cases x with
  |own s off n=>exact(own h4 hx).elim
  |ent s n j=>cases h4 with|ent h=>exact(own h hx).elim
  |tup ys=>exact absurd rfl (h5.1 ys)
  |mag ys=>exact absurd rfl (h5.2 ys)
  |ptr s off=>
   have e:=Zmp hx;subst e;cases h4 with
   |ptrDead hd'=>rw[hd]at hd';cases hd'
   |ptr hr'=>rw[hr]at hr';cases hr'
  |clo f s=>
   have e:=Zmp hx;subst e;cases h4 with
   |cloDead hd'=>rw[hd]at hd';cases hd'
   |clo hr'=>rw[hr]at hr';cases hr'
  |mp s=>
   have e:=Zmp hx;subst e;cases h4 with
   |mpDead hd'=>rw[hd]at hd';cases hd'
   |mp hr'=>rw[hr]at hr';cases hr'
  |ws s n=>
   have e:=Zmp hx;subst e;cases h4 with
   |wsDead hd'=>rw[hd]at hd';cases hd'
   |ws hr' _=>rw[hr]at hr';cases hr'
  |rw s g j n=>
   have e:=Zmp hx;subst e;cases h4 with
   |rwOff h=>have:=h.1;rw[hd]at this;cases this
   |rw h _=>rw[hd]at h;cases h
  |rp s g j n=>
   have e:=Zmp hx;subst e;cases h4 with
   |rpOff h=>have:=h.1;rw[hd]at this;cases this
   |rp h _=>rw[hd]at h;cases h
  |gh s=>
   have e:=Zmp hx;subst e;cases h4 with
   |ghDead hd'=>rw[hd]at hd';cases hd'
   |gh hr' _=>rw[hr]at hr';cases hr'
  |_=>cases hx
theorem Zb6 (hG:Good P A E l pend) {d:Nat} (hp:pend d): ∀s',∀x∈(l s').refs,x.at d=false:=by
 intro s' x hxm;obtain⟨hr,cs,_,hd⟩:=hG.pnd d hp;have hps: ¬pend s':=λh=>by
  obtain⟨_,_,_,h2⟩:=hG.pnd s' h;rw[h2]at hxm;simp[Obj.refs]at hxm
 have h0:=hG.obj s' hps;generalize hl:l s'=ob at h0 hxm;cases h0 with
 | @mx _ xs g cur h1 h2 h3 h4 h6=>
  obtain⟨j,hj,rfl⟩:=Znp.1 hxm;have hj:j<xs.length:=hj;obtain⟨h4,h5⟩:=h4 j xs[j] cur[j] (Zm0 hj) (by simp);refine Gv hG hr hd h4 ⟨λys e=> ?_,λys e=> ?_⟩
  ·have e:xs[j]= .tup ys:=e;generalize xs[j]=x at h4 e;subst e;generalize cur[j]=u at h4 h5;cases h4;cases h5
  ·have e:xs[j]= .mag ys:=e;generalize xs[j]=x at h4 e;subst e;generalize cur[j]=u at h4 h5;cases h4;cases h5
 | @mf _ _ _ es q kc x0 g ms h1 h2 h3 h4 h5 h6 h7 h8=>
  simp[Obj.refs]at hxm;subst hxm;obtain⟨k',row,he⟩: ∃k' row,(mput es q kc [])[Di q es]? =some (k',row):=⟨_,_,Zm0 h6⟩;obtain⟨m,hm⟩: ∃m,ms[Di q es]? =some m:=⟨_,Znj (by rw[h3];exact h6)⟩;obtain⟨h9,h10⟩:=(h8 _ _ _ m he hm).2.2.2 rfl;refine Gv hG hr hd h9 ⟨λys e=> ?_,λys e=> ?_⟩
  ·subst e;generalize m.val=u at h9 h10;cases h9;cases h10
  ·subst e;generalize m.val=u at h9 h10;cases h9;cases h10
 | @ir n x0 g bm h1 h2 h3=>
  simp[Obj.refs]at hxm;subst hxm;refine Gv hG hr hd h3 ⟨λys e=> ?_,λys e=> ?_⟩
  ·subst e;generalize hv:Value.map (some bm)=u at h3;cases h3;cases hv
  ·subst e;generalize hv:Value.map (some bm)=u at h3;cases h3;cases hv
 |_=>simp[Obj.refs]at hxm
theorem Wu {c : Call} {f : FuncId} {fn : Func} (ho : o.op = .call c) {g : Operand} (hc : c.callee = .value g) {caps : List Value} (hg : ρ g = .func (.func f) #[] caps.toArray) (hf : P.funcs[f]? = some fn) (hb : fn.body ≠ none) (hn : (fn.name == "runtime.NumGoroutine") = false) :
  (execOp ρ o).run P E.w= .ok (.enter f (c.args.toList.map ρ++caps).toArray) E.w:=by
 have hb':fn.body.isNone=false:=by cases h:fn.body<;>simp_all
 have e1:(#[]:Array Value)++c.args.map ρ++caps.toArray=(c.args.toList.map ρ++caps).toArray:=by
  apply Zrc;simp
 simp only[execOp,ho,resolve,hc,hg,Deferred.ofValue,Sem.run_bind,Sem.run_pure,Result.andThen_ok,invoke,callFunc,run_program,hf,hn,hb',Zpq,if_false];rw[e1]
theorem Dw {xs:List Operand} {e:Operand->V} (h: ∀y∈xs,RV P E l (e y) (ρ y)): ∀(j:Nat) (x:V) (u:Value),(xs.map e)[j]? =some x->(xs.map ρ)[j]? =some u->RV P E l x u:=by
 intro j x u hx hu;rw[Zm9]at hx hu;cases hj:xs[j]? with
 |none=>rw[hj]at hx;cases hx
 |some y=>
  rw[hj]at hx hu;injection hx with hx;injection hu with hu
  subst hx hu;exact h y (Zm4 hj)
theorem Zb7 {te:TypeId} {row:List C} {fb:Bool} {os:List Obj} {kk:List C->Option R} (h:S6 te row fb os kk=some r): ∃fz cs,os=[.sb te fz cs]/\cs.length=row.length/\fz=(bif fb then cs.length else 0)/\kk cs=some r:=by
 unfold S6 at h;obtain⟨o,os',e0,h2⟩:=Yp h;clear h;subst e0;split at h2
 ·rename_i te' fz cs;obtain⟨hb,h3⟩:=Za h2;simp only[Zmq]at hb;have e1:=Zmp hb.1.1;subst e1;exact⟨fz,cs,rfl,Zmp hb.1.2,Zmp hb.2,h3⟩
 ·cases h2
def Env.rowC (E:Env) (s j n:Nat):Env:=
 {w:=E.w,Pr:=E.Pr,rho:=λa=>if a=OUT then E.rb s j else none,bs:=λa=>if a=OUT then n else 0,Y:=λb=>b<E.w.heap.size/\E.rb s j≠some b,D:=[]}
theorem Gw (hG:Good P A E l pend) {cf:Cfg} (hP:cf.P=P) (hcon: ∀f args objs out,cf.call f args objs=some out->Gr P cf.glob f args objs out) (hgl:GlobOk cf.glob E.w E.Pr) {f:FuncId} {s g j n:Nat} {rest:List V} {u:Value} {us:List Value}
  (hl:us.length=rest.length) (hx:RV P E l (.rw s g j n) u) (hr: ∀(j:Nat) (x:V) (u:Value),rest[j]? =some x->us[j]? =some u->RV P E l x u) {ty:TypeId}
  (h:Vk cf f s g j n rest ty l k=some r):
  ∃x l' ks,k x l' ks=some r/\(∃out,cf.call f (.own OUT 0 n::rest) (match l s with| .pk _ _ q _=>(match q.at j with|some (.r te row)=>[.sb te 0 row]|_=>[])|_=>[])=some out)/\Calls P f (u::us).toArray E.w λe w'=> ∃u,e= .returned u/\Up P A E l pend x l' ks u w':=by
 unfold Vk at h;simp only[hP]at h;split at h
 case h_2=>cases h
 case h_1 g' t q hls=>
 obtain⟨hb0,h⟩:=Za h;rw[Zmq]at hb0;obtain⟨hg,hpl⟩:=hb0;obtain⟨p,hp,h⟩:=Rws.look_eq h;cases p with
 |c _=>cases h
 |r te row=>
 obtain⟨hb1,h⟩:=Za h;simp only[Zmq,Znn]at hb1;have hn:=Zmp hb1.1;have hz:Zg P te≠0:=λe=>by rw[e]at hb1;cases hb1.2
 rw[Zm6]at h;obtain⟨out,hcall,h⟩:=h;obtain⟨fz,cs,hobjs,hcl,hfz,h⟩:=Zb7 h;obtain⟨gb,cur,hrho,hps,hc,hlen,hbs,hcs,_⟩:=Lg hG hls;have hv:=Zdv hx hls hg;have e1:=Zmp hg;subst e1;have hjc:j<cur.size:=Zne (Rws.at_lt hp) hlen;obtain⟨_,hpc⟩:=hcs j (.r te row) cur[j] hp (Znj hjc);obtain⟨_,hrow⟩:=hpc (λe he=>by cases he);have hu:=hv.eq hrow hz hn;have hcurj:cur[j]? =some u:=by rw[Znj hjc,<-hu]
 rw[<-hu]at hrow;have hdiv:row.length/Zg P te=n:=by rw[<-hn];exact Zog _ (Zo0 hz)
 let Ec:=E.rowC s j (E.rc s j*Zg P te)
 let J:=frJ E.w Ec.Y
 have hOr:Ec.rho OUT=E.rb s j:=by simp[Ec,Env.rowC]
 have hOb:Ec.bs OUT=E.rc s j*Zg P te:=by simp[Ec,Env.rowC]
 have hrs: ∀a g2,Ec.rho a=some g2->a=OUT/\E.rb s j=some g2:=by
  intro a g2 e;simp only[Ec,Env.rowC]at e;split at e
  ·rename_i ea;exact⟨ea,e⟩
  ·cases e
 have hlo:Zs [.sb te 0 row] none OUT= .sb te 0 row:=Yc [.sb te 0 row] none 0;have hlo2: ∀a,a≠OUT->Zs [.sb te 0 row] none a= .dead:=λa ha=>by
  cases hd:Zs [.sb te 0 row] none a with
  |dead=>rfl
  |_=>
   obtain⟨k0,rfl,hk0,_⟩:=Wo (objs:=[.sb te 0 row]) (lg:=none) (s:=a) (by rw[hd];simp);simp at hk0;subst hk0;exact absurd rfl ha
 have hGc:Good P (Xc A.pt Ec J) Ec (Zs [.sb te 0 row] none) (λ_=>False):=by
  refine⟨λa _=> ?_,λa h=>h.elim,λa b g2 ha hb=>(hrs a g2 ha).1.trans (hrs b g2 hb).1.symm,λa g2 ha=> .inr (.inl ⟨a,ha⟩),λb k0 hp=>⟨(hG.prot b k0 hp).1,λa ha=>absurd hp ((hG.rbo s j b (hrs a b ha).2).pr k0)⟩,⟨rfl,λ_ h=>⟨h,rfl⟩⟩, .refl _ _,λb k0 hp=> .inl hp,Zm8 _,rfl,rfl,rfl,Zm8 _,Hs _ _,λa g2 ha hy=>hy.2 (hrs a g2 ha).2,λb hb=>hb.1,(λr0 hr0=>by cases hr0),λa i g2 e=>by cases e⟩;by_cases ha:a=OUT
  ·subst ha;rw[hlo];rcases hrow.1 with⟨q1,q2,_⟩|⟨g2,cap,cr,q1,q2,q3,q4,q5,_,_,_,q9⟩
   ·subst q2;exact .sbNil (hOr.trans q1)
   ·have:=hrow.2 _ _ _ q5;subst this;exact .sb (hOr.trans q1) ⟨cr,q2,by rw[hOb];exact q9.symm,q3,q4⟩ (Znv _)
  ·rw[hlo2 a ha];refine .dead ?_;simp[Ec,Env.rowC,ha]
 have hargs: ∀(i:Nat) (x:V) (v:Value),(V.own OUT 0 n::rest)[i]? =some x->(u::us)[i]? =some v->RV P Ec (Zs [.sb te 0 row] none) x v:=by
  intro i x v hx' hv';cases i with
  |zero=>
   simp at hx' hv';subst hx' hv';rcases hrow.1 with⟨q1,q2,q3⟩|⟨g2,cap,cr,q1,q2,q3,q4,q5,q6,q7,q8,q9⟩
   ·subst q2 q3;have hn0:n=0:=by rw[<-hdiv];simp
    subst hn0;exact .ownNil (hOr.trans q1) hlo
   ·have hcap:=hrow.2 _ _ _ q5;rw[hdiv]at q5 q7;rw[q5];exact .own (hOr.trans q1) (by rw[hlo];rfl) q7 q8 (by rw[hOb,<-hcap];simp)
  |succ i=>
   have h1:=hr i x v (by simpa using hx') (by simpa using hv');have h2:=Zm7.1 hpl x (Zm4 (by simpa using hx'));cases x with
   |c c=>cases h1 with|c h1=>exact .c h1
   |agg cs=>cases h1 with|agg h1=>exact .agg h1
   |_=>cases h2
 have hC:=hcon f _ _ out hcall A.pt Ec (u::us) J (by simp[hl]) rfl hgl hGc hargs;have fin: ∀(y:V) (l':Loc),PureV y->(y=out.r\/y= .und)->k y l' []=some r->(∀E':Env,Good P (Xc A.pt Ec J) E' (Zs out.objs out.log) (λ_=>False)->(∀g2,E.rb s j=some g2->E'.rho OUT=some g2/\E'.bs OUT=E.rc s j*Zg P te)->
   ∃E2:Env,E2.w=E'.w/\E2.D=E.D/\Good P A E2 l' pend/\Zo E.w E.Pr E2.w E2.Pr/\Zo E'.w E'.Pr E2.w E2.Pr/\ ∀a,Zi E E2 l l' a)->
   ∃x l' ks,k x l' ks=some r/\(∃out,cf.call f (.own OUT 0 n::rest) [.sb te 0 row]=some out)/\Calls P f (u::us).toArray E.w λe w'=> ∃u,e= .returned u/\Up P A E l pend x l' ks u w':=by
  intro y l' hpy hyo hk hall;refine⟨y,l',[],hk,⟨out,hcall⟩,hC.mono λe w'=> ?_⟩
  rintro ⟨u2,E',he,hw,hG',hr2,hrho2⟩
  obtain⟨E2,p1,p2,p3,p4,p5,p6⟩:=hall E' hG' (λg2 hg2=>by
   rcases hrho2 0 (by simp) g2 (hOr.trans hg2)with this|this
   ·rw[hobjs]at this;cases this
   ·exact⟨this.1,this.2.trans hOb⟩)
  refine⟨u2,he,E2,p1.trans hw,⟨p3,p2⟩, ?_,λz v hz _=>hz.mono0 p4 p6⟩;rcases hyo with rfl|rfl
  ·exact hpy.rv p5 hr2
  ·exact .und
 have hobjs':(match l s with| .pk _ _ q _=>(match q.at j with|some (.r te row)=>[.sb te 0 row]|_=>[])|_=>([]:List Obj))=[.sb te 0 row]:=by rw[hls];simp only[hp]
 rw[hobjs'];have hafter: ∀E':Env,Good P (Xc A.pt Ec J) E' (Zs out.objs out.log) (λ_=>False)->(∀g2,E.rb s j=some g2->E'.rho OUT=some g2/\E'.bs OUT=E.rc s j*Zg P te)->
   (∀b',b'<E.w.heap.size->E.rb s j≠some b' ->E'.w.heap[b']? =E.w.heap[b']?)/\(∀b' k0,E'.Pr b' k0->b'<E'.w.heap.size/\(E.Pr b' k0\/E.w.heap.size<=b'\/E.rb s j=some b'))/\
   (∀g2,E.rb s j=some g2-> ∃cr:Array Value,E'.w.heap[g2]? =some (.cells cr te (0,0))/\cr.size=E.rc s j*Zg P te/\cs.length<=cr.size/\RCs E'.w E'.Pr cs (cr.toList.take cs.length)/\ ∀k0,E'.Pr g2 k0->k0<fz):=by
  intro E' hG' hrho2;refine⟨λb' hb' hne=>(hG'.jf.2 b' ⟨hb',hne⟩).2,λb' k0 hp0=>⟨(hG'.prot b' k0 hp0).1, ?_⟩,λg2 hg2=> ?_⟩
  ·rcases hG'.prN b' k0 hp0 with h|h|h
   ·exact .inl h
   ·exact .inr (.inl h)
   ·rcases h with⟨a,ha⟩|⟨a,i,ha⟩
    ·exact .inr (.inr (hrs a b' ha).2)
    ·cases ha
  ·obtain⟨e2,e3⟩:=hrho2 g2 hg2;have h0:=hG'.obj OUT (λh=>h);have hl0:Zs out.objs out.log OUT= .sb te fz cs:=by rw[hobjs];exact Yc _ _ 0
   rw[hl0]at h0;cases h0 with
   |sbNil h9=>rw[h9]at e2;cases e2
   |sb h1 h2 h3=>
    rw[e2]at h1;injection h1 with h1;subst h1
    obtain⟨cr,c1,c2,c3,c4⟩:=h2;refine⟨cr,c1,c2.trans e3,c3,c4,λk0 hp0=> ?_⟩;have:=(hG'.prot g2 k0 hp0).2 OUT e2;rw[hl0]at this;exact this
 cases hfb:cf.fzb f with
 |false=>
  rw[hfb]at h hfz;obtain⟨y,hpy,hk,hyo⟩:=Bs h;refine fin y _ hpy hyo hk λE' hG' hrho2=> ?_;obtain⟨a1,a2,a3⟩:=hafter E' hG' hrho2;obtain⟨q1,q2,q3⟩:=good_row (P:=P) (A:=A) (c:=E.rc s j) (b:=E.rb s j) (ob:= .pk g t (q.put j te cs) none) (Pr':=E'.Pr) (w':=E'.w) (j:=j) hG hrho (by rw[hls];rfl) rfl (by rw[hls];rfl) (by rw[hls];rfl) a1 hG'.size hG'.os hG'.tape hG'.output hG'.dr (λb' k0 hp0=>(hG'.pr0 b' k0 hp0).1) a2
   (λg2 hg2=>by
    obtain⟨cr,c1,_,_,_,c5⟩:=a3 g2 hg2;refine⟨⟨_,_,c1⟩, .inl hg2,λk0 hp0=> ?_⟩;have h5:=c5 k0 hp0;rw[show fz=0 from hfz]at h5;omega)
   (.inr (.inl ⟨by rw[Zf,hls];rfl,by rw[Zf,hls];rfl,by funext i;by_cases e:i=j<;>simp[Env.row,e],by funext i;by_cases e:i=j<;>simp[Env.row,e]⟩))
   (λhx' hgb hkp=> .pk hrho (hgb.trans hc) (by rw[Rws.len_put];exact hlen) hbs (λi p w hp' hw=>by
    rw[Rws.at_put hp]at hp';by_cases e:i=j
    ·subst e;rw[if_pos rfl]at hp';injection hp' with hp';subst hp'
     rw[hcurj]at hw;injection hw with hw;subst hw
     refine⟨hrow.1.one,λ_=>⟨hz, ?_,λa m cap e2=>by simp only[Env.row];rw[if_pos ⟨trivial,trivial⟩];exact hrow.2 a m cap e2⟩⟩;have hrbi:(E.row E'.w E'.Pr s i (E.rb s i) (E.rc s i)).rb s i=E.rb s i:=by simp[Env.row]
     rcases hrow.1 with⟨b1,b2,b3⟩|⟨g2,cap,cr0,b1,b2,b3,b4,b5,b6,b7,b8,b9⟩
     ·exact .inl ⟨hrbi.trans b1,Zna (by rw[hcl,b2];rfl),b3⟩
     ·obtain⟨cr,c1,c2,c3,c4,_⟩:=a3 g2 b1;have hcap:=hrow.2 _ _ _ b5;exact .inr ⟨g2,cap,cr,hrbi.trans b1,c1,c3,c4,by rw[hcl];exact b5,by rw[hcl];exact b6,by rw[hcl];exact b7,b8,by rw[c2,hcap]⟩
    ·rw[if_neg e]at hp';exact⟨(hcs i p w hp' hw).1,λ_=>((hcs i p w hp' hw).2 λe he=>by cases he).keep hx' (hkp i e) (by simp[Env.row,e])⟩) λ_ _ _ e=>by cases e)
  exact⟨E.row E'.w E'.Pr s j (E.rb s j) (E.rc s j),rfl,rfl,q1,q2, .refl _ _,q3⟩
 |true=>
  rw[hfb]at h hfz;cases q with
  |rs _ _=>cases h
  |ps ps=>
  obtain⟨y,hpy,hk,hyo⟩:=Bs (show Mk P ty out.r (λv=>k v (l.put s (.pk (Zq4 g) t (.ps (ps.set j (.c (.sl n cs)))) none)) [])=some r from h);have hjl:j<ps.length:=Rws.at_lt hp;refine fin y _ hpy hyo hk λE' hG' hrho2=> ?_;obtain⟨a1,a2,a3⟩:=hafter E' hG' hrho2;have hsub2:Zo E'.w E'.Pr E'.w (λb' k0=>E'.Pr b' k0\/(E.rb s j=some b'/\k0<row.length)):=λb' k0 hp0=>⟨.inl hp0,rfl,rfl⟩;obtain⟨q1,q2,q3⟩:=good_row (P:=P) (A:=A) (c:=E.rc s j) (b:=none) (ob:= .pk (Zq4 g) t (.ps (ps.set j (.c (.sl n cs)))) none) (Pr':=λb' k0=>E'.Pr b' k0\/(E.rb s j=some b'/\k0<row.length)) (w':=E'.w) (j:=j) hG hrho (by rw[hls];rfl) rfl (by rw[hls];rfl) (by rw[hls];rfl) a1 hG'.size hG'.os hG'.tape hG'.output hG'.dr (λb' k0 hp0=> .inl (hG'.pr0 b' k0 hp0).1)
   (λb' k0 hp0=>by
    rcases hp0 with hp0|⟨hp0,_⟩
    ·exact a2 b' k0 hp0
    ·exact⟨Zne (hG.rbo s j b' hp0).lt hG'.size, .inr (.inr hp0)⟩)
   (λg2 hg2=>by cases hg2)
   (.inr (.inr (.inr ⟨g,Zq4 g,false,false,by rw[hls];rfl,by rw[Zf];rfl,Zp3 _⟩)))
   (λhx' hgb hkp=> .pk hrho (hgb.trans hc) (by simpa[Rws.len]using hlen) hbs (λi p w hp' hw=>by
    have hp':(ps.set j (.c (.sl n cs)))[i]? =some p:=hp';by_cases e:i=j
    ·subst e;rw[Zoz hjl]at hp';injection hp' with hp';subst hp'
     rw[hcurj]at hw;injection hw with hw;subst hw
     refine⟨hrow.1.one,λ_=> ?_⟩;show RC _ _ (.sl n cs) u;rcases hrow.1 with⟨b1,b2,b3⟩|⟨g2,cap,cr0,b1,b2,b3,b4,b5,b6,b7,b8,b9⟩
     ·have hcs0:cs=[]:=Zna (by rw[hcl,b2];rfl);have hn0:n=0:=by rw[<-hdiv,b2];simp
      rw[hcs0,hn0,b3];exact .sl0 (Znv _)
     ·obtain⟨cr,c1,c2,c3,c4,_⟩:=a3 g2 b1;rw[hdiv]at b5 b7;rw[b5];have hlt: ∀i,i<cs.length->i<cr.size:=λi hi=>by omega
      refine .sl (us:=λi=>cr.getD i undef) b7 b8 (λi c hi=> ?_) λi c hi=> ?_
      ·have hl2:=(Zmx.1 hi).1;refine⟨?_, .inr ⟨by rw[b1],by rw[Zmt];omega⟩⟩;show E'.w.cell? _=_;rw[Zmt,cell_of_row _ g2 i cr te (0,0) c1];simp[Zn5,hlt i hl2]
      ·have hl2:=(Zmx.1 hi).1;have:=c4.2 i c cr[i] hi (by rw[Znc,if_pos hl2];simp[hlt i hl2]);simp only[Zn5,Znj (hlt i hl2),Zou];exact this.held hsub2
    ·rw[Zo5 (Ne.symm e)]at hp';exact⟨(hcs i p w hp' hw).1,λ_=>((hcs i p w hp' hw).2 λe he=>by cases he).keep hx' (hkp i e) (by simp[Env.row,e])⟩) λ_ _ _ e=>by cases e)
  exact⟨E.row E'.w (λb' k0=>E'.Pr b' k0\/(E.rb s j=some b'/\k0<row.length)) s j none (E.rc s j),rfl,rfl,q1,q2,hsub2,q3⟩
theorem Zb8 (hG:Good P A E l pend) {lg:Log} (_:l.log=some lg) {rest:List (List V)} {e:Ending} {w':World} (hy:Zlg A.jt E.Y E.Pr lg rest E.w e w'):
  ∃E',E'.w=w'/\(Good P A E' ⟨l.fn,some ⟨lg.l,lg.go,Zq4 lg.i,rest, !(lg.go lg.i)⟩⟩ pend/\E'.D=E.D)/\ ∀y v,RV P E l y v->RV P E' ⟨l.fn,some ⟨lg.l,lg.go,Zq4 lg.i,rest, !(lg.go lg.i)⟩⟩ y v:=by
 obtain⟨_,Y',y1,y2,y3,hx,hj,hsame,hsz,hos,htp,hout,hdr⟩:=hy
 let E':Env:={E with w:=w',Y:=Y'}
 let l':Loc:=⟨l.fn,some ⟨lg.l,lg.go,Zq4 lg.i,rest, !(lg.go lg.i)⟩⟩
 have hx':Zo E.w E.Pr E'.w E'.Pr:=hx;have hk: ∀s,Zi E E' l l' s:=λs=>by
  by_cases hd:l s= .dead
  ·exact .inl hd
  ·exact .inr ⟨hd,rfl,rfl, .same rfl, .same rfl⟩
 refine⟨E',rfl,⟨⟨λs hp=> ?_,hG.pnd,hG.inj,hG.base,λb k hp=>⟨Zne (hG.prot b k hp).1 hsz,(hG.prot b k hp).2⟩,hj,hG.pr0.trans hx',hG.prN,Zni hG.size hsz,hos.trans hG.os,htp.trans hG.tape,hout.trans hG.output,Zni hG.dr hdr,hG.yok,λs g hs hy=> ?_,y3,λr hr=>⟨?_,λhy=> ?_⟩,Uy hG.rbo (λ_ _ _ e=>e) (λ_ _ e=> .inl e) (λ_ _ e=> .inl e) y2 λb hb _ hy=>hsame b hb hy⟩,rfl⟩,λy v h=>h.mono0 hx' hk⟩
 ·exact(hG.obj s hp).keep hx' rfl rfl (λg hg=>hsame g (hG.lt hg) (hG.yown s g hg)) (λ_ _ _ h=>h.mono0 hx' hk) λj=>⟨rfl,λg hg=>hsame g (hG.rbo _ _ _ hg).lt (hG.rbo _ _ _ hg).y⟩
 ·rcases y2 g hy with h|h
  ·exact hG.yown s g hs h
  ·have:=hG.lt (s:=s) hs;omega
 ·exact(hsame r (Zmy.1 (hG.dm r hr).1).1 (hG.dm r hr).2).trans (hG.dm r hr).1
 ·rcases y2 r hy with h|h
  ·exact(hG.dm r hr).2 h
  ·have:=(Zmy.1 (hG.dm r hr).1).1;omega
theorem Zhn (hG:Good P A E l pend) {cf:Cfg} (hP:cf.P=P) {strict:Bool} {c:Call} (ho:o.op= .call c) {g:Operand} (hc:c.callee= .value g) {n:Nat} (hg:ρ g= .func (.yield n) #[] #[]) {e:Operand->V}
  (hargs: ∀y∈c.args.toList,RV P E l (e y) (ρ y)) (h:Ml cf.P strict n (c.args.toList.map e) l k=some r):Zt P A E l pend ((execOp ρ o).run P E.w) k r:=by
 unfold Ml at h;split at h
 ·cases h
 rw[hP]at h;obtain⟨ys,l1,ss,E1,h1,hG1,hM,hyl,_,_,hy,_,_⟩:=T6 hG (us:=c.args.toList.map ρ) (by simp) (Dw hargs) Zpv h;cases ss with
 |cons s ss=>cases h1
 |nil=>
  cases hlog:l1.log with
  |none=>rw[hlog]at h1;cases h1
  |some lg=>
   rw[hlog]at h1
   dsimp only at h1
   obtain⟨hb,h2⟩:=Za h1;simp only[Zmq,Znn]at hb;have hln:lg.l=n:=Zmp hb.1;have hJ:A.jt.J E1.Y E1.Pr (some lg) E1.w:=by rw[<-hlog];exact hG1.jf
   cases hrest:lg.rest with
   |nil=>rw[hrest]at h2;cases h2
   |cons it rest=>
   rw[hrest]at h2
   dsimp only at h2
   obtain⟨hit,h2⟩:=Za h2;have hit:ys=it:=by simpa[eqV]using hit
   obtain⟨fn,tmps,assign,body,hrun,hR⟩:=hG1.yok E1.Y E1.Pr lg E1.w it rest (c.args.toList.map ρ) hJ hb.2 hrest (by rw[<-hyl,hit]) (λi x u hx hu=>by
    rw[<-hit]at hx;rcases hy i x u hx hu with⟨c,rfl,hc⟩|⟨cs,vs,rfl,rfl,hc⟩|⟨i,off,s,_,hs,_⟩|⟨i,off,n,s,_,hs,_⟩|⟨i,n,s,_,hs,_⟩
    ·exact .c hc
    ·exact .agg hc
    ·simp at hs
    ·simp at hs
    ·simp at hs) (λb k hp=>(hG1.prot b k hp).1) hG1.ylt
   rw[hM.w,hln]at hrun;have e1:(#[]:Array Value)++c.args.map ρ=(c.args.toList.map ρ).toArray:=by apply Zrc;simp
   have hrun':(execOp ρ o).run P E.w= .ok (.round n fn tmps assign body) E.w:=by
    simp only[execOp,ho,resolve,hc,hg,Deferred.ofValue,Sem.run_bind,Sem.run_pure,Result.andThen_ok,invoke];rw[e1];exact hrun
   rw[hrun'];refine⟨_,_,_,h2, ?_⟩;show RoundIn Fence.wide 0 P n fn tmps assign body E.w _;rw[hM.w,hln]at hR;refine hR.mono λe w' he=> ?_;obtain⟨E',e1,q1,q2⟩:=Zb8 hG1 hlog (by rw[hM.w];exact he);exact⟨_,he.1,E',e1,⟨q1.1,q1.2.trans hM.D⟩, .c (.v rfl),λy v hy _=>q2 y v (hM.rv hy)⟩
def EntV (P:Program) (E:Env) (l:Loc) (vv:V) (vu:Value):Prop:=match vv with| .ent s n te=> ∀fz cs,l s= .sb te fz cs->RV P E l (.own s 0 n) vu|v=>RV P E l v vu
def AddAt (P:Program) (f:FuncId):Prop:= ∀(x y c:Int) (w:World),0<=x->0<=y->0<=c->c<=1->(callFunc f #[.int .u64 x, .int .u64 y, .int .u64 c]).run P w= .ok (.value (.tuple #[.int .u64 ((x+y+c)%18446744073709551616), .int .u64 ((x+y+c)/18446744073709551616)])) w
theorem Zl2 (hG:Good P A E l pend) {c:Call} {f:FuncId} (ho:o.op= .call c) (hc:c.callee= .value (.func f)) (hfv:ρ (.func f)= .func (.func f) #[] #[]) (hadd:AddAt P f)
  (hargs: ∀y∈c.args.toList,RV P E l (e y) (ρ y)) (h:C9 (c.args.toList.map e) l k=some r):Zt P A E l pend ((execOp ρ o).run P E.w) k r:=by
 unfold C9 at h;split at h
 ·rename_i x y z hx;obtain⟨a,q1,j1⟩:=Re h;obtain⟨b,q2,j2⟩:=Re j1;obtain⟨d,q3,j3⟩:=Re j2;subst q1 q2 q3;obtain⟨hb,hk⟩:=Za j3;simp only[Zmq,decide_eq_true_eq]at hb;obtain⟨⟨⟨h1,h2⟩,h3⟩,h4⟩:=hb;obtain⟨p,q,s,hl⟩: ∃p q s,c.args.toList=[p,q,s]:=by
   have hlen:=congrArg List.length hx;simp only[Zpb,Zms,Zmr]at hlen
   match hca:c.args.toList,hlen with
   | [p,q,s],_=>exact⟨p,q,s,rfl⟩
  rw[hl]at hx hargs;simp only[Zn0,Zpj,List.cons.injEq,and_true]at hx;obtain⟨e1,e2,e3⟩:=hx;have v1:=hargs p (by simp);have v2:=hargs q (by simp);have v3:=hargs s (by simp);rw[e1]at v1;rw[e2]at v2;rw[e3]at v3;have w1:ρ p= .int .u64 a:=by generalize ρ p=u at v1;cases v1 with|c h=>cases h;rfl
  have w2:ρ q= .int .u64 b:=by generalize ρ q=u at v2;cases v2 with|c h=>cases h;rfl
  have w3:ρ s= .int .u64 d:=by generalize ρ s=u at v3;cases v3 with|c h=>cases h;rfl
  have ea:c.args= #[p,q,s]:=by apply Zrc;simpa using hl
  have hrun:=hadd a b d E.w h1 h2 h3 h4;have hr:(execOp ρ o).run P E.w= .ok (.value (.tuple #[.int .u64 ((a+b+d)%18446744073709551616), .int .u64 ((a+b+d)/18446744073709551616)])) E.w:=by
   simp only[execOp,ho,resolve,hc,hfv,Deferred.ofValue,Sem.run_bind,Sem.run_pure,Result.andThen_ok,invoke,ea];have e0:(#[]:Array Value)++ #[p,q,s].map ρ++ #[]= #[.int .u64 a, .int .u64 b, .int .u64 d]:=by
    rw[<-w1,<-w2,<-w3];apply Zrc;simp
   rw[e0];exact hrun
  rw[hr];refine .quiet hG hk (.tup (us:=[_,_]) rfl λj y u hy hu=> ?_)
  match j with
  |0=>simp at hy hu;subst hy hu;exact .c (.v rfl)
  |1=>simp at hy hu;subst hy hu;exact .c (.v rfl)
  |j+2=>simp at hy
 ·cases h
theorem Ze8 (hG:Good P A E l pend) (hP:cf.P=P) (hcon: ∀f args objs out,cf.call f args objs=some out->Gr P cf.glob f args objs out) (hgl:GlobOk cf.glob E.w E.Pr)
  (hfn : ∀ f args objs out, cf.call f args objs = some out -> ∃ fn, P.funcs[f]? = some fn /\ fn.body ≠ none /\ (fn.name == "runtime.NumGoroutine") = false)
  (hadd: ∀f,cf.add=some f->AddAt P f) (hop: ∀y∈o.op.operands,RV P E l (e y) (ρ y)) (hfv: ∀f,ρ (.func f)= .func (.func f) #[] #[])
  (hal: ∀t d,o.op= .alloc t->o.dst=some d->pend d/\A.pt d=t) (hnd:Zm o=false-> ∀d,o.dst=some d-> ¬pend d)
  (hent: ∀t kv vv,cf.ent=some (t,kv,vv)-> ∃ku vu,(Instr.entry (ρ (.tmp t))).run P E.w= .ok (.tuple #[ku,vu]) E.w/\RV P E l kv ku/\EntV P E l vv vu) (h:opK cf strict o e l k=some r):
  Zt P A E l (Q4 pend o) ((execOp ρ o).run P E.w) k r:=by
 unfold opK at h;split at h
 case h_1 x ho=>rw[Zn (by simp[Zm,ho])];exact Zdw hG (.inl ho) (hop x (by simp[ho,Op.operands])) h
 case h_2 x ho=>rw[Zn (by simp[Zm,ho])];exact Zdw hG (.inr ho) (hop x (by simp[ho,Op.operands])) h
 case h_3 c a b ho=>
  rw[Zn (by simp[Zm,ho])];unfold Jf at h;split at h
  ·rename_i q hq;exact Zjo hG ho (hop c (by simp[ho,Op.operands])) (hop a (by simp[ho,Op.operands])) (hop b (by simp[ho,Op.operands])) hq h
  ·cases h
 case h_4 t ho=>
  split at h
  case h_2=>cases h
  case h_1 d hd=>
   obtain⟨hp,ht⟩:=hal t d ho hd;have h1:=Zhd (ρ:=ρ) hG ho hp ht (Zb6 hG hp) h;have e1:Q4 pend o=λs=>pend s/\s≠d:=by
    funext s
    simp only[Q4,Zm,ho,hd];simp only[true_and,Option.some.injEq];rw[eq_comm (a:=d)]
   rw[e1];exact h1
 case h_5 t x ho=>
  rw[Zn (by simp[Zm,ho])];split at h
  case h_2=>cases h
  case h_1 d hd=>rw[hP]at h;exact Zl0 hG ho (hnd (by simp[Zm,ho]) d hd) (hop x (by simp[ho,Op.operands])) rfl h
 case h_6 t parts ho=>
  rw[Zn (by simp[Zm,ho])];rw[hP]at h;split at h
  ·split at h
   ·exact Zbx hG ho (λp hp=>hop p.2 (by simp[ho,Op.operands];exact⟨p.1,by simpa using hp⟩)) h
   ·cases h
  ·exact Zhe hG ho (λp hp=>hop p.2 (by simp[ho,Op.operands];exact⟨p.1,by simpa using hp⟩)) h
 case h_7 t n parts ho=>
  rw[Zn (by simp[Zm,ho])];split at h
  case h_2=>cases h
  case h_1 d hd=>
   rw[hP]at h;exact Gj hG ho (hnd (by simp[Zm,ho]) d hd) (λp hp=>hop p.2 (by simp[ho,Op.operands];exact⟨p.1,by simpa using hp⟩)) h
 case h_8 t a ho=>rw[Zn (by simp[Zm,ho])];rw[hP]at h;obtain⟨_,h⟩:=Za h;exact Zg8 hG ho (hop a (by simp[ho,Op.operands])) rfl h
 case h_9 t a x ho=>rw[Zn (by simp[Zm,ho])];rw[hP]at h;exact Zhg hG ho (hop a (by simp[ho,Op.operands])) (hop x (by simp[ho,Op.operands])) rfl rfl h
 case h_10 x ho=>rw[Zn (by simp[Zm,ho])];exact Zlw hG ho (hop x (by simp[ho,Op.operands])) rfl h
 case h_11 op t x y yt ho=>rw[Zn (by simp[Zm,ho])];rw[hP]at h;exact Zlx hG ho (hop x (by simp[ho,Op.operands])) (hop y (by simp[ho,Op.operands])) h
 case h_12 op t x ho=>rw[Zn (by simp[Zm,ho])];exact op_un hG ho (hop x (by simp[ho,Op.operands])) h
 case h_13 src dst x ho=>rw[Zn (by simp[Zm,ho])];rw[hP]at h;exact Zjs hG ho (hop x (by simp[ho,Op.operands])) h
 case h_14 fn first cap ho=>
  rw[Zn (by simp[Zm,ho])];split at h
  case h_2=>cases h
  case h_1 f hf=>
   obtain⟨h1,h2⟩:=Za h;rw[hP]at h2;exact Bm hG ho hf (λy hy=>hop y (by simp[ho,Op.operands];exact .inr (by simpa using hy))) h1 h2
 case h_15 t rs ho=>
  rw[Zn (by simp[Zm,ho])];split at h
  case h_2=>cases h
  case h_1 d hd=>rw[hP]at h;exact Zb5 hG ho (hnd (by simp[Zm,ho]) d hd) h
 case h_16 t x i ok ho=>
  rw[Zn (by simp[Zm,ho])];split at h
  case h_2=>
   rw[hP]at h;unfold P3 at h;split at h
   ·rename_i c hc;rw[<-hc]at h;exact Dv hG ho (hop x (by simp[ho,Op.operands])) (hop i (by simp[ho,Op.operands])) rfl rfl h
   ·cases h
  case h_1=>rw[hP]at h;exact Dv hG ho (hop x (by simp[ho,Op.operands])) (hop i (by simp[ho,Op.operands])) rfl rfl h
 case h_17 t x i v ho=>
  rw[Zn (by simp[Zm,ho])];split at h
  case h_2=>cases h
  case h_1=>rw[hP]at h;exact Bt hG ho (hop x (by simp[ho,Op.operands])) (hop i (by simp[ho,Op.operands])) (hop v (by simp[ho,Op.operands])) rfl rfl rfl h
 case h_18 t n c ho=>
  rw[Zn (by simp[Zm,ho])];split at h
  case h_3=>cases h
  case h_2 d hd=>rw[hP]at h;exact Wg hG ho (d:=d) (hop n (by simp[ho,Op.operands])) (hop c (by simp[ho,Op.operands])) rfl rfl h
  case h_1 d hd=>rw[hP]at h;exact Ep hG ho (hnd (by simp[Zm,ho]) d hd) (hop n (by simp[ho,Op.operands])) (hop c (by simp[ho,Op.operands])) rfl rfl h
 case h_19 t x lo hi mx ho=>
  rw[Zn (by simp[Zm,ho])];split at h
  ·rename_i m;rw[hP]at h;unfold S8 at h;split at h
   ·exact Dm hG ho (hop x (by simp[ho,Op.operands])) rfl (λy hy=>hop y (by simp[ho,Op.operands,hy])) (hop m (by simp[ho,Op.operands])) h
   ·split at h
    ·rename_i c hc;rw[<-hc]at h;exact Dm hG ho (hop x (by simp[ho,Op.operands])) rfl (λy hy=>hop y (by simp[ho,Op.operands,hy])) (hop m (by simp[ho,Op.operands])) h
    ·cases h
  ·rw[hP]at h;exact Zhb hG ho (hop x (by simp[ho,Op.operands])) rfl (λy hy=>hop y (by simp[ho,Op.operands,hy])) (λy hy=>hop y (by simp[ho,Op.operands,hy])) h
 case h_20 T x f ho=>rw[Zn (by simp[Zm,ho])];rw[hP]at h;obtain⟨_,h⟩:=Za h;exact Bf hG ho (hop x (by simp[ho,Op.operands])) rfl h
 case h_21 T x f ho=>rw[Zn (by simp[Zm,ho])];rw[hP]at h;exact Zg9 hG ho (hop x (by simp[ho,Op.operands])) rfl h
 case h_22 T x i ho=>rw[Zn (by simp[Zm,ho])];rw[hP]at h;exact Bg hG ho (hop x (by simp[ho,Op.operands])) (hop i (by simp[ho,Op.operands])) rfl rfl h
 case h_23 T x i ho=>rw[Zn (by simp[Zm,ho])];rw[hP]at h;exact Zha hG ho (hop x (by simp[ho,Op.operands])) (hop i (by simp[ho,Op.operands])) rfl rfl h
 case h_24 x i ho=>rw[Zn (by simp[Zm,ho])];exact Zbw hG ho (hop x (by simp[ho,Op.operands])) rfl h
 case h_25 c ho=>
  rw[Zn (by simp[Zm,ho])];have hargs: ∀y∈c.args.toList,RV P E l (e y) (ρ y):=λy hy=>hop y (by simp[ho,Op.operands,Call.operands];exact .inr (by simpa using hy));have hna:Zm o=false:=by simp[Zm,ho]
  split at h
  case h_1 hc=>
   split at h
   case h_2=>cases h
   case h_1 x T ha hT=>
    rw[hP]at h;exact Zlz hG ho hc (by apply Zrc;simpa using ha) (by apply Zrc;simpa using hT) (hargs x (by simp[ha])) rfl h
  case h_2 hc=>
   split at h
   case h_2=>cases h
   case h_1 d s x T T' hd ha hT=>
    split at h
    case h_2=>cases h
    cases hb:Zqv T T' with
    |false=>
     rw[hb]at h;rw[hP]at h;exact Zbz hG ho hc (by apply Zrc;simpa using ha) (by apply Zrc;simpa using hT) (hnd hna d hd) (hargs s (by simp[ha])) (hargs x (by simp[ha])) rfl rfl h
    |true=>
     rw[hb]at h;have:=Zmp hb;subst this;exact Zez hG hP ho hc (by apply Zrc;simpa using ha) (by apply Zrc;simpa using hT) (hnd hna d hd) (hargs s (by simp[ha])) (hargs x (by simp[ha])) rfl rfl h
  case h_3 hc=>
   split at h
   case h_2=>cases h
   case h_1 x T ha hT=>
    rw[hP]at h;exact Zly hG ho hc (by apply Zrc;simpa using ha) (by apply Zrc;simpa using hT) (hargs x (by simp[ha])) rfl h
  case h_4 hc=>
   split at h
   case h_2=>cases h
   case h_1 x y T T' ha hT=>
    rw[hP]at h;exact Zjt hG ho hc (by apply Zrc;simpa using ha) (by apply Zrc;simpa using hT) (hargs x (by simp[ha])) (hargs y (by simp[ha])) rfl rfl h
  case h_5 hc=>exact Zhc (lt:=false) hG ho hc hargs h
  case h_6 hc=>exact Zhc (lt:=true) hG ho hc hargs h
  case h_7=>cases h
  case h_8=>cases h
  case h_9 f hc=>
   have hcallee: ∀g,c.callee= .value g->RV P E l (e g) (ρ g):=λg hg=>hop g (by simp[ho,Op.operands,Call.operands,hg]);have hgoV: ∀(hds:List Nat) (xo:List (Option TypeId)) (f:FuncId) (caps:List V) (cvs:List Value) (g:Operand),c.callee= .value g->ρ g= .func (.func f) #[] cvs.toArray->cvs.length=caps.length->(∀(j:Nat) (x:V) (u:Value),caps[j]? =some x->cvs[j]? =some u->RV P E l x u)->
     Um cf strict hds xo f (c.args.toList.map e++caps) o.type o.dst l k=some r->Zt P A E l pend ((execOp ρ o).run P E.w) k r:=by
    intro hds xo f caps cvs g hg hρ hlen hcaps h;have hrel: ∀(j:Nat) (x:V) (u:Value),(c.args.toList.map e++caps)[j]? =some x->(c.args.toList.map ρ++cvs)[j]? =some u->RV P E l x u:=by
     intro j x u hx hu;rw[Zn2]at hx hu;simp only[Zpb]at hx hu;split at hx
     ·rename_i hlt;rw[if_pos hlt]at hu;exact Zhm hargs j x u hx hu
     ·rename_i hge;rw[if_neg hge]at hu;exact hcaps _ x u hx hu
    obtain ⟨x,l',ks,hk,hC⟩:=Wr hG hP hcon hgl (us:=c.args.toList.map ρ++cvs) (by simp [hlen]) hrel (fun d hd=>hnd hna d hd) h;have hfun : ∃ fn, P.funcs[f]? = some fn /\ fn.body ≠ none /\ (fn.name == "runtime.NumGoroutine") = false := by
     unfold Um at h;simp only[hP]at h;obtain⟨ys,l1,ss,E1,h1,_⟩:=T6 hG (us:=c.args.toList.map ρ++cvs) (by simp[hlen]) hrel Zpv h;obtain⟨_,h2⟩:=Za h1;rw[Zm6]at h2;obtain⟨out,hcall,_⟩:=h2;exact hfn _ _ _ _ hcall
    obtain⟨fn,h1,h2,h3⟩:=hfun;rw[Wu ho hg hρ h1 h2 h3];exact⟨x,l',ks,hk,hC⟩
   have hgo: ∀(hds:List Nat) (xo:List (Option TypeId)) (f:FuncId) (caps:List C) (cvs:List Value) (g:Operand),c.callee= .value g->ρ g= .func (.func f) #[] cvs.toArray->RCs E.w E.Pr caps cvs->
     Um cf strict hds xo f (c.args.toList.map e++caps.map .c) o.type o.dst l k=some r->Zt P A E l pend ((execOp ρ o).run P E.w) k r:=λhds xo f caps cvs g hg hρ hcaps h=>
    hgoV hds xo f (caps.map .c) cvs g hg hρ (by simp[hcaps.len]) (λj x u hx hu=>by
     rw[Zm9]at hx;obtain⟨cc,hcj,rfl⟩:=Znq.1 hx;exact .c (hcaps.2 _ cc u hcj hu)) h
   split at h
   case h_1 f'=>
    unfold Sm at h;split at h
    ·rename_i hb;unfold addB at hb;split at hb
     ·rename_i f0 hf0;have e0:=Zmp hb;subst e0;exact Zl2 hG ho hc (hfv _) (hadd _ hf0) hargs h
     ·cases hb
    unfold N5 at h;split at h
    ·rename_i s g j n rest hst;cases har:c.args.toList with
     |nil=>rw[har]at hst;cases hst
     |cons a0 as=>
      rw[har]at hst;simp only[Zn0,List.cons.injEq]at hst;obtain⟨e1,e2⟩:=hst;have hx0:=hargs a0 (by rw[har];simp);rw[e1]at hx0;obtain⟨x,l',ks,hk,⟨out,hcall⟩,hC⟩:=Gw hG hP hcon hgl (u:=ρ a0) (us:=as.map ρ) (by rw[<-e2];simp) hx0 (by rw[<-e2];exact Dw λy hy=>hargs y (by rw[har];exact Znm _ hy)) h;obtain⟨fn,h1,h2,h3⟩:=hfn _ _ _ _ hcall;have hrun:=Wu (E:=E) (P:=P) (ρ:=ρ) (caps:=[]) ho hc (by rw[hfv]) h1 h2 h3;rw[har]at hrun;simp only[Zn0,Zn8]at hrun;rw[hrun];exact⟨x,l',ks,hk,hC⟩
    ·exact hgo _ _ f' [] [] _ hc (by rw[hfv]) .nil (by simpa using h)
   case h_2=>
    split at h
    case h_3=>cases h
    case h_2 f' s hx=>
     have h1:=hcallee _ hc;rw[hx]at h1;split at h
     case h_2=>cases h
     case h_1=>
      obtain⟨hlive,h⟩:=Za h;generalize hu:ρ f=u at h1;cases h1 with
      |cloDead hd=>rw[hd]at hlive;cases hlive
      | @clo _ _ g hr=>
       exact hgoV _ _ f' [.ptr s 0] [.pointer (some ⟨g,0,none⟩)] _ hc hu rfl (λj x u hx hu=>by
        match j with
        |0=>simp at hx hu;subst hx hu;exact .ptr hr
        |j+1=>simp at hx) h
    case h_1 c' hx=>
     have h1:=hcallee _ hc;rw[hx]at h1;generalize hu:ρ f=u at h1;cases h1 with|c hcc=>
     unfold C2 at h;split at h
     ·rename_i f' caps;cases hcc with
      | @fn _ _ cvs q1 q2=>exact hgo _ _ f' caps cvs _ hc hu ⟨q1,q2⟩ h
     ·rename_i n go xs;cases hcc;exact Zhn hG hP ho hc hu hargs h
     ·cases h
 case h_26=>cases h
end
end Go.PM
namespace Go.PM
open Go
variable {P:Program} {R:Type} {r:R}
theorem Z9 {t:TypeId} {cs:List C} {k:V->Option R} (h:ldC P t cs k=some r): ∃v,(∀{S:Type} (k':V->Option S),ldC P t cs k'=k' v)/\k v=some r:=by
 unfold ldC at h;cases hi:P.info? t with
 |none=>rw[hi]at h;cases h
 |some i=>
  rw[hi]at h;cases ha:Yi P t with
  |true=>
   rw[ha]at h;cases hl:leaves P 20 t with
   |none=>
    rw[hl]at h;obtain⟨h1,h2⟩:=Zb h;exact⟨_,λk'=>by simp only[ldC,hi,ha,hl,h1],h2⟩
   |some ls=>
    rw[hl]at h;obtain⟨h1,h2⟩:=Zb h;obtain⟨cs',h3,h4⟩:=U6 h2;exact⟨_,λk'=>by simp only[ldC,hi,ha,hl,h1,h3],h4⟩
  |false=>
   rw[ha]at h;cases hl:leaves P 20 t with
   |none=>rw[hl]at h;cases h
   |some ls=>
    rw[hl]at h
    match ls,hl,h with
    | [],_,h=>cases h
    |_::_::_,_,h=>cases h
    | [f],hl,h=>
     cases cs with
     |nil=>cases h
     |cons c rest=>
      obtain⟨c',h1,h2⟩:=Sr (show Ub f c (λc'=>k (.c c'))=some r from h);exact⟨_,λk'=>by simp only[ldC,hi,ha,hl,unc,h1],h2⟩
theorem Vr {strict:Bool} {x:V} {l:Loc} {k:List C->Loc->Option R} (h:Xd P strict x l k=some r): ∃cs l',(∀{S:Type} (k':List C->Loc->Option S),Xd P strict x l k'=k' cs l')/\k cs l'=some r:=by
 cases x with
 |c c=>exact⟨_,_,λk'=>rfl,h⟩
 |agg cs=>exact⟨_,_,λk'=>rfl,h⟩
 |own s off n=>
  simp only[Xd]at h;split at h
  ·rename_i t fz cs ho;obtain⟨h1,h2⟩:=Zb h;exact⟨_,_,λk'=>by simp only[Xd,ho,h1],h2⟩
  ·cases h
 |ptr s off=>
  simp only[Xd]at h;split at h
  ·rename_i t fz cs ho;exact⟨_,_,λk'=>by simp only[Xd,ho],h⟩
  ·cases h
 |mp s=>
  simp only[Xd]at h;split at h
  ·rename_i ho;exact⟨_,_,λk'=>by simp only[Xd,ho],h⟩
  ·rename_i ho;obtain⟨h1,h2⟩:=Zb h;exact⟨_,_,λk'=>by simp only[Xd,ho,h1],h2⟩
  ·cases h
 |rw s g j n=>
  simp only[Xd]at h;split at h
  ·rename_i g' t ps hl;obtain⟨h1,h2⟩:=Zb h;split at h2
   ·rename_i te row hp;obtain⟨h3,h4⟩:=Zb h2;exact⟨_,_,λk'=>by simp only[Xd,hl,h1,hp,h3],h4⟩
   ·cases h2
  ·cases h
 |ws s n=>
  simp only[Xd]at h;split at h
  ·rename_i g t te rows hl;obtain⟨h1,h2⟩:=Zb h;exact⟨_,_,λk'=>by simp only[Xd,hl,h1],h2⟩
  ·cases h
 |_=>cases h
theorem Ss {strict:Bool}: ∀{xs:List V} {l:Loc} {k:List C->Loc->Option R} (_:Qv P strict xs l k=some r),∃cs l',(∀{S:Type} (k':List C->Loc->Option S),Qv P strict xs l k'=k' cs l')/\k cs l'=some r
 | [],l,k,h=>⟨[],l,λk'=>rfl,h⟩
 |x::xs,l,k,h=>by
  cases x with
  |c c=>
   obtain⟨cs,l',h1,h2⟩:=Ss (xs:=xs) (k:=λcs l2=>k (c::cs) l2) h;exact⟨c::cs,l',λk'=>by simp only[Qv,h1],h2⟩
  |own s off n=>
   simp only[Qv]at h;obtain⟨cs,l1,h1,h2⟩:=Vr h;split at h2
   ·rename_i c;obtain⟨cs2,l',h3,h4⟩:=Ss (xs:=xs) (k:=λcs l2=>k (c::cs) l2) h2;exact⟨c::cs2,l',λk'=>by simp only[Qv,h1,h3],h4⟩
   ·cases h2
  |mp s=>
   simp only[Qv]at h;obtain⟨cs,l1,h1,h2⟩:=Vr h;split at h2
   ·rename_i c;obtain⟨cs2,l',h3,h4⟩:=Ss (xs:=xs) (k:=λcs l2=>k (c::cs) l2) h2;exact⟨c::cs2,l',λk'=>by simp only[Qv,h1,h3],h4⟩
   ·cases h2
  |ws s n=>
   simp only[Qv]at h;obtain⟨cs,l1,h1,h2⟩:=Vr h;split at h2
   ·rename_i c;obtain⟨cs2,l',h3,h4⟩:=Ss (xs:=xs) (k:=λcs l2=>k (c::cs) l2) h2;exact⟨c::cs2,l',λk'=>by simp only[Qv,h1,h3],h4⟩
   ·cases h2
  |_=>cases h
theorem P8 {strict:Bool} {x:V} {l:Loc} {k:List C->Loc->Option R} (h:pur P strict x l k=some r): ∃cs l',(∀{S:Type} (k':List C->Loc->Option S),pur P strict x l k'=k' cs l')/\k cs l'=some r:=by
 cases x with
 |ptr s off=>
  unfold pur at h;simp only at h;split at h
  ·rename_i t xs hl;cases strict with
   |true=>cases h
   |false=>
    simp only at h;obtain⟨cs,l1,h1,h2⟩:=Ss h;split at h2
    ·rename_i hl1;exact⟨_,_,λk'=>by simp only[pur,hl,h1,hl1],h2⟩
    ·cases h2
  ·rename_i hno;obtain⟨cs,l1,h1,h2⟩:=Vr h;refine⟨cs,l1,λ{S} k'=> ?_,h2⟩;have e:pur P strict (.ptr s off) l k'=Xd P strict (.ptr s off) l k':=by
    unfold pur;simp only
   rw[e];exact h1 k'
 |c c=>exact⟨_,_,λk'=>rfl,h⟩
 |agg cs=>exact⟨_,_,λk'=>rfl,h⟩
 |own s off n=>exact Vr (show Xd P strict (.own s off n) l k=some r from h)
 |mp s=>exact Vr (show Xd P strict (.mp s) l k=some r from h)
 |rw s g j n=>exact Vr (show Xd P strict (.rw s g j n) l k=some r from h)
 |ws s n=>exact Vr (show Xd P strict (.ws s n) l k=some r from h)
 |_=>cases h
theorem Pj {strict:Bool}: ∀{xs:List V} {l:Loc} {k:List (List C)->Loc->Option R} (_:Nx P strict xs l k=some r),∃ps l',(∀{S:Type} (k':List (List C)->Loc->Option S),Nx P strict xs l k'=k' ps l')/\k ps l'=some r
 | [],l,k,h=>⟨[],l,λk'=>rfl,h⟩
 |x::xs,l,k,h=>by
  obtain⟨cs,l1,h1,h2⟩:=P8 (show pur P strict x l (λcs l1=>Nx P strict xs l1 λps l2=>k (cs::ps) l2)=some r from h);obtain⟨ps,l2,h3,h4⟩:=Pj h2;exact⟨cs::ps,l2,λk'=>by show pur P strict x l _=_;rw[h1,h3],h4⟩
theorem Ug {place:Nat->Option (Nat×Nat)}: ∀{is:List Nat} {ps:List (List C)} {cs:List C} {k:List C->Option R} (_:V2 place is ps cs k=some r),∃cs',(∀{S:Type} (k':List C->Option S),V2 place is ps cs k'=k' cs')/\k cs'=some r
 | [],ps,cs,k,h=>⟨cs,λk'=>by simp[V2],by simpa[V2]using h⟩
 |i::is,[],cs,k,h=>⟨cs,λk'=>by simp[V2],by simpa[V2]using h⟩
 |i::is,p::ps,cs,k,h=>by
  simp only[V2]at h;split at h
  ·cases h
  ·rename_i off sz hp;obtain⟨h1,h2⟩:=Zb h;obtain⟨cs',h3,h4⟩:=Ug h2;exact⟨cs',λk'=>by simp only[V2,hp,h1,h3],h4⟩
theorem Kq {place:Nat->Option (Nat×Nat)}: ∀{is:List Nat} {ps:List (List V)} {cs:List V} {k:List V->Option R} (_:Sk place is ps cs k=some r),∃cs',(∀{S:Type} (k':List V->Option S),Sk place is ps cs k'=k' cs')/\k cs'=some r
 | [],ps,cs,k,h=>⟨cs,λk'=>by simp[Sk],by simpa[Sk]using h⟩
 |i::is,[],cs,k,h=>⟨cs,λk'=>by simp[Sk],by simpa[Sk]using h⟩
 |i::is,p::ps,cs,k,h=>by
  simp only[Sk]at h;split at h
  ·cases h
  ·rename_i off sz hp;obtain⟨h1,h2⟩:=Zb h;obtain⟨cs',h3,h4⟩:=Kq h2;exact⟨cs',λk'=>by simp only[Sk,hp,h1,h3],h4⟩
theorem Xs {strict:Bool}: ∀{hd:List Nat} {xs:List V} {l:Loc} {ss:List Nat} {k:List V->Loc->List Nat->Option R} (_:Ye P strict hd xs l ss k=some r),
  ∃ys l' ss',(∀{S:Type} (k':List V->Loc->List Nat->Option S),Ye P strict hd xs l ss k'=k' ys l' ss')/\k ys l' ss'=some r
 |hd,[],l,ss,k,h=>⟨[],l,ss,λk'=>by simp[Ye],by simpa[Ye]using h⟩
 |hd,x::xs,l,ss,k,h=>by
  unfold Ye at h;cases x with
  |c c=>
   obtain⟨ys,l',ss',h1,h2⟩:=Xs h;exact⟨_,_,_,λk'=>by simp only[Ye,h1],h2⟩
  |agg cs=>
   obtain⟨ys,l',ss',h1,h2⟩:=Xs h;exact⟨_,_,_,λk'=>by simp only[Ye,h1],h2⟩
  |own s off n=>
   simp only at h;cases hh:A4 strict hd with
   |true=>
    rw[hh]at h;simp only at h;split at h
    ·rename_i i hi;obtain⟨ys,l',ss',h3,h4⟩:=Xs h;exact⟨_,_,_,λk'=>by simp only[Ye,hh,hi,h3],h4⟩
    ·rename_i hi;obtain⟨ys,l',ss',h3,h4⟩:=Xs h;exact⟨_,_,_,λk'=>by simp only[Ye,hh,hi,h3],h4⟩
   |false=>
    rw[hh]at h;simp only at h;obtain⟨cs,l1,h1,h2⟩:=P8 h;split at h2
    ·obtain⟨ys,l',ss',h3,h4⟩:=Xs h2;exact⟨_,_,_,λk'=>by simp only[Ye,hh,h1,h3],h4⟩
    ·cases h2
  |ptr s off=>
   simp only at h;cases strict with
   |true=>cases h
   |false=>
    simp only at h;split at h
    ·rename_i i hi;obtain⟨ys,l',ss',h3,h4⟩:=Xs h;exact⟨_,_,_,λk'=>by simp only[Ye,hi,h3],h4⟩
    ·rename_i hi;obtain⟨ys,l',ss',h3,h4⟩:=Xs h;exact⟨_,_,_,λk'=>by simp only[Ye,hi,h3],h4⟩
  |ws s n=>
   simp only at h;cases hh:A4 strict hd with
   |false=>rw[hh]at h;cases h
   |true=>
    rw[hh]at h;simp only at h;split at h
    ·rename_i i hi;obtain⟨ys,l',ss',h3,h4⟩:=Xs h;exact⟨_,_,_,λk'=>by simp only[Ye,hh,hi,h3],h4⟩
    ·rename_i hi;obtain⟨ys,l',ss',h3,h4⟩:=Xs h;exact⟨_,_,_,λk'=>by simp only[Ye,hh,hi,h3],h4⟩
  |_=>cases h
theorem Kr: ∀{ls:List Lf} {os ps:List PC} {k:List PC->Option R} (_:Ut ls os ps k=some r),(∀{S:Type} (k':List PC->Option S),Ut ls os ps k'=k' ps)/\k ps=some r
 | [],[],ps,k,h=>by
  unfold Ut at h;split at h
  ·exact⟨λk'=>by simp[Ut],h⟩
  ·cases h
 | [],_::_,ps,k,h=>by simp[Ut]at h
 |_::_,[],ps,k,h=>by simp[Ut]at h
 |l::ls,o::os,[],k,h=>by simp[Ut,Zeu]at h
 |l::ls,o::os,p::ps,k,h=>by
  cases o with
  |c c0=>
   cases p with
   |r te row=>cases h
   |c c=>
    have h0:Ub l c (λc'=>Ut ls os ps λqs=>k (.c c'::qs))=some r:=h;obtain⟨c',h1,h2⟩:=Sr h0;obtain⟨h3,h4⟩:=Kr (k:=λqs=>k (.c c'::qs)) h2;have e:c'=c:=by
     have:=Tn (show Ub l c (λc''=>(some c'':Option C))=some c' from h1 _);injection this with this;exact this.symm
    subst e;refine⟨λ{S} k'=> ?_,h4⟩;show Ub l c' (λc'=>Ut ls os ps λqs=>k' (.c c'::qs))=_;rw[h1,h3]
  |r te row0=>
   cases p with
   |c c=>cases h
   |r te' row=>
    have h0:need (Zqv te' te) (Ut ls os ps λqs=>k (.r te row::qs))=some r:=h;obtain⟨h1,h2⟩:=Zb h0;have e:=Zmp (Za h0).1;subst e;obtain⟨h3,h4⟩:=Kr (k:=λqs=>k (.r te' row::qs)) h2;refine⟨λ{S} k'=> ?_,h4⟩;show need (Zqv te' te') (Ut ls os ps λqs=>k' (.r te' row::qs))=_;rw[h1,h3]
theorem Zho {g:Nat} {t:TypeId} {ps:List PC} {k:List PC->Option R}:rPk (.pk g t (.ps ps) none) t k=k ps:=by simp[rPk,need]
theorem Td {fb:Bool}: ∀{ss:List Nat} {os:List Obj} {l:Loc} {k:List Obj->Loc->Option R} (_:Uu P fb ss os l k=some r),
  ∃rest l',(∀{S:Type} (k':List Obj->Loc->Option S),Uu P fb ss os l k'=k' rest l')/\k rest l'=some r
 | [],os,l,k,h=>⟨os,l,λk'=>rfl,h⟩
 |s::ss,os,l,k,h=>by
  unfold Uu at h;split at h
  case h_4=>cases h
  case h_3 g t ps hl=>
   obtain⟨o,os',rfl,h1⟩:=Yp h;obtain⟨g2,ps',rfl,h2⟩:=Zb1 h1;split at h2
   ·rename_i ls hls;obtain⟨h3,h4⟩:=Zb h2;obtain⟨h5,h6⟩:=Kr h4;obtain⟨rest,l',h7,h8⟩:=Td h6;exact⟨rest,l',λk'=>by simp only[Uu,hl,uncO,Zho,hls,h3,h5,h7],h8⟩
   ·cases h2
  case h_2 t fz cs hl=>
   obtain⟨o,os',rfl,h1⟩:=Yp h;cases fb with
   |false=>
    obtain⟨cs',rfl,h2⟩:=Gq h1;obtain⟨h3,h4⟩:=Zb h2;obtain⟨rest,l',h7,h8⟩:=Td h4;exact⟨rest,l',λk'=>by simp only[Uu,hl,uncO,Br,h7,h3],h8⟩
   |true=>
    obtain⟨fz',cs',rfl,hle,h2⟩:=Zhi h1;obtain⟨h3,h4⟩:=Zb h2;obtain⟨rest,l',h7,h8⟩:=Td h4;exact⟨rest,l',λk'=>by simp only[Uu,hl,uncO,Zjw hle,h7,h3],h8⟩
  case h_1 t fz cs hl=>
   obtain⟨o,os',rfl,h1⟩:=Yp h;obtain⟨cs',rfl,h2⟩:=Gp h1;split at h2
   ·rename_i ls hls;obtain⟨h3,h4⟩:=Zb h2;obtain⟨cs2,h5,h6⟩:=U6 h4;obtain⟨rest,l',h7,h8⟩:=Td h6;exact⟨rest,l',λk'=>by simp only[Uu,hl,uncO,rO,hls,h3,h5,h7,Zox,Zor,need,cond_true]<;>simp only[<-need.eq_1,h3],h8⟩
   ·rename_i hls;obtain⟨h3,h4⟩:=Zb h2;obtain⟨rest,l',h7,h8⟩:=Td h4;exact⟨rest,l',λk'=>by simp only[Uu,hl,uncO,rO,hls,h7,Zox,Zor,need,cond_true]<;>simp only[<-need.eq_1,h3],h8⟩
theorem Pk {lt:Bool}: ∀{xs:List V} {kd:IntKind} {a:Int} {k:V->Option R} (_:T3 lt xs kd a k=some r),∃v,(∀{S:Type} (k':V->Option S),T3 lt xs kd a k'=k' v)/\k v=some r
 | [],kd,a,k,h=>⟨_,λk'=>rfl,h⟩
 |x::xs,kd,a,k,h=>by
  match x,h with
  | .c (.v (.int kd' b)),h=>
   simp only[T3]at h;cases hk:decide (kd'=kd)with
   |false=>rw[hk]at h;cases h
   |true=>
    rw[hk]at h;obtain⟨v,h1,h2⟩:=Pk h;exact⟨v,λk'=>by simp only[T3,hk,cond_true,h1],h2⟩
theorem Yh {x:Option V} {d y:Nat} {k:Nat->Option R} (h:bound x d y k=some r): ∃n,(∀{S:Type} (k':Nat->Option S),bound x d y k'=k' n)/\k n=some r:=by
 unfold bound at h;split at h
 ·exact⟨d,λk'=>rfl,h⟩
 ·split at h
  ·obtain⟨h1,h2⟩:=Zb h;exact⟨_,λk'=>by simp only[bound,h1],h2⟩
  ·cases h
 ·cases h
theorem Q5 {e:TypeId} {x:V} {l:Loc} {k:Nat->List C->Option R} (h:Sn P e x l k=some r): ∃m cs,(∀{S:Type} (k':Nat->List C->Option S),Sn P e x l k'=k' m cs)/\k m cs=some r:=by
 unfold Sn at h;split at h
 ·obtain⟨m,cs,h1,h2⟩:=Uc h;obtain⟨h3,h4⟩:=Zb h2;exact⟨m,cs,λk'=>by simp only[Sn,h1,h3],h4⟩
 ·split at h
  ·rename_i ho;obtain⟨h3,h4⟩:=Zb h;exact⟨_,_,λk'=>by simp only[Sn,ho,h3],h4⟩
  ·cases h
 ·cases h
theorem Zb9 {op:BinOp} {kd:IntKind} {a b:Int} {k:V->Option R} (h:Ki op kd a b k=some r): ∃v,(∀{S:Type} (k':V->Option S),Ki op kd a b k'=k' v)/\k v=some r:=by
 cases op<;>simp only[Ki]at h⊢ <;>first
  |(cases h;done)
  |exact⟨_,λk'=>rfl,h⟩
  |(obtain⟨h1,h2⟩:=Zb h;exact⟨_,λk'=>h1 _,h2⟩)
theorem Dx {op:BinOp} {kd:IntKind} {a b:Int} {k:V->Option R} (h:Df op kd a b k=some r): ∃v,(∀{S:Type} (k':V->Option S),Df op kd a b k'=k' v)/\k v=some r:=by
 cases op<;>simp only[Df]at h⊢ <;>first
  |(cases h;done)
  |(obtain⟨h1,h2⟩:=Zb h;exact⟨_,λk'=>h1 _,h2⟩)
theorem Zca {op:BinOp} {a b:ByteArray} {k:V->Option R} (h:Kj op a b k=some r): ∃v,(∀{S:Type} (k':V->Option S),Kj op a b k'=k' v)/\k v=some r:=by
 cases op<;>simp only[Kj]at h⊢ <;>first
  |(cases h;done)
  |exact⟨_,λk'=>rfl,h⟩
  |(obtain⟨h1,h2⟩:=Zb h;exact⟨_,λk'=>h1 _,h2⟩)
theorem Wv {op:BinOp} {t:TypeId} {x y:V} {k:V->Option R} (h:S5 P op t x y k=some r): ∃v,(∀{S:Type} (k':V->Option S),S5 P op t x y k'=k' v)/\k v=some r:=by
 unfold S5 at h;split at h
 ·split at h
  ·obtain⟨v,h1,h2⟩:=Dx h;exact⟨v,λk'=>by simp only[S5,h1],h2⟩
  ·obtain⟨v,h1,h2⟩:=Dx h;exact⟨v,λk'=>by simp only[S5,h1],h2⟩
  ·rename_i n1 n2;split at h
   ·rename_i hk;obtain⟨v,h1,h2⟩:=Zb9 h;refine⟨v,λk'=> ?_,h2⟩;cases op<;>first
     |exact absurd rfl n1
     |exact absurd rfl n2
     |(simp only[S5,if_pos hk];exact h1 k')
   ·cases h
 ·obtain⟨v,h1,h2⟩:=Zca h;exact⟨v,λk'=>by simp only[S5,h1],h2⟩
 ·split at h
  ·rename_i hu;exact⟨_,λk'=>by simp only[S5,hu],h⟩
  ·rename_i hu;exact⟨_,λk'=>by simp only[S5,hu],h⟩
  ·cases h
 ·split at h
  ·rename_i b h1 h2 h3;split at h
   ·exact⟨_,λk'=>by simp only[S5,h1,h2,h3],h⟩
   ·exact⟨_,λk'=>by simp only[S5,h1,h2,h3],h⟩
   ·cases h
  ·cases h
 ·split at h
  ·rename_i hu;exact⟨_,λk'=>by simp only[S5,hu],h⟩
  ·rename_i hu;exact⟨_,λk'=>by simp only[S5,hu],h⟩
  ·cases h
 ·split at h
  ·rename_i hu;exact⟨_,λk'=>by simp only[S5,hu],h⟩
  ·rename_i hu;exact⟨_,λk'=>by simp only[S5,hu],h⟩
  ·cases h
 ·cases h
theorem Zd3 {op:UnOp} {x:V} {k:V->Option R} (h:unV op x k=some r): ∃v,(∀{S:Type} (k':V->Option S),unV op x k'=k' v)/\k v=some r:=by
 unfold unV at h;split at h
 ·exact⟨_,λk'=>rfl,h⟩
 ·exact⟨_,λk'=>rfl,h⟩
 ·exact⟨_,λk'=>rfl,h⟩
 ·cases h
theorem Dy {src dst:TypeId} {x:V} {k:V->Option R} (h:N3 P src dst x k=some r): ∃v,(∀{S:Type} (k':V->Option S),N3 P src dst x k'=k' v)/\k v=some r:=by
 unfold N3 at h;split at h
 ·rename_i h1 h2;exact⟨_,λk'=>by simp only[N3,h1,h2],h⟩
 ·rename_i h1 h2;exact⟨_,λk'=>by simp only[N3,h1,h2],h⟩
 ·rename_i h1 h2;exact⟨_,λk'=>by simp only[N3,h1,h2],h⟩
 ·cases h
end Go.PM
namespace Go.PM
open Go
variable {P:Program} {R:Type} {r:R}
def Y4 {R:Type} (F:{S:Type}->(V->Loc->List Nat->Option S)->Option S) (k:V->Loc->List Nat->Option R) (r:R):Prop:=
 ∃x l ks,(∀{S:Type} (k':V->Loc->List Nat->Option S),F k'=k' x l ks)/\k x l ks=some r
section
variable {l:Loc} {k:V->Loc->List Nat->Option R}
theorem Ze9 {c a b:V} (h:Jf l k c a b=some r):Y4 (λk'=>Jf l k' c a b) k r:=by
 unfold Jf at h;split at h
 ·exact⟨_,_,_,λk'=>rfl,h⟩
 ·cases h
theorem Zhp {strict own:Bool} {t:TypeId} {d:Nat} {x:V} (h:Kl P l k strict own t d x=some r):Y4 (λk'=>Kl P l k' strict own t d x) k r:=by
 unfold Kl at h;split at h
 ·split at h
  ·exact⟨_,_,_,λk'=>by simp only[Kl],h⟩
  ·rename_i hno;obtain⟨cs,l',h1,h2⟩:=P8 h;obtain⟨h3,h4⟩:=Zb h2;refine⟨_,_,_,λ{S} k'=> ?_,h4⟩;unfold Kl;simp only;rw[h1];simp only[h3]
 ·cases h
 ·obtain⟨cs,l',h1,h2⟩:=P8 h;exact⟨_,_,_,λk'=>by simp only[Kl,h1],h2⟩
theorem Zcb {strict:Bool} {t:TypeId} {is:List Nat} {xs:List V} (h:Qh P l k strict t is xs=some r):Y4 (λk'=>Qh P l k' strict t is xs) k r:=by
 unfold Qh at h;split at h
 ·rename_i hT hz;obtain⟨h0,h⟩:=Zb h;obtain⟨ps,l',h1,h2⟩:=Pj h;obtain⟨cs,h3,h4⟩:=Ug h2;exact⟨_,_,_,λk'=>by simp only[Qh,hT,hz,h0,h1,h3],h4⟩
 ·rename_i hT hz;obtain⟨h0,h⟩:=Zb h;obtain⟨ps,l',h1,h2⟩:=Pj h;obtain⟨cs,h3,h4⟩:=Ug h2;exact⟨_,_,_,λk'=>by simp only[Qh,hT,hz,h0,h1,h3],h4⟩
 ·cases h
theorem Ww {t:TypeId} {is:List Nat} {xs:List V} (h:S7 P l k t is xs=some r):Y4 (λk'=>S7 P l k' t is xs) k r:=by
 unfold S7 at h;split at h
 ·rename_i hT hz hp;obtain⟨h0,h⟩:=Zb h;obtain⟨cs,h3,h4⟩:=Kq h;exact⟨_,_,_,λk'=>by simp only[S7,hT,hz,hp,h0,h3],h4⟩
 ·cases h
theorem Hi {strict own full:Bool} {t:TypeId} {n d:Nat} {is:List Nat} {xs:List V} (h:Z0 P l k strict own full t n d is xs=some r):Y4 (λk'=>Z0 P l k' strict own full t n d is xs) k r:=by
 unfold Z0 at h;split at h
 ·rename_i hT;split at h
  ·rename_i hz;obtain⟨ps,l',h1,h2⟩:=Pj h;obtain⟨cs,h3,h4⟩:=Ug h2;obtain⟨h5,h6⟩:=Zb h4;split at h6
   ·exact⟨_,_,_,λk'=>by simp only[Z0,hT,hz,h1,h3,h5],h6⟩
   ·cases h6
   ·exact⟨_,_,_,λk'=>by simp only[Z0,hT,hz,h1,h3,h5],h6⟩
  ·cases h
 ·cases h
theorem Hj {t:TypeId} {n d:Nat} {is:List Nat} {xs:List V} (h:Xh P l k t n d is xs=some r):Y4 (λk'=>Xh P l k' t n d is xs) k r:=by
 unfold Xh at h;split at h
 ·rename_i hT;split at h
  ·rename_i hz hp;obtain⟨cs,h3,h4⟩:=Kq h;obtain⟨h5,h6⟩:=Zb h4;exact⟨_,_,_,λk'=>by simp only[Xh,hT,hz,hp,h3,h5],h6⟩
  ·cases h
 ·cases h
theorem Hk {strict own full:Bool} {t:TypeId} {n d:Nat} {is:List Nat} {xs:List V} (h:Yr P l k strict own full t n d is xs=some r):Y4 (λk'=>Yr P l k' strict own full t n d is xs) k r:=by
 cases own<;>cases full<;>cases strict
 case true.true.false=>simp only[Yr]at h⊢;exact Hj h
 all_goals (simp only[Yr]at h⊢;exact Hi h)
theorem Zhq {t:TypeId} {x:V} (h:Sb P l k t x=some r):Y4 (λk'=>Sb P l k' t x) k r:=by
 unfold Sb at h;split at h
 ·obtain⟨v,h3,h4⟩:=Z9 h;exact⟨_,_,_,λk'=>by simp only[Sb,h3],h4⟩
 ·obtain⟨h3,h4⟩:=Zb h;exact⟨_,_,_,λk'=>by simp only[Sb,h3],h4⟩
 ·obtain⟨h3,h4⟩:=Zb h;exact⟨_,_,_,λk'=>by simp only[Sb,h3],h4⟩
 ·obtain⟨h3,h4⟩:=Zb h;exact⟨_,_,_,λk'=>by simp only[Sb,h3],h4⟩
 ·cases h
theorem To {q:Rws} {j:Nat} {k:PC->Option R} (h:q.look j k=some r): ∃p,(∀{S:Type} (k':PC->Option S),q.look j k'=k' p)/\k p=some r:=by
 cases q with
 |ps l=>
  simp only[Rws.look]at h;split at h
  ·rename_i p hp;exact⟨p,λk'=>by simp only[Rws.look,hp],h⟩
  ·cases h
 |rs te rows=>
  obtain⟨h1,h2⟩:=Zb (show need (Nat.blt j rows.length) (k (.r te (rows.getD j [])))=some r from h);exact⟨_,λk'=>by simp only[Rws.look,h1],h2⟩
theorem Ks {strict:Bool} {t:TypeId} {a:V} (h:Z8 P l k strict t a=some r):Y4 (λk'=>Z8 P l k' strict t a) k r:=by
 unfold Z8 at h;split at h
 ·obtain⟨cs,h1,h2⟩:=X5 h;obtain⟨v,h3,h4⟩:=Z9 h2;exact⟨_,_,_,λk'=>by simp only[Z8,h1,h3],h4⟩
 ·split at h
  ·rename_i hl;obtain⟨v,h3,h4⟩:=Z9 h;exact⟨_,_,_,λk'=>by simp only[Z8,hl,h3],h4⟩
  ·rename_i hl;obtain⟨v,h3,h4⟩:=Z9 h;exact⟨_,_,_,λk'=>by simp only[Z8,hl,h3],h4⟩
  ·rename_i hl;split at h
   ·rename_i ha;obtain⟨h1,h2⟩:=Zb h;obtain⟨cs,l',h3,h4⟩:=Ss h2;obtain⟨v,h5,h6⟩:=Z9 h4;exact⟨_,_,_,λk'=>by simp only[Z8,hl,ha,h1,h3,h5],h6⟩
   ·rename_i ha;split at h
    ·rename_i hx;obtain⟨v,l',ks,h1,h2⟩:=Zhq h;exact⟨v,l',ks,λk'=>by simp only[Z8,hl,ha,hx];exact h1 k',h2⟩
    ·cases h
  ·rename_i hl;obtain⟨h1,h2⟩:=Zb h;obtain⟨p,h3,h4⟩:=To h2;cases p with
   |c c=>
    obtain⟨v,h5,h6⟩:=Z9 h4;exact⟨_,_,_,λk'=>by simp only[Z8,hl,h1,h3,h5],h6⟩
   |r te row=>exact⟨_,_,_,λk'=>by simp only[Z8,hl,h1,h3],h4⟩
  ·cases h
 ·cases h
theorem Zfa {t:TypeId} {a:V} (h:Jg P l k t a=some r):Y4 (λk'=>Jg P l k' t a) k r:=by
 unfold Jg at h;split at h
 ·split at h
  ·rename_i hl;obtain⟨h3,h4⟩:=Zb h;exact⟨_,_,_,λk'=>by simp only[Jg,hl,h3],h4⟩
  ·cases h
 ·cases h
theorem Zfb {mag strict:Bool} {t:TypeId} {a:V} (h:Dj P l k mag strict t a=some r):Y4 (λk'=>Dj P l k' mag strict t a) k r:=by
 cases mag<;>cases strict
 ·exact Ks (show Z8 P l k false t a=some r from h)
 ·exact Ks (show Z8 P l k true t a=some r from h)
 ·exact Zfa (show Jg P l k t a=some r from h)
 ·exact Ks (show Z8 P l k true t a=some r from h)
theorem Js {t:TypeId} {s off:Nat} {t':TypeId} {xs:List V} {x:V} (h:Yk P l k t s off t' xs x=some r):Y4 (λk'=>Yk P l k' t s off t' xs x) k r:=by
 unfold Yk at h;split at h
 ·obtain⟨h3,h4⟩:=Zb h;exact⟨_,_,_,λk'=>by simp only[Yk,h3],h4⟩
 ·obtain⟨h3,h4⟩:=Zb h;exact⟨_,_,_,λk'=>by simp only[Yk,h3],h4⟩
 ·obtain⟨h3,h4⟩:=Zb h;exact⟨_,_,_,λk'=>by simp only[Yk,h3],h4⟩
 ·obtain⟨h3,h4⟩:=Zb h;exact⟨_,_,_,λk'=>by simp only[Yk,h3],h4⟩
 ·obtain⟨h3,h4⟩:=Zb h;exact⟨_,_,_,λk'=>by simp only[Yk,h3],h4⟩
 ·cases h
theorem Jt {strict:Bool} {t:TypeId} {s off:Nat} {x:V} (h:Xl P l k strict t s off x=some r):Y4 (λk'=>Xl P l k' strict t s off x) k r:=by
 unfold Xl at h;obtain⟨cs,l',h1,h2⟩:=P8 h;split at h2
 ·rename_i hl;obtain⟨h3,h4⟩:=Zb h2;exact⟨_,_,_,λk'=>by simp only[Xl,h1,hl,h3],h4⟩
 ·rename_i hl;obtain⟨h3,h4⟩:=Zb h2;exact⟨_,_,_,λk'=>by simp only[Xl,h1,hl,h3],h4⟩
 ·cases h2
theorem Wx {t:TypeId} {s off g:Nat} {t':TypeId} {q:Rws} {pe:Option (Nat×TypeId×List C)} {x:V} (h:X3 P l k t s off g t' q pe x=some r):Y4 (λk'=>X3 P l k' t s off g t' q pe x) k r:=by
 unfold X3 at h;obtain⟨h1,h2⟩:=Zb h;cases x with
 |rp s2 g2 j2 n=>
  cases pe with
  |none=>cases h2
  |some e=>
   obtain⟨j,te,row⟩:=e;obtain⟨h3,h4⟩:=Zb h2;exact⟨_,_,_,λk'=>by simp only[X3,h1,h3],h4⟩
 |c c=>
  cases pe with
  |some e=>cases h2
  |none=>
  cases q with
  |rs te rows=>cases h2
  |ps ps=>
   obtain⟨h3,h4⟩:=Zb h2;exact⟨_,_,_,λk'=>by simp only[X3,h1,h3],h4⟩
 |ws s2 n2=>
  cases pe with
  |some e=>cases h2
  |none=>
  cases q with
  |rs te rows=>cases h2
  |ps ps=>
   simp only at h2;split at h2
   ·rename_i cs hcs;obtain⟨h3,h4⟩:=Zb h2;exact⟨_,_,_,λk'=>by simp only[X3,h1,hcs,h3],h4⟩
   ·cases h2
 |_=>cases pe<;>cases h2
theorem Zcc {strict mix:Bool} {t:TypeId} {a x:V} (h:Xo P l k strict mix t a x=some r):Y4 (λk'=>Xo P l k' strict mix t a x) k r:=by
 unfold Xo at h;split at h
 ·split at h
  ·rename_i t' fz cs hl;cases hb:(A8 x&&(Zqv cs.length 1||mix)&&Zqv fz 0)with
   |true=>
    rw[hb]at h;obtain⟨y,l',ks,h1,h2⟩:=Js h;exact⟨y,l',ks,λk'=>by simp only[Xo,hl,hb,cond_true];exact h1 k',h2⟩
   |false=>
    rw[hb]at h;obtain⟨y,l',ks,h1,h2⟩:=Jt h;exact⟨y,l',ks,λk'=>by simp only[Xo,hl,hb,cond_false];exact h1 k',h2⟩
  ·rename_i hl;obtain⟨y,l',ks,h1,h2⟩:=Jt h;exact⟨y,l',ks,λk'=>by simp only[Xo,hl];exact h1 k',h2⟩
  ·rename_i hl;obtain⟨y,l',ks,h1,h2⟩:=Js h;exact⟨y,l',ks,λk'=>by simp only[Xo,hl];exact h1 k',h2⟩
  ·rename_i hl;obtain⟨y,l',ks,h1,h2⟩:=Wx h;exact⟨y,l',ks,λk'=>by simp only[Xo,hl];exact h1 k',h2⟩
  ·cases h
 ·cases h
theorem Mw {x:V} {k:List C->Option R} (h:R5 x k=some r): ∃cs,(∀{S:Type} (k':List C->Option S),R5 x k'=k' cs)/\k cs=some r:=by
 unfold R5 at h;split at h
 ·exact⟨_,λk'=>rfl,h⟩
 ·exact⟨_,λk'=>rfl,h⟩
 ·cases h
theorem Bu {own:Bool} {t:TypeId} {d:Nat} {q:Option V} (h:Vm P l k own t d q=some r):Y4 (λk'=>Vm P l k' own t d q) k r:=by
 unfold Vm at h;split at h
 ·rename_i h1;obtain⟨h3,h4⟩:=Zb h;exact⟨_,_,_,λk'=>by simp only[Vm,h1,h3],h4⟩
 ·rename_i h1;split at h
  ·rename_i h2;obtain⟨h3,h4⟩:=Zb h;exact⟨_,_,_,λk'=>by simp only[Vm,h1,h2,h3],h4⟩
  ·cases h
 ·cases h
theorem Pm {kt et:TypeId} {es:List (List C×List C)} {i:V} {ok:Bool} (h:V4 P l k kt et es i ok=some r): ∃x,(∀{S:Type} (l2:Loc) (k':V->Loc->List Nat->Option S),V4 P l2 k' kt et es i ok=k' x l2 [])/\k x l []=some r:=by
 unfold V4 at h;obtain⟨kc,h3,h4⟩:=Mw h;obtain⟨q,hq,h5⟩:=Zm6.1 h4;split at h5
 ·rename_i hz;cases ok with
  |false=>
   obtain⟨v,h7,h8⟩:=Z9 h5;exact⟨_,λl2 k'=>by simp only[V4,h3,hq,Znx,hz,h7],h8⟩
  |true=>
   obtain⟨v,h7,h8⟩:=Z9 h5;exact⟨_,λl2 k'=>by simp only[V4,h3,hq,Znx,hz,h7],h8⟩
 ·cases h5
theorem Wy {T:TypeId} {x i:V} {ok:Bool} (h:Qg P l k T x i ok=some r):Y4 (λk'=>Qg P l k' T x i ok) k r:=by
 unfold Qg at h;split at h
 ·rename_i hT;split at h
  ·rename_i hl;obtain⟨h1,h2⟩:=Zb h;obtain⟨x,h3,h4⟩:=Pm h2;exact⟨_,_,_,λk'=>by simp only[Qg,hT,hl,h1,h3],h4⟩
  ·cases h
 ·rename_i hT;unfold A7 at h;split at h
  ·obtain⟨h0,h⟩:=Zb h;obtain⟨h1,h2⟩:=Zb h;obtain⟨x,h3,h4⟩:=Pm h2;exact⟨_,_,_,λk'=>by simp only[Qg,hT,A7,h0,h1,h3],h4⟩
  ·cases h
 ·cases h
theorem Ju {T:TypeId} {x i:V} {ok:Bool} (h:P3 P l k T x i ok=some r): ∃x',(∀{S:Type} (l2:Loc) (k':V->Loc->List Nat->Option S),P3 P l2 k' T x i ok=k' x' l2 [])/\k x' l []=some r:=by
 unfold P3 at h;split at h
 ·unfold Qg at h;split at h
  ·rename_i e;cases e
  ·rename_i hT e;injection e with e;subst e
   unfold A7 at h;split at h
   ·obtain⟨h0,h⟩:=Zb h;obtain⟨h1,h2⟩:=Zb h;obtain⟨x,h3,h4⟩:=Pm h2;exact⟨_,λl2 k'=>by simp only[P3,Qg,hT,A7,h0,h1,h3],h4⟩
   ·cases h
  ·cases h
 ·cases h
theorem Gx {T:TypeId} {x i v:V} (h:U5 P l k T x i v=some r):Y4 (λk'=>U5 P l k' T x i v) k r:=by
 unfold U5 at h;split at h
 ·rename_i hT;split at h
  ·rename_i hl;obtain⟨h1,h2⟩:=Zb h;obtain⟨kc,h3,h4⟩:=Mw h2;obtain⟨vc,h5,h6⟩:=Mw h4;obtain⟨q,hq,h7⟩:=Zm6.1 h6;exact⟨_,_,_,λk'=>by simp only[U5,hT,hl,h1,h3,h5,hq,Znx],h7⟩
  ·cases h
 ·cases h
theorem Zhr {x:V} (h:R2 l k x=some r):Y4 (λk'=>R2 l k' x) k r:=by
 unfold R2 at h;split at h
 ·obtain⟨h3,h4⟩:=Zb h;exact⟨_,_,_,λk'=>by simp only[R2,h3],h4⟩
 ·split at h
  ·exact⟨_,_,_,λk'=>rfl,h⟩
  ·exact⟨_,_,_,λk'=>rfl,h⟩
  ·cases h
 ·cases h
theorem Gy {t:TypeId} {d:Nat} {n c:V} (h:X4 P l k t d n c=some r):Y4 (λk'=>X4 P l k' t d n c) k r:=by
 unfold X4 at h;split at h
 ·rename_i h1 h2 h3;split at h
  ·rename_i h4 h5;obtain⟨h6,h7⟩:=Zb h;exact⟨_,_,_,λk'=>by simp only[X4,h1,h2,h3,h4,h5,h6],h7⟩
  ·cases h
 ·cases h
theorem Er {t:TypeId} {d:Nat} {n c:V} (h:Qz P l k t d n c=some r):Y4 (λk'=>Qz P l k' t d n c) k r:=by
 unfold Qz at h;split at h
 ·rename_i h1 h2 h3;split at h
  ·rename_i h4 h5;obtain⟨h6,h7⟩:=Zb h;exact⟨_,_,_,λk'=>by simp only[Qz,h1,h2,h3,h4,h5,h6],h7⟩
  ·cases h
 ·cases h
theorem Es {t:TypeId} {n c:V} (h:Xe P l k t n c=some r):Y4 (λk'=>Xe P l k' t n c) k r:=by
 unfold Xe at h;split at h
 ·rename_i h1 h2 h3;split at h
  ·rename_i h4 h5;obtain⟨h6,h7⟩:=Zb h;exact⟨_,_,_,λk'=>by simp only[Xe,h1,h2,h3,h4,h5,h6],h7⟩
  ·cases h
 ·cases h
theorem Gz {mix:Bool} {t:TypeId} {d:Nat} {n c:V} (h:Q0 P l k mix t d n c=some r):Y4 (λk'=>Q0 P l k' mix t d n c) k r:=by
 cases mix with
 |true=>exact Er h
 |false=>exact Gy h
theorem Mx {sz:Nat} {c:C} {lo hi:Option V} {k:C->Option R} (h:sliceC sz lo hi c k=some r): ∃c',(∀{S:Type} (k':C->Option S),sliceC sz lo hi c k'=k' c')/\k c'=some r:=by
 unfold sliceC at h;split at h
 ·obtain⟨a,h3,h4⟩:=Yh h;obtain⟨b,h5,h6⟩:=Yh h4;exact⟨_,λk'=>by simp only[sliceC,h3,h5],h6⟩
 ·obtain⟨a,h3,h4⟩:=Yh h;obtain⟨b,h5,h6⟩:=Yh h4;exact⟨_,λk'=>by simp only[sliceC,h3,h5],h6⟩
 ·cases h
theorem Zcd {t:TypeId} {x:V} {lo hi:Option V} (h:Ym P l k t x lo hi=some r):Y4 (λk'=>Ym P l k' t x lo hi) k r:=by
 unfold Ym at h;split at h
 ·rename_i hT;split at h
  ·obtain⟨s,h1,h2⟩:=Vf h;obtain⟨a,h3,h4⟩:=Yh h2;obtain⟨b,h5,h6⟩:=Yh h4;exact⟨_,_,_,λk'=>by simp only[Ym,hT,h1,h3,h5],h6⟩
  ·cases h
 ·rename_i hT;split at h
  ·rename_i hi';split at h
   ·obtain⟨c',h1,h2⟩:=Mx h;exact⟨_,_,_,λk'=>by simp only[Ym,hT,hi',h1],h2⟩
   ·split at h
    ·rename_i hl;obtain⟨h1,h2⟩:=Zb h;obtain⟨a,h3,h4⟩:=Yh h2;obtain⟨b,h5,h6⟩:=Yh h4;exact⟨_,_,_,λk'=>by simp only[Ym,hT,hi',hl,h1,h3,h5],h6⟩
    ·cases h
   ·cases h
  ·cases h
 ·rename_i hT;split at h
  ·rename_i h1;obtain⟨cs,h2,h3⟩:=X5 h;obtain⟨h4,h5⟩:=Zb h3;exact⟨_,_,_,λk'=>by simp only[Ym,hT,h1,h2,h4],h5⟩
  ·rename_i h1;split at h
   ·rename_i hl;obtain⟨h4,h5⟩:=Zb h;exact⟨_,_,_,λk'=>by simp only[Ym,hT,h1,hl,h4],h5⟩
   ·cases h
  ·cases h
 ·cases h
theorem G1 {T:TypeId} {f:Nat} {x:V} (h:Zw P l k T f x=some r):Y4 (λk'=>Zw P l k' T f x) k r:=by
 unfold Zw at h;split at h
 ·rename_i hf;obtain⟨h1,h2⟩:=Zb h;split at h2
  ·obtain⟨h3,h4⟩:=Zb h2;exact⟨_,_,_,λk'=>by simp only[Zw,hf,h1,h3],h4⟩
  ·obtain⟨cs,h3,h4⟩:=X5 h2;exact⟨_,_,_,λk'=>by simp only[Zw,hf,h1,h3],h4⟩
  ·cases h2
 ·cases h
theorem Zce {T:TypeId} {f:Nat} {x:V} (h:Ti P l k T f x=some r):Y4 (λk'=>Ti P l k' T f x) k r:=by
 unfold Ti at h;split at h
 ·rename_i hf;obtain⟨v,h3,h4⟩:=Z9 h;exact⟨_,_,_,λk'=>by simp only[Ti,hf,h3],h4⟩
 ·cases h
theorem G2 {T:TypeId} {x i:V} (h:Zp P l k T x i=some r):Y4 (λk'=>Zp P l k' T x i) k r:=by
 unfold Zp at h;split at h
 ·rename_i h1 h2;split at h
  ·rename_i h3;split at h
   ·obtain⟨n,cs,h4,h5⟩:=Uc h;obtain⟨h6,h7⟩:=Zb h5;exact⟨_,_,_,λk'=>by simp only[Zp,h1,h2,h3,h4,h6],h7⟩
   ·split at h
    ·rename_i hl;obtain⟨h6,h7⟩:=Zb h;exact⟨_,_,_,λk'=>by simp only[Zp,h1,h2,h3,hl,h6],h7⟩
    ·cases h
   ·obtain⟨h6,h7⟩:=Zb h;exact⟨_,_,_,λk'=>by simp only[Zp,h1,h2,h3,h6],h7⟩
   ·cases h
  ·cases h
 ·rename_i h1 h2;split at h
  ·rename_i h3;split at h
   ·obtain⟨h6,h7⟩:=Zb h;exact⟨_,_,_,λk'=>by simp only[Zp,h1,h2,h3,h6],h7⟩
   ·obtain⟨cs,h4,h5⟩:=X5 h;obtain⟨h6,h7⟩:=Zb h5;exact⟨_,_,_,λk'=>by simp only[Zp,h1,h2,h3,h4,h6],h7⟩
   ·cases h
  ·cases h
 ·cases h
theorem Zcf {T:TypeId} {x i:V} (h:Q1 P l k T x i=some r):Y4 (λk'=>Q1 P l k' T x i) k r:=by
 unfold Q1 at h;split at h
 ·rename_i h1 h2;split at h
  ·rename_i h3;split at h
   ·obtain⟨h6,h7⟩:=Zb h;obtain⟨v,h8,h9⟩:=Z9 h7;exact⟨_,_,_,λk'=>by simp only[Q1,h1,h2,h3,h6,h8],h9⟩
   ·cases h
  ·cases h
 ·rename_i h1 h2;split at h
  ·obtain⟨s,h3,h4⟩:=Vf h;obtain⟨h6,h7⟩:=Zb h4;exact⟨_,_,_,λk'=>by simp only[Q1,h1,h2,h3,h6],h7⟩
  ·cases h
 ·cases h
theorem Bv {i:Nat} {x:V} (h:Xp l k i x=some r):Y4 (λk'=>Xp l k' i x) k r:=by
 unfold Xp at h;split at h
 ·split at h
  ·exact⟨_,_,_,λk'=>rfl,h⟩
  ·exact⟨_,_,_,λk'=>rfl,h⟩
  ·cases h
 ·split at h
  ·exact⟨_,_,_,λk'=>rfl,h⟩
  ·cases h
 ·split at h
  ·rename_i h1;exact⟨_,_,_,λk'=>by simp only[Xp,h1],h⟩
  ·cases h
 ·cases h
theorem Zhs {T:TypeId} {x:V} (h:H6 P l k T x=some r):Y4 (λk'=>H6 P l k' T x) k r:=by
 unfold H6 at h;split at h
 ·rename_i hT;exact⟨_,_,_,λk'=>by simp only[H6,hT],h⟩
 ·cases h
theorem Zht {T:TypeId} {x:V} (h:Yn P l k T x=some r):Y4 (λk'=>Yn P l k' T x) k r:=by
 unfold Yn at h;split at h
 ·rename_i hT;obtain⟨n,cs,h1,h2⟩:=Uc h;exact⟨_,_,_,λk'=>by simp only[Yn,hT,h1],h2⟩
 ·rename_i hT;obtain⟨s,h1,h2⟩:=Vf h;exact⟨_,_,_,λk'=>by simp only[Yn,hT,h1],h2⟩
 ·rename_i hT;split at h
  ·rename_i hl;exact⟨_,_,_,λk'=>by simp only[Yn,hT,hl],h⟩
  ·cases h
 ·rename_i hT;split at h
  ·rename_i hl;exact⟨_,_,_,λk'=>by simp only[Yn,hT,hl],h⟩
  ·rename_i hl;exact⟨_,_,_,λk'=>by simp only[Yn,hT,hl],h⟩
  ·cases h
 ·rename_i hT;split at h
  ·exact⟨_,_,_,λk'=>by simp only[Yn,hT],h⟩
  ·cases h
 ·rename_i hT;obtain⟨h6,h7⟩:=Zb h;exact⟨_,_,_,λk'=>by simp only[Yn,hT,h6],h7⟩
 ·rename_i hT;split at h
  ·rename_i hg;obtain⟨h6,h7⟩:=Zb h;exact⟨_,_,_,λk'=>by simp only[Yn,hT,hg,h6],h7⟩
  ·cases h
 ·rename_i x1 x2 n el hT;refine⟨_,_,_,λk'=> ?_,h⟩;cases x1<;>simp only[Yn,hT]
 ·cases h
theorem Et {strict:Bool} {f:FuncId} {xs:List V} (h:Y8 P l k strict f xs=some r):Y4 (λk'=>Y8 P l k' strict f xs) k r:=by
 unfold Y8 at h;obtain⟨ps,l',h1,h2⟩:=Pj h;obtain⟨h3,h4⟩:=Zb h2;exact⟨_,_,_,λk'=>by simp only[Y8,h1,h3],h4⟩
theorem Eu {own strict:Bool} {f:FuncId} {xs:List V} (h:Ue P l k own strict f xs=some r):Y4 (λk'=>Ue P l k' own strict f xs) k r:=by
 unfold Ue at h;split at h
 ·unfold La at h;split at h
  ·obtain⟨h1,h2⟩:=Zb h;exact⟨_,_,_,λk'=>by simp only[Ue,La,h1],h2⟩
  ·cases h
 ·rename_i hno;obtain⟨x,l',ks,h1,h2⟩:=Et h;refine⟨x,l',ks,λk'=> ?_,h2⟩;have e:Ue P l k' own strict f xs=Y8 P l k' strict f xs:=by
   unfold Ue;split
   ·exact(hno rfl rfl).elim
   ·rfl
  exact e.trans (h1 k')
theorem Wz {lt:Bool} {xs:List V} (h:Hd l k lt xs=some r):Y4 (λk'=>Hd l k' lt xs) k r:=by
 unfold Hd at h;split at h
 ·obtain⟨v,h1,h2⟩:=Pk h;exact⟨_,_,_,λk'=>by simp only[Hd,h1],h2⟩
 ·cases h
theorem W0 {cf:Cfg} {T:TypeId} {s x:V} {d:Nat} (h:Y5 cf T s x d l k=some r):Y4 (λk'=>Y5 cf T s x d l k') k r:=by
 unfold Y5 at h;split at h
 ·rename_i hT;split at h
  ·rename_i hi hz;obtain⟨m,cs,h1,h2⟩:=Q5 h;split at h2
   ·obtain⟨h3,h4⟩:=Zb h2;exact⟨_,_,_,λk'=>by simp only[Y5,hT,hi,hz,h1,h3],h4⟩
   ·split at h2
    ·rename_i hl;obtain⟨h3,h4⟩:=Zb h2;exact⟨_,_,_,λk'=>by simp only[Y5,hT,hi,hz,h1,hl,h3],h4⟩
    ·rename_i hl;obtain⟨h3,h4⟩:=Zb h2;exact⟨_,_,_,λk'=>by simp only[Y5,hT,hi,hz,h1,hl,h3],h4⟩
    ·cases h2
   ·split at h2
    ·rename_i hl;obtain⟨h3,h4⟩:=Zb h2;obtain⟨p,h5,h6⟩:=To h4;cases p with
     |c c=>cases h6
     |r te row=>
      obtain⟨h7,h8⟩:=Zb h6;exact⟨_,_,_,λk'=>by simp only[Y5,hT,hi,hz,h1,hl,h3,h5,h7],h8⟩
    ·cases h2
   ·obtain⟨n1,olds,h3,h4⟩:=Q5 h2;split at h4
    ·rename_i ho;obtain⟨h5,h6⟩:=Zb h4;exact⟨_,_,_,λk'=>by simp only[Y5,hT,hi,hz,h1,h3,ho,h5],h6⟩
    ·rename_i ho;obtain⟨h5,h6⟩:=Zb h4;exact⟨_,_,_,λk'=>by simp only[Y5,hT,hi,hz,h1,h3,ho,h5],h6⟩
   ·cases h2
  ·cases h
 ·cases h
theorem Jv {strict:Bool} {t:TypeId} {x:V} {lo hi m:Option V} (h:U0 P l k strict t x lo hi m=some r):Y4 (λk'=>U0 P l k' strict t x lo hi m) k r:=by
 unfold U0 at h;split at h
 ·rename_i hT;split at h
  ·rename_i h1 h2 h3;obtain⟨h4,h5⟩:=Zb h;obtain⟨cs,l',h6,h7⟩:=P8 h5;split at h7
   ·obtain⟨n,cs',h8,h9⟩:=Uc h7;obtain⟨h10,h11⟩:=Zb h9;exact⟨_,_,_,λk'=>by simp only[U0,hT,h1,h2,h3,h4,h6,h8,h10],h11⟩
   ·cases h7
  ·cases h
 ·cases h
theorem Zfc {T:TypeId} {x y:V} (h:N6 P l k T x y=some r):Y4 (λk'=>N6 P l k' T x y) k r:=by
 unfold N6 at h;split at h
 case h_2=>cases h
 rename_i hT;split at h
 case h_3=>cases h
 case h_2 hi=>
  obtain⟨m,ds,hm,h⟩:=Uc h;split at h
  case h_2=>cases h
  rename_i hl;split at h
  ·rename_i hz;exact⟨_,_,_,λk'=>by simp only[N6,hT,hi,hm,hl,hz],h⟩
  ·rename_i hz;obtain⟨h3,h4⟩:=Zb h;exact⟨_,_,_,λk'=>by simp only[N6,hT,hi,hm,hl,hz,h3],h4⟩
 rename_i hi;split at h
 case h_2=>cases h
 rename_i h1 h2;split at h
 ·rename_i hz;exact⟨_,_,_,λk'=>by simp only[N6,hT,hi,h1,h2,hz],h⟩
 ·rename_i hz;split at h
  case h_2=>cases h
  rename_i hl;obtain⟨h3,h4⟩:=Zb h;have h1':=h1;rw[hl]at h1';exact⟨_,_,_,λk'=>by simp only[N6,hT,hi,h1',h2,hz,hl,h3],h4⟩
theorem W2 {strict:Bool} {t:TypeId} {x:V} {lo hi m:Option V} (h:S8 P l k strict t x lo hi m=some r):Y4 (λk'=>S8 P l k' strict t x lo hi m) k r:=by
 cases strict with
 |false=>exact Jv h
 |true=>
  cases x with
  |c c=>exact Jv (show U0 P l k true t (.c c) lo hi m=some r from h)
  |_=>cases h
theorem Bw {P:Program} {T T':TypeId} {s x:V} {d:Nat} (h:Xn P l k T T' s x d=some r):Y4 (λk'=>Xn P l k' T T' s x d) k r:=by
 unfold Xn at h;split at h
 ·rename_i h1 h2 h3;split at h
  ·rename_i h4 h5;obtain⟨h6,h7⟩:=Zb h;exact⟨_,_,_,λk'=>by simp only[Xn,h1,h2,h3,h4,h5,h6],h7⟩
  ·cases h
 ·cases h
theorem Dz {m d:Nat} {xo:List (Option TypeId)} {ty:TypeId} {v:V} {os:List Obj} {l:Loc} (h:N4 P m d xo ty v os l k=some r):Y4 (λk'=>N4 P m d xo ty v os l k') k r:=by
 unfold N4 at h;split at h
 ·rename_i ts hts;unfold rT at h;split at h
  ·obtain⟨ys,l2,ks,h1,h2⟩:=P5 h;exact⟨_,_,_,λk'=>by simp only[N4,hts,rT,h1],h2⟩
  ·cases h
 ·rename_i hne;split at h
  ·rename_i cts h0;obtain⟨zs,rfl,h⟩:=Wm h;obtain⟨zs,l2,ks,h1,h2⟩:=Tc h;refine⟨_,_,_,λk'=> ?_,h2⟩;simp only[N4,h0,rG];exact h1 _
  ·rename_i hno;obtain⟨y,i2,os2,l2,ks,h1,h2⟩:=P4 h;refine⟨_,_,_,λk'=> ?_,h2⟩;simp only[N4,hno];exact h1 _
theorem Zfd {cf:Cfg} {strict:Bool} {xo:List (Option TypeId)} {ss:List Nat} {out:Out} {ty:TypeId} {dst:Option Nat} {l1:Loc} (h:Je cf strict xo ss out ty dst l1 k=some r):Y4 (λk'=>Je cf strict xo ss out ty dst l1 k') k r:=by
 unfold Je at h;split at h
 case h_2=>cases h
 rename_i s q qs d;obtain⟨o,rest,ho,h4⟩:=Yp h;obtain⟨x,l3,ks,h9,h10⟩:=Dz h4;exact⟨x,l3,ks,λk'=>by simp only[Je,ho,uncO];exact h9 k',h10⟩
theorem Kt {cf:Cfg} {strict:Bool} {hd:List Nat} {xo:List (Option TypeId)} {f:FuncId} {xs:List V} {ty:TypeId} {dst:Option Nat} (h:Um cf strict hd xo f xs ty dst l k=some r):Y4 (λk'=>Um cf strict hd xo f xs ty dst l k') k r:=by
 unfold Um at h;obtain⟨ys,l1,ss,h1,h2⟩:=Xs h;obtain⟨h3,h4⟩:=Zb h2;rw[Zm6]at h4;obtain⟨out,h5,h6⟩:=h4;cases hlost:A5 cf hd f with
 |true=>
  rw[hlost]at h6;obtain⟨x,l3,ks,h9,h10⟩:=Zfd h6;exact⟨x,l3,ks,λk'=>by simp only[Um,h1,h3,h5,Znx,hlost];exact h9 k',h10⟩
 |false=>
 rw[hlost]at h6;obtain⟨ro,l2,h7,h8⟩:=Td h6;split at h8
 ·obtain⟨x,l3,ks,h9,h10⟩:=Dz h8;exact⟨x,l3,ks,λk'=>by simp only[Um,h1,h3,h5,Znx,hlost,h7];exact h9 k',h10⟩
 ·rename_i hne;obtain⟨v,h9,h10⟩:=Pf h8;refine⟨_,_,_,λk'=> ?_,h10⟩;simp only[Um,h1,h3,h5,Znx,hlost,h7];exact h9 _
theorem W3 {te:TypeId} {row:List C} {fb:Bool} {os:List Obj} {kk:List C->Option R} (h:S6 te row fb os kk=some r): ∃cs,(∀{S:Type} (k':List C->Option S),S6 te row fb os k'=k' cs)/\kk cs=some r:=by
 unfold S6 at h;obtain⟨o,os',e0,h2⟩:=Yp h;clear h;subst e0;split at h2
 ·rename_i te' fz cs;obtain⟨h3,h4⟩:=Zb h2;exact⟨cs,λk'=>by simp only[S6,uncO,h3],h4⟩
 ·cases h2
theorem Bz {cf:Cfg} {f:FuncId} {s g j n:Nat} {rest:List V} {ty:TypeId} (h:Vk cf f s g j n rest ty l k=some r):Y4 (λk'=>Vk cf f s g j n rest ty l k') k r:=by
 unfold Vk at h;split at h
 case h_2=>cases h
 case h_1 hl=>
 obtain⟨h1,h2⟩:=Zb h;obtain⟨p,h3,h4⟩:=To h2;cases p with
 |c c=>cases h4
 |r te row=>
 obtain⟨h5,h6⟩:=Zb h4;rw[Zm6]at h6;obtain⟨out,h7,h8⟩:=h6;obtain⟨cs,h9,h10⟩:=W3 h8;cases hfb:cf.fzb f with
 |false=>
  rw[hfb]at h9 h10;obtain⟨v,h11,h12⟩:=Pf h10;exact⟨_,_,_,λk'=>by simp only[Vk,hl,h1,h3,h5,h7,Znx,hfb,h9,h11],h12⟩
 |true=>
  rw[hfb]at h9 h10
  dsimp only at h10
  split at h10
  ·obtain⟨v,h11,h12⟩:=Pf h10;exact⟨_,_,_,λk'=>by simp only[Vk,hl,h1,h3,h5,h7,Znx,hfb,h9,h11],h12⟩
  ·cases h10
theorem Zfe {cf:Cfg} {strict:Bool} {hd:List Nat} {xo:List (Option TypeId)} {f:FuncId} {xs:List V} {ty:TypeId} {dst:Option Nat} (h:N5 cf strict hd xo f xs ty dst l k=some r):Y4 (λk'=>N5 cf strict hd xo f xs ty dst l k') k r:=by
 unfold N5 at h;split at h
 ·obtain⟨v,l',ks,h1,h2⟩:=Bz h;exact⟨v,l',ks,λk'=>by simp only[N5];exact h1 k',h2⟩
 ·rename_i hne;obtain⟨v,l',ks,h1,h2⟩:=Kt h;refine⟨v,l',ks,λ{S} k'=> ?_,h2⟩;have e:N5 cf strict hd xo f xs ty dst l k'=Um cf strict hd xo f xs ty dst l k':=by
   unfold N5;split
   ·exact(hne _ _ _ _ _ rfl rfl).elim
   ·rfl
  exact e.trans (h1 k')
theorem Zhu {xs:List V} (h:C9 xs l k=some r):Y4 (λk'=>C9 xs l k') k r:=by
 unfold C9 at h;split at h
 ·obtain⟨a,q1,j1⟩:=Re h;obtain⟨b,q2,j2⟩:=Re j1;obtain⟨d,q3,j3⟩:=Re j2;subst q1 q2 q3;obtain⟨h1,h2⟩:=Zb j3;exact⟨_,_,_,λk'=>by simp only[C9,asI,if_true,h1],h2⟩
 ·cases h
theorem Zff {cf:Cfg} {strict:Bool} {f:FuncId} {xs:List V} {ty:TypeId} {dst:Option Nat} (h:Sm cf strict f xs ty dst l k=some r):Y4 (λk'=>Sm cf strict f xs ty dst l k') k r:=by
 unfold Sm at h;split at h
 ·rename_i hb;obtain⟨v,l',ks,h1,h2⟩:=Zhu h;exact⟨v,l',ks,λk'=>by simp only[Sm,hb,h1],h2⟩
 ·rename_i hb;obtain⟨v,l',ks,h1,h2⟩:=Zfe h;exact⟨v,l',ks,λk'=>by simp only[Sm,hb];exact h1 k',h2⟩
theorem Zcg {P:Program} {strict:Bool} {n:Nat} {xs:List V} (h:Ml P strict n xs l k=some r):Y4 (λk'=>Ml P strict n xs l k') k r:=by
 unfold Ml at h;split at h
 ·cases h
 obtain⟨ys,l1,ss,h1,h2⟩:=Xs h;cases ss with
 |cons s ss=>cases h2
 |nil=>
  cases hlog:l1.log with
  |none=>rw[hlog]at h2;cases h2
  |some lg=>
   rw[hlog]at h2;obtain⟨h3,h4⟩:=Zb h2;cases hrest:lg.rest with
   |nil=>rw[hrest]at h4;cases h4
   |cons x rest=>
    rw[hrest]at h4
    dsimp only at h4
    obtain⟨h5,h6⟩:=Zb h4;exact⟨_,_,_,λk'=>by simp only[Ml,h1,hlog,h3,hrest,h5],h6⟩
theorem Hu {cf:Cfg} {strict:Bool} {o:Oper} {e:Operand->V} (h:opK cf strict o e l k=some r):Y4 (λk'=>opK cf strict o e l k') k r:=by
 unfold opK at h;have fin: ∀{F:{S:Type}->(V->Loc->List Nat->Option S)->Option S},Y4 F k r->(∀{S:Type} (k':V->Loc->List Nat->Option S),opK cf strict o e l k'=F k')->Y4 (λk'=>opK cf strict o e l k') k r:=by
  intro F hF he;obtain⟨x,l',ks,h1,h2⟩:=hF;exact⟨x,l',ks,λk'=>by simp only[he,h1],h2⟩
 split at h
 case h_1 x ho=>exact⟨_,_,_,λk'=>by simp only[opK,ho],h⟩
 case h_2 x ho=>exact⟨_,_,_,λk'=>by simp only[opK,ho],h⟩
 case h_3 c a b ho=>exact fin (Ze9 h) λk'=>by simp only[opK,ho]
 case h_4 t ho=>
  split at h
  case h_2=>cases h
  case h_1 d hd=>exact⟨_,_,_,λk'=>by simp only[opK,ho,hd],h⟩
 case h_5 t x ho=>
  split at h
  case h_2=>cases h
  case h_1 d hd=>exact fin (Zhp h) λk'=>by simp only[opK,ho,hd]
 case h_6 t parts ho=>
  split at h
  ·rename_i hm;split at h
   ·exact fin (Ww h) λk'=>by simp only[opK,ho,hm]
   ·cases h
  ·rename_i hm;exact fin (Zcb h) λk'=>by simp only[opK,ho,hm]
 case h_7 t n parts ho=>
  split at h
  case h_2=>cases h
  case h_1 d hd=>exact fin (Hk h) λk'=>by simp only[opK,ho,hd]
 case h_8 t a ho=>
  obtain⟨h1,h2⟩:=Zb h;exact fin (Zfb h2) λk'=>by simp only[opK,ho,h1]
 case h_9 t a x ho=>exact fin (Zcc h) λk'=>by simp only[opK,ho]
 case h_10 x ho=>exact fin (Zhr h) λk'=>by simp only[opK,ho]
 case h_11 op t x y yt ho=>
  obtain⟨v,h1,h2⟩:=Wv h;exact⟨_,_,_,λk'=>by simp only[opK,ho,h1],h2⟩
 case h_12 op t x ho=>
  obtain⟨v,h1,h2⟩:=Zd3 h;exact⟨_,_,_,λk'=>by simp only[opK,ho,h1],h2⟩
 case h_13 src dst x ho=>
  obtain⟨v,h1,h2⟩:=Dy h;exact⟨_,_,_,λk'=>by simp only[opK,ho,h1],h2⟩
 case h_14 fn first cap ho=>
  split at h
  case h_2=>cases h
  case h_1 f hf=>
   obtain⟨h1,h2⟩:=Zb h;exact fin (Eu h2) λk'=>by simp only[opK,ho,hf,h1]
 case h_15 t q ho=>
  split at h
  case h_2=>cases h
  case h_1 d hd=>exact fin (Bu h) λk'=>by simp only[opK,ho,hd]
 case h_16 t x i ok ho=>
  split at h
  case h_2=>
   obtain⟨x',h1,h2⟩:=Ju h;exact⟨_,_,_,λk'=>by simp only[opK,ho];exact h1 l k',h2⟩
  case h_1=>exact fin (Wy h) λk'=>by simp only[opK,ho]
 case h_17 t x i v ho=>
  split at h
  case h_2=>cases h
  case h_1=>exact fin (Gx h) λk'=>by simp only[opK,ho]
 case h_18 t n c ho=>
  split at h
  case h_3=>cases h
  case h_2 d hd=>exact fin (Es h) λk'=>by simp only[opK,ho,hd]
  case h_1 d hd=>exact fin (Gz h) λk'=>by simp only[opK,ho,hd]
 case h_19 t x lo hi mx ho=>
  split at h
  ·exact fin (W2 h) λk'=>by simp only[opK,ho]
  ·exact fin (Zcd h) λk'=>by simp only[opK,ho]
 case h_20 T x f ho=>
  obtain⟨h1,h2⟩:=Zb h;exact fin (G1 h2) λk'=>by simp only[opK,ho,h1]
 case h_21 T x f ho=>exact fin (Zce h) λk'=>by simp only[opK,ho]
 case h_22 T x i ho=>exact fin (G2 h) λk'=>by simp only[opK,ho]
 case h_23 T x i ho=>exact fin (Zcf h) λk'=>by simp only[opK,ho]
 case h_24 x i ho=>exact fin (Bv h) λk'=>by simp only[opK,ho]
 case h_25 c ho=>
  split at h
  case h_1 hc=>
   split at h
   case h_2=>cases h
   case h_1 x T ha hT=>exact fin (Zht h) λk'=>by simp only[opK,ho,hc,ha,hT]
  case h_2 hc=>
   split at h
   case h_2=>cases h
   case h_1 d s x T T' hd ha hT=>
    split at h
    case h_2=>cases h
    rename_i hk;cases hb:Zqv T T' with
    |false=>rw[hb]at h;exact fin (Bw h) λk'=>by simp only[opK,ho,hc,hd,ha,hT,hk,hb,cond_false]
    |true=>rw[hb]at h;exact fin (W0 h) λk'=>by simp only[opK,ho,hc,hd,ha,hT,hk,hb,cond_true]
  case h_3 hc=>
   split at h
   case h_2=>cases h
   case h_1 x T ha hT=>exact fin (Zhs h) λk'=>by simp only[opK,ho,hc,ha,hT]
  case h_4 hc=>
   split at h
   case h_2=>cases h
   case h_1 x y T T' ha hT=>exact fin (Zfc h) λk'=>by simp only[opK,ho,hc,ha,hT]
  case h_5 hc=>exact fin (Wz h) λk'=>by simp only[opK,ho,hc]
  case h_6 hc=>exact fin (Wz h) λk'=>by simp only[opK,ho,hc]
  case h_7=>cases h
  case h_8=>cases h
  case h_9 f hc=>
   split at h
   case h_1 f'=>exact fin (Zff h) λk'=>by simp only[opK,ho,hc]
   case h_2 hne=>
    split at h
    case h_3=>cases h
    case h_2 f' s hx=>
     split at h
     case h_2=>cases h
     case h_1=>
      obtain⟨h1,h⟩:=Zb h;refine fin (Kt h) λk'=> ?_;cases f with
      |func f''=>exact absurd rfl (hne f'')
      |_=>simp only[opK,ho,hc,hx,h1]
    case h_1 c' hx=>
     unfold C2 at h;split at h
     ·refine fin (Kt h) λk'=> ?_;cases f with
      |func f''=>exact absurd rfl (hne f'')
      |_=>simp only[opK,ho,hc,hx,C2]
     ·refine fin (Zcg h) λk'=> ?_;cases f with
      |func f''=>exact absurd rfl (hne f'')
      |_=>simp only[opK,ho,hc,hx,C2]
     ·cases h
 case h_26=>cases h
end
end Go.PM
namespace Go.PM
open Go
variable {P:Program}
noncomputable def gop (cf:Cfg) (strict:Bool) (dsts:Nat->Option Nat) (o:Oper) (σ:St):Option St:=
 match o.guard with
 |none=>opK cf (cf.str strict o) o (σ.ev cf.glob) σ.loc λx l ks=>need (Sc (cf.stz strict o) (lz strict l) ks&&Xw cf strict o (σ.ev cf.glob)) (some (σ.after o.dst x l ks))
 |some (j,want)=>
  match dsts j with
  |none=>none
  |some d=>
   match σ.get d with
   | .c (.v (.bool q))=>bif q==want then opK cf (cf.str strict o) o (σ.ev cf.glob) σ.loc (λx l ks=>need (Sc (cf.stz strict o) (lz strict l) ks&&Xw cf strict o (σ.ev cf.glob)) (some (σ.after o.dst x l ks)))else some (σ.after o.dst .un σ.loc [])
   | .un=>some (σ.after o.dst .un σ.loc [])
   |_=>none
noncomputable def Ln (cf:Cfg) (strict:Bool) (dsts:Nat->Option Nat):List Oper->St->Option St
 | [],σ=>some σ
 |o::os,σ=>(gop cf strict dsts o σ).bind (Ln cf strict dsts os)
theorem Zjz {l:Sl} {d:Nat} {x:V} (h:l.get d=x) (hx:x≠ .und):l.set d x=l:=by
 by_cases hd:d<l.length
 ·rw[Sl.get_lt hd]at h;cases l with
  |mk f n=>
   simp only[Sl.set]
   congr 1
   funext t
   cases e:Zqv t d
   ·rfl
   ·rw[Zmp e];exact h.symm
 ·rw[Sl.get_ge hd]at h;exact absurd h.symm hx
theorem Zj0 {σ:St} {d:Nat} {x:V} (h:σ.get d=x) (hx:x≠ .und):σ.put (some d) x σ.loc=σ:=by
 cases σ with
 |mk sl l=>simp only[St.put];rw[Zjz h hx]
theorem Pn {R:Type} {r:R} {cf:Cfg} {strict:Bool} {dsts:Nat->Option Nat}: ∀{os:List Oper} {σ:St} {k:St->Option R} (_:Km cf strict dsts os σ k=some r),∃σ',Ln cf strict dsts os σ=some σ'/\k σ'=some r
 | [],σ,k,h=>⟨σ,rfl,h⟩
 |o::os,σ,k,h=>by
  unfold Km at h;have step: ∀{σ0:St},opK cf (cf.str strict o) o (σ0.ev cf.glob) σ0.loc (λx l ks=>need (Sc (cf.stz strict o) (lz strict l) ks&&Xw cf strict o (σ0.ev cf.glob)) (Km cf strict dsts os (σ0.after o.dst x l ks) k))=some r-> ∃σ1,opK cf (cf.str strict o) o (σ0.ev cf.glob) σ0.loc (λx l ks=>need (Sc (cf.stz strict o) (lz strict l) ks&&Xw cf strict o (σ0.ev cf.glob)) (some (σ0.after o.dst x l ks)))=some σ1/\ ∃σ',Ln cf strict dsts os σ1=some σ'/\k σ'=some r:=by
   intro σ0 h;obtain⟨x,l',ks,h1,h2⟩:=Hu h;obtain⟨h3,h4⟩:=Za h2;exact⟨_,(h1 _).trans (by rw[h3];rfl),Pn h4⟩
  split at h
  ·rename_i hg;obtain⟨σ1,h1,σ',h2,h3⟩:=step h;exact⟨σ',by simp only[Ln,gop,hg,h1,Znx];exact h2,h3⟩
  ·rename_i j want hg;split at h
   ·cases h
   ·rename_i d hd;split at h
    ·rename_i q hq;have hb: ∀b:Bool,σ.get d=B b->σ.put (some d) (B b) σ.loc=σ:=λb hb=>Zj0 hb (by simp);have yes:q=want->opK cf (cf.str strict o) o (σ.ev cf.glob) σ.loc (λx l ks=>need (Sc (cf.stz strict o) (lz strict l) ks&&Xw cf strict o (σ.ev cf.glob)) (Km cf strict dsts os (σ.after o.dst x l ks) k))=some r-> ∃σ',Ln cf strict dsts (o::os) σ=some σ'/\k σ'=some r:=by
      intro hqw h;obtain⟨σ1,h1,σ',h2,h3⟩:=step h;refine⟨σ', ?_,h3⟩;have:(q==want)=true:=by simp[hqw]
      simp only[Ln,gop,hg,hd,hq,this,cond_true,h1,Znx];exact h2
     have no:q≠want->Km cf strict dsts os (σ.after o.dst .un σ.loc []) k=some r-> ∃σ',Ln cf strict dsts (o::os) σ=some σ'/\k σ'=some r:=by
      intro hqw h;obtain⟨σ',h2,h3⟩:=Pn h;refine⟨σ', ?_,h3⟩;have:(q==want)=false:=by simp[hqw]
      simp only[Ln,gop,hg,hd,hq,this,cond_false,Znx];exact h2
     cases want<;>cases q<;>simp only[cond_true,cond_false]at h
     ·rw[hb false hq]at h;exact yes rfl h
     ·rw[hb true hq]at h;exact no (by simp) h
     ·rw[hb false hq]at h;exact no (by simp) h
     ·rw[hb true hq]at h;exact yes rfl h
    ·rename_i hq;obtain⟨σ',h2,h3⟩:=Pn h;exact⟨σ',by simp only[Ln,gop,hg,hd,hq,Znx];exact h2,h3⟩
    ·cases h
structure RelR (P:Program) (cf:Cfg) (A:Fr) (σ:St) (pend:Nat->Prop) (a:Act) (w:World):Prop where
 ex: ∃E,E.w=w/\Rel P A E σ pend a
theorem Zj1 {z:Bool×List Nat} {strict:Bool} {l:Loc} {ks:List Nat} (h:Sc z (lz strict l) ks=true):okKs l ks=true:=by
 have h1:=(Znh.1 h).1;cases strict with
 |false=>exact h1
 |true=>
  refine Zm7.2 λs hs=> ?_;have h2:=Zm7.1 h1 s hs;rw[Zn7]at h2⊢;refine h2.elim .inl λe=> ?_;cases e
theorem Zhv {al:List Nat} {l:Loc} {ks:List Nat} (h:Sc (true,al) l ks=true):ks=[]:=by
 cases ks with
 |nil=>rfl
 |cons s ks=>have:=(Znh.1 (Znh.1 h).2).1;cases this
theorem W4 {A:Fr} {E:Env} {σ:St} {pend:Nat->Prop} {a:Act} {G:Nat->Option (List C)} (hgl:GlobOk G A.w0 A.Pr0) (h:Rel P A E σ pend a) (y:Operand):RV P E σ.loc (σ.ev G y) (a.eval y):=by
 cases y with
 |tmp t=>
  by_cases ht:t<σ.slots.length
  ·exact h.slots t ht
  ·show RV P E σ.loc (σ.get t) _;have:σ.get t= .und:=Sl.get_ge ht;rw[this];exact .und
 |const x=>
  show RV P E σ.loc (Kh x) x;unfold Kh;split
  ·rename_i cs;split
   ·rename_i l hl;have:=RV.agg (P:=P) (E:=E) (l:=σ.loc) (us:=cs.toList) (Mu hl);simpa using this
   ·exact .und
  ·split
   ·rename_i c hc;exact .c (Dn hc)
   ·exact .und
 |global g=>
  show RV P E σ.loc (match G g with|some cs=> .c (.cp cs)|none=> .und) _;cases hg:G g with
  |none=>exact .und
  |some cs=>exact .c ((hgl g cs hg).held h.good.pr0)
 |func f=>exact .c (.fn (us:=[]) rfl (by simp))
theorem gh_at {s k:Nat} (h:s<OUT):(V.gh (OUT+k)).at s=false:=by
 show Zqv (OUT+k) s=false;cases e:Zqv (OUT+k) s
 ·rfl
 ·have:=Zmp e;omega
theorem D1 {A:Fr} {E:Env} {σ:St} {pend pend':Nat->Prop} {a:Act} (h:Rel P A E σ pend a) {x:V} {l':Loc} {ks:List Nat} {u:Value} {w':World} {dst:Option Nat} (htm: ∀d,dst=some d->A.tm d=none) (hks:okKs l' ks=true) (hup:Up P A E σ.loc pend' x l' ks u w'):
  ∃E',E'.w=w'/\Rel P A E' (σ.after dst x l' ks) pend' (a.put dst u):=by
 obtain⟨E',h1,⟨h2,h2d⟩,h3,h4⟩:=hup;have hk: ∀(ks:List Nat) (sl:Sl),(Yd ks sl).length=sl.length:=by
  intro ks sl
  induction ks with
  |nil=>rfl
  |cons s ks ih=>simp only[Yd,Zpa,Sl.map_length];exact ih
 have hkg: ∀(ks:List Nat) (sl:Sl) (t:Nat) (v:Value),t<sl.length->RV P E σ.loc (sl.get t) v-> ∃y,(Yd ks sl).get t=y/\RV P E σ.loc y v/\ ∀s∈ks,y.at s=false:=by
  intro ks sl t v ht hv
  induction ks with
  |nil=>exact⟨_,rfl,hv,by simp⟩
  |cons s ks ih=>
   obtain⟨y,e,hy,hat⟩:=ih;have hl:t<(Yd ks sl).length:=by rw[hk];exact ht
   refine⟨y.kill s, ?_,hy.kill s,λs' hs'=> ?_⟩
   ·show((Yd ks sl).map (V.kill s)).get t=y.kill s;rw[Sl.map_lt hl,e]
   ·rcases Znl.1 hs' with rfl|hs'
    ·exact S9 s' y
    ·unfold V.kill;cases y.at s
     ·exact hat s' hs'
     ·cases y<;>rfl
 have hloc:(σ.after dst x l' ks).loc=l':=by cases dst<;>rfl
 refine⟨E',h1, ?_, ?_, ?_, ?_, ?_, ?_, ?_⟩
 ·rw[hloc];exact h2
 ·rw[hloc];intro t ht;have hlen:t<σ.slots.length:=by
   cases dst<;>simp[St.after,St.put,hk]at ht<;>exact ht
  have base: ∀v,RV P E σ.loc (σ.get t) v->RV P E' l' ((Yd ks σ.slots).get t) v:=by
   intro v hv;obtain⟨y,e,hy,hat⟩:=hkg ks σ.slots t v hlen hv;rw[e];exact h4 y v hy hat
  cases dst with
  |none=>exact base _ (h.slots t hlen)
  |some d=>
   by_cases hd:d=t
   ·subst hd;have hkl:d<(Yd ks σ.slots).length:=by rw[hk];exact hlen
    have e1:(σ.after (some d) x l' ks).get d=x:=Sl.set_self hkl;have hal:d<a.tmps.size:=by rw[h.size];exact hlen
    have e2:(a.put (some d) u).tmps.getD d undef=u:=by simp[Act.put,Zri,hal]
    rw[e1,e2];exact h3
   ·have e1:(σ.after (some d) x l' ks).get t=(Yd ks σ.slots).get t:=Sl.set_ne hd;have e2:(a.put (some d) u).tmps.getD t undef=a.tmps.getD t undef:=by
     simp only[Act.put,Zri,Zoo];by_cases hlt:t<a.tmps.size
     ·simp[hlt,Zod,hd]
     ·simp[hlt]
    rw[e1,e2];exact base _ (h.slots t hlen)
 ·cases dst<;>simp[Act.put,St.after,St.put,hk,h.size]
 ·rw[h2d];cases dst<;>exact h.defers
 ·intro t v hv;have:=h.tm t v hv;cases dst with
  |none=>exact this
  |some d=>
   have hd:d≠t:=λe=>by subst e;rw[htm d rfl]at hv;cases hv
   have e2:(a.put (some d) u).tmps.getD t undef=a.tmps.getD t undef:=by
    simp only[Act.put,Zri,Zoo];by_cases hlt:t<a.tmps.size
    ·simp[hlt,Zod,hd]
    ·simp[hlt]
   rw[e2];exact this
 ·rw[<-h.len];cases dst<;>simp[St.after,St.put,hk]
 ·intro k g n hk';rw[hloc];by_cases hin:OUT+k∈ks
  ·have h5:=Zm7.1 hks _ hin;rw[Zn7]at h5;rcases h5 with h5|h5
   ·have:=Zmu h5;omega
   ·refine .ghDead ?_
    revert h5
    cases l' (OUT+k)<;>intro h5<;>first|rfl|cases h5
  ·refine h4 _ _ (h.outs k g n hk') λs hs=> ?_;show Zqv (OUT+k) s=false;cases e:Zqv (OUT+k) s
   ·rfl
   ·have e1:=Zmp e;rw[e1]at hin;exact absurd hs hin
end Go.PM
namespace Go.PM
open Go
variable {P:Program}
def Zhw (P:Program) (A:Fr) (vv:V) (u:Value):Prop:=
 match vv with
 | .ent s n te=>s=OUT/\ ∃g cap size,A.outs 0=some (g,size)/\u= .slice (some ⟨g,0,none⟩) n cap/\n<=cap/\cap<=maxLen/\cap*Zg P te=size
 |v=>RI A.w0 A.Pr0 v u
def Jw (P:Program) (cf:Cfg) (A:Fr):Prop:=
 ∀t kv vv,cf.ent=some (t,kv,vv)-> ∃(r bm since clock:Nat) (seen:Array Nat) (ms:Array MapEntry) (e:MapEntry),A.tm t=some (.pointer (some ⟨r,0,none⟩))/\(∀Y Pr lg w,A.jt.J Y Pr lg w->Zo A.w0 A.Pr0 w Pr->w.heap[r]? =some (.mapIter (some bm) since (seen.push e.born) clock)/\So w bm=some (ms,clock))/\
  e∈ms.toList/\(ms.toList.map (·.born)).Nodup/\RI A.w0 A.Pr0 kv e.key/\Zhw P A vv e.val
theorem RI.held {w w':World} {Pr Pr':Nat->Nat->Prop} (hx:Zo w Pr w' Pr') {v:V} {u:Value} (h:RI w Pr v u):RI w' Pr' v u:=by
 cases h with
 |c h=>exact .c (h.held hx)
 |agg h=>exact .agg (h.held hx)
theorem RI.rv {E:Env} {l:Loc} {v:V} {u:Value} (h:RI E.w E.Pr v u):RV P E l v u:=by
 cases h with
 |c h=>exact .c h
 |agg h=>exact .agg h
theorem Zhw.run {A:Fr} {vv:V} {u:Value} (h:Zhw P A vv u) {E:Env} {σ:St} {pend:Nat->Prop} {a:Act} (hr:Rel P A E σ pend a):EntV P E σ.loc vv u:=by
 unfold Zhw at h;unfold EntV;split at h
 ·rename_i s n te;obtain⟨rfl,g,cap,size,h1,rfl,h3,h4,h5⟩:=h;intro fz cs hl;have h6:=hr.outs 0 g size h1;rw[Znz]at h6;generalize hv:ghv g size=v at h6;cases h6 with
  |ghDead hd=>rw[hl]at hd;cases hd
  | @gh _ g2 n2 h7 h8=>
   simp only[ghv,Value.tuple.injEq]at hv;simp at hv;obtain⟨e1,e2⟩:=hv;have e1:g=g2:=by omega
   have e2:size=n2:=by omega
   subst e1 e2;exact .own h7 (by rw[hl];rfl) h3 h4 (by rw[h8,Zmt];exact h5)
 ·rename_i hne;have:=(h.held hr.good.pr0).rv (P:=P) (l:=σ.loc);cases vv<;>first|exact this|exact absurd rfl (hne _ _ _)
theorem Jw.run {cf:Cfg} {A:Fr} (h:Jw P cf A) {E:Env} {σ:St} {pend:Nat->Prop} {a:Act} (hr:Rel P A E σ pend a): ∀t kv vv,cf.ent=some (t,kv,vv)-> ∃ku vu,(Instr.entry (a.eval (.tmp t))).run P E.w= .ok (.tuple #[ku,vu]) E.w/\RV P E σ.loc kv ku/\EntV P E σ.loc vv vu:=by
 intro t kv vv he;obtain⟨r,bm,since,clock,seen,ms,e,h1,h2,h5,h6,h7,h8⟩:=h t kv vv he;have hx:=hr.good.pr0;have e1:a.eval (.tmp t)= .pointer (some ⟨r,0,none⟩):=hr.tm t _ h1;have e2:=h2 _ _ _ _ hr.good.jf hx;have e3:E.w.heap[bm]? =some (.map ms clock):=Sp.1 e2.2;refine⟨e.key,e.val, ?_,(h7.held hx).rv,h8.run hr⟩;rw[e1];exact run_entry_at E.w r bm since seen ms clock e e2.1 e3 h5 h6
structure CfgOk (P:Program) (cf:Cfg) (A:Fr):Prop where
 hP:cf.P=P
 con: ∀f args objs out,cf.call f args objs=some out->Gr P cf.glob f args objs out
 fn : ∀ f args objs out, cf.call f args objs = some out -> ∃ fn, P.funcs[f]? = some fn /\ fn.body ≠ none /\ (fn.name == "runtime.NumGoroutine") = false
 mixed:P.follows .mixedOrders=true
 iter: ∀f caps xs,cf.iter f caps=some xs-> ∀l go,∃out lg,cf.call f (.c (.yl l go xs)::caps.map .c) []=some out/\out.log=some lg/\(lg.st=true\/lg.rest=[])
 gl:GlobOk cf.glob A.w0 A.Pr0
 ent:Jw P cf A
 add: ∀f,cf.add=some f->AddAt P f
def FW (ro:Option Nat):Fence:={Fence.wide with round:=ro}
def Zfg (ro:Option Nat) (P:Program) (o:Oper) (b:Bool) (a:Act) (w:World) (K:Act->World->Prop) (Q:Exit->Act->World->Prop):Prop:=
 if b then o.wpIn (FW ro) 0 P a w K Q else(∀f,o.about P w a.eval=some f->(FW ro).fn f)/\K (a.put o.dst undef) w
theorem Zhx {ro:Option Nat} {o:Oper} {a:Act} {w:World} {Φ:Value->World->Prop} {K:Act->World->Prop} {Q:Exit->Act->World->Prop} (hnd: ∀c,o.op≠ .defer c)
  (h:Zlh P ((execOp a.eval o).run P w) Φ) (hK: ∀u w',Φ u w' ->K (a.put o.dst u) w'):o.wpIn (FW ro) 0 P a w K Q:=by
 unfold Oper.wpIn;refine⟨λ_ _=>trivial, ?_⟩;rw[Oper.semAt_eq (FW ro).round a.eval o hnd];generalize (execOp a.eval o).run P w=r at h⊢;cases r with
 |ok n w'=>
  cases n with
  |value u=>exact hK _ _ h
  |skip=>exact hK _ _ h
  |enter f args=>
   have h1:CallsIn (FW ro) 0 P f args w' (λe w''=> ∃u,e= .returned u/\Φ u w''):=callsIn_wide.2 h;refine⟨λe=>(by cases e),CallsIn.mono h1 λe w'' he=> ?_⟩;obtain⟨u,rfl,hu⟩:=he;exact hK _ _ hu
  |round l f tmps assign body=>
   have h1:RoundIn (FW ro) 0 P l f tmps assign body w' (λe w''=> ∃u,e= .returned u/\Φ u w''):=h;refine⟨λe=>(by cases e),RoundIn.mono h1 λe w'' he=> ?_⟩;obtain⟨u,rfl,hu⟩:=he;exact hK _ _ hu
  |_=>exact h.elim
 |halt x w'=>exact h.elim
theorem W5 {cf:Cfg} {strict:Bool} {o:Oper} {e:Operand->V} {l:Loc} {R:Type} {k:V->Loc->List Nat->Option R} {r:R} (h:opK cf strict o e l k=some r) (c:Call):o.op≠ .defer c:=by
 intro ho;unfold opK at h;rw[ho]at h;cases h
section
variable {cf:Cfg} {strict:Bool} {ops:Array Oper} {A:Fr} {Q:Exit->Act->World->Prop}
structure Fixed (A:Fr) (ops:Array Oper):Prop where
 pt: ∀(i:Nat) (o:Oper) (t:TypeId) (d:Nat),ops[i]? =some o->o.op= .alloc t->o.dst=some d->A.pt d=t
 gd: ∀(i:Nat) (o:Oper),ops[i]? =some o->Zm o=true->o.guard=none
theorem Zhy {ro:Option Nat} (hc:CfgOk P cf A) {o:Oper} (hgd:Zm o=true->o.guard=none) (hpt: ∀t d,o.op= .alloc t->o.dst=some d->A.pt d=t) {E:Env} {σ:St} {pend:Nat->Prop} {a:Act} (h:Rel P A E σ pend a)
  (htm: ∀d,o.dst=some d->A.tm d=none) (hal:Zm o=true-> ∀d,o.dst=some d->pend d) (hnd:Zm o=false-> ∀d,o.dst=some d-> ¬pend d) {σ1:St}
  (hg:gop cf strict (λj=>(ops[j]?).bind (·.dst)) o σ=some σ1) {K:Act->World->Prop} (hK: ∀E' a',Rel P A E' σ1 (Q4 pend o) a' ->K a' E'.w):
  Zfg ro P o (Region.wanted o (yielded ops a.tmps)) a E.w K Q:=by
 have run:Region.wanted o (yielded ops a.tmps)=true->opK cf (cf.str strict o) o (σ.ev cf.glob) σ.loc (λx l ks=>need (Sc (cf.stz strict o) (lz strict l) ks&&Xw cf strict o (σ.ev cf.glob)) (some (σ.after o.dst x l ks)))=some σ1->Zfg ro P o (Region.wanted o (yielded ops a.tmps)) a E.w K Q:=by
  intro hw hk;unfold Zfg;rw[if_pos hw];obtain⟨x,l',ks,h1,h2⟩:=Ze8 (P:=P) (ρ:=a.eval) h.good hc.hP hc.con (hc.gl.held h.good.pr0) hc.fn hc.add (λy _=>W4 hc.gl h y) (λf=>rfl)
   (λt d ho hd=>⟨hal (by simp[Zm,ho]) d hd,hpt t d ho hd⟩) hnd (hc.ent.run h) hk
  refine Zhx (W5 hk) h2 λu w' hu=> ?_;obtain⟨hks,h1⟩:=Za h1;obtain⟨E',e1,h3⟩:=D1 (dst:=o.dst) h htm (Zj1 (Znh.1 hks).1) hu;injection h1 with h1
  rw[h1]at h3;rw[<-e1];exact hK E' _ h3
 have idle:Zm o=false->Region.wanted o (yielded ops a.tmps)=false->some (σ.after o.dst .un σ.loc [])=some σ1->Zfg ro P o (Region.wanted o (yielded ops a.tmps)) a E.w K Q:=by
  intro hna hw hk;unfold Zfg;rw[if_neg (by simp[hw])];refine⟨λ_ _=>trivial, ?_⟩;obtain⟨E',e1,h3⟩:=D1 (dst:=o.dst) (x:= .un) (l':=σ.loc) (ks:=[]) (u:=undef) (w':=E.w) (pend':=pend) h htm rfl ⟨E,rfl,⟨h.good,rfl⟩, .un,λ_ _ h _=>h⟩;injection hk with hk
  rw[hk]at h3;rw[<-e1];refine hK E' _ ?_;rw[Zn hna];exact h3
 unfold gop at hg;split at hg
 ·rename_i hn;exact run (by simp[Region.wanted,hn]) hg
 ·rename_i j want hj;have hna:Zm o=false:=by
   cases e:Zm o
   ·rfl
   ·rw[hgd e]at hj;cases hj
  split at hg
  ·cases hg
  ·rename_i d hd;have hd':(ops[j]?).bind (·.dst)=some d:=hd;have hr:=W4 hc.gl h (.tmp d);split at hg
   ·rename_i q hq;have hv:a.tmps.getD d undef= .bool q:=by
     have:RV P E σ.loc (σ.get d) (a.tmps.getD d undef):=hr;rw[hq]at this;generalize a.tmps.getD d undef=u at this⊢;cases this with
     |c h=>cases h;rfl
    have hy:yielded ops a.tmps j=some q:=by
     unfold yielded;rw[hd'];by_cases hlt:d<a.tmps.size
     ·have e:a.tmps[d]= .bool q:=by simpa[Zri,hlt]using hv
      simp[hlt,e]
     ·simp[Zri,hlt,undef]at hv
    cases hb:(q==want)
    ·rw[hb]at hg;refine idle hna ?_ hg;unfold Region.wanted;rw[hj];simp only[hy];simpa using hb
    ·rw[hb]at hg;refine run ?_ hg;unfold Region.wanted;rw[hj];simp only[hy];simpa using hb
   ·rename_i hq;have hv:a.tmps.getD d undef=undef:=by
     have:RV P E σ.loc (σ.get d) (a.tmps.getD d undef):=hr;rw[hq]at this;generalize a.tmps.getD d undef=u at this⊢;cases this;rfl
    have hy:yielded ops a.tmps j=none:=by
     unfold yielded;rw[hd'];by_cases hlt:d<a.tmps.size
     ·have e:a.tmps[d]=undef:=by simpa[Zri,hlt]using hv
      simp[hlt,e,undef]
     ·simp[hlt]
    refine idle hna ?_ hg;unfold Region.wanted;rw[hj];simp[hy]
   ·cases hg
theorem Good.pend {E:Env} {l:Loc} {pend:Nat->Prop} (h:Good P A E l pend) {d:Nat} {t:TypeId} {cs:List C} (hd:l d= .dead) (hp: ¬pend d) (ht:A.pt d=t) (hz:Uw P t=some cs)
  (href: ∀s',∀x∈(l s').refs,x.at d=false):Good P A E (l.put d (.ob t 0 cs)) (λs=>pend s\/s=d):=by
 have hr:E.rho d=none:=by
  have:=h.obj d hp;rw[hd]at this;cases this;assumption
 refine⟨λs hs=> ?_,λs hs=> ?_,h.inj,h.base,λb k hb=>⟨(h.prot b k hb).1,λs hs=> ?_⟩,h.jf,h.pr0,h.prN,h.size,h.os,h.tape,h.output,h.dr,h.yok,h.yown,h.ylt,h.dm,h.rbo⟩
 ·have hne:s≠d:=λe=>hs (.inr e);rw[Zc _ _ hne];refine(h.obj s λe=>hs (.inl e)).keep (.refl _ _) rfl rfl (λ_ _=>rfl) λx u hm hv=> ?_;refine hv.mono (λs=>s=d) (.refl _ _) (λs' hne'=> ?_) (λs' e=>by subst e;exact href s x hm);by_cases hd':l s'= .dead
  ·exact .inl (by rw[Zc _ _ hne'];exact hd')
  ·exact .inr ⟨hd',rfl,rfl, .same (Zc _ _ hne'), .same (Zc _ _ hne')⟩
 ·by_cases e:s=d
  ·subst e;exact⟨hr,cs,by rw[ht];exact hz,by rw[Zf,ht]⟩
  ·rw[Zc _ _ e];exact h.pnd s (hs.resolve_right e)
 ·have hne:s≠d:=λe=>by rw[e,hr]at hs;cases hs
  rw[Zc _ _ hne];exact(h.prot b k hb).2 s hs
theorem Vg {d:Nat} {l:List Nat}:l.any (Zqv d)=true↔d∈l:=by
 rw[Zpk];constructor
 ·rintro ⟨x,hx,e⟩;rw[Zmp e];exact hx
 ·exact λh=>⟨d,h,Zox d⟩
theorem G3 (o:Oper) (os:List Oper):Z2 (o::os)=(match Z5 o with|some d=>d::Z2 os|none=>Z2 os):=by
 simp only[Z2,List.filterMap_cons];cases Z5 o<;>rfl
theorem Ri: ∀(os:List Oper) {E:Env} {σ:St} {pend:Nat->Prop} {a:Act} {σ1:St} (_:Rel P A E σ pend a) (_: ∀d∈Z2 os,¬pend d) (_:nodupB (Z2 os)=true)
  (_: ∀o∈os,∀t d,o.op= .alloc t->o.dst=some d->A.pt d=t) (_:H7 P os σ=some σ1),
  ∃E',E'.w=E.w/\Rel P A E' σ1 (λs=>pend s\/s∈Z2 os) a/\ ∀o∈os,Zm o=true->o.guard=none
 | [],E,σ,pend,a,σ1,h,_,_,_,hk=>by
  injection hk with hk
  subst hk;refine⟨E,rfl, ?_,by simp⟩;have:(λs=>pend s\/s∈Z2 [])=pend:=by funext s;simp[Z2]
  rw[this];exact h
 |o::os,E,σ,pend,a,σ1,h,hp,hn,hpt,hk=>by
  rw[G3]at hp hn⊢;unfold H7 at hk;split at hk
  case h_1 t d ho hd hgd=>
   have e1:Z5 o=some d:=by simp[Z5,Zm,ho,hd]
   rw[e1]at hp hn⊢;simp only[nodupB,Zmq,Znn]at hn;have hnd:d∉Z2 os:=λe=>by have:=Vg.2 e;rw[hn.1]at this;cases this
   split at hk
   case h_2=>cases hk
   case h_1 zs hz=>
    obtain⟨hlt,hk⟩:=Za hk;have hlt:d<OUT:=Zmu hlt;have hG:=h.good.kill (hp d (by simp));have hG2:=hG.pend (d:=d) (t:=t) (cs:=zs) (by simp[Loc.kill]) (hp d (by simp)) (hpt o (by simp) t d ho hd) hz (Xq d σ.loc);have h2:Rel P A (E.kill σ.loc d) ⟨σ.slots.map (V.kill d),(σ.loc.kill d).put d (.ob t 0 zs)⟩ (λs=>pend s\/s=d) a:=by
     refine⟨hG2,λt' ht'=> ?_,by rw[h.size];simp,h.defers,h.tm,by rw[<-h.len];simp,λk g n hk'=> ?_⟩
     ·have hlt:t'<σ.slots.length:=by simpa using ht'
      have e:St.get ⟨σ.slots.map (V.kill d),(σ.loc.kill d).put d (.ob t 0 zs)⟩ t'=(σ.get t').kill d:=Sl.map_lt hlt;rw[e];have r1:RV P (E.kill σ.loc d) (σ.loc.kill d) ((σ.get t').kill d) (a.tmps.getD t' undef):=RV.mono0 (E:=E) (l:=σ.loc) (E':=E.kill σ.loc d) (l':=σ.loc.kill d) (.refl _ _) (λs=> .kill E σ.loc d s) ((h.slots t' hlt).kill d);refine r1.mono (λs=>s=d) (.refl _ _) (λs' hne'=> ?_) (λs' e=>by subst e;exact S9 _ _);by_cases hd':σ.loc.kill d s'= .dead
      ·exact .inl (by simp only;rw[Zc _ _ hne'];exact hd')
      ·exact .inr ⟨hd',rfl,rfl, .same (Zc _ _ hne'), .same (Zc _ _ hne')⟩
     ·have r1:RV P (E.kill σ.loc d) (σ.loc.kill d) (.gh (OUT+k)) (ghv g n):=RV.mono0 (E:=E) (l:=σ.loc) (E':=E.kill σ.loc d) (l':=σ.loc.kill d) (.refl _ _) (λs=> .kill E σ.loc d s) (h.outs k g n hk');refine r1.mono (λs=>s=d) (.refl _ _) (λs' hne'=> ?_) (λs' e=>by subst e;exact gh_at hlt);by_cases hd':σ.loc.kill d s'= .dead
      ·exact .inl (by simp only;rw[Zc _ _ hne'];exact hd')
      ·exact .inr ⟨hd',rfl,rfl, .same (Zc _ _ hne'), .same (Zc _ _ hne')⟩
    obtain⟨E',g1,g2,g3⟩:=Ri os h2 (λd' hd' e=>by
     rcases e with e|e
     ·exact hp d' (Znm _ hd') e
     ·subst e;exact hnd hd') hn.2 (λo ho=>hpt o (Znm _ ho)) hk
    refine⟨E',g1, ?_,λo' ho' hi'=> ?_⟩
    ·have:(λs=>pend s\/s∈d::Z2 os)=(λs=>(pend s\/s=d)\/s∈Z2 os):=by funext s;simp[or_assoc]
     rw[this];exact g2
    ·rcases Znl.1 ho' with rfl|ho'
     ·exact hgd
     ·exact g3 o' ho' hi'
  case h_2=>cases hk
  case h_3 hne1 hne2=>
   have hna:Zm o=false:=by
    unfold Zm;split
    ·rename_i t ho;exact(hne1 t ho).elim
    ·rfl
   have e1:Z5 o=none:=by simp[Z5,hna]
   rw[e1]at hp hn⊢;obtain⟨E',g1,g2,g3⟩:=Ri os h hp hn (λo ho=>hpt o (Znm _ ho)) hk;refine⟨E',g1,g2,λo' ho' hi'=> ?_⟩;rcases Znl.1 ho' with rfl|ho'
   ·rw[hna]at hi';cases hi'
   ·exact g3 o' ho' hi'
end
end Go.PM
namespace Go.PM
open Go
variable {P:Program} {R:Type} {r:R}
theorem Rj {x:V} {l:Loc} {k:List C->Loc->Option R} (h:pur P true x l k=some r): ∃cs,(∀{S:Type} (l2:Loc) (k':List C->Loc->Option S),pur P true x l2 k'=k' cs l2)/\k cs l=some r:=by
 cases x with
 |c c=>exact⟨_,λl2 k'=>rfl,h⟩
 |agg cs=>exact⟨_,λl2 k'=>rfl,h⟩
 |ptr s off=>
  unfold pur at h;simp only at h;split at h
  ·cases h
  ·simp[Xd]at h
 |_=>simp[pur,Xd]at h
theorem X1: ∀{xs:List V} {l:Loc} {k:List (List C)->Loc->Option R} (_:Nx P true xs l k=some r),∃ps,(∀{S:Type} (l2:Loc) (k':List (List C)->Loc->Option S),Nx P true xs l2 k'=k' ps l2)/\k ps l=some r
 | [],l,k,h=>⟨[],λl2 k'=>rfl,h⟩
 |x::xs,l,k,h=>by
  obtain⟨cs,h1,h2⟩:=Rj (show pur P true x l (λcs l1=>Nx P true xs l1 λps l2=>k (cs::ps) l2)=some r from h);obtain⟨ps,h3,h4⟩:=X1 h2;exact⟨cs::ps,λl2 k'=>by simp only[Nx,h1,h3],h4⟩
theorem Lo (hd:List Nat):A4 true hd=false:=by cases hd<;>rfl
theorem Rl: ∀{hd:List Nat} {xs:List V} {l:Loc} {ss:List Nat} {k:List V->Loc->List Nat->Option R} (_:Ye P true hd xs l ss k=some r),
  ∃ys,(∀{S:Type} (l2:Loc) (k':List V->Loc->List Nat->Option S),Ye P true hd xs l2 ss k'=k' ys l2 ss)/\k ys l ss=some r
 |hd,[],l,ss,k,h=>⟨[],λl2 k'=>by simp[Ye],by simpa[Ye]using h⟩
 |hd,x::xs,l,ss,k,h=>by
  unfold Ye at h;split at h
  ·obtain⟨ys,h1,h2⟩:=Rl h;exact⟨_,λl2 k'=>by simp only[Ye,h1],h2⟩
  ·obtain⟨ys,h1,h2⟩:=Rl h;exact⟨_,λl2 k'=>by simp only[Ye,h1],h2⟩
  ·simp[pur,Xd,Lo]at h
  ·cases h
  ·simp[Lo]at h
  ·cases h
def Rm {R:Type} (F:{S:Type}->Loc->(V->Loc->List Nat->Option S)->Option S) (l:Loc) (k:V->Loc->List Nat->Option R) (r:R):Prop:=
 ∃x,(∀{S:Type} (l2:Loc) (k':V->Loc->List Nat->Option S),F l2 k'=k' x l2 [])/\k x l []=some r
def W6 {R:Type} (F:{S:Type}->(V->Loc->List Nat->Option S)->Option S) (l:Loc) (k:V->Loc->List Nat->Option R) (r:R):Prop:=
 ∃x,(∀{S:Type} (k':V->Loc->List Nat->Option S),F k'=k' x l [])/\k x l []=some r
def EffW {R:Type} (F:{S:Type}->(V->Loc->List Nat->Option S)->Option S) (k:V->Loc->List Nat->Option R) (r:R):Prop:=
 ∃x l',(∀{S:Type} (k':V->Loc->List Nat->Option S),F k'=k' x l' [])/\k x l' []=some r
section
variable {l:Loc} {k:V->Loc->List Nat->Option R}
theorem Zfh {c a b:V} (h:Jf l k c a b=some r):Rm (λl k'=>Jf l k' c a b) l k r:=by
 unfold Jf at h;split at h
 ·exact⟨_,λl2 k'=>rfl,h⟩
 ·cases h
theorem Zhz {own:Bool} {t:TypeId} {d:Nat} {x:V} (h:Kl P l k true own t d x=some r):Rm (λl k'=>Kl P l k' true own t d x) l k r:=by
 cases own
 ·unfold Kl at h;obtain⟨cs,h1,h2⟩:=Rj h;exact⟨_,λl2 k'=>by simp only[Kl,h1],h2⟩
 ·cases h
theorem G4 {t:TypeId} {is:List Nat} {xs:List V} (h:Qh P l k true t is xs=some r):Rm (λl k'=>Qh P l k' true t is xs) l k r:=by
 unfold Qh at h;split at h
 ·rename_i hT hz;obtain⟨h0,h⟩:=Zb h;obtain⟨ps,h1,h2⟩:=X1 h;obtain⟨cs,h3,h4⟩:=Ug h2;exact⟨_,λl2 k'=>by simp only[Qh,hT,hz,h0,h1,h3],h4⟩
 ·rename_i hT hz;obtain⟨h0,h⟩:=Zb h;obtain⟨ps,h1,h2⟩:=X1 h;obtain⟨cs,h3,h4⟩:=Ug h2;exact⟨_,λl2 k'=>by simp only[Qh,hT,hz,h0,h1,h3],h4⟩
 ·cases h
theorem Rz {own full:Bool} {t:TypeId} {n d:Nat} {is:List Nat} {xs:List V} (h:Z0 P l k true own full t n d is xs=some r):Rm (λl k'=>Z0 P l k' true own full t n d is xs) l k r:=by
 unfold Z0 at h;split at h
 ·rename_i hT;split at h
  ·rename_i hz;obtain⟨ps,h1,h2⟩:=X1 h;obtain⟨cs,h3,h4⟩:=Ug h2;obtain⟨h5,h6⟩:=Zb h4;cases own
   ·exact⟨_,λl2 k'=>by simp only[Z0,hT,hz,h1,h3,h5],h6⟩
   ·cases h6
  ·cases h
 ·cases h
theorem N9 {t:TypeId} {n c:V} (h:Xe P l k t n c=some r):Rm (λl k'=>Xe P l k' t n c) l k r:=by
 unfold Xe at h;split at h
 ·rename_i h1 h2 h3;split at h
  ·rename_i h4 h5;obtain⟨h6,h7⟩:=Zb h;exact⟨_,λl2 k'=>by simp only[Xe,h1,h2,h3,h4,h5,h6],h7⟩
  ·cases h
 ·cases h
theorem Zfi {T:TypeId} {x:V} (hx:Z7 x=true) (h:Yn P l k T x=some r): ∃v:V,(∃n:Int,v=I n)/\(∀{S:Type} (l2:Loc) (k':V->Loc->List Nat->Option S),Yn P l2 k' T x=k' v l2 [])/\k v l []=some r:=by
 cases hT:P.underlying T with
 |none=>cases x<;>simp[Yn,hT]at h
 |some u=>
  cases u with
  |slice el=>
   cases x with
   |c c=>
    have h:asSl c (λn _=>k (I n) l [])=some r:=by simpa only[Yn,hT]using h
    obtain⟨n,cs,h1,h2⟩:=Uc h;exact⟨_,⟨_,rfl⟩,λl2 k'=>by simp only[Yn,hT,h1],h2⟩
   |agg cs=>simp[Yn,hT]at h
   |_=>cases hx
  |string=>
   cases x with
   |c c=>
    have h:asS c (λs=>k (I s.size) l [])=some r:=by simpa only[Yn,hT]using h
    obtain⟨s,h1,h2⟩:=Vf h;exact⟨_,⟨_,rfl⟩,λl2 k'=>by simp only[Yn,hT,h1],h2⟩
   |agg cs=>simp[Yn,hT]at h
   |_=>cases hx
  |map kt et=>
   cases x with
   |c c=>
    cases c with
    |mp a b c d es=>exact⟨I es.length,⟨_,rfl⟩,λl2 k'=>by simp only[Yn,hT],by simpa only[Yn,hT]using h⟩
    |_=>simp[Yn,hT]at h
   |agg cs=>simp[Yn,hT]at h
   |_=>cases hx
  |array n e=>exact⟨I n,⟨_,rfl⟩,λl2 k'=>by cases x<;>simp only[Yn,hT],by cases x<;>simpa only[Yn,hT]using h⟩
  |_=>cases x<;>simp[Yn,hT]at h
theorem X6 {own full:Bool} {t:TypeId} {n d:Nat} {is:List Nat} {xs:List V}:Yr P l k true own full t n d is xs=Z0 P l k true own full t n d is xs:=by
 cases own<;>cases full<;>simp only[Yr]
theorem Zch {T:TypeId} {f:Nat} {x:V} (h:Ti P l k T f x=some r):Rm (λl k'=>Ti P l k' T f x) l k r:=by
 unfold Ti at h;split at h
 ·rename_i hf;obtain⟨v,h3,h4⟩:=Z9 h;exact⟨_,λl2 k'=>by simp only[Ti,hf,h3],h4⟩
 ·cases h
theorem Zci {T:TypeId} {x i:V} (h:Q1 P l k T x i=some r):Rm (λl k'=>Q1 P l k' T x i) l k r:=by
 unfold Q1 at h;split at h
 ·rename_i h1 h2;split at h
  ·rename_i h3;split at h
   ·obtain⟨h6,h7⟩:=Zb h;obtain⟨v,h8,h9⟩:=Z9 h7;exact⟨_,λl2 k'=>by simp only[Q1,h1,h2,h3,h6,h8],h9⟩
   ·cases h
  ·cases h
 ·rename_i h1 h2;split at h
  ·obtain⟨s,h3,h4⟩:=Vf h;obtain⟨h6,h7⟩:=Zb h4;exact⟨_,λl2 k'=>by simp only[Q1,h1,h2,h3,h6],h7⟩
  ·cases h
 ·cases h
theorem Zh0 {T:TypeId} {x:V} (h:H6 P l k T x=some r):Rm (λl k'=>H6 P l k' T x) l k r:=by
 unfold H6 at h;split at h
 ·rename_i hT;exact⟨_,λl2 k'=>by simp only[H6,hT],h⟩
 ·cases h
theorem B0 {i:Nat} {x:V} (h:Xp l k i x=some r):Rm (λl k'=>Xp l k' i x) l k r:=by
 unfold Xp at h;split at h
 ·split at h
  ·exact⟨_,λl2 k'=>rfl,h⟩
  ·exact⟨_,λl2 k'=>rfl,h⟩
  ·cases h
 ·split at h
  ·exact⟨_,λl2 k'=>rfl,h⟩
  ·cases h
 ·split at h
  ·rename_i h1;exact⟨_,λl2 k'=>by simp only[Xp,h1],h⟩
  ·cases h
 ·cases h
theorem Po {P:Program} {l:Loc} {R:Type} {k:V->Loc->List Nat->Option R} {own:Bool} {f:FuncId} {xs:List V}:Ue P l k own true f xs=Y8 P l k true f xs:=by cases own<;>rfl
theorem Ev {f:FuncId} {xs:List V} (h:Y8 P l k true f xs=some r):Rm (λl k'=>Y8 P l k' true f xs) l k r:=by
 unfold Y8 at h;obtain⟨ps,h1,h2⟩:=X1 h;obtain⟨h3,h4⟩:=Zb h2;exact⟨_,λl2 k'=>by simp only[Y8,h1,h3],h4⟩
theorem W7 {lt:Bool} {xs:List V} (h:Hd l k lt xs=some r):Rm (λl k'=>Hd l k' lt xs) l k r:=by
 unfold Hd at h;split at h
 ·obtain⟨v,h1,h2⟩:=Pk h;exact⟨_,λl2 k'=>by simp only[Hd,h1],h2⟩
 ·cases h
theorem Pp: ∀{xs:List V} {l:Loc} {k:List C->Loc->Option R} (_:Qv P true xs l k=some r),∃cs,(∀{S:Type} (l2:Loc) (k':List C->Loc->Option S),Qv P true xs l2 k'=k' cs l2)/\k cs l=some r
 | [],l,k,h=>⟨[],λl2 k'=>rfl,h⟩
 |x::xs,l,k,h=>by
  cases x with
  |c c=>
   obtain⟨cs,h1,h2⟩:=Pp (xs:=xs) (k:=λcs l2=>k (c::cs) l2) h;exact⟨c::cs,λl2 k'=>by simp only[Qv,h1],h2⟩
  |own s off n=>simp[Qv,Xd]at h
  |mp s=>simp[Qv,Xd]at h
  |ws s n=>simp[Qv,Xd]at h
  |_=>cases h
theorem W8 {t:TypeId} {x:V} (h:Sb P l k t x=some r):Rm (λl k'=>Sb P l k' t x) l k r:=by
 unfold Sb at h;split at h
 ·obtain⟨v,h3,h4⟩:=Z9 h;exact⟨_,λl2 k'=>by simp only[Sb,h3],h4⟩
 ·obtain⟨h3,h4⟩:=Zb h;exact⟨_,λl2 k'=>by simp only[Sb,h3],h4⟩
 ·obtain⟨h3,h4⟩:=Zb h;exact⟨_,λl2 k'=>by simp only[Sb,h3],h4⟩
 ·obtain⟨h3,h4⟩:=Zb h;exact⟨_,λl2 k'=>by simp only[Sb,h3],h4⟩
 ·cases h
theorem X7 {P:Program} {l:Loc} {R:Type} {k:V->Loc->List Nat->Option R} {mag:Bool} {t:TypeId} {a:V}:Dj P l k mag true t a=Z8 P l k true t a:=by cases mag<;>rfl
theorem Zfj {t:TypeId} {a:V} (h:Z8 P l k true t a=some r):W6 (λk'=>Z8 P l k' true t a) l k r:=by
 unfold Z8 at h;split at h
 ·obtain⟨cs,h1,h2⟩:=X5 h;obtain⟨v,h3,h4⟩:=Z9 h2;exact⟨_,λk'=>by simp only[Z8,h1,h3],h4⟩
 ·split at h
  ·rename_i hl;obtain⟨v,h3,h4⟩:=Z9 h;exact⟨_,λk'=>by simp only[Z8,hl,h3],h4⟩
  ·rename_i hl;obtain⟨v,h3,h4⟩:=Z9 h;exact⟨_,λk'=>by simp only[Z8,hl,h3],h4⟩
  ·rename_i hl;split at h
   ·rename_i ha;obtain⟨h1,h2⟩:=Zb h;obtain⟨cs,h3,h4⟩:=Pp h2;obtain⟨v,h5,h6⟩:=Z9 h4;exact⟨_,λk'=>by simp only[Z8,hl,ha,h1,h3,h5],h6⟩
   ·rename_i ha;split at h
    ·rename_i hx;obtain⟨v,h1,h2⟩:=W8 h;exact⟨v,λk'=>by simp only[Z8,hl,ha,hx];exact h1 l k',h2⟩
    ·cases h
  ·rename_i hl;obtain⟨h1,h2⟩:=Zb h;obtain⟨p,h3,h4⟩:=To h2;cases p with
   |c c=>
    obtain⟨v,h5,h6⟩:=Z9 h4;exact⟨_,λk'=>by simp only[Z8,hl,h1,h3,h5],h6⟩
   |r te row=>exact⟨_,λk'=>by simp only[Z8,hl,h1,h3],h4⟩
  ·cases h
 ·cases h
theorem Zh1 {x:V} (h:R2 l k x=some r):W6 (λk'=>R2 l k' x) l k r:=by
 unfold R2 at h;split at h
 ·obtain⟨h3,h4⟩:=Zb h;exact⟨_,λk'=>by simp only[R2,h3],h4⟩
 ·split at h
  ·exact⟨_,λk'=>rfl,h⟩
  ·exact⟨_,λk'=>rfl,h⟩
  ·cases h
 ·cases h
theorem Zcj {t:TypeId} {x:V} {lo hi:Option V} (h:Ym P l k t x lo hi=some r):W6 (λk'=>Ym P l k' t x lo hi) l k r:=by
 unfold Ym at h;split at h
 ·rename_i hT;split at h
  ·obtain⟨s,h1,h2⟩:=Vf h;obtain⟨a,h3,h4⟩:=Yh h2;obtain⟨b,h5,h6⟩:=Yh h4;exact⟨_,λk'=>by simp only[Ym,hT,h1,h3,h5],h6⟩
  ·cases h
 ·rename_i hT;split at h
  ·rename_i hi';split at h
   ·obtain⟨c',h1,h2⟩:=Mx h;exact⟨_,λk'=>by simp only[Ym,hT,hi',h1],h2⟩
   ·split at h
    ·rename_i hl;obtain⟨h1,h2⟩:=Zb h;obtain⟨a,h3,h4⟩:=Yh h2;obtain⟨b,h5,h6⟩:=Yh h4;exact⟨_,λk'=>by simp only[Ym,hT,hi',hl,h1,h3,h5],h6⟩
    ·cases h
   ·cases h
  ·cases h
 ·rename_i hT;split at h
  ·rename_i h1;obtain⟨cs,h2,h3⟩:=X5 h;obtain⟨h4,h5⟩:=Zb h3;exact⟨_,λk'=>by simp only[Ym,hT,h1,h2,h4],h5⟩
  ·rename_i h1;split at h
   ·rename_i hl;obtain⟨h4,h5⟩:=Zb h;exact⟨_,λk'=>by simp only[Ym,hT,h1,hl,h4],h5⟩
   ·cases h
  ·cases h
 ·cases h
theorem Jx {t:TypeId} {x:V} {lo hi m:Option V} (h:S8 P l k true t x lo hi m=some r):Rm (λl k'=>S8 P l k' true t x lo hi m) l k r:=by
 cases x with
 |c c=>
  replace h:U0 P l k true t (.c c) lo hi m=some r:=h;unfold U0 at h;split at h
  ·rename_i hT;split at h
   ·rename_i h1 h2 h3;obtain⟨h4,h5⟩:=Zb h;obtain⟨cs,h6,h7⟩:=Rj h5;split at h7
    ·obtain⟨n,cs',h8,h9⟩:=Uc h7;obtain⟨h10,h11⟩:=Zb h9;exact⟨_,λl2 k'=>by simp only[S8,U0,hT,h1,h2,h3,h4,h6,h8,h10],h11⟩
    ·cases h7
   ·cases h
  ·cases h
 |_=>cases h
theorem Zh2 {cf:Cfg} {T T':TypeId} {s x:V} {d:Nat} (hk:Zds cf true d s x=true) (h:(bif Zqv T T' then Y5 cf T s x d l k else Xn cf.P l k T T' s x d)=some r):
  Rm (λl k'=>bif Zqv T T' then Y5 cf T s x d l k' else Xn cf.P l k' T T' s x d) l k r:=by
 cases s with
 |fs n0 cs0=>
  cases x with
  |c c=>
   have ho:cf.own d=false:=by
    have:(!cf.own d)=true:=hk;simpa using this
   cases hb:Zqv T T' with
   |false=>
    rw[hb]at h;simp only[cond_false,Xn]at h;split at h
    ·rename_i _ _ e1 _;cases e1
    ·cases h
   |true=>
    rw[hb]at h;simp only[cond_true]at h;unfold Y5 at h;split at h
    case h_2=>cases h
    rename_i e hT;split at h
    case h_2=>cases h
    rename_i i z hi hz;obtain⟨m,news,h1,h2⟩:=Q5 h;obtain⟨n,olds,h3,h4⟩:=Q5 h2;rw[ho]at h4;obtain⟨h5,h6⟩:=Zb h4;have g1: ∀{S:Type} (l2:Loc) (k':Nat->List C->Option S),Sn cf.P e (.c c) l2 k'=k' m news:=λl2 k'=>h1 k';have g3: ∀{S:Type} (l2:Loc) (k':Nat->List C->Option S),Sn cf.P e (.c (.sl n0 cs0)) l2 k'=k' n olds:=λl2 k'=>h3 k';exact⟨_,λl2 k'=>by simp only[hb,cond_true,Y5,hT,hi,hz,g1,g3,ho,h5],h6⟩
  |_=>cases hk
 |_=>cases hk
theorem eff_r {F:{S:Type}->Loc->(V->Loc->List Nat->Option S)->Option S} (h:Rm F l k r):W6 (λk'=>F l k') l k r:=by
 obtain⟨x,h1,h2⟩:=h;exact⟨x,λk'=>h1 l k',h2⟩
theorem G5 {T:TypeId} {f:Nat} {x:V} (h:Zw P l k T f x=some r):W6 (λk'=>Zw P l k' T f x) l k r:=by
 unfold Zw at h;split at h
 ·rename_i hf;obtain⟨h1,h2⟩:=Zb h;split at h2
  ·obtain⟨h3,h4⟩:=Zb h2;exact⟨_,λk'=>by simp only[Zw,hf,h1,h3],h4⟩
  ·obtain⟨cs,h3,h4⟩:=X5 h2;exact⟨_,λk'=>by simp only[Zw,hf,h1,h3],h4⟩
  ·cases h2
 ·cases h
theorem G6 {T:TypeId} {x i:V} (h:Zp P l k T x i=some r):W6 (λk'=>Zp P l k' T x i) l k r:=by
 unfold Zp at h;split at h
 ·rename_i h1 h2;split at h
  ·rename_i h3;split at h
   ·obtain⟨n,cs,h4,h5⟩:=Uc h;obtain⟨h6,h7⟩:=Zb h5;exact⟨_,λk'=>by simp only[Zp,h1,h2,h3,h4,h6],h7⟩
   ·split at h
    ·rename_i hl;obtain⟨h6,h7⟩:=Zb h;exact⟨_,λk'=>by simp only[Zp,h1,h2,h3,hl,h6],h7⟩
    ·cases h
   ·obtain⟨h6,h7⟩:=Zb h;exact⟨_,λk'=>by simp only[Zp,h1,h2,h3,h6],h7⟩
   ·cases h
  ·cases h
 ·rename_i h1 h2;split at h
  ·rename_i h3;split at h
   ·obtain⟨h6,h7⟩:=Zb h;exact⟨_,λk'=>by simp only[Zp,h1,h2,h3,h6],h7⟩
   ·obtain⟨cs,h4,h5⟩:=X5 h;obtain⟨h6,h7⟩:=Zb h5;exact⟨_,λk'=>by simp only[Zp,h1,h2,h3,h4,h6],h7⟩
   ·cases h
  ·cases h
 ·cases h
theorem Zh3 {T:TypeId} {x:V} (h:Yn P l k T x=some r):W6 (λk'=>Yn P l k' T x) l k r:=by
 unfold Yn at h;split at h
 ·rename_i hT;obtain⟨n,cs,h1,h2⟩:=Uc h;exact⟨_,λk'=>by simp only[Yn,hT,h1],h2⟩
 ·rename_i hT;obtain⟨s,h1,h2⟩:=Vf h;exact⟨_,λk'=>by simp only[Yn,hT,h1],h2⟩
 ·rename_i hT;split at h
  ·rename_i hl;exact⟨_,λk'=>by simp only[Yn,hT,hl],h⟩
  ·cases h
 ·rename_i hT;split at h
  ·rename_i hl;exact⟨_,λk'=>by simp only[Yn,hT,hl],h⟩
  ·rename_i hl;exact⟨_,λk'=>by simp only[Yn,hT,hl],h⟩
  ·cases h
 ·rename_i hT;split at h
  ·exact⟨_,λk'=>by simp only[Yn,hT],h⟩
  ·cases h
 ·rename_i hT;obtain⟨h6,h7⟩:=Zb h;exact⟨_,λk'=>by simp only[Yn,hT,h6],h7⟩
 ·rename_i hT;split at h
  ·rename_i hg;obtain⟨h6,h7⟩:=Zb h;exact⟨_,λk'=>by simp only[Yn,hT,hg,h6],h7⟩
  ·cases h
 ·rename_i x1 x2 n el hT;refine⟨_,λk'=> ?_,h⟩;cases x1<;>simp only[Yn,hT]
 ·cases h
theorem Jy {t:TypeId} {s off:Nat} {t':TypeId} {xs:List V} {x:V} (h:Yk P l k t s off t' xs x=some r):EffW (λk'=>Yk P l k' t s off t' xs x) k r:=by
 unfold Yk at h;split at h
 ·obtain⟨h3,h4⟩:=Zb h;exact⟨_,_,λk'=>by simp only[Yk,h3],h4⟩
 ·obtain⟨h3,h4⟩:=Zb h;exact⟨_,_,λk'=>by simp only[Yk,h3],h4⟩
 ·obtain⟨h3,h4⟩:=Zb h;exact⟨_,_,λk'=>by simp only[Yk,h3],h4⟩
 ·obtain⟨h3,h4⟩:=Zb h;exact⟨_,_,λk'=>by simp only[Yk,h3],h4⟩
 ·obtain⟨h3,h4⟩:=Zb h;exact⟨_,_,λk'=>by simp only[Yk,h3],h4⟩
 ·cases h
theorem W9 {t:TypeId} {s off g:Nat} {t':TypeId} {q:Rws} {pe:Option (Nat×TypeId×List C)} {x:V} (h:X3 P l k t s off g t' q pe x=some r):EffW (λk'=>X3 P l k' t s off g t' q pe x) k r:=by
 unfold X3 at h;obtain⟨h1,h2⟩:=Zb h;cases x with
 |rp s2 g2 j2 n=>
  cases pe with
  |none=>cases h2
  |some e=>
   obtain⟨j,te,row⟩:=e;obtain⟨h3,h4⟩:=Zb h2;exact⟨_,_,λk'=>by simp only[X3,h1,h3],h4⟩
 |c c=>
  cases pe with
  |some e=>cases h2
  |none=>
  cases q with
  |rs te rows=>cases h2
  |ps ps=>
   obtain⟨h3,h4⟩:=Zb h2;exact⟨_,_,λk'=>by simp only[X3,h1,h3],h4⟩
 |ws s2 n2=>
  cases pe with
  |some e=>cases h2
  |none=>
  cases q with
  |rs te rows=>cases h2
  |ps ps=>
   simp only at h2;split at h2
   ·rename_i cs hcs;obtain⟨h3,h4⟩:=Zb h2;exact⟨_,_,λk'=>by simp only[X3,h1,hcs,h3],h4⟩
   ·cases h2
 |_=>cases pe<;>cases h2
theorem Jz {t:TypeId} {s off:Nat} {x:V} (h:Xl P l k true t s off x=some r):EffW (λk'=>Xl P l k' true t s off x) k r:=by
 unfold Xl at h;obtain⟨cs,h1,h2⟩:=Rj h;split at h2
 ·rename_i hl;obtain⟨h3,h4⟩:=Zb h2;exact⟨_,_,λk'=>by simp only[Xl,h1,hl,h3],h4⟩
 ·rename_i hl;obtain⟨h3,h4⟩:=Zb h2;exact⟨_,_,λk'=>by simp only[Xl,h1,hl,h3],h4⟩
 ·cases h2
theorem Zck {mix:Bool} {t:TypeId} {a x:V} (h:Xo P l k true mix t a x=some r):EffW (λk'=>Xo P l k' true mix t a x) k r:=by
 unfold Xo at h;split at h
 ·split at h
  ·rename_i t' fz cs hl;cases hb:(A8 x&&(Zqv cs.length 1||mix)&&Zqv fz 0)with
   |true=>
    rw[hb]at h;obtain⟨y,l',h1,h2⟩:=Jy h;exact⟨y,l',λk'=>by simp only[Xo,hl,hb,cond_true];exact h1 k',h2⟩
   |false=>
    rw[hb]at h;obtain⟨y,l',h1,h2⟩:=Jz h;exact⟨y,l',λk'=>by simp only[Xo,hl,hb,cond_false];exact h1 k',h2⟩
  ·rename_i hl;obtain⟨y,l',h1,h2⟩:=Jz h;exact⟨y,l',λk'=>by simp only[Xo,hl];exact h1 k',h2⟩
  ·rename_i hl;obtain⟨y,l',h1,h2⟩:=Jy h;exact⟨y,l',λk'=>by simp only[Xo,hl];exact h1 k',h2⟩
  ·rename_i hl;obtain⟨y,l',h1,h2⟩:=W9 h;exact⟨y,l',λk'=>by simp only[Xo,hl];exact h1 k',h2⟩
  ·cases h
 ·cases h
theorem G7 {cf:Cfg} {hd:List Nat} {xo:List (Option TypeId)} {f:FuncId} {xs:List V} {ty:TypeId} {dst:Option Nat} {l:Loc} {S:Type} {k:V->Loc->List Nat->Option S}:N5 cf true hd xo f xs ty dst l k=Um cf true hd xo f xs ty dst l k:=by
 cases xs with
 |nil=>rfl
 |cons x xs=>cases x<;>rfl
theorem D2 {cf:Cfg} {hd:List Nat} {xo:List (Option TypeId)} {f:FuncId} {xs:List V} {ty:TypeId} {dst:Option Nat} (h:Um cf true hd xo f xs ty dst l k=some r):Rm (λl k'=>Um cf true hd xo f xs ty dst l k') l k r:=by
 unfold Um at h;obtain⟨ys,h1,h2⟩:=Rl h;obtain⟨h3,h4⟩:=Zb h2;rw[Zm6]at h4;obtain⟨out,h5,h6⟩:=h4;cases hlost:A5 cf hd f with
 |true=>rw[hlost]at h6;cases h6
 |false=>
 rw[hlost]at h6;have h8:Mk cf.P ty out.r (λv=>k v l [])=some r:=by
  simp only[Uu,Dq]at h6;exact h6
 obtain⟨v,h9,h10⟩:=Pf h8;refine⟨v,λl2 k'=> ?_,h10⟩;simp only[Um,h1,Zpj]at h5⊢;have h3':noYl ys=true:=by
  cases hn:noYl ys
  ·rw[hn]at h2;simp[need,M8]at h2
  ·rfl
 simp only[M8,h3',Bool.true_and,need,cond_true,h5,Znx,hlost,Uu,Dq];exact h9 _
theorem Zfk {cf:Cfg} {f:FuncId} {xs:List V} {ty:TypeId} {dst:Option Nat} (h:Sm cf true f xs ty dst l k=some r):Rm (λl k'=>Sm cf true f xs ty dst l k') l k r:=by
 unfold Sm at h;split at h
 ·rename_i hb;unfold C9 at h;split at h
  ·obtain⟨a,q1,j1⟩:=Re h;obtain⟨b,q2,j2⟩:=Re j1;obtain⟨d,q3,j3⟩:=Re j2;subst q1 q2 q3;obtain⟨h1,h2⟩:=Zb j3;exact⟨_,λl2 k'=>by simp only[Sm,hb,C9,asI,if_true,h1],h2⟩
  ·cases h
 ·rename_i hb;obtain⟨x,h1,h2⟩:=D2 (by rw[G7]at h;exact h);exact⟨x,λl2 k'=>by simp only[Sm,hb,G7,h1],h2⟩
theorem Su {cf:Cfg} {strict:Bool} {o:Oper} {e e':Operand->V} {S:Type} {l:Loc} {k:V->Loc->List Nat->Option S} (h: ∀y∈o.op.operands,e y=e' y):opK cf strict o e l k=opK cf strict o e' l k:=by
 obtain⟨dst,op,type,pos,after,guard⟩:=o;have pairs: ∀ps:Array (Nat×Operand),(∀x∈ps.map (·.2),e x=e' x)->(ps.toList.map λp=>e p.2)=(ps.toList.map λp=>e' p.2):=λps hp=>
  Zpn λp hm=>hp p.2 (Array.mem_map.2 ⟨p,by simpa using hm,rfl⟩)
 cases op<;>simp only[Op.operands]at h<;>simp only[opK]
 case build t ps=>rw[pairs ps λx hx=>h x (by simpa using hx)]
 case buildSlice t n ps=>rw[pairs ps λx hx=>h x (by simpa using hx)]
 case makeFunc fn first captured=>
  have e1:captured.toList.map e=captured.toList.map e':=Zpn λx hx=>h x (by simp at hx⊢;exact .inr hx);rw[e1]
 case makeMap t rs=>
  have e1:rs.map e=rs.map e':=by cases rs<;>simp_all
  rw[e1]
 case slice t x lo hi mx=>
  have e0:e x=e' x:=h x (by simp);have e1:lo.map e=lo.map e':=by cases lo<;>simp_all
  have e2:hi.map e=hi.map e':=by cases hi<;>simp_all
  rw[e0,e1,e2];cases mx with
  |none=>rfl
  |some m=>simp only[h m (by simp)]
 case call c=>
  have e1:c.args.toList.map e=c.args.toList.map e':=Zpn λx hx=>h x (by simp[Call.operands]at hx⊢;exact .inr hx);rw[e1];cases hc:c.callee with
  |builtin b=>
   cases b<;>simp only
   case len=>
    split
    ·rename_i x T hx hT;have:e x=e' x:=h x (by simp[Call.operands];right;exact(by simpa using (show x∈c.args.toList by simp[hx])));rw[this]
    ·rfl
   case cap=>
    split
    ·rename_i x T hx hT;have:e x=e' x:=h x (by simp[Call.operands];right;exact(by simpa using (show x∈c.args.toList by simp[hx])));rw[this]
    ·rfl
   case append=>
    split
    ·rename_i d s x T T' hx hT;have h1:e s=e' s:=h s (by simp[Call.operands];right;exact(by simpa using (show s∈c.args.toList by simp[hx])));have h2:e x=e' x:=h x (by simp[Call.operands];right;exact(by simpa using (show x∈c.args.toList by simp[hx])));rw[h1,h2]
    ·rfl
   case copy=>
    split
    ·rename_i x y T T' hx hT;have h1:e x=e' x:=h x (by simp[Call.operands];right;exact(by simpa using (show x∈c.args.toList by simp[hx])));have h2:e y=e' y:=h y (by simp[Call.operands];right;exact(by simpa using (show y∈c.args.toList by simp[hx])));rw[h1,h2]
    ·rfl
  |invoke=>rfl
  |value f=>
   have h1:e f=e' f:=h f (by simp[Call.operands,hc]);simp only;cases f<;>simp only[h1]
 all_goals (first|rfl|(simp_all;done))
theorem B3 {cf:Cfg} {o:Oper} {e:Operand->V} (h:opK cf true o e l k=some r):
  ∃x l',(Zl o.op=false->l'=l)/\(∀{S:Type} (l2:Loc) (k':V->Loc->List Nat->Option S),l2=l\/Yo o.op=true->opK cf true o e l2 k'=k' x (bif Zl o.op then l' else l2) [])/\k x l' []=some r:=by
 have fq: ∀{F:{S:Type}->Loc->(V->Loc->List Nat->Option S)->Option S},Zl o.op=false->Rm F l k r->(∀{S:Type} (l2:Loc) (k':V->Loc->List Nat->Option S),opK cf true o e l2 k'=F l2 k')->
   ∃x l',(Zl o.op=false->l'=l)/\(∀{S:Type} (l2:Loc) (k':V->Loc->List Nat->Option S),l2=l\/Yo o.op=true->opK cf true o e l2 k'=k' x (bif Zl o.op then l' else l2) [])/\k x l' []=some r:=by
  intro F hw hF he;obtain⟨x,h1,h2⟩:=hF;exact⟨x,l,λ_=>rfl,λl2 k' _=>by rw[he,hw];exact h1 l2 k',h2⟩
 have fr: ∀{F:{S:Type}->(V->Loc->List Nat->Option S)->Option S},Zl o.op=false->Yo o.op=false->W6 F l k r->(∀{S:Type} (k':V->Loc->List Nat->Option S),opK cf true o e l k'=F k')->
   ∃x l',(Zl o.op=false->l'=l)/\(∀{S:Type} (l2:Loc) (k':V->Loc->List Nat->Option S),l2=l\/Yo o.op=true->opK cf true o e l2 k'=k' x (bif Zl o.op then l' else l2) [])/\k x l' []=some r:=by
  intro F hw hq hF he;obtain⟨x,h1,h2⟩:=hF;refine⟨x,l,λ_=>rfl,λl2 k' hl=> ?_,h2⟩;rcases hl with rfl|hl
  ·rw[he,hw];exact h1 k'
  ·rw[hq]at hl;cases hl
 unfold opK at h;split at h
 case h_1 x ho=>exact fq (F:=λl k=>k (e x) l []) (by simp[Zl,ho]) ⟨_,λl2 k'=>rfl,h⟩ λl2 k'=>by simp only[opK,ho]
 case h_2 x ho=>exact fq (F:=λl k=>k (e x) l []) (by simp[Zl,ho]) ⟨_,λl2 k'=>rfl,h⟩ λl2 k'=>by simp only[opK,ho]
 case h_3 c a b ho=>exact fq (by simp[Zl,ho]) (Zfh h) λl2 k'=>by simp only[opK,ho]
 case h_4 t ho=>
  split at h
  case h_2=>cases h
  case h_1 d hd=>exact fq (F:=λl k=>k (.ptr d 0) l []) (by simp[Zl,ho]) ⟨_,λl2 k'=>rfl,h⟩ λl2 k'=>by simp only[opK,ho,hd]
 case h_5 t x ho=>
  split at h
  case h_2=>cases h
  case h_1 d hd=>exact fq (by simp[Zl,ho]) (Zhz h) λl2 k'=>by simp only[opK,ho,hd]
 case h_6 t parts ho=>
  split at h
  ·cases h
  ·rename_i hm;exact fq (by simp[Zl,ho]) (G4 h) λl2 k'=>by simp only[opK,ho,hm]
 case h_7 t n parts ho=>
  split at h
  case h_2=>cases h
  case h_1 d hd=>exact fq (by simp[Zl,ho]) (Rz (by rw[X6]at h;exact h)) λl2 k'=>by simp only[opK,ho,hd,X6]
 case h_8 t a ho=>
  obtain⟨h1,h2⟩:=Zb h;exact fr (by simp[Zl,ho]) (by simp[Yo,ho]) (Zfj (by rw[X7]at h2;exact h2)) λk'=>by simp only[opK,ho,X7,h1]
 case h_9 t a x ho=>
  obtain⟨x,l',h1,h2⟩:=Zck h;refine⟨x,l',λhw=>by simp[Zl,ho]at hw,λl2 k' hl=> ?_,h2⟩;rcases hl with rfl|hl
  ·simp only[opK,ho,Zl,cond_true];exact h1 k'
  ·simp[Yo,ho]at hl
 case h_10 x ho=>exact fr (by simp[Zl,ho]) (by simp[Yo,ho]) (Zh1 h) λk'=>by simp only[opK,ho]
 case h_11 op t x y yt ho=>
  obtain⟨v,h1,h2⟩:=Wv h;exact fq (F:=λl k=>k v l []) (by simp[Zl,ho]) ⟨v,λl2 k'=>rfl,h2⟩ λl2 k'=>by simp only[opK,ho,h1]
 case h_12 op t x ho=>
  obtain⟨v,h1,h2⟩:=Zd3 h;exact fq (F:=λl k=>k v l []) (by simp[Zl,ho]) ⟨v,λl2 k'=>rfl,h2⟩ λl2 k'=>by simp only[opK,ho,h1]
 case h_13 src dst x ho=>
  obtain⟨v,h1,h2⟩:=Dy h;exact fq (F:=λl k=>k v l []) (by simp[Zl,ho]) ⟨v,λl2 k'=>rfl,h2⟩ λl2 k'=>by simp only[opK,ho,h1]
 case h_14 fn first cap ho=>
  split at h
  case h_2=>cases h
  case h_1 f hf=>
   obtain⟨h1,h2⟩:=Zb h;rw[Po]at h2;exact fq (by simp[Zl,ho]) (Ev h2) λl2 k'=>by simp only[opK,ho,hf,h1,Po]
 case h_15 t q ho=>
  split at h
  case h_2=>cases h
  case h_1=>contradiction
 case h_16 t x i ok ho=>
  split at h
  case h_2=>exact fq (by simp[Zl,ho]) (Ju h) λl2 k'=>by simp only[opK,ho]
  case h_1=>contradiction
 case h_17 t x i v ho=>
  split at h
  case h_2=>cases h
  case h_1=>contradiction
 case h_18 t n c ho=>
  split at h
  case h_3=>cases h
  case h_1=>contradiction
  case h_2=>
   cases hd:o.dst with
   |none=>simp_all
   |some d=>exact fq (by simp[Zl,ho]) (N9 h) λl2 k'=>by simp only[opK,ho,hd]
 case h_19 t x lo hi mx ho=>
  split at h
  ·exact fr (by simp[Zl,ho]) (by simp[Yo,ho]) (eff_r (Jx h)) λk'=>by simp only[opK,ho]
  ·exact fr (by simp[Zl,ho]) (by simp[Yo,ho]) (Zcj h) λk'=>by simp only[opK,ho]
 case h_20 T x f ho=>
  obtain⟨h1,h2⟩:=Zb h;exact fr (by simp[Zl,ho]) (by simp[Yo,ho]) (G5 h2) λk'=>by simp only[opK,ho,h1]
 case h_21 T x f ho=>exact fq (by simp[Zl,ho]) (Zch h) λl2 k'=>by simp only[opK,ho]
 case h_22 T x i ho=>exact fr (by simp[Zl,ho]) (by simp[Yo,ho]) (G6 h) λk'=>by simp only[opK,ho]
 case h_23 T x i ho=>exact fq (by simp[Zl,ho]) (Zci h) λl2 k'=>by simp only[opK,ho]
 case h_24 x i ho=>exact fq (by simp[Zl,ho]) (B0 h) λl2 k'=>by simp only[opK,ho]
 case h_25 c ho=>
  split at h
  case h_1 hc=>
   split at h
   case h_2=>cases h
   case h_1 x T ha hT=>exact fr (by simp[Zl,ho]) (by simp[Yo,ho,hc]) (Zh3 h) λk'=>by simp only[opK,ho,hc,ha,hT]
  case h_2 hc=>
   split at h
   case h_2=>cases h
   case h_1 d s x T T' hd ha hT=>
    split at h
    case h_2=>cases h
    rename_i hk;exact fq (by simp[Zl,ho]) (Zh2 hk h) λl2 k'=>by simp only[opK,ho,hc,hd,ha,hT,hk]
  case h_3 hc=>
   split at h
   case h_2=>cases h
   case h_1 x T ha hT=>exact fq (by simp[Zl,ho]) (Zh0 h) λl2 k'=>by simp only[opK,ho,hc,ha,hT]
  case h_4 hc=>
   split at h
   case h_2=>cases h
   case h_1=>contradiction
  case h_5 hc=>exact fq (by simp[Zl,ho]) (W7 h) λl2 k'=>by simp only[opK,ho,hc]
  case h_6 hc=>exact fq (by simp[Zl,ho]) (W7 h) λl2 k'=>by simp only[opK,ho,hc]
  case h_7=>cases h
  case h_8=>cases h
  case h_9 f hc=>
   split at h
   case h_1 f'=>exact fq (by simp[Zl,ho]) (Zfk h) λl2 k'=>by simp only[opK,ho,hc]
   case h_2 hne=>
    split at h
    case h_3=>cases h
    case h_2=>cases h
    case h_1 c' hc'=>
     unfold C2 at h;split at h
     ·refine fq (by simp[Zl,ho]) (D2 h) λl2 k'=> ?_;cases f with
      |func f''=>exact absurd rfl (hne f'')
      |_=>simp only[opK,ho,hc,hc',C2]
     ·cases h
     ·cases h
 case h_26=>cases h
def G8 {R:Type} (L:List Nat) (F:{S:Type}->Loc->(V->Loc->List Nat->Option S)->Option S) (l:Loc) (k:V->Loc->List Nat->Option R) (r:R):Prop:=
 ∃x,(∀{S:Type} (l2:Loc) (k':V->Loc->List Nat->Option S),(∀s,L.any (Zqv s)=false->l2 s=l s)->F l2 k'=k' x l2 [])/\k x l []=some r
theorem Sv {L:List Nat} {s off:Nat} (h:V0 L (.ptr s off)=true):L.any (Zqv s)=false:=by simpa[V0]using h
theorem G9 {L:List Nat} {s off n:Nat} (h:V0 L (.own s off n)=true):L.any (Zqv s)=false:=by simpa[V0]using h
theorem Zj2 {L:List Nat} {s:Nat} (h:V0 L (.mp s)=true):L.any (Zqv s)=false:=by simpa[V0]using h
theorem Zd4 {L:List Nat} {s n:Nat} (h:V0 L (.ws s n)=true):L.any (Zqv s)=false:=by simpa[V0]using h
theorem Zj3 {L:List Nat} {s g j n:Nat} (h:V0 L (.rw s g j n)=true):L.any (Zqv s)=false:=by simpa[V0]using h
theorem eff_s {L:List Nat} {F:{S:Type}->Loc->(V->Loc->List Nat->Option S)->Option S} (h:Rm F l k r):G8 L F l k r:=by
 obtain⟨x,h1,h2⟩:=h;exact⟨x,λl2 k' _=>h1 l2 k',h2⟩
theorem Zfl {L:List Nat} {t:TypeId} {a:V} (h:Z8 P l k true t a=some r) (hs:V0 L a=true):G8 L (λl k'=>Z8 P l k' true t a) l k r:=by
 unfold Z8 at h;split at h
 ·obtain⟨cs,h1,h2⟩:=X5 h;obtain⟨v,h3,h4⟩:=Z9 h2;exact⟨_,λl2 k' _=>by simp only[Z8,h1,h3],h4⟩
 ·have hs:=Sv hs;split at h
  ·rename_i hl;obtain⟨v,h3,h4⟩:=Z9 h;exact⟨_,λl2 k' e=>by simp only[Z8,e _ hs,hl,h3],h4⟩
  ·rename_i hl;obtain⟨v,h3,h4⟩:=Z9 h;exact⟨_,λl2 k' e=>by simp only[Z8,e _ hs,hl,h3],h4⟩
  ·rename_i hl;split at h
   ·rename_i ha;obtain⟨h1,h2⟩:=Zb h;obtain⟨cs,h3,h4⟩:=Pp h2;obtain⟨v,h5,h6⟩:=Z9 h4;exact⟨_,λl2 k' e=>by simp only[Z8,e _ hs,hl,ha,h1,h3,h5],h6⟩
   ·rename_i ha;split at h
    ·rename_i hx;obtain⟨v,h1,h2⟩:=W8 h;exact⟨v,λl2 k' e=>by simp only[Z8,e _ hs,hl,ha,hx];exact h1 l2 k',h2⟩
    ·cases h
  ·rename_i hl;obtain⟨h1,h2⟩:=Zb h;obtain⟨p,h3,h4⟩:=To h2;cases p with
   |c c=>
    obtain⟨v,h5,h6⟩:=Z9 h4;exact⟨_,λl2 k' e=>by simp only[Z8,e _ hs,hl,h1,h3,h5],h6⟩
   |r te row=>exact⟨_,λl2 k' e=>by simp only[Z8,e _ hs,hl,h1,h3],h4⟩
  ·cases h
 ·cases h
theorem Zh4 {L:List Nat} {x:V} (h:R2 l k x=some r) (hs:V0 L x=true):G8 L (λl k'=>R2 l k' x) l k r:=by
 unfold R2 at h;split at h
 ·have hs:=Sv hs;obtain⟨h3,h4⟩:=Zb h;exact⟨_,λl2 k' e=>by simp only[R2,e _ hs,h3],h4⟩
 ·split at h
  ·exact⟨_,λl2 k' _=>rfl,h⟩
  ·exact⟨_,λl2 k' _=>rfl,h⟩
  ·cases h
 ·cases h
theorem Zcl {L:List Nat} {t:TypeId} {x:V} {lo hi:Option V} (h:Ym P l k t x lo hi=some r) (hs:V0 L x=true):G8 L (λl k'=>Ym P l k' t x lo hi) l k r:=by
 unfold Ym at h;split at h
 ·rename_i hT;split at h
  ·obtain⟨s,h1,h2⟩:=Vf h;obtain⟨a,h3,h4⟩:=Yh h2;obtain⟨b,h5,h6⟩:=Yh h4;exact⟨_,λl2 k' _=>by simp only[Ym,hT,h1,h3,h5],h6⟩
  ·cases h
 ·rename_i hT;split at h
  ·rename_i hi';split at h
   ·obtain⟨c',h1,h2⟩:=Mx h;exact⟨_,λl2 k' _=>by simp only[Ym,hT,hi',h1],h2⟩
   ·have hs:=G9 hs;split at h
    ·rename_i hl;obtain⟨h1,h2⟩:=Zb h;obtain⟨a,h3,h4⟩:=Yh h2;obtain⟨b,h5,h6⟩:=Yh h4;exact⟨_,λl2 k' e=>by simp only[Ym,hT,hi',e _ hs,hl,h1,h3,h5],h6⟩
    ·cases h
   ·cases h
  ·cases h
 ·rename_i hT;split at h
  ·rename_i h1;obtain⟨cs,h2,h3⟩:=X5 h;obtain⟨h4,h5⟩:=Zb h3;exact⟨_,λl2 k' _=>by simp only[Ym,hT,h1,h2,h4],h5⟩
  ·rename_i h1;have hs:=Sv hs;split at h
   ·rename_i hl;obtain⟨h4,h5⟩:=Zb h;exact⟨_,λl2 k' e=>by simp only[Ym,hT,h1,e _ hs,hl,h4],h5⟩
   ·cases h
  ·cases h
 ·cases h
theorem Fa {L:List Nat} {T:TypeId} {f:Nat} {x:V} (h:Zw P l k T f x=some r) (hs:V0 L x=true):G8 L (λl k'=>Zw P l k' T f x) l k r:=by
 unfold Zw at h;split at h
 ·rename_i hf;obtain⟨h1,h2⟩:=Zb h;split at h2
  ·have hs:=Sv hs;obtain⟨h3,h4⟩:=Zb h2;exact⟨_,λl2 k' e=>by simp only[Zw,hf,h1,e _ hs,h3],h4⟩
  ·obtain⟨cs,h3,h4⟩:=X5 h2;exact⟨_,λl2 k' _=>by simp only[Zw,hf,h1,h3],h4⟩
  ·cases h2
 ·cases h
theorem Fb {L:List Nat} {T:TypeId} {x i:V} (h:Zp P l k T x i=some r) (hs:V0 L x=true):G8 L (λl k'=>Zp P l k' T x i) l k r:=by
 unfold Zp at h;split at h
 ·rename_i h1 h2;split at h
  ·rename_i h3;split at h
   ·obtain⟨n,cs,h4,h5⟩:=Uc h;obtain⟨h6,h7⟩:=Zb h5;exact⟨_,λl2 k' _=>by simp only[Zp,h1,h2,h3,h4,h6],h7⟩
   ·have hs:=G9 hs;split at h
    ·rename_i hl;obtain⟨h6,h7⟩:=Zb h;exact⟨_,λl2 k' e=>by simp only[Zp,h1,h2,h3,e _ hs,hl,h6],h7⟩
    ·cases h
   ·have hs:=Zd4 hs;obtain⟨h6,h7⟩:=Zb h;exact⟨_,λl2 k' e=>by simp only[Zp,h1,h2,h3,e _ hs,h6],h7⟩
   ·cases h
  ·cases h
 ·rename_i h1 h2;split at h
  ·rename_i h3;split at h
   ·have hs:=Sv hs;obtain⟨h6,h7⟩:=Zb h;exact⟨_,λl2 k' e=>by simp only[Zp,h1,h2,h3,e _ hs,h6],h7⟩
   ·obtain⟨cs,h4,h5⟩:=X5 h;obtain⟨h6,h7⟩:=Zb h5;exact⟨_,λl2 k' _=>by simp only[Zp,h1,h2,h3,h4,h6],h7⟩
   ·cases h
  ·cases h
 ·cases h
theorem Zh5 {L:List Nat} {T:TypeId} {x:V} (h:Yn P l k T x=some r) (hs:V0 L x=true):G8 L (λl k'=>Yn P l k' T x) l k r:=by
 unfold Yn at h;split at h
 ·rename_i hT;obtain⟨n,cs,h1,h2⟩:=Uc h;exact⟨_,λl2 k' _=>by simp only[Yn,hT,h1],h2⟩
 ·rename_i hT;obtain⟨s,h1,h2⟩:=Vf h;exact⟨_,λl2 k' _=>by simp only[Yn,hT,h1],h2⟩
 ·rename_i hT;have hs:=G9 hs;split at h
  ·rename_i hl;exact⟨_,λl2 k' e=>by simp only[Yn,hT,e _ hs,hl],h⟩
  ·cases h
 ·rename_i hT;have hs:=Zj2 hs;split at h
  ·rename_i hl;exact⟨_,λl2 k' e=>by simp only[Yn,hT,e _ hs,hl],h⟩
  ·rename_i hl;exact⟨_,λl2 k' e=>by simp only[Yn,hT,e _ hs,hl],h⟩
  ·cases h
 ·rename_i hT;split at h
  ·exact⟨_,λl2 k' _=>by simp only[Yn,hT],h⟩
  ·cases h
 ·rename_i hT;have hs:=Zd4 hs;obtain⟨h6,h7⟩:=Zb h;exact⟨_,λl2 k' e=>by simp only[Yn,hT,e _ hs,h6],h7⟩
 ·rename_i hT;have hs:=Zj3 hs;split at h
  ·rename_i hg;obtain⟨h6,h7⟩:=Zb h;exact⟨_,λl2 k' e=>by simp only[Yn,hT,e _ hs,hg,h6],h7⟩
  ·cases h
 ·rename_i x1 x2 n el hT;refine⟨_,λl2 k' _=> ?_,h⟩;cases x1<;>simp only[Yn,hT]
 ·cases h
theorem Zfm {P:Program} {L L':List Nat} {t:TypeId} {a:V} (h:need (rdC P t true L' l a) (Z8 P l k true t a)=some r) (hs:V0 L a=true):G8 L (λl2 k'=>need (rdC P t true L' l2 a) (Z8 P l2 k' true t a)) l k r:=by
 obtain⟨h1,h2⟩:=Za h;obtain⟨x,h3,h4⟩:=Zfl h2 hs;refine⟨x,λl2 k' hl=> ?_,h4⟩;have:rdC P t true L' l2 a=rdC P t true L' l a:=by
  cases L' with
  |nil=>rfl
  |cons u L'=>
   cases a<;>try rfl
   rename_i s off;simp only[rdC,Zev];rw[hl s (Sv hs)]
 show need (rdC P t true L' l2 a) _=_;rw[this,h1];exact h3 l2 k' hl
theorem Zj4 {L:List Nat} {cf:Cfg} {o:Oper} {e:Operand->V} (h:opK cf true o e l k=some r) (hw:Zl o.op=false) (hs:Jh L o.op e=true):G8 L (λl2 k'=>opK cf true o e l2 k') l k r:=by
 cases hq:Yo o.op with
 |true=>
  obtain⟨x,l',h1,h2,h3⟩:=B3 h;obtain rfl:=h1 hw;exact⟨x,λl2 k' _=>by show opK cf true o e l2 k'=_;rw[h2 l2 k' (.inr hq),hw];rfl,h3⟩
 |false=>
  have go: ∀{F:{S:Type}->Loc->(V->Loc->List Nat->Option S)->Option S},G8 L F l k r->(∀{S:Type} (l2:Loc) (k':V->Loc->List Nat->Option S),opK cf true o e l2 k'=F l2 k')->G8 L (λl2 k'=>opK cf true o e l2 k') l k r:=by
   intro F hF he;obtain⟨x,h1,h2⟩:=hF;exact⟨x,λl2 k' hl=>by show opK cf true o e l2 k'=_;rw[he];exact h1 l2 k' hl,h2⟩
  unfold opK at h;split at h
  case h_8 t a ho=>rw[ho]at hs;exact go (Zfm (by rw[X7]at h;exact h) hs) λl2 k'=>by simp only[opK,ho,X7]
  case h_9 t a x ho=>simp[Zl,ho]at hw
  case h_10 x ho=>rw[ho]at hs;exact go (Zh4 h hs) λl2 k'=>by simp only[opK,ho]
  case h_19 t x lo hi mx ho=>
   rw[ho]at hs;split at h
   ·exact go (eff_s (Jx h)) λl2 k'=>by simp only[opK,ho]
   ·exact go (Zcl h hs) λl2 k'=>by simp only[opK,ho]
  case h_20 T x f ho=>rw[ho]at hs;obtain⟨h1,h2⟩:=Zb h;exact go (Fa h2 hs) λl2 k'=>by simp only[opK,ho,h1]
  case h_22 T x i ho=>rw[ho]at hs;exact go (Fb h hs) λl2 k'=>by simp only[opK,ho]
  case h_25 c ho=>
   split at h
   case h_1 hc=>
    split at h
    case h_2=>cases h
    case h_1 x T ha hT=>
     rw[ho]at hs;have hx:V0 L (e x)=true:=Zm7.1 hs x (by simp[ha]);exact go (Zh5 h hx) λl2 k'=>by simp only[opK,ho,hc,ha,hT]
   all_goals first|(cases h;done)|(rename_i hc;simp[Yo,ho,hc]at hq;done)|(rename_i hc _;simp[Yo,ho,hc]at hq;done)|(simp_all [Yo];done)
  all_goals (rename_i ho;simp[Yo,ho]at hq)
theorem Sw {L:List Nat}: ∀{hd:List Nat} {xs:List V} {l:Loc} {ss:List Nat} {k:List V->Loc->List Nat->Option R} (_:Ye P false hd xs l ss k=some r) (_:xs.all (Zgz L)=true),
  ∃ys ss',k ys l ss'=some r/\(∀s∈ss',s∈ss\/L.any (Zqv s)=true)
 |hd,[],l,ss,k,h,_=>⟨[],ss,by simpa[Ye]using h,λs hs=> .inl hs⟩
 |hd,x::xs,l,ss,k,h,ha=>by
  rw[Zoq,Zmq]at ha;cases x with
  |c c=>
   obtain⟨ys,ss',h1,h2⟩:=Sw (show Ye P false hd.tail xs l ss (λys l' ss'=>k (.c (Zgx hd c)::ys) l' ss')=some r from h) ha.2;exact⟨_,ss',h1,h2⟩
  |agg cs=>
   obtain⟨ys,ss',h1,h2⟩:=Sw (show Ye P false hd.tail xs l ss (λys l' ss'=>k (.agg cs::ys) l' ss')=some r from h) ha.2;exact⟨_,ss',h1,h2⟩
  |ptr s off=>
   have hL:L.any (Zqv s)=true:=ha.1;unfold Ye at h;simp only at h;split at h
   ·rename_i i hi;obtain⟨ys,ss',h1,h2⟩:=Sw h ha.2;exact⟨_,ss',h1,h2⟩
   ·rename_i hi;obtain⟨ys,ss',h1,h2⟩:=Sw h ha.2;refine⟨_,ss',h1,λs' hs'=> ?_⟩;rcases h2 s' hs' with h3|h3
    ·rcases Zoc.1 h3 with h3|h3
     ·exact .inl h3
     ·simp at h3;subst h3;exact .inr hL
    ·exact .inr h3
  |_=>cases ha.1
theorem Zfn {cf:Cfg} {strict:Bool} {ss:List Nat} {out:Out} {ty:TypeId} {dst:Option Nat} {l1:Loc} {R:Type} {k:V->Loc->List Nat->Option R}:Je cf strict [] ss out ty dst l1 k=none:=by
 cases ss with
 |nil=>rfl
 |cons a r=>cases r with
  |nil=>cases strict<;>rfl
  |cons b r=>rfl
theorem Zfo {cf:Cfg} {L:List Nat} {hd:List Nat} {f:FuncId} {xs:List V} {ty:TypeId} {dst:Option Nat} {l:Loc} {x:V} {l':Loc} {ks:List Nat}
  (h:Um cf false hd [] f xs ty dst l (λx l ks=>some (x,l,ks))=some (x,l',ks)) (ha:xs.all (Zgz L)=true): ∀s,L.any (Zqv s)=false->l' s=l s:=by
 unfold Um at h;obtain⟨ys,ss,h1,h2⟩:=Sw h ha;obtain⟨_,h3⟩:=Za h1;obtain⟨out,_,h4⟩:=Zm6.1 h3;cases hlost:A5 cf hd f with
 |true=>
  rw[hlost]at h4;simp only[Zfn]at h4;cases h4
 |false=>
 rw[hlost]at h4;have key: ∀{ss:List Nat} {os:List Obj} {lv:Loc} {k:List Obj->Loc->Option (V×Loc×List Nat)},Uu cf.P (cf.fzb f) ss os lv k=some (x,l',ks)-> ∃rest l2,k rest l2=some (x,l',ks)/\ ∀s,s∉ss->l2 s=lv s:=by
  intro ss
  induction ss with
  |nil=>intro os lv k h;exact⟨os,lv,h,λ_ _=>rfl⟩
  |cons s ss ih=>
   intro os lv k h;have fin: ∀(os':List Obj) (o':Obj),Uu cf.P (cf.fzb f) ss os' (lv.put s o') k=some (x,l',ks)-> ∃rest l2,k rest l2=some (x,l',ks)/\ ∀a,a∉s::ss->l2 a=lv a:=by
    intro os' o' h';obtain⟨rest,l2,q1,q2⟩:=ih h';refine⟨rest,l2,q1,λa ha=> ?_⟩;have ha':a≠s/\a∉ss:=by simpa using ha
    rw[q2 a ha'.2,Zc lv _ ha'.1]
   unfold Uu at h;split at h
   case h_4=>cases h
   case h_3 g t ps hl=>
    obtain⟨o,os',rfl,h1⟩:=Yp h;obtain⟨g2,ps',rfl,h2⟩:=Zb1 h1;split at h2
    ·obtain⟨_,h3⟩:=Za h2;exact fin _ _ (Ll h3)
    ·cases h2
   case h_1 t fz cs hl=>
    obtain⟨o,os',rfl,h1⟩:=Yp h;obtain⟨cs',rfl,h2⟩:=Gp h1;split at h2
    ·obtain⟨_,h3⟩:=Za h2;exact fin _ _ (Qa h3).2
    ·exact fin _ _ (Za h2).2
   case h_2 t fz cs hl=>
    obtain⟨o,os',rfl,h1⟩:=Yp h;split at h1
    ·obtain⟨cs',rfl,h2⟩:=Gq h1;exact fin _ _ (Za h2).2
    ·obtain⟨fz',cs',rfl,hle,h2⟩:=Zhi h1;exact fin _ _ (Za h2).2
 obtain⟨rest,l2,h5,h6⟩:=key h4;intro s hs;have hns:s∉ss:=λhm=>by
  rcases h2 s hm with e|e
  ·cases e
  ·rw[hs]at e;cases e
 simp only at h5;obtain⟨v,h7,h8⟩:=Pf h5;injection h8 with h8
 injection h8 with _ h8
 injection h8 with h8 _
 rw[<-h8];unfold thaw;split
 ·rfl
 ·exact h6 s hns
theorem Zj5 {cf:Cfg} {o:Oper} {e:Operand->V} {l:Loc} {x:V} {l':Loc} {ks:List Nat} (h:opK cf false o e l (λx l ks=>some (x,l,ks))=some (x,l',ks)) (ha:Mm cf o.op e=true): ∀s,cf.lh.any (Zqv s)=false->l' s=l s:=by
 unfold Mm at ha;split at ha
 case h_3=>cases ha
 case h_2 t a y ho=>
  rw[Zmq]at ha;obtain⟨ha1,ha2⟩:=ha;simp only[opK,ho]at h;generalize e a=va at h ha1;generalize e y=vy at h ha2;have hpk: ∀s off g t' q pe,X3 cf.P l (λx l ks=>some (x,l,ks)) t s off g t' q pe vy=some (x,l',ks)-> ∃o',l'=l.put s o':=by
   intro s off g t' q pe h;obtain⟨_,h⟩:=Za h;cases vy with
   |rp s2 g2 j2 n=>
    cases pe with
    |none=>cases h
    |some e=>
     obtain⟨j,te,row⟩:=e;obtain⟨_,h⟩:=Za h;injection h with h;injection h with _ h;injection h with h _;exact⟨_,h.symm⟩
   |c c=>
    cases pe with
    |some e=>cases h
    |none=>
    cases q with
    |rs te rows=>cases h
    |ps ps=>
     obtain⟨_,h⟩:=Za h;injection h with h;injection h with _ h;injection h with h _;exact⟨_,h.symm⟩
   |ws s2 n2=>cases ha2
   |_=>cases pe<;>cases h
  have hmx: ∀s off t' xs,Yk cf.P l (λx l ks=>some (x,l,ks)) t s off t' xs vy=some (x,l',ks)-> ∃o',l'=l.put s o':=by
   intro s off t' xs h;unfold Yk at h;split at h<;>first|(cases h;done)|(obtain⟨_,h⟩:=Za h;injection h with h;injection h with _ h;injection h with h _;exact⟨_,h.symm⟩)
  have hob: ∀s off,Xl cf.P l (λx l ks=>some (x,l,ks)) false t s off vy=some (x,l',ks)-> ∃o',l'=l.put s o':=by
   intro s off h;unfold Xl at h;have fin: ∀xs:List C,(match l s with
     | .ob t' fz cs=>need (Zqv xs.length (Zg cf.P t)&&Zqw fz off&&Zqw (off+xs.length) cs.length&&(cf.P.info? t).isSome) (some (V.und,l.put s (.ob t' fz (putAt cs off xs)),([]:List Nat)))
     | .sb t' fz cs=>need (Zqv xs.length (Zg cf.P t)&&Zqw fz off&&Zqw (off+xs.length) cs.length&&(cf.P.info? t).isSome) (some (V.und,l.put s (.sb t' fz (putAt cs off xs)),([]:List Nat)))
     |_=>none)=some (x,l',ks)-> ∃o',l'=l.put s o':=by
    intro xs h;split at h<;>first|(cases h;done)|(obtain⟨_,h⟩:=Za h;injection h with h;injection h with _ h;injection h with h _;exact⟨_,h.symm⟩)
   cases vy with
   |c c=>exact fin _ h
   |agg cs=>exact fin _ h
   |rp s2 g2 j2 n=>simp[pur,Xd]at h
   |_=>cases ha2
  intro s hs;unfold Xo at h;cases va with
  |ptr s1 off=>
   have hne:s≠s1:=λe=>by
    have h1:cf.lh.any (Zqv s1)=true:=ha1;rw[<-e,hs]at h1;cases h1
   have: ∃o',l'=l.put s1 o':=by
    simp only at h;split at h
    ·cases hb:(A8 vy&&(Zqv _ 1||Zlc cf (.ptr s1 off))&&Zqv _ 0)with
     |true=>rw[hb]at h;exact hmx _ _ _ _ h
     |false=>rw[hb]at h;exact hob _ _ h
    ·exact hob _ _ h
    ·exact hmx _ _ _ _ h
    ·exact hpk _ _ _ _ _ _ h
    ·cases h
   obtain⟨o',rfl⟩:=this;exact Zc _ _ hne
  |_=>cases ha1
 case h_1 c ho=>
  split at ha
  case h_3=>cases ha
  case h_2 hc=>
   split at ha
   case h_2=>cases ha
   case h_1 a y hargs=>
    rw[Zmq]at ha;obtain⟨ha1,ha2⟩:=ha;simp only[opK,ho,hc,hargs]at h;intro s hs;cases hd:o.dst with
    |none=>rw[hd]at h;cases h
    |some d=>
    rw[hd]at h;cases hT:c.argTypes.toList with
    |nil=>rw[hT]at h;cases h
    |cons T Ts=>
    cases Ts with
    |nil=>rw[hT]at h;cases h
    |cons T' Ts=>
    cases Ts with
    |cons _ _=>rw[hT]at h;cases h
    |nil=>
    rw[hT]at h;cases hva:e a with
    |rw s1 g j n=>
     simp only[hva]at h;rw[hva]at ha1;have hne:s≠s1:=λe=>by
      have h1:cf.lh.any (Zqv s1)=true:=ha1;rw[<-e,hs]at h1;cases h1
     cases hb:Zqv T T' with
     |false=>
      rw[hb]at h;simp only[Zds,cond_false,Xn]at h;split at h
      ·rename_i _ _ e1 _;cases e1
      ·cases h
     |true=>
      rw[hb]at h;simp only[Zds,cond_true,Y5]at h;split at h
      case h_2=>cases h
      split at h
      case h_2=>cases h
      obtain⟨m,cs,h1,h2⟩:=Q5 h;split at h2
      case h_2=>cases h2
      obtain⟨_,h3⟩:=Za h2;obtain⟨p,_,h4⟩:=To h3;cases p with
      |c c=>cases h4
      |r te row=>
       obtain⟨_,h5⟩:=Za h4;injection h5 with h5;injection h5 with _ h5;injection h5 with h5 _
       rw[<-h5];exact Zc _ _ hne
    |_=>rw[hva]at ha1;cases ha1
  case h_1 f hc=>
   rw[Zmq]at ha;obtain⟨hx,ha⟩:=ha;rw[Zmq,Znn]at hx;obtain⟨hnb,hx⟩:=hx;have hx:cf.xo f=[]:=by cases hq:cf.xo f with
    |nil=>rfl
    |cons a b=>rw[hq]at hx;cases hx
   simp only[opK,ho,hc,Sm,hnb,hx]at h;have hcd:N5 cf false (cf.hand f) [] f (c.args.toList.map e) o.type o.dst l (λx l ks=>some (x,l,ks))=Um cf false (cf.hand f) [] f (c.args.toList.map e) o.type o.dst l (λx l ks=>some (x,l,ks)):=by
    cases hca:c.args.toList with
    |nil=>rfl
    |cons a0 as=>
     rw[hca]at ha;rw[Zoq,Zmq]at ha;rw[Zn0];cases hea:e a0<;>first|rfl|(rw[hea]at ha;cases ha.1)
   rw[hcd]at h;exact Zfo h (by rw[List.all_map];exact ha)
end
end Go.PM
