/- Parts put together: PMw, PMx, PMy, PMz, PNr, PNs, PNt, PNu, PNq, PNv, PNa. -/
import Derived.Test.YtobmbacppbkgeaaGreatDoorJ3
import Derived.LoopN
set_option linter.unusedSimpArgs false
set_option linter.unusedVariables false
open Array renaming getD→Zri
open List renaming foldr→Zrj,range'→Zrk,head?→Zrl,length_eq_zero_iff→Zrm,zip_cons_cons→Zrn
open Nat renaming beq→Zqv,blt→Zq3,add_assoc→Zq9
namespace Go.PM
open Go
variable {P:Program}
theorem B5 {o:Op} (h:Zl o=true):Yo o=false:=by cases o<;>simp_all [Zl,Yo]
theorem Pq {cf:Cfg} {o:Oper} (h:cf.wr o=true):cf.qu o=false:=by
 unfold Cfg.wr at h;unfold Cfg.qu;cases hl:cf.loudO o with
 |true=>simp
 |false=>rw[hl,Bool.or_false]at h;rw[B5 h];rfl
section
variable {cf:Cfg} {ops:Array Oper} {A:Fr} {Q:Exit->Act->World->Prop}
theorem Z6 (σ:St) (d:Option Nat) (x:V) (l:Loc):σ.after d x l []=σ.put d x l:=by cases d<;>rfl
theorem Tp {o:Oper} {strict:Bool} {e e':Operand->V} (h: ∀y∈o.op.operands,e y=e' y):Xw cf strict o e=Xw cf strict o e':=by
 cases strict with
 |false=>rfl
 |true=>
 obtain⟨dst,op,type,pos,after,guard⟩:=o;simp only[Xw];have e1:Mm cf op e=Mm cf op e':=by
  cases op<;>simp only[Mm]
  case store t a x=>
   simp only[Op.operands]at h;rw[h a (by simp),h x (by simp)]
  rename_i c;have: ∀a∈c.args.toList,e a=e' a:=λa ha=>h a (by simp[Op.operands,Call.operands];exact .inr (by simpa using ha));split
  ·congr 1
   rw[Zop,Zm7,Zm7];exact⟨λq a ha=>by rw[<-this a ha];exact q a ha,λq a ha=>by rw[this a ha];exact q a ha⟩
  ·split
   ·rename_i a x hax;rw[this a (by simp[hax]),this x (by simp[hax])]
   ·rfl
  ·rfl
 have e2:Jh cf.lh op e=Jh cf.lh op e':=by
  cases op<;>simp only[Jh]<;>simp only[Op.operands]at h
  case call c=>
   have: ∀a∈c.args.toList,e a=e' a:=λa ha=>h a (by simp[Call.operands];exact .inr (by simpa using ha));rw[Zop,Zm7,Zm7];exact⟨λq a ha=>by rw[<-this a ha];exact q a ha,λq a ha=>by rw[this a ha];exact q a ha⟩
  all_goals (first|rfl|(rw[h _ (by simp)];done))
 have e3:Ny op e=Ny op e':=by
  cases op<;>simp only[Ny]<;>simp only[Op.operands]at h
  case buildSlice T n parts=>
   rw[Zop,Zm7,Zm7];have: ∀p∈parts.toList,e p.2=e' p.2:=λp hp=>h p.2 (by simp;exact⟨p.1,by simpa using hp⟩);exact⟨λq p hp=>by rw[<-this p hp];exact q p hp,λq p hp=>by rw[this p hp];exact q p hp⟩
  case makeSlice T n c=>rw[h n (by simp),h c (by simp)]
  case build T parts=>
   rw[Zop,Zm7,Zm7];have: ∀p∈parts.toList,e p.2=e' p.2:=λp hp=>h p.2 (by simp;exact⟨p.1,by simpa using hp⟩);exact⟨λq p hp=>by rw[<-this p hp];exact q p hp,λq p hp=>by rw[this p hp];exact q p hp⟩
  case call c=>
   have: ∀a∈c.args.toList,e a=e' a:=λa ha=>h a (by simp[Call.operands];exact .inr (by simpa using ha));split
   ·rw[Zop,Zm7,Zm7];exact⟨λq a ha=>by rw[<-this a ha];exact q a ha,λq a ha=>by rw[this a ha];exact q a ha⟩
   ·rfl
  all_goals (first|rfl|(rw[h _ (by simp)];done)|(rw[h _ (by simp),h _ (by simp)];done)|(rename_i T x i;rw[h x (by simp),h i (by simp)]))
 rw[e1,e2,e3]
theorem Zl3 {L:List Nat} {o:Op} {e:Operand->V} (h:Ny o e=true):Jh L o e=true:=by
 have off: ∀{x:V},Z7 x=true->V0 L x=true:=λ{x} h=>by cases x<;>first|rfl|cases h
 cases o with
 |load t a=>exact off h
 |nilCheck x=>exact off h
 |fieldAddr T x f=>exact off h
 |indexAddr T x i=>exact off (Znh.1 h).1
 |buildSlice T n parts=>rfl
 |makeSlice T n c=>rfl
 |build T parts=>rfl
 |call c=>
  have h':(c.args.toList.all λa=>Z7 (e a))=true:=by
   simp only[Ny]at h;split at h
   ·exact h
   ·cases h
  exact Zm7.2 λa ha=>off (Zm7.1 h' a ha)
 |_=>cases h
theorem Zd5 {o:Oper} {σ σ1:St} (hbar:cf.barO o=false) (h:gop cf true (λj=>(ops[j]?).bind (·.dst)) o σ=some σ1):
  ∃x l',σ1=σ.put o.dst x l'/\(cf.wr o=false->l'=σ.loc)/\(cf.loudO o=true-> ∀s,cf.lh.any (Zqv s)=false->l' s=σ.loc s)/\ ∀σ2:St,(∀t∈o.looksAt ops,σ2.get t=σ.get t)->(σ2.loc=σ.loc\/cf.qu o=true\/(cf.wr o=false/\cf.exO o=false/\ ∀s,cf.lh.any (Zqv s)=false->σ2.loc s=σ.loc s))->
   gop cf true (λj=>(ops[j]?).bind (·.dst)) o σ2=some (σ2.put o.dst x (bif cf.wr o then l' else σ2.loc)):=by
 have hst:cf.stz true o=(true,cf.al++cf.prl o):=by simp[Cfg.stz,hbar]
 have run:opK cf (cf.str true o) o (σ.ev cf.glob) σ.loc (λx l ks=>need (Sc (cf.stz true o) (lz true l) ks&&Xw cf true o (σ.ev cf.glob)) (some (σ.after o.dst x l ks)))=some σ1-> ∃x l',σ1=σ.put o.dst x l'/\(cf.wr o=false->l'=σ.loc)/\(cf.loudO o=true-> ∀s,cf.lh.any (Zqv s)=false->l' s=σ.loc s)/\ ∀σ2:St,(∀t∈o.looksAt ops,σ2.get t=σ.get t)->(σ2.loc=σ.loc\/cf.qu o=true\/(cf.wr o=false/\cf.exO o=false/\ ∀s,cf.lh.any (Zqv s)=false->σ2.loc s=σ.loc s))->
   opK cf (cf.str true o) o (σ2.ev cf.glob) σ2.loc (λx l ks=>need (Sc (cf.stz true o) (lz true l) ks&&Xw cf true o (σ2.ev cf.glob)) (some (σ2.after o.dst x l ks)))=some (σ2.put o.dst x (bif cf.wr o then l' else σ2.loc)):=by
  intro hk;have same: ∀σ2:St,(∀t∈o.looksAt ops,σ2.get t=σ.get t)-> ∀y∈o.op.operands,σ2.ev cf.glob y=σ.ev cf.glob y:=by
   intro σ2 ht y hy;cases y with
   |tmp t=>exact ht t (Zn3 _ (Zoh.2 ⟨.tmp t,by simpa using hy,rfl⟩))
   |_=>rfl
  have sepc: ∀σ2:St,(∀t∈o.looksAt ops,σ2.get t=σ.get t)->Xw cf true o (σ2.ev cf.glob)=Xw cf true o (σ.ev cf.glob):=λσ2 ht=>Tp (same σ2 ht);cases hl:cf.loudO o with
  |false=>
   have e1:cf.str true o=true:=by simp[Cfg.str,hl,hbar]
   have e2:cf.wr o=Zl o.op:=by simp[Cfg.wr,hl]
   have e3:cf.qu o=Yo o.op:=by simp[Cfg.qu,hl]
   have e4:cf.exO o=false-> ∀e,Xw cf true o e=true->Jh cf.lh o.op e=true:=λh e q=>by
    cases hp:cf.plO o with
    |true=>exact Zl3 (by simpa[Xw,hl,hbar,hp]using q)
    |false=>simpa[Xw,hl,hbar,h,hp]using q
   rw[e1]at hk⊢;rw[e2,e3];obtain⟨x,l',h1,h2,h3⟩:=B3 hk;obtain⟨h0,h3⟩:=Za h3;have h0:=(Znh.1 h0).2;injection h3 with h3
   refine⟨x,l',by rw[<-h3,Z6],h1,λh=>(by cases h),λσ2 ht hl2=> ?_⟩;have fin: ∀(l3:Loc),need (Sc (cf.stz true o) (lz true l3) []&&Xw cf true o (σ2.ev cf.glob)) (some (σ2.after o.dst x l3 []))=some (σ2.put o.dst x l3):=λl3=>by
    rw[sepc σ2 ht,h0,Z6,hst];rfl
   rw[Su (e':=σ.ev cf.glob) (same σ2 ht)];rcases hl2 with hl2|hl2|⟨hw,hex,hl2⟩
   ·rw[h2 σ2.loc _ (.inl hl2)];exact fin _
   ·rw[h2 σ2.loc _ (.inr hl2)];exact fin _
   ·obtain⟨x',h5,h6⟩:=Zj4 hk hw (e4 hex _ h0);obtain⟨_,h6⟩:=Za h6;injection h6 with h6
    have h1':=h1 hw;subst h1';have h7:=h2 σ.loc (λx l ks=>some (x,l,ks)) (.inl rfl);have h8:opK cf true o (σ.ev cf.glob) σ.loc (λx l ks=>some (x,l,ks))=some (x',σ.loc,[]):=h5 σ.loc (λx l ks=>some (x,l,ks)) (λ_ _=>rfl);rw[h7]at h8;injection h8 with h8
    injection h8 with h8 _
    subst h8;refine(h5 σ2.loc _ hl2).trans ?_;rw[hw];exact fin _
  |true=>
   have e1:cf.str true o=false:=by simp[Cfg.str,hl]
   have e2:cf.wr o=true:=by simp[Cfg.wr,hl]
   have e3:cf.qu o=false:=by simp[Cfg.qu,hl]
   have e4: ∀e,Xw cf true o e=Mm cf o.op e:=λe=>by simp[Xw,hl,hbar]
   rw[e1]at hk⊢;rw[e2,e3];obtain⟨x,l',ks,h1,h2⟩:=Hu hk;obtain⟨h3,h4⟩:=Za h2;have h0:=(Znh.1 h3).2;obtain rfl:=Zhv (hst▸(Znh.1 h3).1);injection h4 with h4
   refine⟨x,l',by rw[<-h4,Z6],λh=>(by cases h),λ_=>Zj5 (h1 _) (by rw[<-e4];exact h0),λσ2 ht hl=> ?_⟩;rcases hl with hl|hl|hl
   ·rw[Su (e':=σ.ev cf.glob) (same σ2 ht),hl];refine(h1 _).trans ?_;show need (Sc (cf.stz true o) (lz true l') []&&Xw cf true o (σ2.ev cf.glob)) (some (σ2.after o.dst x l' []))=_;rw[sepc σ2 ht,h0,Z6,hst];rfl
   ·cases hl
   ·cases hl.1
 have idle:some (σ.after o.dst .un σ.loc [])=some σ1-> ∃x l',σ1=σ.put o.dst x l'/\(cf.wr o=false->l'=σ.loc)/\(cf.loudO o=true-> ∀s,cf.lh.any (Zqv s)=false->l' s=σ.loc s)/\ ∀σ2:St,(∀t∈o.looksAt ops,σ2.get t=σ.get t)->(σ2.loc=σ.loc\/cf.qu o=true\/(cf.wr o=false/\cf.exO o=false/\ ∀s,cf.lh.any (Zqv s)=false->σ2.loc s=σ.loc s))->
   some (σ2.after o.dst .un σ2.loc [])=some (σ2.put o.dst x (bif cf.wr o then l' else σ2.loc)):=by
  intro hk;injection hk with hk
  refine⟨.un,σ.loc,by rw[<-hk,Z6],λ_=>rfl,λ_ _ _=>rfl,λσ2 _ hl=> ?_⟩;rw[Z6];cases hw:cf.wr o
  ·rfl
  ·rcases hl with hl|hl|hl
   ·rw[hl];rfl
   ·rw[Pq hw]at hl;cases hl
   ·rw[hw]at hl;cases hl.1
 unfold gop at h;split at h
 ·rename_i hn;obtain⟨x,l',h1,h2,h2',h3⟩:=run h;exact⟨x,l',h1,h2,h2',λσ2 ht hl=>by simp only[gop,hn];exact h3 σ2 ht hl⟩
 ·rename_i j want hj;split at h
  ·cases h
  ·rename_i d hd;have hin:d∈o.looksAt ops:=by
    refine Zoj _ ?_;rw[hj];have hd':(ops[j]?).bind (·.dst)=some d:=hd;simp only[hd'];simp
   split at h
   ·rename_i q hq;cases hb:(q==want)
    ·rw[hb]at h;obtain⟨x,l',h1,h2,h2',h3⟩:=idle h;exact⟨x,l',h1,h2,h2',λσ2 ht hl=>by simp only[gop,hj,hd,ht d hin,hq,hb,cond_false];exact h3 σ2 ht hl⟩
    ·rw[hb]at h;obtain⟨x,l',h1,h2,h2',h3⟩:=run h;exact⟨x,l',h1,h2,h2',λσ2 ht hl=>by simp only[gop,hj,hd,ht d hin,hq,hb,cond_true];exact h3 σ2 ht hl⟩
   ·rename_i hq;obtain⟨x,l',h1,h2,h2',h3⟩:=idle h;exact⟨x,l',h1,h2,h2',λσ2 ht hl=>by simp only[gop,hj,hd,ht d hin,hq];exact h3 σ2 ht hl⟩
   ·cases h
theorem X8 {σ:St} {d:Option Nat} {x:V} {l:Loc} {t:Nat} (h: ∀d',d=some d' ->d'≠t):(σ.put d x l).get t=σ.get t:=by
 cases d with
 |none=>rfl
 |some d=>
  have:=h d rfl;exact Sl.set_ne this
theorem put_comm {σ:St} {d d':Option Nat} {x x':V} {l l' l1 l2:Loc} (h: ∀e,d=some e->d'≠some e) (hl:l'=l2):(σ.put d x l).put d' x' l'=(σ.put d' x' l1).put d x l2:=by
 cases d with
 |none=>cases d'<;>simp[St.put,hl]
 |some e=>
  cases d' with
  |none=>simp[St.put,hl]
  |some e'=>
   have hne:e≠e':=λhe=>h e rfl (he▸rfl);simp only[St.put,hl];rw[Sl.set_comm _ _ _ hne]
theorem V5 (σ:St) (d:Option Nat) (x:V) (l:Loc):(σ.put d x l).loc=l:=by cases d<;>rfl
theorem Zaa (ks:List Nat) (sl:Sl) (t:Nat):(Yd ks sl).get t=ks.foldr (λs x=>V.kill s x) (sl.get t):=by
 induction ks with
 |nil=>rfl
 |cons s ks ih=>
  show((Yd ks sl).map (V.kill s)).get t=_;rw[Zpa,<-ih];by_cases h:t<(Yd ks sl).length
  ·rw[Sl.map_lt h]
  ·rw[Sl.get_ge (by simpa using h),Sl.get_ge h];rfl
theorem X2 (ks:List Nat) (sl:Sl) (d:Nat) (x:V):Yd ks (sl.set d x)=(Yd ks sl).set d (ks.foldr (λs x=>V.kill s x) x):=by
 induction ks with
 |nil=>rfl
 |cons s ks ih=>
  show(Yd ks (sl.set d x)).map (V.kill s)=((Yd ks sl).map (V.kill s)).set d _;rw[ih];simp only[Sl.map,Sl.set,Zpa]
  congr 1
  funext t
  cases Zqv t d<;>rfl
def Zu (ks:List Nat) (x:V):V:=ks.foldr (λs x=>V.kill s x) x
theorem Xt (ks:List Nat) (c:C):Zu ks (.c c)= .c c:=by
 induction ks with
 |nil=>rfl
 |cons s ks ih=>show V.kill s (Zu ks (.c c))=_;rw[ih];rfl
theorem Fc (ks:List Nat) (cs:List C):Zu ks (.agg cs)= .agg cs:=by
 induction ks with
 |nil=>rfl
 |cons s ks ih=>show V.kill s (Zu ks (.agg cs))=_;rw[ih];rfl
theorem My (ks:List Nat):Zu ks .und= .und:=by
 induction ks with
 |nil=>rfl
 |cons s ks ih=>show V.kill s (Zu ks .und)=_;rw[ih];rfl
theorem B6 (ks:List Nat) (x:Value):Zu ks (Kh x)=Kh x:=by
 unfold Kh;split
 ·split
  ·exact Fc _ _
  ·exact My _
 ·split
  ·exact Xt _ _
  ·exact My _
theorem Vs {y:Operand} {σ:St} {d:Option Nat} {v:V} {l:Loc} {ks:List Nat} (h: ∀t,y= .tmp t->d≠some t):(σ.after d v l ks).ev cf.glob y=Zu ks (σ.ev cf.glob y):=by
 cases y with
 |tmp t=>
  have h1:(σ.after d v l ks).get t=(Yd ks σ.slots).get t:=by
   unfold St.after;rw[X8 (λd' hd e=>h t rfl (hd.trans (congrArg some e)))];rfl
  show(σ.after d v l ks).get t=Zu ks (σ.get t);rw[h1];exact Zaa ks σ.slots t
 |const x=>exact(B6 ks x).symm
 |global g=>
  show(match cf.glob g with|some cs=>V.c (.cp cs)|none=> .und)=Zu ks (match cf.glob g with|some cs=>V.c (.cp cs)|none=> .und);split
  ·exact(Xt _ _).symm
  ·exact(My _).symm
 |func f=>exact(Xt _ _).symm
theorem Zx (σ:St) (d:Option Nat) (v:V) (l:Loc) (ks:List Nat):(σ.after d v l ks)=⟨match d with|some t=>(Yd ks σ.slots).set t v|none=>Yd ks σ.slots,l⟩:=by
 unfold St.after;cases d<;>rfl
theorem D4 {o:Oper} (hs:cf.still o=true): ∃y,o.op.operands= #[y]/\ ∀σ:St,gop cf true (λj=>(ops[j]?).bind (·.dst)) o σ=some (σ.after o.dst (σ.ev cf.glob y) σ.loc []):=by
 unfold Cfg.still at hs;rw[Zmq,Zmq]at hs;obtain⟨⟨hg,hl⟩,hop⟩:=hs;have hl:cf.loudO o=false:=by simpa using hl
 have hg:o.guard=none:=by simpa using hg
 have hz: ∀b l,Sc b l []=true:=λb l=>by obtain⟨b,c⟩:=b;cases b<;>rfl
 split at hop
 ·rename_i y ho;refine⟨y,by rw[ho];rfl,λσ=> ?_⟩;simp only[gop,hg,opK,ho];have:Xw cf true o (σ.ev cf.glob)=true:=by
   have hp:cf.plO o=false:=by simp[Cfg.plO,Zbq,ho]
   unfold Xw;cases hb:cf.barO o<;>simp only[hl,hp];cases cf.exO o
   ·rw[ho];rfl
   ·rfl
  rw[hz,this];rfl
 ·rename_i y ho;refine⟨y,by rw[ho];rfl,λσ=> ?_⟩;simp only[gop,hg,opK,ho];have:Xw cf true o (σ.ev cf.glob)=true:=by
   have hp:cf.plO o=false:=by simp[Cfg.plO,Zbq,ho]
   unfold Xw;cases hb:cf.barO o<;>simp only[hl,hp];cases cf.exO o
   ·rw[ho];rfl
   ·rfl
  rw[hz,this];rfl
 ·cases hop
theorem D5 {o:Oper} (hg:o.guard=none) {σ σ1:St} (h:gop cf true (λj=>(ops[j]?).bind (·.dst)) o σ=some σ1):
  ∃v l ks,σ1=σ.after o.dst v l ks/\ ∀σ2:St,(∀t∈o.looksAt ops,σ2.get t=σ.get t)->σ2.loc=σ.loc->gop cf true (λj=>(ops[j]?).bind (·.dst)) o σ2=some (σ2.after o.dst v l ks):=by
 simp only[gop,hg]at h;obtain⟨v,l,ks,h1,h2⟩:=Hu h;obtain⟨h3,h4⟩:=Za h2;injection h4 with h4
 refine⟨v,l,ks,h4.symm,λσ2 ht hl=> ?_⟩;have same: ∀y∈o.op.operands,σ2.ev cf.glob y=σ.ev cf.glob y:=by
  intro y hy;cases y with
  |tmp t=>exact ht t (Zn3 _ (Zoh.2 ⟨.tmp t,by simpa using hy,rfl⟩))
  |_=>rfl
 simp only[gop,hg];rw[Su (e':=σ.ev cf.glob) same,hl];refine(h1 _).trans ?_;show need (Sc (cf.stz true o) (lz true l) ks&&Xw cf true o (σ2.ev cf.glob)) (some (σ2.after o.dst v l ks))=_;rw[Tp same,h3];rfl
theorem Vt {o:Oper} {t:Nat} (h:Operand.tmp t∈o.op.operands):t∈o.looksAt ops:=Zn3 _ (Zoh.2 ⟨.tmp t,by simpa using h,rfl⟩)
theorem Zab {x y:Oper} (hap:x.apart ops y=true) (hs:cf.still x=true) (hg:y.guard.isNone=true) {σ σ1 σ2:St} (h1:gop cf true (λj=>(ops[j]?).bind (·.dst)) x σ=some σ1) (h2:gop cf true (λj=>(ops[j]?).bind (·.dst)) y σ1=some σ2):
  ∃τ,gop cf true (λj=>(ops[j]?).bind (·.dst)) y σ=some τ/\gop cf true (λj=>(ops[j]?).bind (·.dst)) x τ=some σ2:=by
 obtain⟨a1,a2,a3⟩:=Oper.apart_spec hap;obtain⟨y0,e0,hx⟩:=D4 (ops:=ops) hs;rw[hx]at h1;injection h1 with h1
 rw[Z6]at h1;obtain⟨v,l,ks,e1,hy⟩:=D5 (by simpa using hg) h2;have hy':=hy σ (λt ht=>by rw[<-h1,X8 λd hd e=>a1 d hd (e▸ht)]) (by rw[<-h1,V5]);refine⟨_,hy', ?_⟩;rw[hx,Z6];have hev:(σ.after y.dst v l ks).ev cf.glob y0=Zu ks (σ.ev cf.glob y0):=Vs λt ht e=>a3 t e (Vt (by rw[e0,ht];simp));rw[hev,e1,<-h1];have hll:(σ.after y.dst v l ks).loc=l:=by rw[Zx]
 rw[hll,Zx,Zx]
 congr 1
 cases hd:x.dst with
 |none=>rfl
 |some d=>
  simp only[St.put];rw[X2];cases hd':y.dst with
  |none=>rfl
  |some d'=>
   have hne:d≠d':=λe=>a2 d hd (by rw[hd',e]);simp only;rw[Sl.set_comm _ _ _ hne];rfl
theorem Zac {x y:Oper} (hap:x.apart ops y=true) (hs:cf.still y=true) (hg:x.guard.isNone=true) {σ σ1 σ2:St} (h1:gop cf true (λj=>(ops[j]?).bind (·.dst)) x σ=some σ1) (h2:gop cf true (λj=>(ops[j]?).bind (·.dst)) y σ1=some σ2):
  ∃τ,gop cf true (λj=>(ops[j]?).bind (·.dst)) y σ=some τ/\gop cf true (λj=>(ops[j]?).bind (·.dst)) x τ=some σ2:=by
 obtain⟨a1,a2,a3⟩:=Oper.apart_spec hap;obtain⟨y0,e0,hy⟩:=D4 (ops:=ops) hs;obtain⟨v,l,ks,e1,hx⟩:=D5 (by simpa using hg) h1;rw[hy]at h2;injection h2 with h2
 rw[Z6]at h2;refine⟨σ.put y.dst (σ.ev cf.glob y0) σ.loc,by rw[hy,Z6], ?_⟩;rw[hx _ (λt ht=>X8 λd hd e=>a3 d hd (e▸ht)) (V5 _ _ _ _),<-h2,e1];have hev:(σ.after x.dst v l ks).ev cf.glob y0=Zu ks (σ.ev cf.glob y0):=Vs λt ht e=>a1 t e (Vt (by rw[e0,ht];simp));rw[hev];have hll:(σ.after x.dst v l ks).loc=l:=by rw[Zx]
 rw[hll,Zx,Zx]
 congr 1
 cases hd:y.dst with
 |none=>rfl
 |some d=>
  simp only[St.put];rw[X2];cases hd':x.dst with
  |none=>rfl
  |some d'=>
   have hne:d'≠d:=λe=>a2 d' hd' (by rw[hd,e]);simp only;rw[Sl.set_comm _ _ _ hne];rfl
theorem D6 {o:Oper} (hs:cf.maker o=true) {σ σ1:St} (h:gop cf true (λj=>(ops[j]?).bind (·.dst)) o σ=some σ1):
  ∃d n e zs y z,o.dst=some d/\o.op.operands= #[y,z]/\σ1=σ.after (some d) (.own d 0 n) ((σ.loc.kill d).put d (.sb e 0 zs)) [d]/\
   ∀σ2:St,(∀i,Vl (σ.ev cf.glob y)=some i->Vl (σ2.ev cf.glob y)=some i)->(∀i,Vl (σ.ev cf.glob z)=some i->Vl (σ2.ev cf.glob z)=some i)->
    gop cf true (λj=>(ops[j]?).bind (·.dst)) o σ2=some (σ2.after (some d) (.own d 0 n) ((σ2.loc.kill d).put d (.sb e 0 zs)) [d]):=by
 unfold Cfg.maker at hs;rw[Zmq,Zmq,Zmq]at hs;obtain⟨⟨⟨hg,hb⟩,hmx⟩,hop⟩:=hs;simp only[Znn]at hmx;have hg:o.guard=none:=by simpa using hg
 have hst:cf.str true o=false:=by simp[Cfg.str,hb]
 split at hop
 case h_2=>cases hop
 case h_1 t y z ho=>
  simp only[gop,hg,opK,ho,hst]at h;cases hd:o.dst with
  |none=>rw[hd]at h;cases h
  |some d=>
   rw[hd]at h;simp only at h;have hmd:cf.mix d=false:=by rw[hd]at hmx;exact hmx
   rw[hmd]at h;simp only[Q0]at h;unfold X4 at h;split at h
   case h_2=>cases h
   case h_1 el a b hT ha hb'=>
    split at h
    case h_2=>cases h
    case h_1 i zs hi hz=>
     obtain⟨h1,h2⟩:=Za h;obtain⟨h3,h4⟩:=Za h2;injection h4 with h4
     refine⟨d,a.toNat,el,Qw a.toNat zs,y,z,rfl,by rw[ho];rfl,by rw[<-h4],λσ2 q1 q2=> ?_⟩;simp only[gop,hg,opK,ho,hst,hd,hmd,Q0,X4,hT,q1 a ha,q2 b hb',hi,hz,h1];rw[show(Xw cf true o (σ2.ev cf.glob))=true by simp[Xw,hb]];rw[Zmq]at h3;have h3:=h3.1;simp only[lz]at h3⊢;rw[h3];rfl
theorem Zfp {x:V} {s:Nat} {i:Int} (h:Vl (x.kill s)=some i):Vl x=some i:=by
 unfold V.kill at h;cases hx:x.at s with
 |true=>rw[hx]at h;cases x<;>cases h
 |false=>rw[hx]at h;exact h
theorem Zfq {x:V} {s:Nat} {i:Int} (h:Vl x=some i):Vl (x.kill s)=some i:=by
 unfold Vl at h;split at h
 ·rename_i kd j;injection h with h
  subst h;rfl
 ·cases h
theorem Rn (a b:Nat) (x:V):(x.kill a).kill b=(x.kill b).kill a:=by
 have k: ∀(s:Nat) (y:V),y.at s=false->V.kill s y=y:=λs y h=>by unfold V.kill;rw[h];rfl
 have k': ∀(s:Nat) (y:V),y.at s=true->V.kill s y=y.struck:=λs y h=>by unfold V.kill;rw[h];rfl
 have k2: ∀(s:Nat) (y:V),V.kill s y.struck=y.struck:=λs y=>by cases y<;>rfl
 cases ha:x.at a<;>cases hb:x.at b
 ·rw[k a x ha,k b x hb,k a x ha]
 ·rw[k a x ha,k' b x hb,k2]
 ·rw[k' a x ha,k b x hb,k' a x ha,k2]
 ·rw[k' a x ha,k' b x hb,k2,k2]
theorem Zcm (a b:Nat) (o:Obj):(o.kill a).kill b=(o.kill b).kill a:=by
 cases o with
 |mx t xs=>
  simp only[Obj.kill,Zqn]
  congr 1
  apply Zpn;intro x _;exact Rn a b x
 |mf kt et te es q kc x=>simp only[Obj.kill];rw[Rn a b x]
 |ir n x=>simp only[Obj.kill];rw[Rn a b x]
 |_=>rfl
theorem Zad {x y:Oper} (hap:x.apart ops y=true) (hs:cf.maker x=true) (hg:cf.maker y=true) {σ σ1 σ2:St} (h1:gop cf true (λj=>(ops[j]?).bind (·.dst)) x σ=some σ1) (h2:gop cf true (λj=>(ops[j]?).bind (·.dst)) y σ1=some σ2):
  ∃τ,gop cf true (λj=>(ops[j]?).bind (·.dst)) y σ=some τ/\gop cf true (λj=>(ops[j]?).bind (·.dst)) x τ=some σ2:=by
 obtain⟨a1,a2,a3⟩:=Oper.apart_spec hap;obtain⟨d,n,e,zs,p,q,ed,eo,e1,hx⟩:=D6 hs h1;obtain⟨d',n',e',zs',p',q',ed',eo',e2,hy⟩:=D6 hg h2;have hne:d≠d':=λh=>a2 d ed (by rw[ed',h]);have back: ∀w,w∈y.op.operands-> ∀i,Vl (σ1.ev cf.glob w)=some i->Vl (σ.ev cf.glob w)=some i:=λw hw i hi=>by
  rw[e1,Vs (λt ht h=>a1 d ed (by injection h with h;subst h;exact Vt (by rw[<-ht];exact hw)))]at hi;exact Zfp hi
 have hτ:=hy σ (back p' (by rw[eo'];simp)) (back q' (by rw[eo'];simp));refine⟨_,hτ, ?_⟩;have forth: ∀w,w∈x.op.operands-> ∀i,Vl (σ.ev cf.glob w)=some i->Vl ((σ.after (some d') (.own d' 0 n') ((σ.loc.kill d').put d' (.sb e' 0 zs')) [d']).ev cf.glob w)=some i:=λw hw i hi=>by
  rw[Vs (λt ht h=>a3 d' ed' (by injection h with h;subst h;exact Vt (by rw[<-ht];exact hw)))];exact Zfq hi
 rw[hx _ (forth p (by rw[eo];simp)) (forth q (by rw[eo];simp)),e2,e1];have hbe:Zqv d d'=false:=by
  cases hb:Zqv d d'
  ·rfl
  ·exact absurd (Zmp hb) hne
 have hbe':Zqv d' d=false:=by
  cases hb:Zqv d' d
  ·rfl
  ·exact absurd (Zmp hb).symm hne
 simp only[Zx]
 congr 2
 ·rw[X2,X2];have k1:Zrj (λs x=>V.kill s x) (V.own d' 0 n') [d]= .own d' 0 n':=by simp[V.kill,V.at,hbe']
  have k2:Zrj (λs x=>V.kill s x) (V.own d 0 n) [d']= .own d 0 n:=by simp[V.kill,V.at,hbe]
  rw[k1,k2,Sl.set_comm _ _ _ hne]
  congr 2
  show(Yd [d] (Yd [d'] σ.slots))=Yd [d'] (Yd [d] σ.slots);simp only[Yd,Zpa,List.foldr_nil,Sl.map]
  congr 1
  funext t
  exact Rn d' d _
 ·refine Loc.eq (λs=> ?_) rfl;by_cases es:s=d
  ·subst es;rw[Zf,Zc _ _ hne];simp only[Loc.kill,hbe,cond_false];rw[Zf];rfl
  ·rw[Zc _ _ es];by_cases es':s=d'
   ·subst es';rw[Zf];simp only[Loc.kill,hbe',cond_false];rw[Zf];rfl
   ·rw[Zc _ _ es'];have b1:Zqv s d=false:=by
     cases hb:Zqv s d
     ·rfl
     ·exact absurd (Zmp hb) es
    have b2:Zqv s d'=false:=by
     cases hb:Zqv s d'
     ·rfl
     ·exact absurd (Zmp hb) es'
    simp only[Loc.kill,b1,b2,cond_false];rw[Zc _ _ es',Zc _ _ es];simp only[b1,b2,cond_false];exact Zcm d' d _
theorem X9 {ks:List Nat} {x:V} (h:Z7 x=true):Zu ks x=x:=by
 cases x with
 |c c=>exact Xt ks c
 |agg cs=>exact Fc ks cs
 |_=>cases h
theorem Zcn {s:Nat} {x:V} (h:Z7 (x.kill s)=true):Z7 x=true:=by
 unfold V.kill at h;cases hx:x.at s with
 |false=>rw[hx]at h;exact h
 |true=>
  rw[hx]at h;cases x<;>first|rfl|cases h
theorem B7 {ks:List Nat} {x:V} (h:Z7 (Zu ks x)=true):Z7 x=true:=by
 induction ks with
 |nil=>exact h
 |cons s ks ih=>exact ih (Zcn (s:=s) h)
theorem Ku {P:Program} {t:TypeId} {cs:List C} {v:V} (h:ldC P t cs (λv=>some v)=some v):Z7 v=true:=by
 unfold ldC at h;split at h
 ·cases h
 ·split at h
  ·split at h
   ·obtain⟨_,h⟩:=Za h;obtain⟨cs',_,h⟩:=U6 h;injection h with h;subst h;rfl
   ·obtain⟨_,h⟩:=Za h;injection h with h;subst h;rfl
  ·split at h
   ·cases cs with
    |nil=>cases h
    |cons c cs=>
     replace h:Ub _ c (λc'=>some (V.c c'))=some v:=h;obtain⟨c',_,h⟩:=Sr h;injection h with h;subst h;rfl
   ·cases h
theorem Zae {R:Type} {k:Option R}:need true k=k:=id rfl
theorem Zfr (ks:List Nat) (n:Nat) (cs:List C):Zu ks (.fs n cs)= .fs n cs:=by
 induction ks with
 |nil=>rfl
 |cons s ks ih=>show V.kill s (Zu ks (.fs n cs))=_;rw[ih];rfl
theorem Lp {P:Program} {l:Loc} {own full:Bool} {t:TypeId} {n d:Nat} {is:List Nat} {xs:List V} {v:V} (h:Z0 P l (λv _ _=>some v) true own full t n d is xs=some v) (ks:List Nat):Zu ks v=v:=by
 unfold Z0 at h;split at h
 ·split at h
  ·obtain⟨ps,h1,h2⟩:=X1 h;obtain⟨cs,h3,h4⟩:=Ug h2;obtain⟨h5,h6⟩:=Zb h4;cases own
   ·replace h6:some (Zlb full n cs)=some v:=h6;injection h6 with h6
    subst h6;cases full
    ·exact Xt ks _
    ·exact Zfr ks _ _
   ·cases h6
  ·cases h
 ·cases h
theorem Kv (a b:Nat) (x:V):(x.kill a).kill b=(x.kill b).kill a:=by
 have st: ∀(c:Nat) (y:V),V.kill c y.struck=y.struck:=λc y=>by cases y<;>rfl
 unfold V.kill;cases h1:x.at a<;>cases h2:x.at b<;>simp only[cond_true,cond_false,h1,h2]
 ·exact(st a x).symm
 ·exact st b x
 ·rw[show(bif V.at b x.struck then x.struck.struck else x.struck)=x.struck from st b x,show(bif V.at a x.struck then x.struck.struck else x.struck)=x.struck from st a x]
theorem Zaf (xs:List V):xs.map (Zu [])=xs:=by
 rw[show Zu []=id from rfl];exact List.map_id xs
def Zlj (o:Obj):Prop:= ∃g t q pe,o= .pk g t q pe
def Qn (ks:List Nat) (o:Obj):Obj:=ks.foldr (λs o=>Obj.kill s o) o
def Kept (ks:List Nat) (l l':Loc):Prop:= ∀u,u∉ks->l' u=Qn ks (l u)\/Zlj (l u)/\Zlj (l' u)
theorem D7 (ks:List Nat) (t:TypeId) (xs:List V):Qn ks (.mx t xs)= .mx t (xs.map (Zu ks)):=by
 induction ks with
 |nil=>rw[Zaf];rfl
 |cons s ks ih=>
  show Obj.kill s (Qn ks (.mx t xs))=_;rw[ih];show Obj.mx t ((xs.map (Zu ks)).map (V.kill s))=_;rw[Zqn];rfl
theorem Zco {ks:List Nat} {o:Obj} {t:TypeId} {ys:List V} (h:Qn ks o= .mx t ys): ∃xs,o= .mx t xs/\ys=xs.map (Zu ks):=by
 have key: ∀(ks:List Nat) ys,Qn ks o= .mx t ys-> ∃xs,o= .mx t xs:=by
  intro ks
  induction ks with
  |nil=>exact λys e=>⟨_,e⟩
  |cons s ks ih=>
   intro ys e;replace e:Obj.kill s (Qn ks o)= .mx t ys:=e;cases hq:Qn ks o with
   |mx t' xs'=>
    rw[hq]at e;injection e with e1 e2
    subst e1;exact ih _ hq
   |_=>rw[hq]at e;cases e
 obtain⟨xs,rfl⟩:=key ks ys h;rw[D7]at h;injection h with _ e
 exact⟨xs,rfl,e.symm⟩
theorem Zfs (ks:List Nat) (t:TypeId) (fz:Nat) (cs:List C):Qn ks (.ob t fz cs)= .ob t fz cs:=by
 induction ks with
 |nil=>rfl
 |cons s ks ih=>show Obj.kill s (Qn ks _)=_;rw[ih];rfl
theorem Zcp {ks:List Nat} {o:Obj} {t:TypeId} {fz:Nat} {cs:List C} (h:Qn ks o= .ob t fz cs):o= .ob t fz cs:=by
 induction ks with
 |nil=>exact h
 |cons s ks ih=>
  replace h:Obj.kill s (Qn ks o)=_:=h;refine ih ?_;cases hq:Qn ks o<;>rw[hq]at h<;>first|exact h|cases h
theorem Zft (s:Nat) (o:Obj):live (o.kill s)=live o:=by cases o<;>rfl
theorem J0 (ks:List Nat) (o:Obj):live (Qn ks o)=live o:=by
 induction ks with
 |nil=>rfl
 |cons s ks ih=>show live (Obj.kill s (Qn ks o))=_;rw[Zft,ih]
theorem D8 (l:Loc):Kept [] l l:=λ_ _=> .inl rfl
theorem Fe {a b:Nat} (h:a≠b):Zqv a b=false:=by
 cases e:Zqv a b
 ·rfl
 ·exact absurd (Zmp e) h
theorem Ps (l:Loc) (d:Nat) (o:Obj):Kept [d] l ((l.kill d).put d o):=λu hu=> .inl<|by
 have hu:u≠d:=λe=>hu (by simp[e]);show(bif Zqv u d then o else(bif Zqv u d then Obj.dead else(l u).kill d))=_;rw[Fe hu];rfl
theorem Zag (l:Loc) (s d:Nat) (o:Obj):Kept [s,d] l (((l.kill s).kill d).put d o):=λu hu=> .inl<|by
 have h1:u≠s:=λe=>hu (by simp[e]);have h2:u≠d:=λe=>hu (by simp[e]);show(bif Zqv u d then o else(bif Zqv u d then Obj.dead else(bif Zqv u s then Obj.dead else(l u).kill s).kill d))=_;rw[Fe h1,Fe h2];show((l u).kill s).kill d=((l u).kill d).kill s;cases l u<;>try rfl
 ·show Obj.mx _ ((List.map (V.kill s) _).map (V.kill d))=Obj.mx _ ((List.map (V.kill d) _).map (V.kill s));rw[Zqn,Zqn]
  congr 2
  funext x
  exact Kv s d x
 ·show Obj.mf _ _ _ _ _ _ ((V.kill s _).kill d)=Obj.mf _ _ _ _ _ _ ((V.kill d _).kill s);rw[Kv]
 ·show Obj.ir _ ((V.kill s _).kill d)=Obj.ir _ ((V.kill d _).kill s);rw[Kv]
theorem Zh6 (l:Loc) (s g:Nat) (t:TypeId) (q:_) (pe:_) (q':_) (pe':_) (g':Nat) (h:l s= .pk g t q pe):Kept [] l (l.put s (.pk g' t q' pe')):=by
 intro u _;cases hb:Zqv u s with
 |true=>
  have:=Zmp hb;subst this;refine .inr ⟨⟨_,_,_,_,h⟩,g',t,q',pe', ?_⟩;show(bif Zqv u u then _ else _)=_;rw[hb];rfl
 |false=>
  refine .inl ?_;show(bif Zqv u s then _ else l u)=l u;rw[hb];rfl
def Zh7 (ks:List Nat) (l l2:Loc):Prop:=Kept ks l l2\/Kept ks l2 l
theorem Zj6 {ks:List Nat} {l l2:Loc} (h:Zh7 ks l l2) {s:Nat} (hs:s∉ks) {t:TypeId} {fz:Nat} {cs:List C} (e:l s= .ob t fz cs):l2 s= .ob t fz cs:=by
 rcases h with h|h
 ·rcases h s hs with h|⟨⟨_,_,_,_,h⟩,_⟩
  ·rw[h,e,Zfs]
  ·rw[e]at h;cases h
 ·rcases h s hs with h|⟨_,⟨_,_,_,_,h⟩⟩
  ·exact Zcp (h.symm.trans e)
  ·rw[e]at h;cases h
theorem Zfu {ks:List Nat} {l l2:Loc} (h:Zh7 ks l l2) {s:Nat} (hs:s∉ks):live (l2 s)=live (l s):=by
 rcases h with h|h
 ·rcases h s hs with h|⟨⟨_,_,_,_,h⟩,_,_,_,_,h2⟩
  ·rw[h,J0]
  ·rw[h,h2];rfl
 ·rcases h s hs with h|⟨⟨_,_,_,_,h⟩,_,_,_,_,h2⟩
  ·rw[h,J0]
  ·rw[h,h2];rfl
theorem Zah {cf:Cfg} {T:TypeId} {s x:V} {d:Nat} {l l':Loc} {v:V} {ks:List Nat} (h:Y5 cf T s x d l (λv l ks=>some (v,l,ks))=some (v,l',ks)):Kept ks l l':=by
 have fin: ∀{v0:V} {l0:Loc} {ks0:List Nat},some (v0,l0,ks0)=some (v,l',ks)->Kept ks0 l l0->Kept ks l l':=λe hk=>by
  injection e with e
  injection e with _ e
  injection e with e1 e2
  subst e1;subst e2;exact hk
 unfold Y5 at h;split at h
 ·split at h
  ·obtain⟨m,cs,h1,h2⟩:=Q5 h;split at h2
   ·exact fin (Zb h2).2 (Ps _ _ _)
   ·split at h2
    ·exact fin (Zb h2).2 (Zag _ _ _ _)
    ·exact fin (Zb h2).2 (Zag _ _ _ _)
    ·cases h2
   ·split at h2
    ·rename_i hl;obtain⟨h3,h4⟩:=Zb h2;obtain⟨p,h5,h6⟩:=To h4;cases p with
     |c c=>cases h6
     |r te row=>exact fin (Zb h6).2 (Zh6 _ _ _ _ _ _ _ _ _ hl)
    ·cases h2
   ·obtain⟨n1,olds,h3,h4⟩:=Q5 h2;split at h4
    ·exact fin (Zb h4).2 (Ps _ _ _)
    ·exact fin (Zb h4).2 (D8 _)
   ·cases h2
  ·cases h
 ·cases h
theorem B8 {P:Program} {T T':TypeId} {s x:V} {d:Nat} {l l':Loc} {v:V} {ks:List Nat} (h:Xn P l (λv l ks=>some (v,l,ks)) T T' s x d=some (v,l',ks)):Kept ks l l':=by
 unfold Xn at h;split at h
 ·split at h
  ·have h:=(Zb h).2;injection h with h
   injection h with _ h
   injection h with e1 e2
   subst e1;subst e2;exact Ps _ _ _
  ·cases h
 ·cases h
theorem Zcq {P:Program} {l l':Loc} {strict own full:Bool} {t:TypeId} {n d:Nat} {v:V} {ks:List Nat} (h:Yr P l (λv l ks=>some (v,l,ks)) strict own full t n d [] []=some (v,l',ks)):Kept ks l l':=by
 have fin: ∀{v0:V} {l0:Loc} {ks0:List Nat},some (v0,l0,ks0)=some (v,l',ks)->Kept ks0 l l0->Kept ks l l':=λe hk=>by
  injection e with e
  injection e with _ e
  injection e with e1 e2
  subst e1;subst e2;exact hk
 have hK:Z0 P l (λv l ks=>some (v,l,ks)) strict own full t n d [] []=some (v,l',ks)->Kept ks l l':=λh=>by
  unfold Z0 at h;split at h
  ·split at h
   ·simp only[Nx,V2]at h;replace h:=(Zb h).2;split at h
    ·exact fin h (Ps _ _ _)
    ·cases h
    ·exact fin h (D8 _)
   ·cases h
  ·cases h
 cases own<;>cases full<;>cases strict<;>first|exact hK h|skip
 replace h:Xh P l (λv l ks=>some (v,l,ks)) t n d [] []=_:=h;unfold Xh at h;split at h
 ·split at h
  ·rename_i hp;injection hp with hp
   subst hp;replace h:=(Zb (show need _ _=some (v,l',ks) from h)).2;exact fin h (Ps _ _ _)
  ·cases h
 ·cases h
theorem Zl4 {cf:Cfg} {o:Oper} {strict:Bool} (hs:cf.apO o=true) {e:Operand->V} {l l':Loc} {v:V} {ks:List Nat} (h:opK cf strict o e l (λv l ks=>some (v,l,ks))=some (v,l',ks)):Kept ks l l':=by
 unfold Cfg.apO at hs;rw[Zmq,Zmq,Zmq]at hs;obtain⟨_,_,_,hs⟩:=hs;split at hs
 ·rename_i c ho;split at hs
  ·rename_i hc;simp only[opK,ho,hc]at h;split at h
   ·split at h
    ·rename_i T T' _ _ _ _ _;cases hb:Zqv T T' with
     |false=>rw[hb]at h;exact B8 h
     |true=>rw[hb]at h;exact Zah h
    ·cases h
   ·cases h
  ·cases hs
 ·rename_i T n parts ho;split at hs
  ·rename_i hp;simp only[opK,ho]at h;split at h
   ·rename_i d hd;rw[hp]at h;exact Zcq h
   ·cases h
  ·cases hs
 ·cases hs
theorem Zl5 {R:Type} {P:Program} {o:Oper} {e:Operand->V} {l:Loc} {k:V->Loc->List Nat->Option R} {r:R} (hp:cf.P=P) (h:opK cf true o e l k=some r) (hpl:Ny o.op e=true):
  ∃v,(∀ks,Zu ks v=v)/\(∀{S:Type} (l2:Loc) (k':V->Loc->List Nat->Option S),opK cf true o e l2 k'=k' v l2 [])/\k v l []=some r:=by
 cases ho:o.op with
 |buildSlice T n parts=>
  simp only[opK,ho]at h;split at h
  ·rename_i d hd;rw[X6]at h;obtain⟨x,h1,h2⟩:=Rz h;exact⟨x,λks=>Lp (h1 l λv _ _=>some v) ks,λl2 k'=>by simp only[opK,ho,hd,X6];exact h1 l2 k',h2⟩
  ·cases h
 |call c=>
  rw[ho]at hpl;cases hc:c.callee with
  |builtin b=>
   cases b with
   |len=>
    simp only[opK,ho,hc]at h;have hpl:(c.args.toList.all λa=>Z7 (e a))=true:=by simpa only[Ny,hc]using hpl
    split at h
    ·rename_i x T hx hT;rw[hx]at hpl;have hpx:Z7 (e x)=true:=by simpa using hpl
     obtain⟨v,⟨n,hv⟩,h1,h2⟩:=Zfi hpx h;exact⟨v,λks=>by rw[hv];exact Xt ks _,λl2 k'=>by simp only[opK,ho,hc,hx,hT];exact h1 l2 k',h2⟩
    ·cases h
   |_=>simp[Ny,hc]at hpl
  |_=>simp[Ny,hc]at hpl
 |build t parts=>
  simp only[opK,ho]at h;split at h
  ·cases h
  ·rename_i hm;obtain⟨x,h1,h2⟩:=G4 h;refine⟨x,λks=> ?_,λl2 k'=>by simp only[opK,ho,hm];exact h1 l2 k',h2⟩;have h3:=h1 l λv _ _=>some v;unfold Qh at h3;split at h3
   ·obtain⟨_,h3⟩:=Za h3;obtain⟨ps,q1,q2⟩:=X1 h3;obtain⟨cs,q3,q4⟩:=Ug q2;injection q4 with q4
    rw[<-q4];exact X9 rfl
   ·obtain⟨_,h3⟩:=Za h3;obtain⟨ps,q1,q2⟩:=X1 h3;obtain⟨cs,q3,q4⟩:=Ug q2;injection q4 with q4
    rw[<-q4];exact X9 rfl
   ·cases h3
 |makeSlice t n c=>
  simp only[opK,ho]at h;cases hd:o.dst with
  |none=>rw[hd]at h;cases h
  |some d=>
   rw[hd]at h;obtain⟨x,h1,h2⟩:=N9 h;refine⟨x,λks=> ?_,λl2 k'=>by simp only[opK,ho,hd];exact h1 l2 k',h2⟩;have h3:=h1 l λv _ _=>some v;unfold Xe at h3;split at h3
   ·split at h3
    ·obtain⟨_,h3⟩:=Za h3;injection h3 with h3
     rw[<-h3];exact Xt ks _
    ·cases h3
   ·cases h3
 |load t a=>
  rw[ho]at hpl;simp only[opK,ho,X7]at h;obtain⟨hr,h⟩:=Za h;have hpl:Z7 (e a)=true:=hpl;cases ha:e a with
  |c c=>
   rw[ha]at h;replace h:asP c (λcs=>ldC cf.P t cs λv=>k v l [])=some r:=h;obtain⟨cs,h1,h2⟩:=X5 h;obtain⟨v,h3,h4⟩:=Z9 h2;rw[ha]at hr;have hr: ∀l2,rdC cf.P t true (cf.rdl o) l2 (.c c)=true:=λl2=>by
    cases hq:cf.rdl o with
    |nil=>rfl
    |cons u L=>rw[hq]at hr;cases hr
   exact⟨v,λks=>X9 (Ku (h3 _)),λl2 k'=>by simp only[opK,ho,X7,ha,hr,Zae,Z8,h1,h3],h4⟩
  |agg cs=>rw[ha]at h;cases h
  |_=>rw[ha]at hpl;cases hpl
 |nilCheck x=>
  rw[ho]at hpl;simp only[opK,ho]at h;have hpl:Z7 (e x)=true:=hpl;cases ha:e x with
  |c c=>
   rw[ha]at h;cases c with
   |cp cs=>exact⟨_,λks=>Xt ks _,λl2 k'=>by simp only[opK,ho,ha,R2],h⟩
   |fn f cs=>exact⟨_,λks=>Xt ks _,λl2 k'=>by simp only[opK,ho,ha,R2],h⟩
   |_=>cases h
  |agg cs=>rw[ha]at h;cases h
  |_=>rw[ha]at hpl;cases hpl
 |fieldAddr T x f=>
  rw[ho]at hpl;simp only[opK,ho]at h;obtain⟨hrf,h⟩:=Zb h;have hpl:Z7 (e x)=true:=hpl;cases ha:e x with
  |c c=>
   rw[ha]at h hrf;unfold Zw at h;split at h
   ·rename_i hf;obtain⟨h1,h2⟩:=Zb h;obtain⟨cs,h3,h4⟩:=X5 h2;exact⟨_,λks=>Xt ks _,λl2 k'=>by simp only[opK,ho,ha,hrf,Zw,hf,h1,h3],h4⟩
   ·cases h
  |agg cs=>
   rw[ha]at h;unfold Zw at h;split at h
   ·obtain⟨h1,h2⟩:=Zb h;cases h2
   ·cases h
  |_=>rw[ha]at hpl;cases hpl
 |indexAddr T x i=>
  rw[ho]at hpl;simp only[opK,ho]at h;have hpl:Z7 (e x)=true:=(Znh.1 hpl).1;unfold Zp at h;cases ha:e x with
  |c c=>
   rw[ha]at h;split at h
   ·rename_i h1 h2;split at h
    ·rename_i h3;obtain⟨n,cs,h4,h5⟩:=Uc h;obtain⟨h6,h7⟩:=Zb h5;exact⟨_,λks=>Xt ks _,λl2 k'=>by simp only[opK,ho,ha,Zp,h1,h2,h3,h4,h6],h7⟩
    ·cases h
   ·rename_i h1 h2;split at h
    ·rename_i h3;obtain⟨cs,h4,h5⟩:=X5 h;obtain⟨h6,h7⟩:=Zb h5;exact⟨_,λks=>Xt ks _,λl2 k'=>by simp only[opK,ho,ha,Zp,h1,h2,h3,h4,h6],h7⟩
    ·cases h
   ·cases h
  |agg cs=>
   rw[ha]at h;split at h
   ·split at h<;>cases h
   ·split at h<;>cases h
   ·cases h
  |_=>rw[ha]at hpl;cases hpl
 |_=>rw[ho]at hpl;cases hpl
theorem Zl6 {o:Op} {e:Operand->V} (h:Ny o e=true): ∀y∈o.operands,Z7 (e y)=true:=by
 cases o with
 |load t a=>intro y hy;simp[Op.operands]at hy;subst hy;exact h
 |nilCheck x=>intro y hy;simp[Op.operands]at hy;subst hy;exact h
 |fieldAddr T x f=>intro y hy;simp[Op.operands]at hy;subst hy;exact h
 |indexAddr T x i=>
  intro y hy;simp[Op.operands]at hy;have h:=Znh.1 h;rcases hy with rfl|rfl
  ·exact h.1
  ·exact h.2
 |call c=>
  cases hc:c.callee with
  |builtin b=>
   cases b with
   |len=>
    have h:(c.args.toList.all λa=>Z7 (e a))=true:=by simpa only[Ny,hc]using h
    intro y hy;simp[Op.operands,Call.operands,hc]at hy;exact Zm7.1 h y (by simpa using hy)
   |_=>simp[Ny,hc]at h
  |_=>simp[Ny,hc]at h
 |build t parts=>
  intro y hy;simp[Op.operands]at hy;obtain⟨i,hy⟩:=hy;exact Zm7.1 (show(parts.toList.all λp=>Z7 (e p.2))=true from h) (i,y) (by simpa using hy)
 |makeSlice t n c=>
  intro y hy;simp[Op.operands]at hy;have h:=Znh.1 h;rcases hy with rfl|rfl
  ·exact h.1
  ·exact h.2
 |buildSlice T n parts=>
  intro y hy;simp[Op.operands]at hy;obtain⟨i,hy⟩:=hy;exact Zm7.1 (show(parts.toList.all λp=>Z7 (e p.2))=true from h) (i,y) (by simpa using hy)
 |_=>cases h
theorem Zh8 {o:Oper} (hs:cf.fxO o=true) {σ σ1:St} (h:gop cf true (λj=>(ops[j]?).bind (·.dst)) o σ=some σ1):
  ∃v,σ1=σ.put o.dst v σ.loc/\(∀ks,(ks.any λs=>cf.al.any (Zqv s))=false->Zu ks v=v)/\
   ∀(σ2:St) (ks:List Nat),((∀y∈o.op.operands,σ2.ev cf.glob y=Zu ks (σ.ev cf.glob y))\/ ∀y∈o.op.operands,σ.ev cf.glob y=Zu ks (σ2.ev cf.glob y))->gop cf true (λj=>(ops[j]?).bind (·.dst)) o σ2=some (σ2.put o.dst v σ2.loc):=by
 unfold Cfg.fxO at hs;rw[Zmq,Zmq,Zmq]at hs;obtain⟨hg,hl,hb,hop⟩:=hs;have hg:o.guard=none:=by simpa using hg
 have hl:cf.loudO o=false:=by simpa using hl
 have hb:cf.barO o=false:=by simpa using hb
 have hst:cf.str true o=true:=by simp[Cfg.str,hl,hb]
 have hz: ∀z l,Sc z l []=true:=λz l=>by obtain⟨b,c⟩:=z;cases b<;>rfl
 simp only[gop,hg,hst]at h;have pl:cf.plO o=true-> ∃v,σ1=σ.put o.dst v σ.loc/\(∀ks,(ks.any λs=>cf.al.any (Zqv s))=false->Zu ks v=v)/\
   ∀(σ2:St) (ks:List Nat),((∀y∈o.op.operands,σ2.ev cf.glob y=Zu ks (σ.ev cf.glob y))\/ ∀y∈o.op.operands,σ.ev cf.glob y=Zu ks (σ2.ev cf.glob y))->gop cf true (λj=>(ops[j]?).bind (·.dst)) o σ2=some (σ2.put o.dst v σ2.loc):=by
  intro hpl;have hsep: ∀e,Xw cf true o e=Ny o.op e:=λe=>by simp[Xw,hl,hb,hpl]
  obtain⟨v0,l0,h1,h2,h3⟩:=B3 h;have hok:=(Znh.1 (Za h3).1).2;rw[hsep]at hok;obtain⟨v,q1,q2,q3⟩:=Zl5 rfl h hok;obtain⟨_,q4⟩:=Za q3;injection q4 with q4
  refine⟨v,by rw[<-q4,Z6],λks _=>q1 ks,λσ2 ks hev=> ?_⟩;have same: ∀y∈o.op.operands,σ2.ev cf.glob y=σ.ev cf.glob y:=λy hy=>by
   have hpy:Z7 (σ.ev cf.glob y)=true:=Zl6 hok y hy;rcases hev with hev|hev
   ·rw[hev y hy,X9 hpy]
   ·have:=hev y hy;rw[this]at hpy⊢;exact(X9 (B7 hpy)).symm
  simp only[gop,hg,hst];rw[Su (e':=σ.ev cf.glob) same,q2 σ2.loc];rw[hz,hsep];have:Ny o.op (σ2.ev cf.glob)=true:=by rw[<-hsep,Tp same,hsep];exact hok
  rw[this,Z6];rfl
 split at hop
 ·rename_i t d ho hd;simp only[opK,ho,hd]at h;obtain⟨_,h⟩:=Za h;injection h with h
  have hsep: ∀e,Xw cf true o e=true:=λe=>by
   unfold Xw;simp only[hb,hl];rw[show cf.plO o=false from by simpa using (Znh.1 hop).1];cases cf.exO o<;>simp[ho,Jh]
  refine⟨.ptr d 0,by rw[<-h,Z6,hd],λks hk=> ?_,λσ2 ks _=> ?_⟩
  ·induction ks with
   |nil=>rfl
   |cons s ks ih=>
    rw[List.any_cons,Bool.or_eq_false_iff]at hk;show V.kill s (Zu ks (.ptr d 0))=_;rw[ih hk.2];have:Zqv d s=false:=by
     cases e:Zqv d s
     ·rfl
     ·have e:=Zmp e;subst e;rw[(Znh.1 hop).2]at hk;cases hk.1
    simp[V.kill,V.at,this]
  ·simp only[gop,hg,hst,opK,ho,hd];rw[hz,hsep,Z6];rfl
 ·exact pl hop
theorem Ro {o:Oper} (hg:o.guard=none) {σ σ1:St} (h:gop cf true (λj=>(ops[j]?).bind (·.dst)) o σ=some σ1):
  ∃v l ks,σ1=σ.after o.dst v l ks/\(ks.any λs=>cf.al.any (Zqv s))=false/\(ks.any λs=>(cf.prl o).any (Zqv s))=false/\(cf.apO o=true->Kept ks σ.loc l)/\ ∀σ2:St,(∀t∈o.looksAt ops,σ2.get t=σ.get t)->σ2.loc=σ.loc->gop cf true (λj=>(ops[j]?).bind (·.dst)) o σ2=some (σ2.after o.dst v l ks):=by
 simp only[gop,hg]at h;obtain⟨v,l,ks,h1,h2⟩:=Hu h;obtain⟨h3,h4⟩:=Za h2;injection h4 with h4
 have hq:(ks.any λs=>(cf.al++cf.prl o).any (Zqv s))=false:=by
  have:=(Znh.1 (Znh.1 (Znh.1 h3).1).2).2;have q:(cf.stz true o).2=cf.al++cf.prl o:=rfl;rw[q]at this;exact(Znn _).mp this
 rw[Zos]at hq;refine⟨v,l,ks,h4.symm,by
  rw[Zos];intro s hs e;exact hq s hs (by rw[List.any_append,e];rfl),by
  rw[Zos];intro s hs e;exact hq s hs (by rw[List.any_append,e];simp),λha=>Zl4 ha (h1 λv l ks=>some (v,l,ks)),λσ2 ht hl=> ?_⟩
 have same: ∀y∈o.op.operands,σ2.ev cf.glob y=σ.ev cf.glob y:=by
  intro y hy;cases y with
  |tmp t=>exact ht t (Zn3 _ (Zoh.2 ⟨.tmp t,by simpa using hy,rfl⟩))
  |_=>rfl
 simp only[gop,hg];rw[Su (e':=σ.ev cf.glob) same,hl];refine(h1 _).trans ?_;show need (Sc (cf.stz true o) (lz true l) ks&&Xw cf true o (σ2.ev cf.glob)) (some (σ2.after o.dst v l ks))=_;rw[Tp same,h3];rfl
theorem Zh9 {x y:Oper} (hap:x.apart ops y=true) (hs:cf.fxO x=true) (hg:y.guard.isNone=true) {σ σ1 σ2:St} (h1:gop cf true (λj=>(ops[j]?).bind (·.dst)) x σ=some σ1) (h2:gop cf true (λj=>(ops[j]?).bind (·.dst)) y σ1=some σ2):
  ∃τ,gop cf true (λj=>(ops[j]?).bind (·.dst)) y σ=some τ/\gop cf true (λj=>(ops[j]?).bind (·.dst)) x τ=some σ2:=by
 obtain⟨a1,a2,a3⟩:=Oper.apart_spec hap;obtain⟨vx,e1,kx,hx⟩:=Zh8 (ops:=ops) hs h1;obtain⟨v,l,ks,e2,hko,_,_,hy⟩:=Ro (by simpa using hg) h2;have hy':=hy σ (λt ht=>by rw[e1,X8 λd hd e=>a1 d hd (e▸ht)]) (by rw[e1,V5]);refine⟨_,hy', ?_⟩;rw[hx (σ.after y.dst v l ks) ks (.inl λz hz=>Vs λt ht e=>a3 t e (Vt (by rw[<-ht];exact hz))),e2,e1];have hll:(σ.after y.dst v l ks).loc=l:=by rw[Zx]
 rw[hll,Zx,Zx]
 congr 1
 cases hd:x.dst with
 |none=>rfl
 |some d=>
  simp only[St.put];rw[X2,show Zrj (λs x=>V.kill s x) vx ks=vx from kx ks hko];cases hd':y.dst with
  |none=>rfl
  |some d'=>
   have hne:d≠d':=λe=>a2 d hd (by rw[hd',e]);simp only;rw[Sl.set_comm _ _ _ hne]
theorem Zia {x y:Oper} (hap:x.apart ops y=true) (hs:cf.fxO y=true) (hg:x.guard.isNone=true) {σ σ1 σ2:St} (h1:gop cf true (λj=>(ops[j]?).bind (·.dst)) x σ=some σ1) (h2:gop cf true (λj=>(ops[j]?).bind (·.dst)) y σ1=some σ2):
  ∃τ,gop cf true (λj=>(ops[j]?).bind (·.dst)) y σ=some τ/\gop cf true (λj=>(ops[j]?).bind (·.dst)) x τ=some σ2:=by
 obtain⟨a1,a2,a3⟩:=Oper.apart_spec hap;obtain⟨v,l,ks,e1,hko,_,_,hx⟩:=Ro (by simpa using hg) h1;obtain⟨vy,e2,ky,hy⟩:=Zh8 (ops:=ops) hs h2;have hσ:=hy σ ks (.inr λz hz=>by rw[e1];exact Vs λt ht e=>a1 t e (Vt (by rw[<-ht];exact hz)));refine⟨_,hσ, ?_⟩;rw[hx _ (λt ht=>X8 λd hd e=>a3 d hd (e▸ht)) (V5 _ _ _ _),e2,e1];have hll:(σ.after x.dst v l ks).loc=l:=by rw[Zx]
 rw[hll,Zx,Zx]
 congr 1
 cases hd:y.dst with
 |none=>rfl
 |some d=>
  simp only[St.put];rw[X2,show Zrj (λs x=>V.kill s x) vy ks=vy from ky ks hko];cases hd':x.dst with
  |none=>rfl
  |some d'=>
   have hne:d'≠d:=λe=>a2 d' hd' (by rw[hd,e]);simp only;rw[Sl.set_comm _ _ _ hne]
theorem J1 {ks:List Nat} {x y:V} (h:Zu ks x=y) (hy:(∃s off,y= .ptr s off)\/(∃s off n,y= .own s off n)\/ ∃c,y= .c c):x=y:=by
 induction ks generalizing y with
 |nil=>exact h
 |cons s ks ih=>
  replace h:V.kill s (Zu ks x)=y:=h;unfold V.kill at h;cases ha:(Zu ks x).at s with
  |false=>rw[ha]at h;exact ih h hy
  |true=>
   rw[ha]at h;replace h:(Zu ks x).struck=y:=h;rcases hy with⟨_,_,rfl⟩|⟨_,_,_,rfl⟩|⟨_,rfl⟩<;>(cases hq:Zu ks x<;>rw[hq]at h<;>cases h)
theorem Ff {ks:List Nat} {s off n:Nat} (h:s∉ks):Zu ks (.own s off n)= .own s off n:=by
 induction ks with
 |nil=>rfl
 |cons u ks ih=>
  show V.kill u (Zu ks (.own s off n))=_;rw[ih λe=>h (Znm _ e)];unfold V.kill;rw[show V.at u (.own s off n)=Zqv s u from rfl,Fe λe=>h (by simp[e])];rfl
theorem Fg {ks:List Nat} {s off:Nat} (h:s∉ks):Zu ks (.ptr s off)= .ptr s off:=by
 induction ks with
 |nil=>rfl
 |cons u ks ih=>
  show V.kill u (Zu ks (.ptr s off))=_;rw[ih λe=>h (Znm _ e)];unfold V.kill;rw[show V.at u (.ptr s off)=Zqv s u from rfl,Fe λe=>h (by simp[e])];rfl
theorem Zj7 {ks:List Nat} {l l2:Loc} (h:Zh7 ks l l2) {s:Nat} (hs:s∉ks) {t:TypeId} {xs zs:List V} {z:V} {off:Nat} (e:l s= .mx t xs) (hz:xs.drop off=z::zs) (hk:Zu ks z=z) (hy:(∃s off n,z= .own s off n)\/ ∃c,z= .c c):
  ∃ys zs',l2 s= .mx t ys/\ys.drop off=z::zs':=by
 rcases h with h|h
 ·rcases h s hs with h|⟨⟨_,_,_,_,h⟩,_⟩
  ·exact⟨_,zs.map (Zu ks),by rw[h,e,D7],by rw[<-List.map_drop,hz,Zn0,hk]⟩
  ·rw[e]at h;cases h
 ·rcases h s hs with h|⟨_,⟨_,_,_,_,h⟩⟩
  ·obtain⟨ys,h1,h2⟩:=Zco (h.symm.trans e);rw[h2,<-List.map_drop]at hz;cases hd:ys.drop off with
   |nil=>rw[hd]at hz;cases hz
   |cons y zs'=>
    rw[hd]at hz;injection hz with hz _
    exact⟨ys,zs',h1,by rw[hd,J1 hz (hy.elim (λh=> .inr (.inl h)) λh=> .inr (.inr h))]⟩
  ·rw[e]at h;cases h
theorem away {ks L:List Nat} (h:(ks.any λs=>L.any (Zqv s))=false) {s:Nat} (hs:L.any (Zqv s)=true):s∉ks:=λe=>by
 rw[Zos]at h;exact h s e hs
theorem rdP {cf:Cfg} {x y:Oper} {u:Nat} {L:List Nat} {ks:List Nat} (h:((u::L).all λs=>(cf.prl x).any (Zqv s))=true) (hk:(ks.any λs=>(cf.prl x).any (Zqv s))=false) {s:Nat} (hs:(u::L).any (Zqv s)=true):s∉ks:=by
 obtain⟨y,hy,e⟩:=Zpk.1 hs;rw[Zmp e];exact away hk (Zm7.1 h y hy)
theorem Zib {x o:Oper} (hs:cf.rdX x o=true) {σ σ1:St} (h:gop cf true (λj=>(ops[j]?).bind (·.dst)) o σ=some σ1):
  ∃v,σ1=σ.put o.dst v σ.loc/\ ∀(ks:List Nat),(ks.any λs=>(cf.prl x).any (Zqv s))=false->Zu ks v=v/\
   ∀σ2:St,((∀y∈o.op.operands,σ2.ev cf.glob y=Zu ks (σ.ev cf.glob y))\/ ∀y∈o.op.operands,σ.ev cf.glob y=Zu ks (σ2.ev cf.glob y))->Zh7 ks σ.loc σ2.loc->gop cf true (λj=>(ops[j]?).bind (·.dst)) o σ2=some (σ2.put o.dst v σ2.loc):=by
 unfold Cfg.rdX at hs;simp only[Zmq]at hs;obtain⟨_,hg,hl,hb,hop⟩:=hs;have hg:o.guard=none:=by simpa using hg
 have hl:cf.loudO o=false:=by simpa using hl
 have hb:cf.barO o=false:=by simpa using hb
 have hst:cf.str true o=true:=by simp[Cfg.str,hl,hb]
 have hz: ∀z l,Sc z l []=true:=λz l=>by obtain⟨b,c⟩:=z;cases b<;>rfl
 have hop': ∀a:Operand,o.op.operands= #[a]-> ∀s off,σ.ev cf.glob a= .ptr s off-> ∀ks,s∉ks-> ∀σ2:St,((∀y∈o.op.operands,σ2.ev cf.glob y=Zu ks (σ.ev cf.glob y))\/ ∀y∈o.op.operands,σ.ev cf.glob y=Zu ks (σ2.ev cf.glob y))->σ2.ev cf.glob a= .ptr s off/\Xw cf true o (σ2.ev cf.glob)=Xw cf true o (σ.ev cf.glob):=by
  intro a ha s off hv ks hks σ2 hev;have h1:σ2.ev cf.glob a= .ptr s off:=by
   rcases hev with hev|hev
   ·rw[hev a (by simp[ha]),hv];exact Fg hks
   ·exact J1 ((hev a (by simp[ha])).symm.trans hv) (.inl ⟨_,_,rfl⟩)
  exact⟨h1,Tp λy hy=>by
   rw[ha]at hy;obtain rfl:y=a:=by simpa using hy
   rw[h1,hv]⟩
 split at hop
 ·rename_i T a ho;have hoa:o.op.operands= #[a]:=by rw[ho];rfl
  cases hL:cf.rdl o with
  |nil=>rw[hL]at hop;cases hop
  |cons u0 L=>
  rw[hL]at hop;simp only[gop,hg,hst,opK,ho,hL,X7]at h;obtain⟨hr,h⟩:=Za h;replace hr:Zev cf.P T (u0::L) σ.loc (σ.ev cf.glob a)=true:=by simpa only[rdC]using hr
  cases ha:σ.ev cf.glob a with
  |ptr s off=>
   rw[ha]at hr h;have hr0:=hr;unfold Zev at hr;simp only[Zmq]at hr;obtain⟨hrs,hm⟩:=hr;have fin: ∀{v:V},need (Sc (cf.stz true o) (lz true σ.loc) []&&Xw cf true o (σ.ev cf.glob)) (some (σ.after o.dst v σ.loc []))=some σ1->σ1=σ.put o.dst v σ.loc/\Xw cf true o (σ.ev cf.glob)=true:=λhk=>by
    obtain⟨q1,q2⟩:=Za hk;injection q2 with q2
    exact⟨by rw[<-q2,Z6],(Znh.1 q1).2⟩
   cases hx:σ.loc s with
   |mx t xs=>
    rw[hx]at hm;obtain⟨hag,hm⟩:=Znh.1 hm;have hag:Yi cf.P T=false:=by simpa using hag
    unfold Z8 at h;simp only[hx,hag]at h;cases hx':xs.drop off with
    |nil=>rw[hx']at h;cases h
    |cons z zs=>
     rw[hx']at h hm;have go: ∀{v:V} (hzz:(∃s off n,z= .own s off n)\/ ∃c,z= .c c),(∀{S:Type} (l2:Loc) (k':V->Loc->List Nat->Option S),Sb cf.P l2 k' T z=k' v l2 [])->(match z with| .own s' _ _=>(u0::L).any (Zqv s')| .c _=>true|_=>false)=true->
       ∀ks,(ks.any λs=>(cf.prl x).any (Zqv s))=false->Zu ks z=z->Xw cf true o (σ.ev cf.glob)=true-> ∀σ2:St,((∀y∈o.op.operands,σ2.ev cf.glob y=Zu ks (σ.ev cf.glob y))\/ ∀y∈o.op.operands,σ.ev cf.glob y=Zu ks (σ2.ev cf.glob y))->Zh7 ks σ.loc σ2.loc->gop cf true (λj=>(ops[j]?).bind (·.dst)) o σ2=some (σ2.put o.dst v σ2.loc):=by
      intro v hzz hone hmz ks hks hkz hsep σ2 hev hboth;have hsk:=rdP (y:=o) hop hks hrs;obtain⟨e1,e2⟩:=hop' a hoa s off ha ks hsk σ2 hev;obtain⟨ys,zs',e3,e4⟩:=Zj7 hboth hsk hx hx' hkz hzz;simp only[gop,hg,hst,opK,ho,hL,X7,e1];have hrd:rdC cf.P T true (u0::L) σ2.loc (.ptr s off)=true:=by
       simp only[rdC,Zev];rw[hrs,hag,e3];rcases hzz with⟨s',o',n',rfl⟩|⟨c,rfl⟩
       ·simpa[e4]using hmz
       ·simp[e4]
      rw[hrd,Zae];unfold Z8;simp only[e3,hag,e4];refine(hone σ2.loc _).trans ?_;rw[hz,e2,hsep,Z6];rfl
     cases z with
     |own s' o' n'=>
      replace h:need (cf.P.underlying T).isSome _=_:=h;obtain⟨hn,h⟩:=Zb h;obtain⟨q1,q2⟩:=fin h;exact⟨_,q1,λks hks=>⟨Ff (rdP (y:=o) hop hks hm),go (.inl ⟨_,_,_,rfl⟩) (λl2 k'=>by simp only[Sb,hn]) hm ks hks (Ff (rdP (y:=o) hop hks hm)) q2⟩⟩
     |c c=>
      replace h:Sb cf.P σ.loc _ T (.c c)=some σ1:=h;simp only[Sb]at h;obtain⟨v,h3,h4⟩:=Z9 h;obtain⟨q1,q2⟩:=fin h4;exact⟨_,q1,λks hks=>⟨X9 (Ku (h3 _)),go (.inr ⟨_,rfl⟩) (λl2 k'=>by simp only[Sb,h3]) hm ks hks (Xt ks c) q2⟩⟩
     |_=>cases hm
   |ob t fz cs=>
    unfold Z8 at h;simp only[hx]at h;obtain⟨v,h3,h4⟩:=Z9 h;obtain⟨q1,q2⟩:=fin h4;refine⟨_,q1,λks hks=>⟨X9 (Ku (h3 _)),λσ2 hev hboth=> ?_⟩⟩;have hsk:=rdP (y:=o) hop hks hrs;obtain⟨e1,e2⟩:=hop' a hoa s off ha ks hsk σ2 hev;have e3:=Zj6 hboth hsk hx;simp only[gop,hg,hst,opK,ho,hL,X7,e1];have hrd:rdC cf.P T true (u0::L) σ2.loc (.ptr s off)=true:=by
     simp only[rdC,Zev];rw[hrs,e3];rfl
    rw[hrd,Zae];unfold Z8;simp only[e3,h3];rw[hz,e2,q2,Z6];rfl
   |_=>rw[hx]at hm;cases hm
  |_=>rw[ha]at hr;cases hr
 ·rename_i T a f ho;have hoa:o.op.operands= #[a]:=by rw[ho];rfl
  cases hL:cf.rdl o with
  |nil=>rw[hL]at hop;cases hop
  |cons u0 L=>
  rw[hL]at hop;simp only[gop,hg,hst,opK,ho,hL]at h;obtain⟨hr,h⟩:=Za h;cases ha:σ.ev cf.glob a with
  |ptr s off=>
   rw[ha]at hr h;have hrs:(u0::L).any (Zqv s)=true:=by simpa only[rdF]using hr
   unfold Zw at h;split at h
   ·rename_i fo ft hf;obtain⟨h1,h⟩:=Zb h;obtain⟨h2,h⟩:=Zb h;obtain⟨q1,q2⟩:=Za h;injection q2 with q2
    have q1:=(Znh.1 q1).2;refine⟨_,by rw[<-q2,Z6],λks hks=> ?_⟩;have hsk:=rdP (y:=o) hop hks hrs;refine⟨Fg hsk,λσ2 hev hboth=> ?_⟩;obtain⟨e1,e2⟩:=hop' a hoa s off ha ks hsk σ2 hev;have hl2:live (σ2.loc s)=true:=by
     rw[Zfu hboth hsk];have:=h2 (some ());cases hv:live (σ.loc s)
     ·rw[hv]at this;cases this
     ·rfl
    simp only[gop,hg,hst,opK,ho,hL,e1,Zw,hf,h1];rw[hr,hl2,Zae,Zae,hz,e2,q1,Z6];rfl
   ·cases h
  |_=>rw[ha]at hr;cases hr
 ·cases hop
theorem Zic {x y:Oper} (hap:x.apart ops y=true) (hs:cf.rdX x y=true) {σ σ1 σ2:St} (h1:gop cf true (λj=>(ops[j]?).bind (·.dst)) x σ=some σ1) (h2:gop cf true (λj=>(ops[j]?).bind (·.dst)) y σ1=some σ2):
  ∃τ,gop cf true (λj=>(ops[j]?).bind (·.dst)) y σ=some τ/\gop cf true (λj=>(ops[j]?).bind (·.dst)) x τ=some σ2:=by
 obtain⟨a1,a2,a3⟩:=Oper.apart_spec hap;have hax:cf.apO x=true:=by unfold Cfg.rdX at hs;exact(Znh.1 hs).1
 have hgx:x.guard=none:=by unfold Cfg.apO at hax;simpa using (Znh.1 hax).1
 obtain⟨v,l,ks,e1,_,hpr,hkp,hx⟩:=Ro hgx h1;obtain⟨w,q7,hw⟩:=Zib hs h2;obtain⟨hwk,hy⟩:=hw ks hpr;have hll:σ1.loc=l:=by rw[e1,Zx]
 have hy:=hy σ (.inr λz hz=>by rw[e1];exact Vs λt ht e=>a1 t e (Vt (by rw[<-ht];exact hz))) (.inr (by rw[hll];exact hkp hax));refine⟨_,hy, ?_⟩;rw[hx _ (λt ht=>X8 λd hd e=>a3 d hd (e▸ht)) (V5 _ _ _ _),q7,e1];have hll':(σ.after x.dst v l ks).loc=l:=by rw[Zx]
 rw[hll',Zx,Zx]
 congr 1
 cases hd:y.dst with
 |none=>rfl
 |some d=>
  simp only[St.put];rw[X2,show Zrj (λs x=>V.kill s x) w ks=w from hwk];cases hd':x.dst with
  |none=>rfl
  |some d'=>
   have hne:d'≠d:=λe=>a2 d' hd' (by rw[hd,e]);simp only;rw[Sl.set_comm _ _ _ hne]
theorem Zid {x y:Oper} (hap:x.apart ops y=true) (hs:cf.rdX y x=true) {σ σ1 σ2:St} (h1:gop cf true (λj=>(ops[j]?).bind (·.dst)) x σ=some σ1) (h2:gop cf true (λj=>(ops[j]?).bind (·.dst)) y σ1=some σ2):
  ∃τ,gop cf true (λj=>(ops[j]?).bind (·.dst)) y σ=some τ/\gop cf true (λj=>(ops[j]?).bind (·.dst)) x τ=some σ2:=by
 obtain⟨a1,a2,a3⟩:=Oper.apart_spec hap;have hay:cf.apO y=true:=by unfold Cfg.rdX at hs;exact(Znh.1 hs).1
 have hgy:y.guard=none:=by unfold Cfg.apO at hay;simpa using (Znh.1 hay).1
 obtain⟨w,q7,hw⟩:=Zib hs h1;obtain⟨v,l,ks,e2,_,hpr,hkp,hy⟩:=Ro hgy h2;obtain⟨hwk,hxx⟩:=hw ks hpr;have hl1:σ1.loc=σ.loc:=by rw[q7,V5]
 have hy':=hy σ (λt ht=>by rw[q7,X8 λd hd e=>a1 d hd (e▸ht)]) hl1.symm;have hll':(σ.after y.dst v l ks).loc=l:=by rw[Zx]
 have hxx:=hxx (σ.after y.dst v l ks) (.inl λz hz=>Vs λt ht e=>a3 t e (Vt (by rw[<-ht];exact hz))) (.inl (by rw[hll',<-hl1];exact hkp hay));refine⟨_,hy', ?_⟩;rw[hxx,e2,q7,hll',Zx,Zx]
 congr 1
 cases hd:x.dst with
 |none=>rfl
 |some d=>
  simp only[St.put];rw[X2,show Zrj (λs x=>V.kill s x) w ks=w from hwk];cases hd':y.dst with
  |none=>rfl
  |some d'=>
   have hne:d≠d':=λe=>a2 d hd (by rw[hd',e]);simp only;rw[Sl.set_comm _ _ _ hne]
theorem Zie {x y:Oper} (hi:A9 cf ops x y=true) {σ σ1 σ2:St} (h1:gop cf true (λj=>(ops[j]?).bind (·.dst)) x σ=some σ1) (h2:gop cf true (λj=>(ops[j]?).bind (·.dst)) y σ1=some σ2):
  ∃τ,gop cf true (λj=>(ops[j]?).bind (·.dst)) y σ=some τ/\gop cf true (λj=>(ops[j]?).bind (·.dst)) x τ=some σ2:=by
 unfold A9 at hi;rw[Zn7]at hi;rcases hi with hi|hi
 ·rw[Zmq]at hi;obtain⟨hm,hap⟩:=hi;unfold Zg0 at hm;rw[Zn7,Zn7,Zn7,Zn7,Zn7,Zn7,Zmq,Zmq,Zmq,Zmq,Zmq]at hm;rcases hm with(((((⟨hs,hg⟩|⟨hs,hg⟩)|⟨hs,hg⟩)|⟨hs,hg⟩)|⟨hs,hg⟩)|hs)|hs
  ·exact Zab hap hs hg h1 h2
  ·exact Zac hap hs hg h1 h2
  ·exact Zad hap hs hg h1 h2
  ·exact Zh9 hap hs hg h1 h2
  ·exact Zia hap hs hg h1 h2
  ·exact Zic hap hs h1 h2
  ·exact Zid hap hs h1 h2
 simp only[Zmq,Zn7,Znn]at hi;obtain⟨⟨⟨hbx,hby⟩,hap⟩,hq⟩:=hi;obtain⟨a1,a2,a3⟩:=Oper.apart_spec hap;obtain⟨vx,lx,e1,wx,ox,fx⟩:=Zd5 hbx h1;obtain⟨vy,ly,e2,wy,oy,fy⟩:=Zd5 hby h2;have l1:σ1.loc=lx:=by rw[e1,V5]
 have qx:cf.qu x=true->cf.wr x=false:=λh=>by
  cases hw:cf.wr x
  ·rfl
  ·rw[Pq hw]at h;cases h
 have qy:cf.qu y=true->cf.wr y=false:=λh=>by
  cases hw:cf.wr y
  ·rfl
  ·rw[Pq hw]at h;cases h
 have g1:=fy σ (λt ht=>by rw[e1,X8 λd hd e=>a1 d hd (e▸ht)]) (by
  rw[l1];rcases hq with(((hq|hq)|hq)|hq)|hq
  ·exact .inl (wx (qx hq)).symm
  ·exact .inr (.inl hq)
  ·exact .inl (wx hq.1).symm
  ·exact .inr (.inr ⟨hq.1.2,hq.2,λs hs=>(ox hq.1.1 s hs).symm⟩)
  ·exact .inl (wx hq.1.2).symm)
 refine⟨_,g1, ?_⟩;have g2:=fx (σ.put y.dst vy (bif cf.wr y then ly else σ.loc)) (λt ht=>X8 λd hd e=>a3 d hd (e▸ht)) (by
  rw[V5];rcases hq with(((hq|hq)|hq)|hq)|hq
  ·exact .inr (.inl hq)
  ·rw[qy hq];exact .inl rfl
  ·rw[hq.2];exact .inl rfl
  ·rw[hq.1.2];exact .inl rfl
  ·refine .inr (.inr ⟨hq.1.2,hq.2,λs hs=> ?_⟩);have hwy:cf.wr y=true:=by simp[Cfg.wr,hq.1.1]
   rw[hwy];have:=oy hq.1.1 s hs;rw[l1,wx hq.1.2]at this;exact this)
 rw[g2,e2,e1,put_comm (l1:=(bif cf.wr y then ly else σ.loc)) (l2:=ly) (λd hd=>a2 d hd) rfl]
 congr 2
 rw[V5];have both:cf.wr x=true->cf.wr y=true->False:=λh h'=>by
  rcases hq with(((hq|hq)|hq)|hq)|hq
  ·rw[qx hq]at h;cases h
  ·rw[qy hq]at h';cases h'
  ·rw[hq.1]at h;cases h
  ·rw[hq.1.2]at h';cases h'
  ·rw[hq.1.2]at h;cases h
 cases hw:cf.wr x with
 |true=>
  cases hw':cf.wr y with
  |true=>exact(both hw hw').elim
  |false=>rw[wy hw',l1];rfl
 |false=>
  cases hw':cf.wr y with
  |true=>rfl
  |false=>rw[wy hw',l1,wx hw];rfl
noncomputable def Ew (cf:Cfg) (ops:Array Oper):List Nat->St->Option St
 | [],σ=>some σ
 |i::is,σ=>match ops[i]? with
  |none=>none
  |some o=>(gop cf true (λj=>(ops[j]?).bind (·.dst)) o σ).bind (Ew cf ops is)
theorem Zfv (l:List Oper): ∀k,(∀j,l[j]? =ops[k+j]?)-> ∀σ,Ew cf ops (Zrk k l.length) σ=Ln cf true (λj=>(ops[j]?).bind (·.dst)) l σ:=by
 induction l with
 |nil=>intro k _ σ;simp[Ew,Ln]
 |cons o l ih=>
  intro k h σ;have h0:ops[k]? =some o:=by simpa using (h 0).symm
  have ih':=ih (k+1) (λj=>by have:=h (j+1);simpa[Zq9,Zo9 1 j]using this);simp only[Zms,List.range'_succ,Ew,h0,Ln];cases gop cf true (λj=>(ops[j]?).bind (·.dst)) o σ with
  |none=>rfl
  |some σ1=>exact ih' σ1
theorem Fh {i:Nat} {oi:Oper} (hi:ops[i]? =some oi) {post:List Nat} {σ':St}: ∀(pre:List Nat) {σ:St},(∀x∈pre,∀ox,ops[x]? =some ox->A9 cf ops ox oi=true)->Ew cf ops (pre++i::post) σ=some σ' ->
  ∃σ1,gop cf true (λj=>(ops[j]?).bind (·.dst)) oi σ=some σ1/\Ew cf ops (pre++post) σ1=some σ'
 | [],σ,_,h=>by
  simp only[Zmz,Ew,hi]at h;exact Zm6.1 h
 |x::pre,σ,hx,h=>by
  simp only[Zmw,Ew]at h;split at h
  ·cases h
  ·rename_i ox hox;obtain⟨σx,h1,h2⟩:=Zm6.1 h;obtain⟨σ1,h3,h4⟩:=Fh hi pre (λx hx'=>hx x (by simp[hx'])) h2;obtain⟨τ,h5,h6⟩:=Zie (hx x (by simp) ox hox) h1 h3;exact⟨τ,h5,by simp only[Zmw,Ew,hox,h6,Znx];exact h4⟩
theorem Zai {acc:List Nat} {o:Oper} {x:Nat} (h:(H8 acc o).testBit x=true): ∃e∈o.after,Region.binds .any e=true/\(x=e.on\/(acc.getD e.on 0).testBit x=true):=by
 unfold H8 at h;have: ∀es:List Edge,(es.foldr (λe s=>bif Region.binds .any e then(2^e.on|||acc.getD e.on 0)|||s else s) 0).testBit x=true-> ∃e∈es,Region.binds .any e=true/\(x=e.on\/(acc.getD e.on 0).testBit x=true):=by
  intro es
  induction es with
  |nil=>intro h;simp at h
  |cons e es ih=>
   intro h;simp only[Zpa]at h;cases hb:Region.binds .any e
   ·rw[hb]at h;obtain⟨e',h1,h2⟩:=ih h;exact⟨e',by simp[h1],h2⟩
   ·rw[hb]at h;simp only[cond_true,Nat.testBit_or,Zn7,Nat.testBit_two_pow,decide_eq_true_eq]at h;rcases h with(h|h)|h
    ·exact⟨e,by simp,hb, .inl h.symm⟩
    ·exact⟨e,by simp,hb, .inr h⟩
    ·obtain⟨e',h1,h2⟩:=ih h;exact⟨e',by simp[h1],h2⟩
 obtain⟨e,h1,h2⟩:=this _ h;exact⟨e,by simpa using h1,h2⟩
theorem Fi {L:Nat->Prop} (hL: ∀k o,ops[k]? =some o->L k-> ∀e∈o.after,Region.binds .any e=true->L e.on): ∀(os:List Oper) (acc:List Nat),(∀j,os[j]? =ops[acc.length+j]?)->
  (∀k o,ops[k]? =some o->k<acc.length->(∀e∈o.after,Region.binds .any e=true->L e.on)-> ∀x,(acc.getD k 0).testBit x=true->L x)->
  ∀k o,ops[k]? =some o->k<(Mn os acc).length->(∀e∈o.after,Region.binds .any e=true->L e.on)-> ∀x,((Mn os acc).getD k 0).testBit x=true->L x
 | [],acc,_,h=>h
 |o::os,acc,ho,h=>by
  refine Fi hL os (acc++[H8 acc o]) (λj=>by have:=ho (j+1);simpa[Zq9,Zo9 1 j]using this) ?_;intro k ok hk hlt hall x hx;by_cases hk':k<acc.length
  ·have e1:(acc++[H8 acc o]).getD k 0=acc.getD k 0:=by simp only[List.getD,Znt hk']
   rw[e1]at hx;exact h k ok hk hk' hall x hx
  ·have hk'':k=acc.length:=by simp at hlt;omega
   subst hk'';have h0:ops[acc.length]? =some o:=by simpa using (ho 0).symm
   rw[hk]at h0;injection h0 with h0
   subst h0;have e1:(acc++[H8 acc ok]).getD acc.length 0=H8 acc ok:=by simp[List.getD]
   rw[e1]at hx;obtain⟨e,he,hb,hx⟩:=Zai hx;have hle:=hall e he hb;rcases hx with rfl|hx
   ·exact hle
   ·by_cases hlt':e.on<acc.length
    ·have hso: ∃oe,ops[e.on]? =some oe:=by
      have:acc.length<ops.size:=(Zmy.1 hk).1;exact⟨_,Znj (by omega)⟩
     obtain⟨oe,hoe⟩:=hso;exact h e.on oe hoe hlt' (hL e.on oe hoe hle) x hx
    ·simp[List.getD,Zp0 (Zql hlt')]at hx
theorem J2: ∀(os:List Oper) (p:Nat),Ba os p=true-> ∀j o,os[j]? =some o-> ∀e∈o.after,Region.binds .any e=true->e.on<p+j
 | [],p,_,j,o,hj=>by simp at hj
 |o::os,p,h,j,oj,hj=>by
  simp only[Ba,Zmq,Zm7]at h;cases j with
  |zero=>
   simp at hj;subst hj;intro e he hb;have:=h.1 e (by simpa using he);simp only[hb,Bool.not_true,Bool.false_or]at this;have:=Zmu this;omega
  |succ j=>
   intro e he hb;have:=J2 os (p+1) h.2 j oj (by simpa using hj) e he hb;omega
theorem B9 (h:Lb cf ops=true):(∀j o,ops[j]? =some o-> ∀e∈o.after,Region.binds .any e=true->e.on<j)/\
  ∀(j i:Nat) oi oj,ops[i]? =some oi->ops[j]? =some oj->i<j->((Mn ops.toList []).getD j 0).testBit i=true\/A9 cf ops oi oj=true:=by
 unfold Lb at h;simp only[Zmq,Zm7,List.mem_range]at h;refine⟨λj o hj e he hb=> ?_,λj i oi oj hi hj hlt=> ?_⟩
 ·have:=J2 ops.toList 0 h.1 j o (by simpa using hj) e he hb;omega
 ·have:=h.2 j (Zmy.1 hj).1 i hlt;simp only[hi,hj,Zn7]at this;exact this
theorem Ma: ∀(os:List Oper) (acc:List Nat),(Mn os acc).length=acc.length+os.length
 | [],acc=>rfl
 |o::os,acc=>by simp only[Mn];rw[Ma os];simp;omega
def Sf (ops:Array Oper) (rest:List Nat):Nat->Prop:=λs=> ∃i∈rest,∃o,ops[i]? =some o/\Z5 o=some s
structure Facts (A:Fr) (ops:Array Oper):Prop where
 pt: ∀(i:Nat) (o:Oper) (t:TypeId) (d:Nat),ops[i]? =some o->o.op= .alloc t->o.dst=some d->A.pt d=t
 gd: ∀(i:Nat) (o:Oper),ops[i]? =some o->Zm o=true->o.guard=none
 one: ∀(i j:Nat) (o o':Oper) (d:Nat),ops[i]? =some o->ops[j]? =some o' ->Z5 o=some d->Z5 o'=some d->i=j
 tm: ∀(i:Nat) (o:Oper) (d:Nat),ops[i]? =some o->o.dst=some d->A.tm d=none
 other: ∀(i j:Nat) (o o':Oper) (d:Nat),ops[i]? =some o->ops[j]? =some o' ->Zm o=false->o.dst=some d->Z5 o'≠some d
theorem Zfw {i:Nat} {o:Oper} (F:Facts A ops) (hi:ops[i]? =some o) {rest rest':List Nat} (hr: ∀j,j∈rest'↔j∈rest/\j≠i):Q4 (Sf ops rest) o=Sf ops rest':=by
 funext s
 refine propext ⟨λ⟨⟨j,hj,oj,hoj,hd⟩,hn⟩=> ?_,λ⟨j,hj,oj,hoj,hd⟩=>⟨⟨j,((hr j).1 hj).1,oj,hoj,hd⟩,λ⟨ha,hd'⟩=> ?_⟩⟩
 ·refine⟨j,(hr j).2 ⟨hj,λe=>hn ?_⟩,oj,hoj,hd⟩;subst e;rw[hi]at hoj;injection hoj with hoj
  subst hoj;unfold Z5 at hd;cases ha:Zm o
  ·rw[ha]at hd;cases hd
  ·rw[ha]at hd;exact⟨rfl,hd⟩
 ·have:Z5 o=some s:=by simp[Z5,ha,hd']
  exact((hr j).1 hj).2 (F.one j i oj o s hoj hi hd this)
theorem Zlk {ro:Option Nat} (hc:CfgOk P cf A) (F:Facts A ops) {strict:Bool} {i:Nat} {o:Oper} (hi:ops[i]? =some o) {rest rest':List Nat} (hin:i∈rest) (hr: ∀j,j∈rest'↔j∈rest/\j≠i) {E:Env} {σ σ1:St} {a:Act}
  (h:Rel P A E σ (Sf ops rest) a) (hg:gop cf strict (λj=>(ops[j]?).bind (·.dst)) o σ=some σ1) {K:Act->World->Prop} (hK: ∀E' a',Rel P A E' σ1 (Sf ops rest') a' ->K a' E'.w):
  Zfg ro P o (Region.wanted o (yielded ops a.tmps)) a E.w K Q:=by
 refine Zhy hc (F.gd i o hi) (λt d ho hd=>F.pt i o t d hi ho hd) h (λd hd=>F.tm i o d hi hd) (λha d hd=>⟨i,hin,o,hi,by simp[Z5,ha,hd]⟩) (λhna d hd hp=> ?_) hg (λE' a' h'=>hK E' a' (by rw[<-Zfw F hi hr];exact h'));obtain⟨j,_,oj,hoj,hd'⟩:=hp;exact F.other i j o oj d hi hoj hna hd hd'
theorem Fj:Sf ops []=λ_=>False:=by funext s;simp[Sf]
theorem D9 {ro:Option Nat} (hc:CfgOk P cf A) (F:Facts A ops) {σ':St} (hQ: ∀E' a',Rel P A E' σ' (λ_=>False) a' ->Q .normal a' E'.w): ∀(os:List Oper) (p:Nat) (_: ∀j,os[j]? =ops[p+j]?) {E:Env} {σ:St} {a:Act} (_:Rel P A E σ (Sf ops (Zrk p os.length)) a)
  (_:Ln cf false (λj=>(ops[j]?).bind (·.dst)) os σ=some σ'),wpListIn (FW ro) 0 P ops Q os a E.w
 | [],p,_,E,σ,a,h,hk=>by
  injection hk with hk
  subst hk;refine hQ E a ?_;have:Sf ops (Zrk p ([]:List Oper).length)=λ_=>False:=Fj;rw[this]at h;exact h
 |o::os,p,ho,E,σ,a,h,hk=>by
  have h0:ops[p]? =some o:=by simpa using (ho 0).symm
  simp only[Ln]at hk;obtain⟨σ1,h1,h2⟩:=Zm6.1 hk;refine wpListIn_step λK hK=> ?_;refine Zlk hc F h0 (rest':=Zrk (p+1) os.length) (by simp) (λj=> ?_) h h1 λE' a' h'=>hK _ _ ?_
  ·simp only[Zqi,Zms];omega
  ·exact D9 hc F hQ os (p+1) (λj=>by have:=ho (j+1);simpa[Zq9,Zo9 1 j]using this) h' h2
theorem Zd6 {ro:Option Nat} (hc:CfgOk P cf A) (F:Facts A ops) (hord:Lb cf ops=true) {σ':St} (hQ: ∀E' a',Rel P A E' σ' (λ_=>False) a' ->Q .normal a' E'.w): ∀(fuel:Nat) (listed:Array Bool) (rest:List Nat) {E:Env} {σ:St} {a:Act}
  (_:listed.size=ops.size) (_:rest.length=fuel) (_:rest.Pairwise (· < ·)) (_: ∀j,j∈rest↔j<ops.size/\listed.getD j true=false)
  (_: ∀k o,ops[k]? =some o->listed.getD k false=true-> ∀e∈o.after,Region.binds .any e=true->listed.getD e.on false=true)
  (_:Rel P A E σ (Sf ops rest) a) (_:Ew cf ops rest σ=some σ'),wpAnyIn (FW ro) 0 P .any ops Q fuel listed a E.w
 |0,listed,rest,E,σ,a,hs,hl,hp,hm,hcl,h,hk=>by
  have:rest=[]:=Zrm.1 hl;subst this;injection hk with hk
  subst hk;refine⟨?_,hQ E a (by rw[Fj]at h;exact h)⟩;rw[List.eq_nil_iff_forall_not_mem];intro i hi;obtain⟨h0,o,ho,_⟩:=mem_ready.1 hi;have:=(hm i).2 ⟨(Zmy.1 ho).1,h0⟩;simp at this
 |fuel+1,listed,rest,E,σ,a,hs,hl,hp,hm,hcl,h,hk=>by
  obtain⟨hback,hpair⟩:=B9 hord;have hgd: ∀j,j<ops.size->(listed.getD j true=false↔listed.getD j false=false):=λj hj=>by
   have:j<listed.size:=by rw[hs];exact hj
   simp[this]
  refine⟨λhnil=> ?_,λi hi=> ?_⟩
  ·exfalso;cases rest with
   |nil=>simp at hl
   |cons j rest'=>
    obtain⟨hj1,hj2⟩:=(hm j).1 (by simp);have:j∈Region.ready .any ops listed:=by
     refine mem_ready.2 ⟨hj2,ops[j],Znj hj1,λe he hb=> ?_⟩;have hlt:=hback j _ (Znj hj1) e he hb;cases hc':listed.getD e.on false with
     |true=>rfl
     |false=>
      have h1:=(hm e.on).2 ⟨by omega,(hgd _ (by omega)).2 hc'⟩;rcases Znl.1 h1 with h1|h1
      ·omega
      ·have:=(Zo1.1 hp).1 _ h1;omega
    rw[hnil]at this;cases this
  ·obtain⟨hi0,oi,hoi,hall⟩:=mem_ready.1 hi;have hin:i∈rest:=(hm i).2 ⟨(Zmy.1 hoi).1,hi0⟩;obtain⟨pre,post,rfl⟩:=List.append_of_mem hin;have hpre: ∀x∈pre,x<i:=λx hx=>by
    have:=(Zo6.1 hp).2.2 x hx i (by simp);exact this
   have hpost: ∀x∈post,i<x:=λx hx=>by
    have:=(Zo6.1 hp).2.1;exact(Zo1.1 this).1 x hx
   have hsz:i<listed.size:=by rw[hs];exact(Zmy.1 hoi).1
   obtain⟨σ1,g1,g2⟩:=Fh hoi pre (λx hx ox hox=>by
    rcases hpair i x ox oi hox hoi (hpre x hx)with hb|hb
    ·exfalso;have hL:=Fi (ops:=ops) (L:=λk=>listed.getD k false=true) hcl ops.toList [] (λj=>by simp) (λk o _ hk=>by simp at hk) i oi hoi (by rw[Ma];simp;exact(Zmy.1 hoi).1) hall x hb;have hx2:=((hm x).1 (by simp[hx])).2;rw[(hgd x (Zmy.1 hox).1).1 hx2]at hL;cases hL
    ·exact hb) hk
   have hmem: ∀j,j∈pre++post↔j∈pre++i::post/\j≠i:=λj=>by
    simp only[Zoc,Znl];constructor
    ·rintro (hj|hj)
     ·exact⟨.inl hj,by have:=hpre j hj;omega⟩
     ·exact⟨.inr (.inr hj),by have:=hpost j hj;omega⟩
    ·rintro ⟨hj|hj|hj,hne⟩
     ·exact .inl hj
     ·exact absurd hj hne
     ·exact .inr hj
   unfold wpOpIn;simp only[hoi];have key:=Zlk (ro:=ro) (K:=wpAnyIn (FW ro) 0 P .any ops Q fuel (listed.setIfInBounds i true)) (Q:=Q) hc F hoi (rest':=pre++post) hin hmem h g1 λE' a' h'=>by
    refine Zd6 hc F hord hQ fuel _ (pre++post) (by simp[hs]) (by simp at hl⊢;omega) ?_ (λj=> ?_) (λk o ho hk' e he hb=> ?_) h' g2
    ·rw[Zo6]at hp⊢;exact⟨hp.1,(Zo1.1 hp.2.1).2,λx hx y hy=>hp.2.2 x hx y (by simp[hy])⟩
    ·rw[hmem,hm];by_cases hji:i=j
     ·subst hji;simp[hsz]
     ·rw[getD_set_ne true hji];simp[Ne.symm hji]
    ·by_cases hki:i=k
     ·subst hki;rw[hoi]at ho;injection ho with ho
      subst ho;exact getD_set_true (hall e he hb)
     ·rw[getD_set_ne false hki]at hk';exact getD_set_true (hcl k o ho hk' e he hb)
   exact key
end
end Go.PM
namespace Go.PM
open Go
variable {P:Program}
theorem setRow_self {w:World} {g:Nat} {cur:Array Value} {t:TypeId} {fr:Nat×Nat} (h:w.heap[g]? =some (.cells cur t fr)):w.setRow g cur=w:=by
 have hw:(w.setRow g cur).heap=w.heap:=by
  unfold World.setRow;apply Array.ext
  ·simp
  ·intro i h1 h2;simp only;rw[Array.getElem_modify];split
   ·rename_i e;subst e;have:w.heap[g]= .cells cur t fr:=by
     rw[Znj h2]at h;injection h
    rw[this]
   ·rfl
 have e:w.setRow g cur={w with heap:=(w.setRow g cur).heap}:=rfl;rw[e,hw]
section
variable {R:Type} {r:R}
theorem Aa {l:Lf} {c:C} {k:l.ty->Option R} (h:l.get c k=some r): ∃x,k x=some r/\l.put x=c:=by
 cases l with
 |i kd=>
  simp only[Lf.get,asI]at h;split at h
  ·split at h
   ·rename_i e;subst e;exact⟨_,h,rfl⟩
   ·cases h
  ·cases h
 |b=>
  simp only[Lf.get,asB]at h;split at h
  ·exact⟨_,h,rfl⟩
  ·cases h
 |s=>
  simp only[Lf.get,asS]at h;split at h
  ·exact⟨_,h,rfl⟩
  ·cases h
 |o=>exact⟨c,h,rfl⟩
theorem Fl: ∀{ls:List Lf} {cs:List C} {k:R1 ls->Option R} (_:cs.length=ls.length) (_:R1.get ls cs k=some r),∃x,k x=some r/\R1.put ls x=cs
 | [],[],k,_,h=>⟨(),h,rfl⟩
 | [],c::cs,k,hl,h=>by simp at hl
 |l::ls,[],k,hl,h=>by simp at hl
 |l::ls,c::cs,k,hl,h=>by
  simp only[R1.get,unc]at h;obtain⟨x,h1,h2⟩:=Aa h;obtain⟨y,h3,h4⟩:=Fl (by simpa using hl) h1;exact⟨(x,y),h3,by simp only[R1.put,h2,h4]⟩
end
structure Bare (τ:St) (S:Nat->Prop):Prop where
 slot: ∀(t:Nat) (x:V),t<τ.slots.length->τ.slots.get t=x-> ∀s,S s->x.at s=false
 dead: ∀s,S s->τ.loc s= .dead
 mx: ∀s,∀x∈(τ.loc s).refs,∀s',S s' ->x.at s'=false
section
variable {A:Fr} {E E1:Env} {σ τ:St} {lv:Loc} {a:Act}
structure Build (P:Program) (A:Fr) (E E1:Env) (σ τ:St) (lv:Loc) (a:Act):Prop where
 w:E1.w=E.w
 Pr:E1.Pr=E.Pr
 rel:Rel P A E1 τ (λ_=>False) a
 fresh: ∀s s' g,E1.rho s=some g->E.rho s'=some g->lv s'= .dead
 rb: ∀a j g,E1.rb a j=some g->E.rb a j=some g/\lv a= .dead
 src: ∀a g,E1.rho a=some g-> ∃a',E.rho a'=some g
 D:E1.D=E.D
 Y:E1.Y=E.Y
 llg:lv.log=none\/lv.log=σ.loc.log
 lv: ∀s,lv s= .dead\/lv s=σ.loc s
 len:τ.slots.length=σ.slots.length
theorem V6 {E:Env} {τ:St} {t:Nat} {x:V} (h:Rel P A E τ (λ_=>False) a) (hx:t<τ.slots.length->RV P E τ.loc x (a.tmps.getD t undef)):Rel P A E ⟨τ.slots.set t x,τ.loc⟩ (λ_=>False) a:=by
 refine⟨h.good,λt' ht'=> ?_,by rw[h.size];simp,h.defers,h.tm,by rw[<-h.len];simp,h.outs⟩;have hl:t'<τ.slots.length:=by simpa using ht'
 by_cases e:t=t'
 ·subst e;have e1:St.get ⟨τ.slots.set t x,τ.loc⟩ t=x:=Sl.set_self hl;rw[e1];exact hx hl
 ·have e1:St.get ⟨τ.slots.set t x,τ.loc⟩ t'=τ.get t':=Sl.set_ne e;rw[e1];exact h.slots t' hl
theorem Lq {lv:Loc} {s a:Nat} (h:lv a= .dead):lv.put s .dead a= .dead:=by
 by_cases e:a=s
 ·subst e;exact Zf _ _ _
 ·rw[Zc _ _ e];exact h
theorem Mz {E:Env} {l:Loc} {u:Value} {σ:St} {t:Nat} (h: ¬t<σ.slots.length):σ.get t= .und:=Sl.get_ge h
theorem Pt (B:Build P A E E1 σ τ lv a) (hr:Rel P A E σ (λ_=>False) a) {t:Nat} {x:V} (hx:σ.get t=x) (hp:x.plain=x) (hnu:x≠ .und):Build P A E E1 σ ⟨τ.slots.set t x,τ.loc⟩ lv a/\ ∀s,x.at s=false:=by
 have ht:t<σ.slots.length:=by
  by_cases h:t<σ.slots.length
  ·exact h
  ·rw[Mz (E:=E) (l:=σ.loc) (u:=undef) h]at hx;exact absurd hx.symm hnu
 have h0:=hr.slots t ht;rw[hx]at h0;refine⟨⟨B.w,B.Pr,V6 B.rel λ_=> ?_,B.fresh,B.rb,B.src,B.D,B.Y,B.llg,B.lv,by simpa using B.len⟩,λs=> ?_⟩
 ·have hh:Zo E.w E.Pr E1.w E1.Pr:=by rw[B.w,B.Pr];exact .refl _ _
  cases x with
  |c c=>generalize a.tmps.getD t undef=u at h0⊢;cases h0 with|c h=>exact .c (h.held hh)
  |agg cs=>generalize a.tmps.getD t undef=u at h0⊢;cases h0 with|agg h=>exact .agg (h.held hh)
  |_=>first|(cases hp;done)|exact absurd rfl hnu
 ·cases x<;>first|rfl|(cases hp;done)
theorem Hv {E:Env} {s:Nat}: ∀(ts:List (Nat×Nat)) {τ:St} (_:Rel P A E τ (λ_=>False) a) (_: ∀p∈ts,p.1<τ.slots.length->RV P E τ.loc (ptV s p.2) (a.tmps.getD p.1 undef)),Rel P A E ⟨Xj s ts τ.slots,τ.loc⟩ (λ_=>False) a
 | [],τ,h,_=>h
 |p::ts,τ,h,hp=>by
  have:=Hv (s:=s) ts (τ:=⟨τ.slots.set p.1 (ptV s p.2),τ.loc⟩) (V6 h (hp p (by simp))) (λq hq hl=>hp q (by simp[hq]) (by simpa using hl));exact this
theorem Uh (s:Nat): ∀(ts:List (Nat×Nat)) (sl:Sl),(Xj s ts sl).length=sl.length
 | [],sl=>rfl
 |p::ts,sl=>by simp only[Xj];rw[Uh s ts];simp
theorem Lr {s:Nat}: ∀(ts:List (Nat×Nat)) {sl:Sl} {t:Nat} {x:V},t<sl.length->(Xj s ts sl).get t=x->(∃off,x=ptV s off)\/sl.get t=x
 | [],sl,t,x,_,h=> .inr h
 |p::ts,sl,t,x,hl,h=>by
  rcases Lr ts (by simpa using hl) h with h|h
  ·exact .inl h
  ·rcases Sl.set_cases hl h with h|h
   ·exact .inl ⟨p.2,h⟩
   ·exact .inr h
theorem Ls (B:Build P A E E1 σ τ lv a) (hr:Rel P A E σ (λ_=>False) a) {S:Nat->Prop} (hb:Bare τ S) {s s':Nat} (hs:S s) (hlive:lv s'≠ .dead) {g:Nat} (hg:E.rho s'=some g) {cur:Array Value} {t:TypeId} (c1:E.w.heap[g]? =some (.cells cur t (0,0)))
  (c2:cur.size=E.bs s') (hfz0:(σ.loc s').fz=0) {ob:Obj} (hof:ob.fz=0) (hgh:s<OUT\/s'=s)
  (hok: ∀E2 l2,E2.rho s=some g->E2.bs s=cur.size->E2.w=E.w->E2.Pr=E.Pr->(∀y u,RV P E1 τ.loc y u->y.at s=false->RV P E2 l2 y u)->ObjOk P E2 l2 s ob):
  ∃E2,Build P A E E2 σ ⟨τ.slots,τ.loc.put s ob⟩ (lv.put s' .dead) a/\E2.rho s=some g/\E2.bs s=E.bs s'/\ ∀y u,RV P E1 τ.loc y u->y.at s=false->RV P E2 (τ.loc.put s ob) y u:=by
 have hσ:σ.loc s'≠ .dead:=by
  rcases B.lv s' with e|e
  ·exact absurd e hlive
  ·rw[<-e];exact hlive
 have c1':E1.w.heap[g]? =some (.cells cur t (0,0)):=by rw[B.w];exact c1
 have hself:(E1.adopt s g cur).w=E1.w:=setRow_self c1';have key:=Jn (cur':=cur) (fz:=0) (ob:=ob) B.rel.good (hb.dead s hs) (λh=>h) (λx hx=>hlive (B.fresh x s' g hx hg)) (λa j e=>(hr.good.rbo a j g (B.rb a j g e).1).rho s' hg) (λhy=>hr.good.yown s' g hg (B.Y▸hy)) (hr.good.base s' g hg) c1' rfl
  (λk hk=>by
   rw[B.Pr]at hk;have:=(hr.good.prot g k hk).2 s' hg;rw[hfz0]at this;omega)
  (λj hj=>by omega) hof (λhx hk=>hok _ _ (by simp[Env.adopt]) (by simp[Env.adopt]) (hself.trans B.w) B.Pr λy u hy hat=>hy.mono (λx=>x=s) hx (λx hx=>hk x hx) λx hx=>by subst hx;exact hat) (λs2 x hx=>hb.mx s2 x hx s hs)
 obtain⟨k1,k2,k3⟩:=key;have hmono: ∀y u,RV P E1 τ.loc y u->y.at s=false->RV P (E1.adopt s g cur) (τ.loc.put s ob) y u:=λy u hy hat=>hy.mono (λx=>x=s) k2 (λx hx=>k3 x hx) λx hx=>by subst hx;exact hat
 refine⟨E1.adopt s g cur,⟨hself.trans B.w,B.Pr,⟨k1,λt' ht'=> ?_,B.rel.size,B.rel.defers,B.rel.tm,B.rel.len,λk g' n hk=> ?_⟩,λx x' g' hx hx'=> ?_,λa j g' e=>⟨(B.rb a j g' e).1,Lq (B.rb a j g' e).2⟩,(λa g' e=>by
  by_cases e2:a=s
  ·subst e2;simp[Env.adopt]at e;subst e;exact⟨_,hg⟩
  ·exact B.src a g' (by simpa[Env.adopt,e2]using e)),B.D,B.Y,B.llg,λx=> ?_,B.len⟩,by simp[Env.adopt],by simp[Env.adopt];exact c2,hmono⟩
 ·exact hmono _ _ (B.rel.slots t' ht') (hb.slot t' _ ht' rfl s hs)
 ·by_cases e:s=OUT+k
  ·have e2:s'=s:=hgh.resolve_left (by omega);have h0:=hr.outs k g' n hk;rw[<-e,<-e2]at h0;generalize hv:ghv g' n=v at h0;cases h0 with
   |ghDead hd=>exact absurd hd hσ
   | @gh _ g2 n2 h1 h2=>
    rw[<-e];rw[hg]at h1;injection h1 with h1
    subst h1;refine .gh (by simp[Env.adopt]) ?_;simp[Env.adopt];rw[c2];exact h2
  ·exact hmono _ _ (B.rel.outs k g' n hk) (by
    show Zqv (OUT+k) s=false;cases e':Zqv (OUT+k) s
    ·rfl
    ·exact absurd (Zmp e').symm e)
 ·by_cases e:x'=s'
  ·subst e;exact Zf _ _ _
  ·rw[Zc _ _ e];by_cases e2:x=s
   ·subst e2;have:g'=g:=by simp[Env.adopt]at hx;exact hx.symm
    subst this;exact absurd (hr.good.inj _ _ _ hx' hg) e
   ·exact B.fresh x x' g' (by simpa[Env.adopt,e2]using hx) hx'
 ·by_cases e:x=s'
  ·subst e;exact .inl (Zf _ _ _)
  ·rw[Zc _ _ e];exact B.lv x
theorem Pu (B:Build P A E E1 σ τ lv a) (hr:Rel P A E σ (λ_=>False) a) {S:Nat->Prop} (hb:Bare τ S) {s s':Nat} (hs:S s) {t:TypeId} {cs:List C} (hl:lv s'= .ob t 0 cs\/lv s'= .sb t 0 cs) {g:Nat} (hg:E.rho s'=some g) {ob:Obj} (ho:ob= .ob t 0 cs\/ob= .sb t 0 cs) (hgh:s<OUT\/s'=s):
  ∃E2,Build P A E E2 σ ⟨τ.slots,τ.loc.put s ob⟩ (lv.put s' .dead) a/\E2.rho s=some g/\E2.bs s=E.bs s'/\ ∀y u,RV P E1 τ.loc y u->y.at s=false->RV P E2 (τ.loc.put s ob) y u:=by
 have hls:σ.loc s'= .ob t 0 cs\/σ.loc s'= .sb t 0 cs:=by
  rcases B.lv s' with e|e
  ·rw[e]at hl;rcases hl with hl|hl<;>cases hl
  ·rw[<-e];exact hl
 have htc:Z4 (σ.loc s')=some (t,0,cs):=by rcases hls with e|e<;>rw[e]<;>rfl
 obtain⟨⟨cur,c1,c2,c3,c4⟩,_⟩:=Tm hr.good htc hg;have hfz0:(σ.loc s').fz=0:=by rcases hls with e|e<;>rw[e]<;>rfl
 have hlive:lv s'≠ .dead:=by rcases hl with e|e<;>rw[e]<;>simp
 refine Ls B hr hb hs hlive hg c1 c2 hfz0 (ob:=ob) (by rcases ho with rfl|rfl<;>rfl) hgh λE2 l2 e1 e2 e3 e4 _=> ?_;have hblk:Blk E2 s g t cs:=⟨cur,by rw[e3];exact c1,e2.symm,c3,by rw[e3,e4];exact c4⟩;rcases ho with rfl|rfl
 ·exact .ob e1 hblk (Znv _)
 ·exact .sb e1 hblk (Znv _)
theorem Fo (B:Build P A E E1 σ τ lv a) (hr:Rel P A E σ (λ_=>False) a) {S:Nat->Prop} (hb:Bare τ S) {s:Nat} (hs:S s) (hlive:lv s≠ .dead) {g:Nat} (hg:E.rho s=some g)
  (hfz0:(σ.loc s).fz=0) {ob:Obj}
  (hok: ∀E2 l2,E2.rho s=some g->E2.bs s=E.bs s->E2.w=E.w->E2.Pr=E.Pr->ObjOk P E2 l2 s ob):
  ∃E2,Build P A E E2 σ ⟨τ.slots,τ.loc.put s ob⟩ (lv.put s .dead) a/\E2.rho s=some g/\E2.bs s=E.bs s/\ ∀y u,RV P E1 τ.loc y u->y.at s=false->RV P E2 (τ.loc.put s ob) y u:=by
 have hσ:σ.loc s≠ .dead:=by
  rcases B.lv s with e|e
  ·exact absurd e hlive
  ·rw[<-e];exact hlive
 have key:=Zey (n:=E.bs s) (ob:=ob) B.rel.good (hb.dead s hs) (λh=>h) (λx hx=>hlive (B.fresh x s g hx hg)) (λa j e=>(hr.good.rbo a j g (B.rb a j g e).1).rho s hg) (λhy=>hr.good.yown s g hg (B.Y▸hy)) (hr.good.base s g hg)
  (λk hk=>by
   rw[B.Pr]at hk;have:=(hr.good.prot g k hk).2 s hg;rw[hfz0]at this;omega)
  (λ_=>hok _ _ (by simp[Env.take]) (by simp[Env.take]) B.w B.Pr) (λs2 x hx=>hb.mx s2 x hx s hs)
 obtain⟨k1,k3⟩:=key;have hmono: ∀y u,RV P E1 τ.loc y u->y.at s=false->RV P (E1.take s g (E.bs s)) (τ.loc.put s ob) y u:=λy u hy hat=>RV.mono (E:=E1) (l:=τ.loc) (E':=E1.take s g (E.bs s)) (l':=τ.loc.put s ob) (λx=>x=s) (show Zo E1.w E1.Pr (E1.take s g (E.bs s)).w (E1.take s g (E.bs s)).Pr from .refl _ _) (λx hx=>k3 x hx) hy λx hx=>by subst hx;exact hat
 refine⟨E1.take s g (E.bs s),⟨B.w,B.Pr,⟨k1,λt' ht'=> ?_,B.rel.size,B.rel.defers,B.rel.tm,B.rel.len,λk g' n hk=> ?_⟩,λx x' g' hx hx'=> ?_,λa j g' e=>⟨(B.rb a j g' e).1,Lq (B.rb a j g' e).2⟩,(λa g' e=>by
  by_cases e2:a=s
  ·subst e2;simp[Env.take]at e;subst e;exact⟨_,hg⟩
  ·exact B.src a g' (by simpa[Env.take,e2]using e)),B.D,B.Y,B.llg,λx=> ?_,B.len⟩,by simp[Env.take],by simp[Env.take],hmono⟩
 ·exact hmono _ _ (B.rel.slots t' ht') (hb.slot t' _ ht' rfl s hs)
 ·by_cases e:s=OUT+k
  ·have h0:=hr.outs k g' n hk;rw[<-e]at h0;generalize hv:ghv g' n=v at h0;cases h0 with
   |ghDead hd=>exact absurd hd hσ
   | @gh _ g2 n2 h1 h2=>
    rw[<-e];rw[hg]at h1;injection h1 with h1
    subst h1;refine .gh (by simp[Env.take]) ?_;simp[Env.take];exact h2
  ·exact hmono _ _ (B.rel.outs k g' n hk) (by
    show Zqv (OUT+k) s=false;cases e':Zqv (OUT+k) s
    ·rfl
    ·exact absurd (Zmp e').symm e)
 ·by_cases e:x'=s
  ·subst e;exact Zf _ _ _
  ·rw[Zc _ _ e];by_cases e2:x=s
   ·subst e2;have:g'=g:=by simp[Env.take]at hx;exact hx.symm
    subst this;exact absurd (hr.good.inj _ _ _ hx' hg) e
   ·exact B.fresh x x' g' (by simpa[Env.take,e2]using hx) hx'
 ·by_cases e:x=s
  ·subst e;exact .inl (Zf _ _ _)
  ·rw[Zc _ _ e];exact B.lv x
def Env.takeR (E:Env) (d g n:Nat) (f:Nat->Option Nat) (c:Nat->Nat):Env:=
 {E with rho:=λs'=>if s'=d then some g else E.rho s',bs:=λs'=>if s'=d then n else E.bs s',rb:=λs' j=>if s'=d then f j else E.rb s' j,rc:=λs' j=>if s'=d then c j else E.rc s' j}
theorem T7 (B:Build P A E E1 σ τ lv a) (hr:Rel P A E σ (λ_=>False) a) {S:Nat->Prop} (hb:Bare τ S) {s:Nat} (hs:S s) (hlive:lv s≠ .dead) {g:Nat} (hg:E.rho s=some g) (hfz0:(σ.loc s).fz=0) {ob:Obj} {f:Nat->Option Nat} (hf: ∀j g',f j=some g' ->E.rb s j=some g')
  (hok: ∀E2 l2,E2.rho s=some g->E2.bs s=E.bs s->E2.w=E.w->E2.Pr=E.Pr->(∀j,E2.rb s j=f j)->(∀j,E2.rc s j=E.rc s j)->ObjOk P E2 l2 s ob):
  ∃E2,Build P A E E2 σ ⟨τ.slots,τ.loc.put s ob⟩ (lv.put s .dead) a/\E2.rho s=some g/\E2.bs s=E.bs s/\ ∀y u,RV P E1 τ.loc y u->y.at s=false->RV P E2 (τ.loc.put s ob) y u:=by
 have hσ:σ.loc s≠ .dead:=λe=>hlive (by rcases B.lv s with h|h;exact h;exact h.trans e);have hG:=B.rel.good;have hd:=hb.dead s hs;have hno: ∀x,E1.rho x≠some g:=λx hx=>hlive (B.fresh x s g hx hg);have hE:=hr.good.rbo s;have hnr: ∀a' j j' g',E1.rb a' j'=some g' ->E.rb s j=some g' ->False:=λa' j j' g' h1 h2=>by
  obtain⟨h3,h4⟩:=B.rb a' j' g' h1;obtain⟨h5,_⟩:=(hE j g' h2).one a' j' h3;subst h5;exact hlive h4
 have hrh: ∀x j g',E1.rho x=some g' ->E.rb s j=some g' ->False:=λx j g' h1 h2=>by
  obtain⟨a',h3⟩:=B.src x g' h1;exact(hE j g' h2).rho a' h3
 let E2:=E1.takeR s g (E.bs s) f (E.rc s)
 have hrn:E2.rho s=some g:=by simp[E2,Env.takeR]
 have hro: ∀x,x≠s->E2.rho x=E1.rho x:=λx h=>by simp[E2,Env.takeR,h]
 have hrbn: ∀j,E2.rb s j=f j:=λj=>by simp[E2,Env.takeR]
 have hrbo: ∀x j,x≠s->E2.rb x j=E1.rb x j:=λx j h=>by simp[E2,Env.takeR,h]
 have hx:Zo E1.w E1.Pr E2.w E2.Pr:= .refl _ _;have hk: ∀x,x≠s->Zi E1 E2 τ.loc (τ.loc.put s ob) x:=by
  intro x hne;by_cases hd':τ.loc x= .dead
  ·exact .inl ((Zc _ _ hne).trans hd')
  ·exact .inr ⟨hd',hro x hne,by simp[E2,Env.takeR,hne], .same (Zc _ _ hne), .same (Zc _ _ hne) (by funext j;simp[E2,Env.takeR,hne]) (by funext j;simp[E2,Env.takeR,hne])⟩
 have hmono: ∀y u,RV P E1 τ.loc y u->y.at s=false->RV P E2 (τ.loc.put s ob) y u:=λy u hy hat=>hy.mono (λx=>x=s) hx (λx hx=>hk x hx) λx hx=>by subst hx;exact hat
 have hfz: ∀k,¬E1.Pr g k:=λk hk'=>by
  rw[B.Pr]at hk';have:=(hr.good.prot g k hk').2 s hg;rw[hfz0]at this;omega
 refine⟨E2,⟨B.w,B.Pr,⟨⟨λx hp=> ?_,λx hp=>hp.elim,λa' b' g' ha hb'=> ?_,λa' g' ha=> ?_,λb k hp=>⟨(hG.prot b k hp).1,λa' ha=> ?_⟩,hG.jf,hG.pr0,hG.prN,hG.size,hG.os,hG.tape,hG.output,hG.dr,hG.yok,λa' g' ha hy=> ?_,hG.ylt,hG.dm,λx j g' hb'=> ?_⟩,λt' ht'=>hmono _ _ (B.rel.slots t' ht') (hb.slot t' _ ht' rfl s hs),B.rel.size,B.rel.defers,B.rel.tm,B.rel.len,λk g' n hk'=> ?_⟩,λx x' g' hx' hx2=> ?_,λx j g' e=> ?_,λx g' e=> ?_,B.D,B.Y,B.llg,λx=> ?_,B.len⟩,hrn,by simp[E2,Env.takeR],hmono⟩
 ·show ObjOk P E2 (τ.loc.put s ob) x (τ.loc.put s ob x);by_cases e:x=s
  ·subst e;rw[Zf];exact hok E2 _ hrn (by simp[E2,Env.takeR]) B.w B.Pr hrbn (λj=>by simp[E2,Env.takeR])
  ·rw[Zc _ _ e];exact(hG.obj x (λh=>h)).keep hx (hro x e) (by simp[E2,Env.takeR,e]) (λ_ _=>rfl) (λy u hm hu=>hmono y u hu (hb.mx x y hm s hs)) (λj=>⟨hrbo x j e,λ_ _=>rfl⟩) (by funext j;simp[E2,Env.takeR,e])
 ·by_cases ea:a'=s<;>by_cases eb:b'=s
  ·rw[ea,eb]
  ·subst ea;rw[hrn]at ha;rw[hro b' eb]at hb';injection ha with ha;subst ha;exact absurd hb' (hno b')
  ·subst eb;rw[hrn]at hb';rw[hro a' ea]at ha;injection hb' with hb';subst hb';exact absurd ha (hno a')
  ·rw[hro a' ea]at ha;rw[hro b' eb]at hb';exact hG.inj a' b' g' ha hb'
 ·by_cases ea:a'=s
  ·subst ea;rw[hrn]at ha;injection ha with ha;subst ha;exact hr.good.base _ _ hg
  ·rw[hro a' ea]at ha;exact hG.base a' g' ha
 ·by_cases ea:a'=s
  ·subst ea;rw[hrn]at ha;injection ha with ha;subst ha;exact absurd hp (hfz k)
  ·rw[hro a' ea]at ha;show k<(τ.loc.put s ob a').fz;rw[Zc _ _ ea];exact(hG.prot b k hp).2 a' ha
 ·by_cases ea:a'=s
  ·subst ea;rw[hrn]at ha;injection ha with ha;subst ha;exact hr.good.yown _ _ hg (B.Y▸hy)
  ·rw[hro a' ea]at ha;exact hG.yown a' g' ha hy
 ·by_cases e:x=s
  ·subst e;rw[hrbn]at hb';have hb':=hf j g' hb';have h0:=hE j g' hb';refine⟨by show ∃cur t,E1.w.heap[g']? =_;rw[B.w];exact h0.cells,λy hy=> ?_,λy j' hy=> ?_,λk hk'=>h0.pr k (by rw[<-B.Pr];exact hk'),λhy=>h0.y (B.Y▸hy),h0.base⟩
   ·by_cases ey:y=x
    ·subst ey;rw[hrn]at hy;injection hy with hy;subst hy;exact h0.rho _ hg
    ·rw[hro y ey]at hy;exact hrh y j g' hy hb'
   ·by_cases ey:y=x
    ·subst ey;rw[hrbn]at hy;exact h0.one _ _ (hf _ _ hy)
    ·rw[hrbo y j' ey]at hy;exact(hnr y j j' g' hy hb').elim
  ·rw[hrbo x j e]at hb';have h0:=hG.rbo x j g' hb';refine⟨h0.cells,λy hy=> ?_,λy j' hy=> ?_,h0.pr,h0.y,h0.base⟩
   ·by_cases ey:y=s
    ·subst ey;rw[hrn]at hy;injection hy with hy;subst hy
     exact((hr.good.rbo x j g (B.rb x j g hb').1).rho _ hg)
    ·rw[hro y ey]at hy;exact h0.rho y hy
   ·by_cases ey:y=s
    ·subst ey;rw[hrbn]at hy;exact(hnr x j' j g' hb' (hf _ _ hy)).elim
    ·rw[hrbo y j' ey]at hy;exact h0.one y j' hy
 ·by_cases e:s=OUT+k
  ·have h3:=hr.outs k g' n hk';rw[<-e]at h3;show RV P E2 (τ.loc.put s ob) (.gh (OUT+k)) (ghv g' n);rw[<-e];generalize ghv g' n=v at h3⊢;cases h3 with
   |ghDead hd'=>exact absurd hd' hσ
   | @gh _ g2 n2 h4 h5=>
    rw[hg]at h4;injection h4 with h4
    subst h4;exact .gh hrn (by simp[E2,Env.takeR];exact h5)
  ·exact hmono _ _ (B.rel.outs k g' n hk') (by
    show Zqv (OUT+k) s=false;cases e':Zqv (OUT+k) s
    ·rfl
    ·exact absurd (Zmp e').symm e)
 ·by_cases e:x'=s
  ·subst e;exact Zf _ _ _
  ·rw[Zc _ _ e];by_cases e2:x=s
   ·subst e2;rw[hrn]at hx';injection hx' with hx'
    subst hx';exact absurd (hr.good.inj _ _ _ hx2 hg) e
   ·rw[hro x e2]at hx';exact B.fresh x x' g' hx' hx2
 ·by_cases e2:x=s
  ·subst e2;rw[hrbn]at e;exact⟨hf _ _ e,Zf _ _ _⟩
  ·rw[hrbo x j e2]at e;exact⟨(B.rb x j g' e).1,Lq (B.rb x j g' e).2⟩
 ·by_cases e2:x=s
  ·subst e2;rw[hrn]at e;injection e with e;subst e;exact⟨_,hg⟩
  ·rw[hro x e2]at e;exact B.src x g' e
 ·by_cases e:x=s
  ·subst e;exact .inl (Zf _ _ _)
  ·rw[Zc _ _ e];exact B.lv x
theorem Zaj (B:Build P A E E1 σ τ lv a) (hr:Rel P A E σ (λ_=>False) a) {S:Nat->Prop} (hb:Bare τ S) {s:Nat} (hs:S s) (hlive:lv s≠ .dead) {kt et te:TypeId} {es:List (List C×List C)} (hls:σ.loc s= .mr kt et te es) {g:Nat} (hg:E.rho s=some g):
  ∃E2,Build P A E E2 σ ⟨τ.slots,τ.loc.put s (.mr kt et te es)⟩ (lv.put s .dead) a/\E2.rho s=some g/\ ∀y u,RV P E1 τ.loc y u->y.at s=false->RV P E2 (τ.loc.put s (.mr kt et te es)) y u:=by
 have h1:=hr.good.obj s (λh=>h);rw[hls]at h1;cases h1 with
 | @mr _ _ _ _ g1 ms q1 q2 q3 q4 q5 q6=>
  rw[hg]at q1;injection q1 with q1
  subst q1;obtain⟨E2,r1,r2,_,r3⟩:=T7 (ob:= .mr kt et te es) (f:=E.rb s) B hr hb hs hlive hg (by rw[hls];rfl) (λ_ _ h=>h) (λE2 l2 w1 w2 w3 w4 w5 w6=> .mr (ms:=ms) w1 (by rw[w3];exact q2) q3 q4 q5 λj k row m he hm=>⟨(q6 j k row m he hm).1,by rw[w3,w4];exact(q6 j k row m he hm).2.1,
   (q6 j k row m he hm).2.2.keep (by rw[w3,w4];exact .refl _ _) ⟨w5 j,λg' _=>by rw[w3]⟩⟩)
  exact⟨E2,r1,r2,r3⟩
theorem Ab {E:Env} {s:Nat}: ∀(ts:List Nat) {τ:St} (_:Rel P A E τ (λ_=>False) a) (_: ∀t∈ts,t<τ.slots.length->RV P E τ.loc (.mp s) (a.tmps.getD t undef)),Rel P A E ⟨U4 s ts τ.slots,τ.loc⟩ (λ_=>False) a
 | [],τ,h,_=>h
 |p::ts,τ,h,hp=>by
  have:=Ab (s:=s) ts (τ:=⟨τ.slots.set p (.mp s),τ.loc⟩) (V6 h (hp p (by simp))) (λq hq hl=>hp q (by simp[hq]) (by simpa using hl));exact this
theorem Vh (s:Nat): ∀(ts:List Nat) (sl:Sl),(U4 s ts sl).length=sl.length
 | [],sl=>rfl
 |p::ts,sl=>by simp only[U4];rw[Vh s ts];simp
theorem Lt {s:Nat}: ∀(ts:List Nat) {sl:Sl} {t:Nat} {x:V},t<sl.length->(U4 s ts sl).get t=x->x= .mp s\/sl.get t=x
 | [],sl,t,x,_,h=> .inr h
 |p::ts,sl,t,x,hl,h=>by
  rcases Lt ts (by simpa using hl) h with h|h
  ·exact .inl h
  ·rcases Sl.set_cases hl h with h|h
   ·exact .inl h
   ·exact .inr h
theorem Zd7 {E:Env} {s n:Nat}: ∀(ts:List Nat) {τ:St} (_:Rel P A E τ (λ_=>False) a) (_: ∀t∈ts,t<τ.slots.length->RV P E τ.loc (.ws s n) (a.tmps.getD t undef)),Rel P A E ⟨Vy s n ts τ.slots,τ.loc⟩ (λ_=>False) a
 | [],τ,h,_=>h
 |p::ts,τ,h,hp=>by
  have:=Zd7 (s:=s) (n:=n) ts (τ:=⟨τ.slots.set p (.ws s n),τ.loc⟩) (V6 h (hp p (by simp))) (λq hq hl=>hp q (by simp[hq]) (by simpa using hl));exact this
theorem Sg (s n:Nat): ∀(ts:List Nat) (sl:Sl),(Vy s n ts sl).length=sl.length
 | [],sl=>rfl
 |p::ts,sl=>by simp only[Vy];rw[Sg s n ts];simp
theorem Lu {s n:Nat}: ∀(ts:List Nat) {sl:Sl} {t:Nat} {x:V},t<sl.length->(Vy s n ts sl).get t=x->x= .ws s n\/sl.get t=x
 | [],sl,t,x,_,h=> .inr h
 |p::ts,sl,t,x,hl,h=>by
  rcases Lu ts (by simpa using hl) h with h|h
  ·exact .inl h
  ·rcases Sl.set_cases hl h with h|h
   ·exact .inl h
   ·exact .inr h
theorem Vi (cells:List V): ∀(wt:List (Nat×Nat)) (sl:Sl),(Qf cells wt sl).length=sl.length
 | [],sl=>rfl
 |p::wt,sl=>by
  simp only[Qf];split
  ·rw[Vi cells wt];simp
  ·exact Vi cells wt sl
theorem Rp (cells:List V): ∀(wt:List (Nat×Nat)) {sl:Sl} {t:Nat} {x:V},t<sl.length->(Qf cells wt sl).get t=x->(∃s n j:Nat,x=V.ws s n/\cells[j]? =some (V.ws s n))\/sl.get t=x
 | [],sl,t,x,_,h=> .inr h
 |p::wt,sl,t,x,hl,h=>by
  simp only[Qf]at h;split at h
  ·rename_i s n e;rcases Rp cells wt (by simpa using hl) h with h|h
   ·exact .inl h
   ·rcases Sl.set_cases hl h with h|h
    ·exact .inl ⟨s,n,_,h,e⟩
    ·exact .inr h
  ·exact Rp cells wt hl h
theorem Kw {E:Env} {cells:List V}: ∀(wt:List (Nat×Nat)) {τ:St} (_:Rel P A E τ (λ_=>False) a) (_: ∀p∈wt,∀s n,cells[p.2]? =some (.ws s n)->p.1<τ.slots.length->RV P E τ.loc (.ws s n) (a.tmps.getD p.1 undef)),Rel P A E ⟨Qf cells wt τ.slots,τ.loc⟩ (λ_=>False) a
 | [],τ,h,_=>h
 |p::wt,τ,h,hp=>by
  simp only[Qf];split
  ·rename_i s n e;exact Kw wt (τ:=⟨τ.slots.set p.1 (.ws s n),τ.loc⟩) (V6 h (hp p (by simp) s n e)) (λq hq s' n' e' hl=>hp q (by simp[hq]) s' n' e' (by simpa using hl))
  ·exact Kw wt h λq hq s' n' e' hl=>hp q (by simp[hq]) s' n' e' hl
theorem gh_ne {s k:Nat} (h:s≠OUT+k):(V.gh (OUT+k)).at s=false:=by
 show Zqv (OUT+k) s=false;cases e:Zqv (OUT+k) s
 ·rfl
 ·exact absurd (Zmp e).symm h
theorem Pv (B:Build P A E E1 σ τ lv a) {S:Nat->Prop} (hb:Bare τ S) {s:Nat} (hs:S s) (hlt: ∀k g n,A.outs k=some (g,n)->s≠OUT+k) {t:TypeId}:
  Build P A E E1 σ ⟨τ.slots,τ.loc.put s (.sb t 0 [])⟩ lv a/\E1.rho s=none/\ ∀y u,RV P E1 τ.loc y u->y.at s=false->RV P E1 (τ.loc.put s (.sb t 0 [])) y u:=by
 have hG:=B.rel.good;have hn:E1.rho s=none:=by
  have:=hG.obj s (λh=>h);rw[hb.dead s hs]at this;cases this;assumption
 have hk: ∀s',s'≠s->Zi E1 E1 τ.loc (τ.loc.put s (.sb t 0 [])) s':=λs' hne=>by
  by_cases hd:τ.loc s'= .dead
  ·exact .inl ((Zc _ _ hne).trans hd)
  ·exact .inr ⟨hd,rfl,rfl, .same (Zc _ _ hne), .same (Zc _ _ hne)⟩
 refine⟨⟨B.w,B.Pr,⟨⟨λs' hp=> ?_,λs' hp=>hp.elim,hG.inj,hG.base,λb k hp=>⟨(hG.prot b k hp).1,λs' hs'=> ?_⟩,hG.jf,hG.pr0,hG.prN,hG.size,hG.os,hG.tape,hG.output,hG.dr,hG.yok,hG.yown,hG.ylt,hG.dm,Qi hG.rbo⟩,λt' ht'=> ?_,B.rel.size,B.rel.defers,B.rel.tm,B.rel.len,λk g' n hk'=>(B.rel.outs k g' n hk').mono (λx=>x=s) (.refl _ _) (λx hx=>hk x hx) (λx hx=>by subst hx;exact gh_ne (hlt k g' n hk'))⟩,B.fresh,B.rb,B.src,B.D,B.Y,B.llg,B.lv,B.len⟩,hn,λy u hy hat=>hy.mono (λx=>x=s) (.refl _ _) (λx hx=>hk x hx) λx hx=>by subst hx;exact hat⟩
 ·show ObjOk P E1 (τ.loc.put s (.sb t 0 [])) s' (τ.loc.put s (.sb t 0 []) s');by_cases e:s'=s
  ·subst e;rw[Zf];exact .sbNil hn
  ·rw[Zc _ _ e];exact(hG.obj s' hp).keep (.refl _ _) rfl rfl (λ_ _=>rfl) λx u hm hu=>
    hu.mono (λx=>x=s) (.refl _ _) (λx hx=>hk x hx) λq hq=>by subst hq;exact hb.mx s' x hm q hs
 ·have hne:s'≠s:=λe=>by rw[e,hn]at hs';cases hs'
  show k<(τ.loc.put s (.sb t 0 []) s').fz;rw[Zc _ _ hne];exact(hG.prot b k hp).2 s' hs'
 ·refine(B.rel.slots t' ht').mono (λx=>x=s) (.refl _ _) (λx hx=>hk x hx) (λx hx=> ?_);subst hx;exact hb.slot t' _ ht' rfl x hs
end
end Go.PM
namespace Go.PM
open Go
variable {P:Program} {R:Type} {r:R}
section
variable {A:Fr} {E E1:Env} {σ τ:St} {lv:Loc} {a:Act}
theorem Bare.sub {S S':Nat->Prop} (hb:Bare τ S) (hS: ∀s,S' s->S s):Bare τ S':=
 ⟨λt x hl hx s hs=>hb.slot t x hl hx s (hS s hs),λs hs=>hb.dead s (hS s hs),λs x hx s' hs=>hb.mx s x hx s' (hS s' hs)⟩
theorem Bare.set {S:Nat->Prop} (hb:Bare τ S) {t:Nat} {x:V} {S':Nat->Prop} (hS: ∀s,S' s->S s) (hx: ∀s,S' s->x.at s=false):Bare ⟨τ.slots.set t x,τ.loc⟩ S':=by
 refine⟨λt' y hl hy s hs=> ?_,λs hs=>hb.dead s (hS s hs),λs x hx s' hs=>hb.mx s x hx s' (hS s' hs)⟩;have hl:t'<τ.slots.length:=hl;rcases Sl.set_cases hl hy with rfl|h
 ·exact hx s hs
 ·exact hb.slot t' y hl h s (hS s hs)
theorem Bare.put' {S:Nat->Prop} (hb:Bare τ S) {s:Nat} {o:Obj} {S':Nat->Prop} (hS: ∀x,S' x->S x/\x≠s) (ho: ∀x∈o.refs,∀s',S' s' ->x.at s'=false):Bare ⟨τ.slots,τ.loc.put s o⟩ S':=by
 refine⟨λt' y hl hy x hx=>hb.slot t' y hl hy x (hS x hx).1,λx hx=> ?_,λx y hy s' hs=> ?_⟩
 ·show τ.loc.put s o x= .dead;rw[Zc _ _ (hS x hx).2];exact hb.dead x (hS x hx).1
 ·have hy:y∈(τ.loc.put s o x).refs:=hy;by_cases e:x=s
  ·subst e;rw[Zf]at hy;exact ho y hy s' hs
  ·rw[Zc _ _ e]at hy;exact hb.mx x y hy s' (hS s' hs).1
theorem Bare.put {S:Nat->Prop} (hb:Bare τ S) {s:Nat} {o:Obj} {S':Nat->Prop} (hS: ∀x,S' x->S x/\x≠s) (ho:o.refs=[]):Bare ⟨τ.slots,τ.loc.put s o⟩ S':=
 hb.put' hS λx hx=>by rw[ho]at hx;cases hx
theorem Zl7 {s x off:Nat} (h:x≠s):(ptV s off).at x=false:=by
 have hb:Zqv s x=false:=by
  cases e:Zqv s x
  ·rfl
  ·exact absurd (Zmp e).symm h
 unfold ptV;cases Zq3 off CLO
 ·exact hb
 ·exact hb
theorem Bare.pts {S:Nat->Prop} (hb:Bare τ S) {s:Nat} {ts:List (Nat×Nat)} (hS: ∀x,S x->x≠s):Bare ⟨Xj s ts τ.slots,τ.loc⟩ S:=by
 refine⟨λt' y hl hy x hx=> ?_,hb.dead,hb.mx⟩;have hl:t'<τ.slots.length:=by have:t'<(Xj s ts τ.slots).length:=hl;rwa [Uh]at this
 rcases Lr ts hl hy with⟨off,rfl⟩|h
 ·exact Zl7 (hS x hx)
 ·exact hb.slot t' y hl h x hx
theorem Bare.mps {S:Nat->Prop} (hb:Bare τ S) {s:Nat} {ts:List Nat} (hS: ∀x,S x->x≠s):Bare ⟨U4 s ts τ.slots,τ.loc⟩ S:=by
 refine⟨λt' y hl hy x hx=> ?_,hb.dead,hb.mx⟩;have hl:t'<τ.slots.length:=by have:t'<(U4 s ts τ.slots).length:=hl;rwa [Vh]at this
 rcases Lt ts hl hy with rfl|h
 ·show Zqv s x=false;cases e:Zqv s x
  ·rfl
  ·exact absurd (Zmp e).symm (hS x hx)
 ·exact hb.slot t' y hl h x hx
theorem Bare.wss {S:Nat->Prop} (hb:Bare τ S) {s n:Nat} {ts:List Nat} (hS: ∀x,S x->x≠s):Bare ⟨Vy s n ts τ.slots,τ.loc⟩ S:=by
 refine⟨λt' y hl hy x hx=> ?_,hb.dead,hb.mx⟩;have hl:t'<τ.slots.length:=by have:t'<(Vy s n ts τ.slots).length:=hl;rwa [Sg]at this
 rcases Lu ts hl hy with rfl|h
 ·show Zqv s x=false;cases e:Zqv s x
  ·rfl
  ·exact absurd (Zmp e).symm (hS x hx)
 ·exact hb.slot t' y hl h x hx
theorem Bare.cells {S:Nat->Prop} (hb:Bare τ S) {cells:List V} {wt:List (Nat×Nat)} (hS: ∀(s n j:Nat),cells[j]? =some (.ws s n)-> ∀x,S x->x≠s):Bare ⟨Qf cells wt τ.slots,τ.loc⟩ S:=by
 refine⟨λt' y hl hy x hx=> ?_,hb.dead,hb.mx⟩;have hl:t'<τ.slots.length:=by have:t'<(Qf cells wt τ.slots).length:=hl;rwa [Vi]at this
 rcases Rp cells wt hl hy with⟨s,n,j,rfl,e⟩|h
 ·show Zqv s x=false;cases e1:Zqv s x
  ·rfl
  ·exact absurd (Zmp e1).symm (hS s n j e x hx)
 ·exact hb.slot t' y hl h x hx
theorem Zj8 {σ:St} {xs:List V} {wt:List (Nat×Nat)} (h:A2 σ [] wt=true):A2 σ xs wt=true:=by
 cases wt with
 |nil=>rfl
 |cons p wt=>
  have h1:=Zm7.1 h p (by simp);simp at h1
theorem ws_at {s x n:Nat} (h:x≠s):(V.ws s n).at x=false:=by
 show Zqv s x=false;cases e:Zqv s x
 ·rfl
 ·exact absurd (Zmp e).symm h
theorem Fp: ∀{ks:List PK} {ps:List PC} {k:Zgw ks->Option R} (_:R4 ks ps k=some r),∃z,k z=some r/\(Xb ks z).length=ps.length/\ ∀(j:Nat) (p:PC),(Xb ks z)[j]? =some p-> ∃p0,ps[j]? =some p0/\(p0=p\/ ∃te,p0= .c .nl/\p= .r te []/\PK.rw te∈ks)
 | [],ps,k,h=>by
  unfold R4 at h;split at h
  ·exact⟨(),h,rfl,λj p hp=>by simp[Xb]at hp⟩
  ·cases h
 |m::ks,[],k,h=>by simp[R4,Zeu]at h
 | .lf l::ks,p::ps,k,h=>by
  cases p with
  |r te row=>cases h
  |c c=>
   obtain⟨y,h1,h2⟩:=Aa (show l.get c (λy=>R4 ks ps λz=>k (y,z))=some r from h);obtain⟨z,g1,g2,g3⟩:=Fp h1;refine⟨(y,z),g1,by simp[Xb,g2],λj q hq=> ?_⟩;cases j with
   |zero=>
    have hq:PC.c (l.put y)=q:=by simpa[Xb]using hq
    exact⟨.c c,rfl, .inl (by rw[<-hq,h2])⟩
   |succ j=>
    obtain⟨p0,a1,a2⟩:=g3 j q (by simpa[Xb]using hq);exact⟨p0,by simpa using a1,a2.imp id λ⟨te,b1,b2,b3⟩=>⟨te,b1,b2,Znm _ b3⟩⟩
 | .rw te::ks,p::ps,k,h=>by
  have fin: ∀row:List C,(p= .r te row\/(p= .c .nl/\row=[]))->R4 ks ps (λz=>k (row,z))=some r-> ∃z,k z=some r/\(Xb (.rw te::ks) z).length=(p::ps).length/\
    ∀(j:Nat) (q:PC),(Xb (.rw te::ks) z)[j]? =some q-> ∃p0,(p::ps)[j]? =some p0/\(p0=q\/ ∃te',p0= .c .nl/\q= .r te' []/\PK.rw te'∈PK.rw te::ks):=by
   intro row hrow h1;obtain⟨z,g1,g2,g3⟩:=Fp h1;refine⟨(row,z),g1,by simp[Xb,g2],λj q hq=> ?_⟩;cases j with
   |zero=>
    have hq:PC.r te row=q:=by simpa[Xb]using hq
    rcases hrow with e|⟨e1,e2⟩
    ·exact⟨p,rfl, .inl (e.trans hq)⟩
    ·exact⟨p,rfl, .inr ⟨te,e1,by rw[<-hq,e2],by simp⟩⟩
   |succ j=>
    obtain⟨p0,a1,a2⟩:=g3 j q (by simpa[Xb]using hq);exact⟨p0,by simpa using a1,a2.imp id λ⟨te,b1,b2,b3⟩=>⟨te,b1,b2,Znm _ b3⟩⟩
  cases p with
  |r te' row=>
   obtain⟨hb,h1⟩:=Za (show need (Zqv te' te) (R4 ks ps λz=>k (row,z))=some r from h);have e:=Zmp hb;exact fin row (.inl (by rw[e])) h1
  |c c=>
   cases c with
   |nl=>exact fin [] (.inr ⟨rfl,rfl⟩) h
   |_=>cases h
theorem own_at {s x off n:Nat} (h:x≠s):(V.own s off n).at x=false:=by
 show Zqv s x=false;cases e:Zqv s x
 ·rfl
 ·exact absurd (Zmp e).symm h
theorem Zak (B:Build P A E E1 σ τ lv a) (s':Nat):Build P A E E1 σ τ (lv.put s' .dead) a:=
 ⟨B.w,B.Pr,B.rel,λx x' g hx hx'=>by
  by_cases e:x'=s'
  ·subst e;exact Zf _ _ _
  ·rw[Zc _ _ e];exact B.fresh x x' g hx hx',λa j g e=>⟨(B.rb a j g e).1,Lq (B.rb a j g e).2⟩,B.src,B.D,B.Y,B.llg,λx=>by
  by_cases e:x=s'
  ·subst e;exact .inl (Zf _ _ _)
  ·rw[Zc _ _ e];exact B.lv x,B.len⟩
theorem Kx (B:Build P A E E1 σ τ lv a) {t:Nat} {x:V} (hx:RV P E1 τ.loc x (a.tmps.getD t undef)):Build P A E E1 σ ⟨τ.slots.set t x,τ.loc⟩ lv a:=
 ⟨B.w,B.Pr,V6 B.rel λ_=>hx,B.fresh,B.rb,B.src,B.D,B.Y,B.llg,B.lv,by simpa using B.len⟩
theorem mp_at {s x:Nat} (h:x≠s):(V.mp s).at x=false:=by
 show Zqv s x=false;cases e:Zqv s x
 ·rfl
 ·exact absurd (Zmp e).symm h
theorem Zcr {E E2:Env} {σ:St} {l2:Loc} {s g:Nat} {p:Nat×Nat} {u:Value} (h1:(match σ.get p.1 with| .ptr s' off=>Zqv s' s&&Zqv off p.2&&Zq3 p.2 CLO| .clo f s'=>Zqv s' s&&Zqv (CLO+f) p.2|_=>false)=true)
  (h2:RV P E σ.loc (σ.get p.1) u) (hσ:σ.loc s≠ .dead) (hg:E.rho s=some g) (e1:E2.rho s=some g):RV P E2 l2 (ptV s p.2) u:=by
 split at h1
 ·rename_i s' off e;rw[e]at h2;simp only[Zmq]at h1;have e2:=Zmp h1.1.1;have e3:=Zmp h1.1.2;subst e2;unfold ptV;rw[h1.2];cases h2 with
  |ptrDead h=>exact absurd h hσ
  |ptr h=>
   rw[hg]at h;injection h with h
   subst h;rw[e3];exact .ptr e1
 ·rename_i f s' e;rw[e]at h2;simp only[Zmq]at h1;have e2:=Zmp h1.1;have e3:=Zmp h1.2;subst e2;unfold ptV;have hb:Zq3 p.2 CLO=false:=by
   rw[<-e3];cases h:Zq3 (CLO+f) CLO with
   |false=>rfl
   |true=>have:CLO+f<CLO:=Zmu h;omega
  rw[hb,<-e3,Zps];cases h2 with
  |cloDead h=>exact absurd h hσ
  |clo h=>
   rw[hg]at h;injection h with h
   subst h;exact .clo e1
 ·cases h1
theorem Zd8 (B:Build P A E E1 σ τ lv a) (hr:Rel P A E σ (λ_=>False) a) {S:Nat->Prop} (hb:Bare τ S) {s:Nat} (hs:S s) {ty:TypeId} {cs:List C} (hl:lv s= .ob ty 0 cs) {ts:List (Nat×Nat)} (hp:M7 σ s ts=true):
  ∃E2,Build P A E E2 σ ⟨Xj s ts τ.slots,τ.loc.put s (.ob ty 0 cs)⟩ (lv.put s .dead) a/\Bare ⟨Xj s ts τ.slots,τ.loc.put s (.ob ty 0 cs)⟩ (λx=>S x/\x≠s):=by
 have hls:σ.loc s= .ob ty 0 cs:=by
  rcases B.lv s with e|e
  ·rw[e]at hl;cases hl
  ·rw[<-e];exact hl
 have hg: ∃g,E.rho s=some g:=by
  have:=hr.good.obj s (λh=>h);rw[hls]at this;cases this with
  |ob h _ _=>exact⟨_,h⟩
 obtain⟨g,hg⟩:=hg;obtain⟨E2,B2,e1,_,_⟩:=Pu B hr hb hs (.inl hl) hg (.inl rfl) (.inr rfl);have hb2:Bare ⟨τ.slots,τ.loc.put s (.ob ty 0 cs)⟩ (λx=>S x/\x≠s):=hb.put (λx hx=>hx) rfl;refine⟨E2,⟨B2.w,B2.Pr,Hv ts B2.rel λp hp' hlt=> ?_,B2.fresh,B2.rb,B2.src,B2.D,B2.Y,B2.llg,B2.lv,by rw[Uh];exact B2.len⟩,hb2.pts λx hx=>hx.2⟩;have h1:=Zm7.1 hp p hp';have hlt':p.1<σ.slots.length:=by rw[<-B.len];exact hlt
 have h2:=hr.slots p.1 hlt';exact Zcr h1 h2 (by rw[hls];intro e;cases e) hg e1
theorem Fq (B:Build P A E E1 σ τ lv a) (hr:Rel P A E σ (λ_=>False) a) {S:Nat->Prop} (hb:Bare τ S) {s:Nat} (hS:S s) (hlt:s<OUT) {ty:TypeId} {x:V} {u:Value} (hx:RV P E σ.loc x u) {k:List C->Loc->Option R}
  (h:C4 P ty x lv k=some r): ∃cs lv' E2,k cs lv'=some r/\Build P A E E2 σ ⟨τ.slots,τ.loc.put s (.sb ty 0 cs)⟩ lv' a/\Bare ⟨τ.slots,τ.loc.put s (.sb ty 0 cs)⟩ (λx=>S x/\x≠s)/\
   RV P E2 (τ.loc.put s (.sb ty 0 cs)) (.own s 0 (cs.length/Zg P ty)) u/\ ∀y v,RV P E1 τ.loc y v->y.at s=false->RV P E2 (τ.loc.put s (.sb ty 0 cs)) y v:=by
 have bare: ∀(cs:List C),Bare ⟨τ.slots,τ.loc.put s (.sb ty 0 cs)⟩ (λx=>S x/\x≠s):=λcs=>hb.put (λx hx=>hx) rfl;have whole: ∀{s' n:Nat} {cs:List C} {off:Nat},x= .own s' off n->(lv s'= .ob ty 0 cs\/lv s'= .sb ty 0 cs)->off=0->n*Zg P ty=cs.length->Zg P ty≠0->
   ∃E2,Build P A E E2 σ ⟨τ.slots,τ.loc.put s (.sb ty 0 cs)⟩ (lv.put s' .dead) a/\RV P E2 (τ.loc.put s (.sb ty 0 cs)) (.own s 0 (cs.length/Zg P ty)) u/\ ∀y v,RV P E1 τ.loc y v->y.at s=false->RV P E2 (τ.loc.put s (.sb ty 0 cs)) y v:=by
  intro s' n cs off hget hl hoff hn hz;subst hoff hget;have hls:σ.loc s'= .ob ty 0 cs\/σ.loc s'= .sb ty 0 cs:=by
   rcases B.lv s' with e|e
   ·rw[e]at hl;rcases hl with hl|hl<;>cases hl
   ·rw[<-e];exact hl
  have hdiv:cs.length/Zg P ty=n:=by rw[<-hn];exact Zog _ (by omega)
  cases hx with
  |ownDead h=>rcases hls with e|e<;>rw[e]at h<;>cases h
  |ownMx h=>rcases hls with e|e<;>rw[e]at h<;>cases h
  |own0 _ _ ho=>exact absurd rfl ho
  |ownNil h1 h2=>
   have hcs:cs=[]:=by rcases hls with e|e<;>rw[e]at h2<;>cases h2;rfl
   subst hcs;obtain⟨B2,e,hm⟩:=Pv (t:=ty) (Zak B s') hb hS (λk _ _ _ e=>by omega);refine⟨E1,B2, ?_,hm⟩;have:([]:List C).length/Zg P ty=0:=by simp
   rw[this];exact .ownNil e (Zf _ _ _)
  | @own _ _ _ g cap t' fz' cs' h1 h2 h3 h4 h5=>
   obtain⟨E2,B2,e1,e2,hm⟩:=Pu (ob:= .sb ty 0 cs) B hr hb hS hl h1 (.inr rfl) (.inl hlt);have ety:t'=ty:=by rcases hls with e|e<;>rw[e]at h2<;>injection h2 with h2<;>injection h2 with h2 _<;>exact h2.symm
   refine⟨E2,B2, ?_,hm⟩;rw[hdiv];have ho:Z4 (τ.loc.put s (.sb ty 0 cs) s)=some (ty,0,cs):=by rw[Zf];rfl
   exact .own e1 ho h3 h4 (by rw[e2,<-h5,ety])
 unfold C4 at h;split at h
 ·rename_i s' off n;split at h
  ·rename_i ty' fz cs hl;obtain⟨h0,h'⟩:=Za h;simp only[Zmq,Znn]at h0;obtain⟨⟨⟨⟨e1,e2⟩,e3⟩,e4⟩,e5⟩:=h0;have e1:=Zmp e1;have e4:=Zmp e4;subst e1 e4;obtain⟨E2,B2,b2,b3⟩:=whole rfl (.inl hl) (Zmp e2) (Zmp e3) (λe=>by rw[e]at e5;cases e5);exact⟨cs,_,E2,h',B2,bare cs,b2,b3⟩
  ·rename_i ty' fz cs hl;obtain⟨h0,h'⟩:=Za h;simp only[Zmq,Znn]at h0;obtain⟨⟨⟨⟨e1,e2⟩,e3⟩,e4⟩,e5⟩:=h0;have e1:=Zmp e1;have e4:=Zmp e4;subst e1 e4;obtain⟨E2,B2,b2,b3⟩:=whole rfl (.inr hl) (Zmp e2) (Zmp e3) (λe=>by rw[e]at e5;cases e5);exact⟨cs,_,E2,h',B2,bare cs,b2,b3⟩
  ·cases h
 ·obtain⟨B2,e,hm⟩:=Pv (t:=ty) B hb hS (λk _ _ _ e=>by omega);refine⟨[],lv,E1,h,B2,bare [], ?_,hm⟩;have:([]:List C).length/Zg P ty=0:=by simp
  rw[this];cases hx with
  |c hv=>cases hv;exact .ownNil e (Zf _ _ _)
 ·cases h
theorem Ac (B:Build P A E E1 σ τ lv a) (hr:Rel P A E σ (λ_=>False) a) {S:Nat->Prop} (hb:Bare τ S) {s:Nat} (hS:S s) {kt et:TypeId} {x:V} {u:Value} (hx:RV P E σ.loc x u) {k:List (List C×List C)->Loc->Option R}
  (h:C5 s kt et x lv k=some r): ∃es lv' E2,k es lv'=some r/\Build P A E E2 σ ⟨τ.slots,τ.loc.put s (.mp kt et es)⟩ lv' a/\Bare ⟨τ.slots,τ.loc.put s (.mp kt et es)⟩ (λx=>S x/\x≠s)/\
   RV P E2 (τ.loc.put s (.mp kt et es)) (.mp s) u/\ ∀y v,RV P E1 τ.loc y v->y.at s=false->RV P E2 (τ.loc.put s (.mp kt et es)) y v:=by
 unfold C5 at h;split at h
 ·rename_i s';split at h
  ·rename_i kt' et' es hl;obtain⟨h0,h'⟩:=Za h;simp only[Zmq]at h0;have e0:=Zmp h0.1.1;have e1:=Zmp h0.1.2;have e2:=Zmp h0.2;subst e0 e1 e2;have hls:σ.loc s'= .mp kt' et' es:=by
    rcases B.lv s' with e|e
    ·rw[e]at hl;cases hl
    ·rw[<-e];exact hl
   have h1:=hr.good.obj s' (λh=>h);rw[hls]at h1;cases h1 with
   | @mp _ _ _ g ms q1 q2 q3 q4=>
    obtain⟨E2,B2,e1,e2,hm⟩:=Fo (ob:= .mp kt' et' es) B hr hb hS (by rw[hl];simp) q1 (by rw[hls];rfl) (λE2 l2 w1 w2 w3 w4=> .mp w1 (by rw[w3];exact q2) q3 (by rw[w3,w4];exact q4));refine⟨es,_,E2,h',B2,hb.put (λx hx=>hx) rfl, ?_,hm⟩;cases hx with
    |mpDead h=>rw[hls]at h;cases h
    |mp h=>
     rw[q1]at h;injection h with h
     subst h;exact .mp e1
  ·cases h
 ·cases h
theorem Ad (B:Build P A E E1 σ τ lv a) (hr:Rel P A E σ (λ_=>False) a) {S:Nat->Prop} (hb:Bare τ S) {s:Nat} (hS:S s) {ty te:TypeId} {x:V} {u:Value} (hx:RV P E σ.loc x u) {k:List (List C)->Loc->Option R}
  (h:C6 s ty te x lv k=some r): ∃rows lv' E2,k rows lv'=some r/\Build P A E E2 σ ⟨τ.slots,τ.loc.put s (.pk 0 ty (.rs te rows) none)⟩ lv' a/\Bare ⟨τ.slots,τ.loc.put s (.pk 0 ty (.rs te rows) none)⟩ (λx=>S x/\x≠s)/\
   RV P E2 (τ.loc.put s (.pk 0 ty (.rs te rows) none)) (.ws s rows.length) u/\ ∀y v,RV P E1 τ.loc y v->y.at s=false->RV P E2 (τ.loc.put s (.pk 0 ty (.rs te rows) none)) y v:=by
 unfold C6 at h;split at h
 ·rename_i s' n;split at h
  ·rename_i g' ty' q pe hl;split at h
   ·rename_i te' rows;obtain⟨h0,h'⟩:=Za h;simp only[Zmq]at h0;have e0:=Zmp h0.1.1.1;have e1:=Zmp h0.1.1.2;have e2:=Zmp h0.1.2;have e3:=Zmp h0.2;subst e0 e1 e2 e3;have hls:σ.loc s'= .pk g' ty' (.rs te' rows) none:=by
     rcases B.lv s' with e|e
     ·rw[e]at hl;cases hl
     ·rw[<-e];exact hl
    obtain⟨g,cur,q1,_,q2,q3,q4,q5,_⟩:=Lg hr.good hls;obtain⟨E2,B2,e1,e2,hm⟩:=T7 (ob:= .pk 0 ty' (.rs te' rows) none) (f:=E.rb s') B hr hb hS (by rw[hl];simp) q1 (by rw[hls];rfl) (λ_ _ h=>h) (λE2 l2 w1 w2 w3 w4 w5 w6=> .pk w1 (by rw[w3];exact q2) q3 (w2.trans q4)
     (λj p u hp hu=>⟨(q5 j p u hp hu).1,λ_=>((q5 j p u hp hu).2 λe he=>by cases he).keep (by rw[w3,w4];exact .refl _ _) ⟨w5 j,λg' _=>by rw[w3]⟩ (w6 j)⟩) λ_ _ _ e=>by cases e)
    refine⟨rows,_,E2,h',B2,hb.put (λx hx=>hx) rfl, ?_,hm⟩;cases hx with
    |wsDead h=>rw[hls]at h;cases h
    |ws h hn=>
     rw[q1]at h;injection h with h
     subst h;exact .ws e1 hn
   ·cases h
  ·cases h
 ·cases h
theorem Lv (hr:Rel P A E σ (λ_=>False) a): ∀(ms:List MK) {xs:List V} {us:List Value} {E1:Env} {τ:St} {lv:Loc} {S:Nat->Prop} (_:Build P A E E1 σ τ lv a) (_:Bare τ S) (_: ∀s∈ms.filterMap MK.site,S s) (_:nodupB (ms.filterMap MK.site)=true)
  (_:(ms.filterMap MK.site).all (λs=>Zq3 s OUT)=true) (_: ∀(j:Nat) (x:V) (u:Value),xs[j]? =some x->us[j]? =some u->RV P E σ.loc x u) (_:xs.length<=us.length) {k:C3 ms->Loc->Option R} (_:Tz P ms xs lv k=some r),
  ∃z lv' E2,k z lv'=some r/\Build P A E E2 σ ⟨τ.slots,Xx P ms z τ.loc⟩ lv' a/\Bare ⟨τ.slots,Xx P ms z τ.loc⟩ (λs=>S s/\s∉ms.filterMap MK.site)/\(Zv P ms z).length=xs.length/\
   (∀(j:Nat) (y:V) (u:Value),(Zv P ms z)[j]? =some y->us[j]? =some u->RV P E2 (Xx P ms z τ.loc) y u)/\(∀y∈Zv P ms z,∀s,(∃c,y= .c c)\/y.at s=true->(∃c,y= .c c)\/s∈ms.filterMap MK.site)/\
   ∀y v,RV P E1 τ.loc y v->(∀s∈ms.filterMap MK.site,y.at s=false)->RV P E2 (Xx P ms z τ.loc) y v
 | [],xs,us,E1,τ,lv,S,B,hb,_,_,_,_,_,k,h=>by
  simp only[Tz]at h;cases xs with
  |nil=>exact⟨(),lv,E1,h,B,hb.sub λs hs=>hs.1,rfl,λj y u hy=>by simp[Zv]at hy,λy hy=>by simp[Zv]at hy,λy v hy _=>hy⟩
  |cons x xs=>cases h
 |m::ms,[],us,E1,τ,lv,S,B,hb,_,_,_,_,_,k,h=>by simp[Tz]at h
 |m::ms,x::xs,[],E1,τ,lv,S,B,hb,_,_,_,_,hl,k,h=>by simp at hl
 | .lf l::ms,x::xs,u::us,E1,τ,lv,S,B,hb,hS,hn,hin,hx,hl,k,h=>by
  simp only[Tz]at h;cases x with
  |c c=>
   obtain⟨y,h1,h2⟩:=Aa h;obtain⟨z,lv',E2,g1,g2,g3,g4,g5,g6,g7⟩:=Lv hr ms (xs:=xs) (us:=us) B hb hS hn hin (λj x u hx' hu=>hx (j+1) x u (by simpa using hx') (by simpa using hu)) (by simpa using hl) h1;refine⟨(y,z),lv',E2,g1,g2,g3,by simp[Zv,g4],λj v w hv hw=> ?_,λv hv s hs=> ?_,g7⟩
   ·cases j with
    |zero=>
     simp[Zv]at hv hw;subst hv hw;have h0:=hx 0 _ _ rfl rfl;cases h0 with
     |c hc=>
      rw[h2];have hh:Zo E.w E.Pr E2.w E2.Pr:=by rw[g2.w,g2.Pr];exact .refl _ _
      exact .c (hc.held hh)
    |succ j=>exact g5 j v w (by simpa[Zv]using hv) (by simpa using hw)
   ·rcases Znl.1 (show v∈V.c (l.put y)::Zv P ms z from hv)with rfl|hv
    ·exact .inl ⟨_,rfl⟩
    ·exact g6 v hv s hs
  |_=>cases h
 | .ow s ty::ms,x::xs,u::us,E1,τ,lv,S,B,hb,hS,hn,hin,hx,hl,k,h=>by
  simp only[Tz]at h;have hfm:(MK.ow s ty::ms).filterMap MK.site=s::ms.filterMap MK.site:=by simp[MK.site]
  rw[hfm]at hS hn hin;simp only[nodupB,Zmq,Znn]at hn;simp only[Zoq,Zmq]at hin;have hns:s∉ms.filterMap MK.site:=λe=>by have:=Vg.2 e;rw[hn.1]at this;cases this
  obtain⟨cs,lv1,E2,h1,B2,b2,hrv,hm⟩:=Fq B hr hb (hS s (by simp)) (Zmu hin.1) (hx 0 x u rfl rfl) h;obtain⟨z,lv',E3,g1,g2,g3,g4,g5,g6,g7⟩:=Lv hr ms (xs:=xs) (us:=us) B2 b2 (λq hq=>⟨hS q (Znm _ hq),λe=>hns (e▸hq)⟩) hn.2 hin.2 (λj x u hx' hu=>hx (j+1) x u (by simpa using hx') (by simpa using hu)) (by simpa using hl) h1;refine⟨(cs,z),lv',E3,g1,g2,g3.sub λq hq=>⟨⟨hq.1,λe=>hq.2 (by rw[hfm,e];simp)⟩,λe=>hq.2 (by rw[hfm];simp[e])⟩,by simp[Zv,g4],λj v w hv hw=> ?_,λv hv q hq=> ?_,λy v hy hat=> ?_⟩
  ·cases j with
   |zero=>
    simp[Zv]at hv hw;subst hv hw;exact g7 _ _ hrv λq hq=>own_at λe=>hns (e▸hq)
   |succ j=>exact g5 j v w (by simpa[Zv]using hv) (by simpa using hw)
  ·rw[hfm];rcases Znl.1 (show v∈V.own s 0 (cs.length/Zg P ty)::Zv P ms z from hv)with rfl|hv
   ·rcases hq with⟨c,e⟩|hq
    ·cases e
    ·have:s=q:=Zmp hq;exact .inr (by simp[this])
   ·rcases g6 v hv q hq with e|e
    ·exact .inl e
    ·exact .inr (Znm _ e)
  ·rw[hfm]at hat;exact g7 y v (hm y v hy (hat s (by simp))) λq hq=>hat q (Znm _ hq)
 | .mp s kt et::ms,x::xs,u::us,E1,τ,lv,S,B,hb,hS,hn,hin,hx,hl,k,h=>by
  simp only[Tz]at h;have hfm:(MK.mp s kt et::ms).filterMap MK.site=s::ms.filterMap MK.site:=by simp[MK.site]
  rw[hfm]at hS hn hin;simp only[nodupB,Zmq,Znn]at hn;simp only[Zoq,Zmq]at hin;have hns:s∉ms.filterMap MK.site:=λe=>by have:=Vg.2 e;rw[hn.1]at this;cases this
  obtain⟨cs,lv1,E2,h1,B2,b2,hrv,hm⟩:=Ac B hr hb (hS s (by simp)) (hx 0 x u rfl rfl) h;obtain⟨z,lv',E3,g1,g2,g3,g4,g5,g6,g7⟩:=Lv hr ms (xs:=xs) (us:=us) B2 b2 (λq hq=>⟨hS q (Znm _ hq),λe=>hns (e▸hq)⟩) hn.2 hin.2 (λj x u hx' hu=>hx (j+1) x u (by simpa using hx') (by simpa using hu)) (by simpa using hl) h1;refine⟨(cs,z),lv',E3,g1,g2,g3.sub λq hq=>⟨⟨hq.1,λe=>hq.2 (by rw[hfm,e];simp)⟩,λe=>hq.2 (by rw[hfm];simp[e])⟩,by simp[Zv,g4],λj v w hv hw=> ?_,λv hv q hq=> ?_,λy v hy hat=> ?_⟩
  ·cases j with
   |zero=>
    simp[Zv]at hv hw;subst hv hw;exact g7 _ _ hrv λq hq=>mp_at λe=>hns (e▸hq)
   |succ j=>exact g5 j v w (by simpa[Zv]using hv) (by simpa using hw)
  ·rw[hfm];rcases Znl.1 (show v∈V.mp s::Zv P ms z from hv)with rfl|hv
   ·rcases hq with⟨c,e⟩|hq
    ·cases e
    ·have:s=q:=Zmp hq;exact .inr (by simp[this])
   ·rcases g6 v hv q hq with e|e
    ·exact .inl e
    ·exact .inr (Znm _ e)
  ·rw[hfm]at hat;exact g7 y v (hm y v hy (hat s (by simp))) λq hq=>hat q (Znm _ hq)
 | .ws s ty te::ms,x::xs,u::us,E1,τ,lv,S,B,hb,hS,hn,hin,hx,hl,k,h=>by
  simp only[Tz]at h;have hfm:(MK.ws s ty te::ms).filterMap MK.site=s::ms.filterMap MK.site:=by simp[MK.site]
  rw[hfm]at hS hn hin;simp only[nodupB,Zmq,Znn]at hn;simp only[Zoq,Zmq]at hin;have hns:s∉ms.filterMap MK.site:=λe=>by have:=Vg.2 e;rw[hn.1]at this;cases this
  obtain⟨cs,lv1,E2,h1,B2,b2,hrv,hm⟩:=Ad B hr hb (hS s (by simp)) (hx 0 x u rfl rfl) h;obtain⟨z,lv',E3,g1,g2,g3,g4,g5,g6,g7⟩:=Lv hr ms (xs:=xs) (us:=us) B2 b2 (λq hq=>⟨hS q (Znm _ hq),λe=>hns (e▸hq)⟩) hn.2 hin.2 (λj x u hx' hu=>hx (j+1) x u (by simpa using hx') (by simpa using hu)) (by simpa using hl) h1;refine⟨(cs,z),lv',E3,g1,g2,g3.sub λq hq=>⟨⟨hq.1,λe=>hq.2 (by rw[hfm,e];simp)⟩,λe=>hq.2 (by rw[hfm];simp[e])⟩,by simp[Zv,g4],λj v w hv hw=> ?_,λv hv q hq=> ?_,λy v hy hat=> ?_⟩
  ·cases j with
   |zero=>
    simp[Zv]at hv hw;subst hv hw;exact g7 _ _ hrv λq hq=>ws_at λe=>hns (e▸hq)
   |succ j=>exact g5 j v w (by simpa[Zv]using hv) (by simpa using hw)
  ·rw[hfm];rcases Znl.1 (show v∈V.ws s cs.length::Zv P ms z from hv)with rfl|hv
   ·rcases hq with⟨c,e⟩|hq
    ·cases e
    ·have:s=q:=Zmp hq;exact .inr (by simp[this])
   ·rcases g6 v hv q hq with e|e
    ·exact .inl e
    ·exact .inr (Znm _ e)
  ·rw[hfm]at hat;exact g7 y v (hm y v hy (hat s (by simp))) λq hq=>hat q (Znm _ hq)
theorem Mb: ∀{a b:List Nat},nodupB (a++b)=true->nodupB a=true/\nodupB b=true/\ ∀s∈a,s∉b
 | [],b,h=>⟨rfl,h,by simp⟩
 |x::a,b,h=>by
  simp only[Zmw,nodupB,Zmq,Znn]at h⊢;obtain⟨h1,h2,h3⟩:=Mb h.2;have hx: ∀y∈a++b,y≠x:=λy hy e=>by
   subst e;have:=Vg.2 hy;rw[h.1]at this;cases this
  refine⟨⟨?_,h1⟩,h2,λs hs=> ?_⟩
  ·cases e:a.any (Zqv x)with
   |false=>rfl
   |true=>exact absurd rfl (hx x (Zn3 _ (Vg.1 e)))
  ·rcases Znl.1 hs with rfl|hs
   ·exact λe=>hx s (Zoj _ e) rfl
   ·exact h3 s hs
theorem Vu: ∀(ms:List MK) (z:C3 ms) (l:Loc) {s:Nat},s∉ms.filterMap MK.site->Xx P ms z l s=l s
 | [],_,l,s,_=>rfl
 | .lf _::r,(_,z),l,s,h=>Vu r z l (by simpa[MK.site]using h)
 | .ow s' ty::r,(y,z),l,s,h=>by
  have h': ¬s=s'/\s∉r.filterMap MK.site:=by simpa[MK.site]using h
  simp only[Xx];rw[Vu r z _ h'.2,Zc _ _ h'.1]
 | .mp s' kt et::r,(y,z),l,s,h=>by
  have h': ¬s=s'/\s∉r.filterMap MK.site:=by simpa[MK.site]using h
  simp only[Xx];rw[Vu r z _ h'.2,Zc _ _ h'.1]
 | .ws s' ty te::r,(y,z),l,s,h=>by
  have h': ¬s=s'/\s∉r.filterMap MK.site:=by simpa[MK.site]using h
  simp only[Xx];rw[Vu r z _ h'.2,Zc _ _ h'.1]
theorem Ky (l:Loc) {s s':Nat} (o o':Obj) (h:s≠s'):(l.put s o).put s' o'=(l.put s' o').put s o:=by
 unfold Loc.put
 congr 1
 funext x
 show(bif Zqv x s' then o' else bif Zqv x s then o else l.fn x)=(bif Zqv x s then o else bif Zqv x s' then o' else l.fn x);cases e:Zqv x s'<;>cases e2:Zqv x s<;>try rfl
 exact absurd ((Zmp e2).symm.trans (Zmp e)) h
theorem Zj9 (l:Loc) {s:Nat} (o o':Obj):(l.put s o).put s o'=l.put s o':=by
 unfold Loc.put
 congr 1
 funext x
 show(bif Zqv x s then o' else bif Zqv x s then o else l.fn x)=(bif Zqv x s then o' else l.fn x);cases e:Zqv x s<;>rfl
theorem Sx: ∀(ms:List MK) (z:C3 ms) (l:Loc) {s:Nat} (o o':Obj),s∉ms.filterMap MK.site->(Xx P ms z (l.put s o)).put s o'=(Xx P ms z l).put s o'
 | [],_,l,s,o,o',_=>Zj9 l o o'
 | .lf _::r,(_,z),l,s,o,o',h=>Sx r z l o o' (by simpa[MK.site]using h)
 | .ow s' ty::r,(y,z),l,s,o,o',h=>by
  have h': ¬s=s'/\s∉r.filterMap MK.site:=by simpa[MK.site]using h
  simp only[Xx];rw[Ky _ _ _ h'.1];exact Sx r z _ o o' h'.2
 | .mp s' kt et::r,(y,z),l,s,o,o',h=>by
  have h': ¬s=s'/\s∉r.filterMap MK.site:=by simpa[MK.site]using h
  simp only[Xx];rw[Ky _ _ _ h'.1];exact Sx r z _ o o' h'.2
 | .ws s' ty te::r,(y,z),l,s,o,o',h=>by
  have h': ¬s=s'/\s∉r.filterMap MK.site:=by simpa[MK.site]using h
  simp only[Xx];rw[Ky _ _ _ h'.1];exact Sx r z _ o o' h'.2
theorem Zka {g n g' n':Nat} (h:ghv g n=ghv g' n'):g=g'/\n=n':=by
 simp[ghv]at h;omega
theorem Zfx {E:Env} {τ:St} (h:Rel P A E τ (λ_=>False) a) {s g:Nat} {ty:TypeId} {cur:Array Value} {xs0 xs:List V} (hl:τ.loc s= .mx ty xs0) (hr:E.rho s=some g) (hb:E.bs s=cur.size) (hg:E.w.heap[g]? =some (.cells cur ty (0,0)))
  (hlen:xs.length<=cur.size) (hx: ∀(j:Nat) (x:V) (u:Value),xs[j]? =some x->cur[j]? =some u->RV P E τ.loc x u/\u.oneCell'=true):
  Rel P A E ⟨τ.slots,τ.loc.put s (.mx ty xs)⟩ (λ_=>False) a/\ ∀y u,RV P E τ.loc y u->RV P E (τ.loc.put s (.mx ty xs)) y u:=by
 have hk: ∀s',Zi E E τ.loc (τ.loc.put s (.mx ty xs)) s':=λs'=>by
  by_cases e:s'=s
  ·subst e;exact .inr ⟨by rw[hl];simp,rfl,rfl,⟨λ_ _ e=>(by rw[hl]at e;cases e),λ_ _ _ e=>(by rw[hl]at e;cases e),λ_=>by rw[Zf];rfl⟩, .no (Zf _ _ _) rfl rfl⟩
  ·by_cases hd:τ.loc s'= .dead
   ·exact .inl ((Zc _ _ e).trans hd)
   ·exact .inr ⟨hd,rfl,rfl, .same (Zc _ _ e), .same (Zc _ _ e)⟩
 have hm: ∀y u,RV P E τ.loc y u->RV P E (τ.loc.put s (.mx ty xs)) y u:=λy u hy=>hy.mono0 (.refl _ _) hk;have hG:=h.good;refine⟨⟨⟨λs' hp=> ?_,λs' hp=>hp.elim,hG.inj,hG.base,λb k hp=>⟨(hG.prot b k hp).1,λs' hs'=> ?_⟩,hG.jf,hG.pr0,hG.prN,hG.size,hG.os,hG.tape,hG.output,hG.dr,hG.yok,hG.yown,hG.ylt,hG.dm,Qi hG.rbo⟩,λt ht=>hm _ _ (h.slots t ht),h.size,h.defers,h.tm,h.len,λk g n hk=>hm _ _ (h.outs k g n hk)⟩,hm⟩
 ·show ObjOk P E (τ.loc.put s (.mx ty xs)) s' (τ.loc.put s (.mx ty xs) s');by_cases e:s'=s
  ·subst e;rw[Zf];exact .mx hr hg hlen (λj x u h1 h2=>⟨hm _ _ (hx j x u h1 h2).1,(hx j x u h1 h2).2⟩) hb
  ·rw[Zc _ _ e];exact(hG.obj s' hp).keep (.refl _ _) rfl rfl (λ_ _=>rfl) λx u _ hu=>hm x u hu
 ·have:=(hG.prot b k hp).2 s' hs';by_cases e:s'=s
  ·subst e;rw[hl]at this;simp[Obj.fz]at this
  ·show k<(τ.loc.put s (.mx ty xs) s').fz;rw[Zc _ _ e];exact this
theorem Zfy (B:Build P A E E1 σ τ lv a) (hr:Rel P A E σ (λ_=>False) a) {S:Nat->Prop} (hb:Bare τ S) {kp:Keep} (hin:kp.inner=true) (hsite: ∀s∈kp.sites,S s) (hnd:nodupB kp.sites=true) {k:kp.ty->Loc->Option R}
  (h:kp.get P σ lv k=some r): ∃x lv' E2,k x lv'=some r/\Build P A E E2 σ (kp.put P x τ) lv' a/\Bare (kp.put P x τ) (λs=>S s/\s∉kp.sites):=by
 cases kp with
 |lg=>
  simp only[Keep.get]at h;cases hl:lv.log with
  |none=>rw[hl]at h;cases h
  |some lg=>
   rw[hl]at h;have hσ:σ.loc.log=some lg:=by
    rcases B.llg with e|e
    ·rw[hl]at e;cases e
    ·rw[<-e];exact hl
   have hG:=B.rel.good;have hJ:A.jt.J E1.Y E1.Pr (some lg) E1.w:=by rw[B.Y,B.Pr,B.w,<-hσ];exact hr.good.jf
   have hk: ∀s,Zi E1 E1 τ.loc ⟨τ.loc.fn,some lg⟩ s:=λs=>by
    by_cases hd:τ.loc s= .dead
    ·exact .inl hd
    ·exact .inr ⟨hd,rfl,rfl, .same rfl, .same rfl⟩
   have hrv: ∀{y:V} {v:Value},RV P E1 τ.loc y v->RV P E1 ⟨τ.loc.fn,some lg⟩ y v:=λhy=>hy.mono0 (.refl _ _) hk;refine⟨lg,⟨lv.fn,none⟩,E1,h,⟨B.w,B.Pr,⟨⟨λs hp=> ?_,λs hp=>hp.elim,hG.inj,hG.base,hG.prot,hJ,hG.pr0,hG.prN,hG.size,hG.os,hG.tape,hG.output,hG.dr,hG.yok,hG.yown,hG.ylt,hG.dm,Qi hG.rbo⟩,λt ht=>hrv (B.rel.slots t ht),B.rel.size,B.rel.defers,B.rel.tm,B.rel.len,λk g n hk=>hrv (B.rel.outs k g n hk)⟩,B.fresh,B.rb,B.src,B.D,B.Y, .inl rfl,B.lv,B.len⟩, ?_, ?_,λs x hx s' hs=>hb.mx s x hx s' hs.1⟩
   ·exact(hG.obj s hp).keep (.refl _ _) rfl rfl (λ_ _=>rfl) λ_ _ _ hu=>hrv hu
   ·intro t x ht hx s hs;exact hb.slot t x ht hx s hs.1
   ·intro s hs;exact hb.dead s hs.1
 |lf t l=>
  simp only[Keep.get]at h;split at h
  ·rename_i c hc;obtain⟨x,h1,h2⟩:=Aa h;obtain⟨B1,h3⟩:=Pt B hr hc rfl (by simp);refine⟨x,lv,E1,h1, ?_, ?_⟩
   ·simp only[Keep.put,h2];exact B1
   ·simp only[Keep.put,h2];exact hb.set (λs hs=>hs.1) λs _=>h3 s
  ·cases h
 |ag t ls=>
  simp only[Keep.get]at h;split at h
  ·rename_i cs hc;obtain⟨h0,h⟩:=Za h;obtain⟨x,h1,h2⟩:=Fl (Zmp h0) h;obtain⟨B1,h3⟩:=Pt B hr hc rfl (by simp);refine⟨x,lv,E1,h1, ?_, ?_⟩
   ·simp only[Keep.put,h2];exact B1
   ·simp only[Keep.put,h2];exact hb.set (λs hs=>hs.1) λs _=>h3 s
  ·cases h
 |ao t=>
  simp only[Keep.get]at h;split at h
  ·rename_i cs hc;obtain⟨B1,h3⟩:=Pt B hr hc rfl (by simp);exact⟨cs,lv,E1,h,B1,hb.set (λs hs=>hs.1) λs _=>h3 s⟩
  ·cases h
 |ob s ty ls ts=>
  simp only[Keep.get]at h;split at h
  ·rename_i ty' fz cs hl;obtain⟨h0,h'⟩:=Za h;simp only[Zmq]at h0;obtain⟨⟨⟨e1,e2⟩,e3⟩,e4⟩:=h0;have e1:=Zmp e1;have e2:=Zmp e2;subst e1 e2;obtain⟨x,h1,h2⟩:=Fl (Zmp e3) h';obtain⟨E2,B2,b2⟩:=Zd8 B hr hb (hsite s (by simp[Keep.sites])) hl e4;refine⟨x,_,E2,h1, ?_, ?_⟩
   ·simp only[Keep.put,h2];exact B2
   ·simp only[Keep.put,h2];exact⟨λt y hl hy x hx=>b2.slot t y hl hy x ⟨hx.1,λe=>hx.2 (by simp[Keep.sites,e])⟩,λx hx=>b2.dead x ⟨hx.1,λe=>hx.2 (by simp[Keep.sites,e])⟩,λa x hx s' hs=>b2.mx a x hx s' ⟨hs.1,λe=>hs.2 (by simp[Keep.sites,e])⟩⟩
  ·cases h
 |oo s ty ts=>
  simp only[Keep.get]at h;split at h
  ·rename_i ty' fz cs hl;obtain⟨h0,h'⟩:=Za h;simp only[Zmq]at h0;obtain⟨⟨e1,e2⟩,e4⟩:=h0;have e1:=Zmp e1;have e2:=Zmp e2;subst e1 e2;obtain⟨E2,B2,b2⟩:=Zd8 B hr hb (hsite s (by simp[Keep.sites])) hl e4;exact⟨cs,_,E2,h',B2,λt y hl hy x hx=>b2.slot t y hl hy x ⟨hx.1,λe=>hx.2 (by simp[Keep.sites,e])⟩,λx hx=>b2.dead x ⟨hx.1,λe=>hx.2 (by simp[Keep.sites,e])⟩,λa x hx s' hs=>b2.mx a x hx s' ⟨hs.1,λe=>hs.2 (by simp[Keep.sites,e])⟩⟩
  ·cases h
 |ow t s ty=>
  have hS:=hsite s (by simp[Keep.sites]);have hlt:s<OUT:=Zmu hin;simp only[Keep.get]at h;have ht:t<σ.slots.length:=by
   by_cases ht:t<σ.slots.length
   ·exact ht
   ·rw[Mz (E:=E) (l:=σ.loc) (u:=undef) ht]at h;cases h
  obtain⟨cs,lv',E2,h1,B2,b2,hrv,_⟩:=Fq B hr hb hS hlt (hr.slots t ht) h;refine⟨cs,lv',E2,h1, ?_, ?_⟩
  ·simp only[Keep.put];exact Kx B2 hrv
  ·simp only[Keep.put];have b3:=b2.set (t:=t) (x:= .own s 0 (cs.length/Zg P ty)) (S':=λx=>S x/\x≠s) (λx hx=>hx) λx hx=>own_at hx.2;exact b3.sub λx hx=>⟨hx.1,λe=>hx.2 (by simp[Keep.sites,e])⟩
 |mx s ty ms ts wt=>
  have hin2:s<OUT/\(ms.filterMap MK.site).all (λs=>Zq3 s OUT)=true:=by
   simp only[Keep.inner,Zmq]at hin;exact⟨Zmu hin.1,hin.2⟩
  have hnd2:s∉ms.filterMap MK.site/\nodupB (ms.filterMap MK.site)=true:=by
   simp only[Keep.sites,nodupB,Zmq,Znn]at hnd;exact⟨λe=>(by have:=Vg.2 e;rw[hnd.1]at this;cases this),hnd.2⟩
  have main: ∀(xs:List V) {g:Nat} {cur:Array Value},lv s≠ .dead->(σ.loc s).fz=0->E.rho s=some g->E.w.heap[g]? =some (.cells cur ty (0,0))->xs.length<=cur.size->cur.size=E.bs s->
    (∀(j:Nat) (x:V) (u:Value),xs[j]? =some x->cur[j]? =some u->RV P E σ.loc x u/\u.oneCell'=true)->M7 σ s ts=true->A2 σ xs wt=true->σ.loc s≠ .dead->Tz P ms xs (lv.put s .dead) k=some r->
    ∃x lv' E2,k x lv'=some r/\Build P A E E2 σ ((Keep.mx s ty ms ts wt).put P x τ) lv' a/\Bare ((Keep.mx s ty ms ts wt).put P x τ) (λq=>S q/\q∉(Keep.mx s ty ms ts wt).sites):=by
   intro xs g cur hlive hfz0 hg c1 c3 c2 hcells hp hw hσ hget;obtain⟨E2,B2,e1,e2,hm⟩:=Ls (ob:= .mx ty []) B hr hb (hsite s (by simp[Keep.sites])) hlive hg c1 c2 hfz0 rfl (.inr rfl) (λE2 l2 q1 q2 q3 q4 _=> .mx q1 (by rw[q3];exact c1) (by simp) (λj x u hx=>by simp at hx) q2);have b2:Bare ⟨τ.slots,τ.loc.put s (.mx ty [])⟩ (λq=>S q/\q≠s):=hb.put' (λx hx=>hx) λx hx=>by simp[Obj.refs]at hx
   obtain⟨z,lv',E3,g1,g2,g3,g4,g5,g6,g7⟩:=Lv hr ms (xs:=xs) (us:=cur.toList) B2 b2 (λq hq=>⟨hsite q (by simp only[Keep.sites];exact Znm _ hq),λe=>hnd2.1 (e▸hq)⟩) hnd2.2 hin2.2
    (λj x u hx hu=>(hcells j x u hx (by simpa using hu)).1) (by simpa using c3) hget
   have hls:Xx P ms z (τ.loc.put s (.mx ty [])) s= .mx ty []:=by rw[Vu _ _ _ hnd2.1,Zf]
   have hgh:=g7 (.gh s) (ghv g cur.size) (.gh e1 (e2.trans c2.symm)) λq hq=>by
    show Zqv s q=false;cases e:Zqv s q
    ·rfl
    ·exact absurd (Zmp e▸hq) hnd2.1
   have hE3:E3.rho s=some g/\E3.bs s=cur.size:=by
    generalize hv:ghv g cur.size=v at hgh;cases hgh with
    |ghDead hd=>rw[hls]at hd;cases hd
    |gh h1 h2=>
     obtain⟨a1,a2⟩:=Zka hv;exact⟨by rw[h1,a1],by rw[h2,a2]⟩
   have hlen:(Zv P ms z).length<=cur.size:=by rw[g4];exact c3
   obtain⟨r1,r2⟩:=Zfx (xs:=Zv P ms z) g2.rel hls hE3.1 hE3.2 (by rw[g2.w];exact c1) hlen λj y u hy hu=>by
    have hj:j<xs.length:=by rw[<-g4];exact(Zmx.1 hy).1
    exact⟨g5 j y u hy (by simpa using hu),(hcells j _ u (Zm0 hj) hu).2⟩
   have hloc:(Xx P ms z (τ.loc.put s (.mx ty []))).put s (.mx ty (Zv P ms z))=(Xx P ms z τ.loc).put s (.mx ty (Zv P ms z)):=Sx ms z _ _ _ hnd2.1;have B4:Build P A E E3 σ ⟨τ.slots,(Xx P ms z τ.loc).put s (.mx ty (Zv P ms z))⟩ lv' a:=by
    rw[<-hloc];exact⟨g2.w,g2.Pr,r1,g2.fresh,g2.rb,g2.src,g2.D,g2.Y,g2.llg,g2.lv,g2.len⟩
   have b4:Bare ⟨τ.slots,(Xx P ms z τ.loc).put s (.mx ty (Zv P ms z))⟩ (λq=>(S q/\q≠s)/\q∉ms.filterMap MK.site):=by
    rw[<-hloc];refine g3.put' (λx hx=>⟨hx,hx.1.2⟩) λy hy q hq=> ?_;cases hyq:y.at q with
    |false=>rfl
    |true=>
     rcases g6 y hy q (.inr hyq)with⟨c,e⟩|e
     ·subst e;cases hyq
     ·exact absurd e hq.2
   have hcell5: ∀(j:Nat) (y:V) (u:Value),(Zv P ms z)[j]? =some y->cur[j]? =some u->RV P E3 ((Xx P ms z τ.loc).put s (.mx ty (Zv P ms z))) y u:=λj y u hy hu=>by
    rw[<-hloc];exact r2 _ _ (g5 j y u hy (by simpa using hu))
   refine⟨z,lv',E3,g1,⟨B4.w,B4.Pr,Kw (τ:=⟨Xj s ts τ.slots,_⟩) wt (Hv ts B4.rel λp hp' hlt=> ?_) λp hp' s2 n2 hc2 hlt=> ?_,B4.fresh,B4.rb,B4.src,B4.D,B4.Y,B4.llg,B4.lv, ?_⟩, ?_⟩
   ·have h1:=Zm7.1 hp p hp';have hlt':p.1<σ.slots.length:=by rw[<-B.len];exact hlt
    have h2:=hr.slots p.1 hlt';exact Zcr h1 h2 hσ hg hE3.1
   ·have hlt0:p.1<τ.slots.length:=by have:p.1<(Xj s ts τ.slots).length:=hlt;rwa [Uh]at this
    have hlt':p.1<σ.slots.length:=by rw[<-B.len];exact hlt0
    have h1:=Zm7.1 hw p hp';have h2:=hr.slots p.1 hlt';split at h1
    ·rename_i s1 n1 s1' n1' e1 e2';rw[e1]at h2;simp only[Zmq]at h1;have q1:=Zmp h1.1.1;have q2:=Zmp h1.1.2;subst q1 q2;have hj:p.2<cur.size:=by have:=(Zmx.1 e2').1;omega
     have hc:=(hcells p.2 _ cur[p.2] e2' (by simp[hj])).1;have hn:=hcell5 p.2 _ cur[p.2] hc2 (by simp[hj]);have hu:a.tmps.getD p.1 undef=cur[p.2]:=by
      generalize a.tmps.getD p.1 undef=u at h2⊢;generalize cur[p.2]=u2 at hc⊢;cases h2 with
      |wsDead hd=>rw[hd]at h1;cases h1.2
      |ws h _=>
       cases hc with
       |wsDead hd=>rw[hd]at h1;cases h1.2
       |ws h' _=>rw[h]at h';injection h' with h';subst h';rfl
     rw[hu];exact hn
    ·cases h1
   ·show(Qf (Zv P ms z) wt (Xj s ts τ.slots)).length=σ.slots.length;rw[Vi,Uh];exact B.len
   ·have b5:Bare ⟨Xj s ts τ.slots,(Xx P ms z τ.loc).put s (.mx ty (Zv P ms z))⟩ (λq=>(S q/\q≠s)/\q∉ms.filterMap MK.site):=b4.pts λx hx=>hx.1.2;have b6:=b5.cells (cells:=Zv P ms z) (wt:=wt) λs2 n2 j hj x hx e=>by
     rcases g6 _ (Zm4 hj) s2 (.inr (Zox s2))with⟨c,e'⟩|e'
     ·cases e'
     ·exact hx.2 (e▸e')
    exact b6.sub λq hq=>⟨⟨hq.1,λe=>hq.2 (by rw[e];simp[Keep.sites])⟩,λe=>hq.2 (by simp only[Keep.sites];exact Znm _ e)⟩
  simp only[Keep.get]at h;split at h
  ·rename_i ty' xs hl;obtain⟨h0,h'⟩:=Za h;simp only[Zmq]at h0;have e1:=Zmp h0.2.1;subst e1;have hls:σ.loc s= .mx ty' xs:=by
    rcases B.lv s with e|e
    ·rw[e]at hl;cases hl
    ·rw[<-e];exact hl
   have h1:=hr.good.obj s (λh=>h);rw[hls]at h1;cases h1 with
   | @mx _ _ g cur q1 q2 q3 q4 q5=>exact main xs (g:=g) (cur:=cur) (by rw[hl];simp) (by rw[hls];rfl) q1 q2 q3 q5.symm q4 h0.2.2 h0.1 (by rw[hls];simp) h'
  ·rename_i ty' fz cs hl;obtain⟨h0,h'⟩:=Za h;simp only[Zmq]at h0;have e1:=Zmp h0.2.1.1;have e2:=Zmp h0.2.1.2;subst e1 e2;have hls:σ.loc s= .ob ty' 0 cs:=by
    rcases B.lv s with e|e
    ·rw[e]at hl;cases hl
    ·rw[<-e];exact hl
   have h1:=hr.good.obj s (λh=>h);rw[hls]at h1;cases h1 with
   | @ob _ _ _ g q1 q2 q3=>
    obtain⟨cur,c1,c2,c3,c4⟩:=q2;refine main (cs.map .c) (g:=g) (cur:=cur) (by rw[hl];simp) (by rw[hls];rfl) q1 c1 (by simpa using c3) c2 (λj x u hx hu=> ?_) h0.2.2 (Zj8 h0.1) (by rw[hls];simp) h';rw[Zm9]at hx;obtain⟨c,hc,rfl⟩:=Znq.1 hx;have hj:j<cs.length:=(Zmx.1 hc).1;have:=c4.2 j c u hc (by rw[Znc,if_pos hj];simpa using hu);exact⟨.c this,this.one⟩
  ·cases h
 |mp s kt et ts=>
  have hS:=hsite s (by simp[Keep.sites]);simp only[Keep.get]at h;split at h
  ·rename_i kt' et' es hl;obtain⟨h0,h'⟩:=Za h;simp only[Zmq]at h0;have e1:=Zmp h0.1.1;have e2:=Zmp h0.1.2;subst e1 e2;have hls:σ.loc s= .mp kt' et' es:=by
    rcases B.lv s with e|e
    ·rw[e]at hl;cases hl
    ·rw[<-e];exact hl
   have h1:=hr.good.obj s (λh=>h);rw[hls]at h1;cases h1 with
   | @mp _ _ _ g ms q1 q2 q3 q4=>
    obtain⟨E2,B2,e1,e2,_⟩:=Fo (ob:= .mp kt' et' es) B hr hb hS (by rw[hl];simp) q1 (by rw[hls];rfl) (λE2 l2 w1 w2 w3 w4=> .mp w1 (by rw[w3];exact q2) q3 (by rw[w3,w4];exact q4));have hb2:Bare ⟨τ.slots,τ.loc.put s (.mp kt' et' es)⟩ (λx=>S x/\x≠s):=hb.put (λx hx=>hx) rfl;have hb3:Bare ⟨U4 s ts τ.slots,τ.loc.put s (.mp kt' et' es)⟩ (λx=>S x/\x≠s):=hb2.mps λx hx=>hx.2;refine⟨es,_,E2,h',⟨B2.w,B2.Pr,Ab ts B2.rel λt ht hlt=> ?_,B2.fresh,B2.rb,B2.src,B2.D,B2.Y,B2.llg,B2.lv, ?_⟩,hb3.sub λx hx=>⟨hx.1,λe=>hx.2 (by simp[Keep.sites,e])⟩⟩
    ·have h1:=Zm7.1 h0.2 t ht;have hlt':t<σ.slots.length:=by rw[<-B.len];exact hlt
     have h2:=hr.slots t hlt';split at h1
     ·rename_i s' e;rw[e]at h2;have e2:=Zmp h1;subst e2;generalize a.tmps.getD t undef=u at h2⊢;cases h2 with
      |mpDead h=>rw[hls]at h;cases h
      |mp h=>
       rw[q1]at h;injection h with h
       subst h;exact .mp e1
     ·cases h1
    ·show(U4 s ts τ.slots).length=σ.slots.length;rw[Vh];exact B.len
  ·cases h
 |pk s ty ks ts=>
  have hS:=hsite s (by simp[Keep.sites]);have main: ∀(ps:List PC) {g:Nat} {cur:Array Value},lv s≠ .dead->(σ.loc s).fz=0->E.rho s=some g->E.w.heap[g]? =some (.cells cur ty (0,0))->ps.length<=cur.size->E.bs s=cur.size->
    (∀(j:Nat) (p:PC) (u:Value),ps[j]? =some p->cur[j]? =some u->u.oneCell'=true/\Bb P E s j p u)->M7 σ s ts=true->ks.all (PK.ok P)=true->R4 ks ps (λz=>k z (lv.put s .dead))=some r->
    ∃x lv' E2,k x lv'=some r/\Build P A E E2 σ ((Keep.pk s ty ks ts).put P x τ) lv' a/\Bare ((Keep.pk s ty ks ts).put P x τ) (λq=>S q/\q∉(Keep.pk s ty ks ts).sites):=by
   intro ps g cur hlive hfz0 hg c1 c2 c3 hcells hp hks hget;obtain⟨z,h',hlen,hz⟩:=Fp hget;obtain⟨E2,B2,e1,e2,hm⟩:=T7 (ob:= .pk 0 ty (.ps (Xb ks z)) none) (f:=λj=>match ps[j]? with|some (.r _ _)=>E.rb s j|_=>none) B hr hb hS hlive hg hfz0 (λj g' e=>by
     split at e
     ·exact e
     ·cases e) (λE2 l2 w1 w2 w3 w4 w5 w6=> .pk w1 (by rw[w3];exact c1) (by show(Xb ks z).length<=_;rw[hlen];exact c2) (w2.trans c3) (λj p u hp hu=>by
      obtain⟨p0,a1,a2⟩:=hz j p hp;obtain⟨o1,o2⟩:=hcells j p0 u a1 hu;refine⟨o1,λ_=> ?_⟩;rcases a2 with e|⟨te,e1,e2,e3⟩
      ·subst e;cases p0 with
       |c c=>show RC E2.w E2.Pr c u;rw[w3,w4];exact o2
       |r te row=>exact Bb.keep (E:=E) (p:= .r te row) (by rw[w3,w4];exact .refl _ _) ⟨by rw[w5];simp only[a1],λg' _=>by rw[w3]⟩ (w6 j) o2
      ·subst e1 e2;have hte:Zg P te≠0:=λe=>by
        have h9:=Zm7.1 hks _ e3;simp only[PK.ok,e]at h9;cases h9
       have o2:RC E.w E.Pr .nl u:=o2;cases o2 with
       |nl=>exact⟨hte, .inl ⟨by rw[w5];simp only[a1],rfl,rfl⟩,λ_ _ _ e=>by cases e⟩) λ_ _ _ e=>by cases e)
   have hb2:Bare ⟨τ.slots,τ.loc.put s (.pk 0 ty (.ps (Xb ks z)) none)⟩ (λx=>S x/\x≠s):=hb.put (λx hx=>hx) rfl;have hb3:Bare ⟨Xj s ts τ.slots,τ.loc.put s (.pk 0 ty (.ps (Xb ks z)) none)⟩ (λx=>S x/\x≠s):=hb2.pts λx hx=>hx.2;have hσ:σ.loc s≠ .dead:=λe=>hlive (by rcases B.lv s with h|h;exact h;exact h.trans e);refine⟨z,_,E2,h',⟨B2.w,B2.Pr,Hv ts B2.rel λp hp' hlt=> ?_,B2.fresh,B2.rb,B2.src,B2.D,B2.Y,B2.llg,B2.lv, ?_⟩,hb3.sub λx hx=>⟨hx.1,λe=>hx.2 (by simp[Keep.sites,e])⟩⟩
   ·have h1:=Zm7.1 hp p hp';have hlt':p.1<σ.slots.length:=by rw[<-B.len];exact hlt
    have h2:=hr.slots p.1 hlt';exact Zcr h1 h2 hσ hg e1
   ·show(Xj s ts τ.slots).length=σ.slots.length;rw[Uh];exact B.len
  simp only[Keep.get]at h;split at h
  ·rename_i g' ty' q pe hl;split at h
   ·rename_i ps;obtain⟨h0,h'⟩:=Za h;simp only[Zmq]at h0;have e1:=Zmp h0.1.1;subst e1;have hls:σ.loc s= .pk g' ty' (.ps ps) none:=by
     rcases B.lv s with e|e
     ·rw[e]at hl;cases hl
     ·rw[<-e];exact hl
    obtain⟨g,cur,q1,_,q2,q3,q4,q5,_⟩:=Lg hr.good hls;exact main ps (by rw[hl];simp) (by rw[hls];rfl) q1 q2 q3 q4 (λj p u hp hu=>⟨(q5 j p u hp hu).1,(q5 j p u hp hu).2 λe he=>by cases he⟩) h0.1.2 h0.2 h'
   ·cases h
  ·rename_i ty' fz cs hl;obtain⟨h0,h'⟩:=Za h;simp only[Zmq]at h0;have e1:=Zmp h0.1.1.1;have e2:=Zmp h0.1.1.2;subst e1 e2;have hls:σ.loc s= .ob ty' 0 cs:=by
    rcases B.lv s with e|e
    ·rw[e]at hl;cases hl
    ·rw[<-e];exact hl
   have h1:=hr.good.obj s (λh=>h);rw[hls]at h1;cases h1 with
   | @ob _ _ _ g q1 q2 q3=>
    obtain⟨cur,c1,c2,c3,c4⟩:=q2;refine main (cs.map .c) (g:=g) (cur:=cur) (by rw[hl];simp) (by rw[hls];rfl) q1 c1 (by simpa using c3) c2.symm (λj p u hp hu=> ?_) h0.1.2 h0.2 h';rw[Zm9]at hp;obtain⟨c,hc,rfl⟩:=Znq.1 hp;have hj:j<cs.length:=(Zmx.1 hc).1;have:=c4.2 j c u hc (by rw[Znc,if_pos hj];simpa using hu);exact⟨this.one,this⟩
  ·cases h
 |rx s ty te ts=>
  have hS:=hsite s (by simp[Keep.sites]);simp only[Keep.get]at h;split at h
  ·rename_i g' ty' q pe hl;split at h
   ·rename_i te' rows;obtain⟨h0,h'⟩:=Za h;simp only[Zmq]at h0;have e1:=Zmp h0.1.1;have e2:=Zmp h0.1.2;subst e1 e2;have hls:σ.loc s= .pk g' ty' (.rs te' rows) none:=by
     rcases B.lv s with e|e
     ·rw[e]at hl;cases hl
     ·rw[<-e];exact hl
    obtain⟨g,cur,q1,_,q2,q3,q4,q5,_⟩:=Lg hr.good hls;obtain⟨E2,B2,e1,e2,hm⟩:=T7 (ob:= .pk 0 ty' (.rs te' rows) none) (f:=E.rb s) B hr hb hS (by rw[hl];simp) q1 (by rw[hls];rfl) (λ_ _ h=>h) (λE2 l2 w1 w2 w3 w4 w5 w6=> .pk w1 (by rw[w3];exact q2) q3 (w2.trans q4)
     (λj p u hp hu=>⟨(q5 j p u hp hu).1,λ_=>((q5 j p u hp hu).2 λe he=>by cases he).keep (by rw[w3,w4];exact .refl _ _) ⟨w5 j,λg' _=>by rw[w3]⟩ (w6 j)⟩) λ_ _ _ e=>by cases e)
    have hb2:Bare ⟨τ.slots,τ.loc.put s (.pk 0 ty' (.rs te' rows) none)⟩ (λx=>S x/\x≠s):=hb.put (λx hx=>hx) rfl;have hb3:Bare ⟨Vy s rows.length ts τ.slots,τ.loc.put s (.pk 0 ty' (.rs te' rows) none)⟩ (λx=>S x/\x≠s):=hb2.wss λx hx=>hx.2;refine⟨rows,_,E2,h',⟨B2.w,B2.Pr,Zd7 ts B2.rel λt ht hlt=> ?_,B2.fresh,B2.rb,B2.src,B2.D,B2.Y,B2.llg,B2.lv, ?_⟩,hb3.sub λx hx=>⟨hx.1,λe=>hx.2 (by simp[Keep.sites,e])⟩⟩
    ·have h1:=Zm7.1 h0.2 t ht;have hlt':t<σ.slots.length:=by rw[<-B.len];exact hlt
     have h2:=hr.slots t hlt';split at h1
     ·rename_i s' n' e;rw[e]at h2;simp only[Zmq]at h1;have e2:=Zmp h1.1;have e3:=Zmp h1.2;subst e2 e3;generalize a.tmps.getD t undef=u at h2⊢;cases h2 with
      |wsDead h=>rw[hls]at h;cases h
      |ws h hn=>
       rw[q1]at h;injection h with h
       subst h;exact .ws e1 hn
     ·cases h1
    ·show(Vy s rows.length ts τ.slots).length=σ.slots.length;rw[Sg];exact B.len
   ·cases h
  ·cases h
 |mr s kt et te ts=>
  have hS:=hsite s (by simp[Keep.sites]);simp only[Keep.get]at h;split at h
  ·rename_i kt' et' te' es hl;obtain⟨h0,h'⟩:=Za h;simp only[Zmq]at h0;have e1:=Zmp h0.1.1.1;have e2:=Zmp h0.1.1.2;have e3:=Zmp h0.1.2;subst e1 e2 e3;have hls:σ.loc s= .mr kt' et' te' es:=by
    rcases B.lv s with e|e
    ·rw[e]at hl;cases hl
    ·rw[<-e];exact hl
   have h1:=hr.good.obj s (λh=>h);rw[hls]at h1;cases h1 with
   | @mr _ _ _ _ g ms q1 q2 q3 q4 q5 q6=>
    obtain⟨E2,B2,e1,_⟩:=Zaj B hr hb hS (by rw[hl];simp) hls q1;have hb2:Bare ⟨τ.slots,τ.loc.put s (.mr kt' et' te' es)⟩ (λx=>S x/\x≠s):=hb.put (λx hx=>hx) rfl;have hb3:Bare ⟨U4 s ts τ.slots,τ.loc.put s (.mr kt' et' te' es)⟩ (λx=>S x/\x≠s):=hb2.mps λx hx=>hx.2;refine⟨es,_,E2,h',⟨B2.w,B2.Pr,Ab ts B2.rel λt ht hlt=> ?_,B2.fresh,B2.rb,B2.src,B2.D,B2.Y,B2.llg,B2.lv, ?_⟩,hb3.sub λx hx=>⟨hx.1,λe=>hx.2 (by simp[Keep.sites,e])⟩⟩
    ·have h1:=Zm7.1 h0.2 t ht;have hlt':t<σ.slots.length:=by rw[<-B.len];exact hlt
     have h2:=hr.slots t hlt';split at h1
     ·rename_i s' e;rw[e]at h2;have e2:=Zmp h1;subst e2;generalize a.tmps.getD t undef=u at h2⊢;cases h2 with
      |mpDead h=>rw[hls]at h;cases h
      |mp h=>
       rw[q1]at h;injection h with h
       subst h;exact .mp e1
     ·cases h1
    ·show(U4 s ts τ.slots).length=σ.slots.length;rw[Vh];exact B.len
  ·cases h
 |us t s ty=>
  have hS:=hsite s (by simp[Keep.sites]);simp only[Keep.get]at h;split at h
  ·rename_i s' off n hget;split at h
   ·rename_i ty' fz cs hl;obtain⟨h0,h'⟩:=Za h;simp only[Zmq]at h0;obtain⟨⟨⟨e1,e2⟩,e3⟩,e4⟩:=h0;have e1:=Zmp e1;have e2:=Zmp e2;have e3:=Zmp e3;have e4:=Zmp e4;subst e1 e2 e3 e4;have hls:σ.loc s'= .sb ty' 0 cs:=by
     rcases B.lv s' with e|e
     ·rw[e]at hl;cases hl
     ·rw[<-e];exact hl
    have ht:t<σ.slots.length:=by
     by_cases h:t<σ.slots.length
     ·exact h
     ·rw[Mz (E:=E) (l:=σ.loc) (u:=undef) h]at hget;cases hget
    have bare:Bare ⟨τ.slots.set t (.own s' 0 n),τ.loc.put s' (.sb ty' 0 cs)⟩ (λx=>S x/\x∉(Keep.us t s' ty').sites):=by
     have b1:Bare ⟨τ.slots,τ.loc.put s' (.sb ty' 0 cs)⟩ (λx=>S x/\x≠s'):=hb.put (λx hx=>hx) rfl;have b2:Bare ⟨τ.slots.set t (.own s' 0 n),τ.loc.put s' (.sb ty' 0 cs)⟩ (λx=>S x/\x≠s'):=b1.set (λx hx=>hx) λx hx=>own_at hx.2;exact⟨λt y hl hy x hx=>b2.slot t y hl hy x ⟨hx.1,λe=>hx.2 (by simp[Keep.sites,e])⟩,λx hx=>b2.dead x ⟨hx.1,λe=>hx.2 (by simp[Keep.sites,e])⟩,λa x hx s' hs=>b2.mx a x hx s' ⟨hs.1,λe=>hs.2 (by simp[Keep.sites,e])⟩⟩
    have h0:=hr.slots t ht;rw[hget]at h0;generalize hu:a.tmps.getD t undef=u at h0;cases h0 with
    |ownDead h=>rw[hls]at h;cases h
    |ownMx h=>rw[hls]at h;cases h
    |own0 _ _ ho=>exact absurd rfl ho
    |ownNil h1 h2=>
     have hcs:cs=[]:=by rw[hls]at h2;cases h2;rfl
     subst hcs;obtain⟨B2,e,_⟩:=Pv (t:=ty') (Zak B s') hb hS (λk g m hk e=>by
      have h3:=hr.outs k g m hk;rw[<-e]at h3;generalize hv:ghv g m=v at h3;cases h3 with
      |ghDead hd=>rw[hls]at hd;cases hd
      |gh hg _=>rw[h1]at hg;cases hg)
     refine⟨(0,[]),_,E1,h', ?_,bare⟩;simp only[Keep.put];refine Kx B2 ?_;rw[hu];exact .ownNil e (Zf _ _ _)
    | @own _ _ _ g cap t' fz' cs' h1 h2 h3 h4 h5=>
     obtain⟨E2,B2,e1,e2,_⟩:=Pu (ob:= .sb ty' 0 cs) B hr hb hS (.inr hl) h1 (.inr rfl) (.inr rfl);have ety:t'=ty':=by rw[hls]at h2;injection h2 with h2;injection h2 with h2 _;exact h2.symm
     refine⟨(n,cs),_,E2,h', ?_,bare⟩;simp only[Keep.put];refine Kx B2 ?_;rw[hu];have ho:Z4 (τ.loc.put s' (.sb ty' 0 cs) s')=some (ty',0,cs):=by rw[Zf];rfl
     exact .own e1 ho h3 h4 (by rw[e2,<-h5,ety])
   ·cases h
  ·cases h
theorem J3 (hr:Rel P A E σ (λ_=>False) a): ∀(ks:List Keep) {E1:Env} {τ:St} {lv:Loc} (_:Build P A E E1 σ τ lv a) (_:Bare τ (λs=>s∈ks.flatMap Keep.sites)) (_:nodupB (ks.flatMap Keep.sites)=true) (_:ks.all Keep.inner=true) {k:Qx ks->Option R}
  (_:Zdr P ks σ lv k=some r),∃z E2,k z=some r/\E2.w=E.w/\E2.Pr=E.Pr/\(E2.D=E.D/\E2.Y=E.Y)/\Rel P A E2 (Yg P ks z τ) (λ_=>False) a
 | [],E1,τ,lv,B,_,_,_,k,h=>⟨(),E1,h,B.w,B.Pr,⟨B.D,B.Y⟩,B.rel⟩
 |kp::ks,E1,τ,lv,B,hb,hn,hin,k,h=>by
  simp only[Zoq,Zmq]at hin;simp only[Zdr]at h;rw[Zqj]at hn;obtain⟨n1,n2,n3⟩:=Mb hn;obtain⟨x,lv',E2,h1,B2,b2⟩:=Zfy B hr hb hin.1 (λs hs=>by rw[Zqj];exact Zn3 _ hs) n1 h;obtain⟨z,E3,g1,g2,g3,gd,g4⟩:=J3 hr ks B2 (b2.sub λs hs=>⟨by rw[Zqj];exact Zoj _ hs,λh=>n3 s h hs⟩) n2 hin.2 h1;exact⟨(x,z),E3,g1,g2,g3,gd,g4⟩
theorem Kz {ws:List Nat} {σ0:St} {t:Nat} (hl:t<σ0.slots.length):(σ0.clean ws).slots.get t= .und\/(t∉ws/\(σ0.clean ws).slots.get t=(σ0.slots.get t).plain):=by
 have h1:(σ0.clean ws).slots.get t=(bif ws.any (Zqv t)then .und else σ0.slots.fn t).plain:=Sl.get_lt (l:=(σ0.clean ws).slots) hl;rw[h1];cases e:ws.any (Zqv t)
 ·refine .inr ⟨λhm=> ?_, ?_⟩
  ·have:=Zos.1 e t hm;exact this (Zox t)
  ·rw[Sl.get_lt hl];rfl
 ·exact .inl rfl
theorem Zif (x:V) (s:Nat):x.plain.at s=false:=by cases x<;>rfl
def Fr.re (A0:Fr) (E0:Env) (a0:Act) (ws:List Nat):Fr:=
 {A0 with w0:=E0.w,Pr0:=E0.Pr,M:=λg=>A0.M g\/A0.w0.heap.size<=g,tm:=λt=>if t∈ws then none else some (a0.tmps.getD t undef)}
theorem Rel.re {A0:Fr} {E0:Env} {σ0:St} {a0:Act} (h:Rel P A0 E0 σ0 (λ_=>False) a0) (ws:List Nat):Rel P (A0.re E0 a0 ws) E0 σ0 (λ_=>False) a0:=by
 refine⟨⟨h.good.obj,h.good.pnd,h.good.inj,λs g hs=> ?_,h.good.prot,h.good.jf, .refl _ _,λ_ _ hp=> .inl hp,Zm8 _,rfl,rfl,rfl,Zm8 _,h.good.yok,h.good.yown,h.good.ylt,h.good.dm,λs j g e=>(h.good.rbo s j g e).to λe=>e.elim (λe=> .inr (.inr e)) λe=> .inr (.inl e)⟩,h.slots,h.size,h.defers,λt u ht=> ?_,h.len,h.outs⟩
 ·rcases h.good.base s g hs with e|e
  ·exact .inr (.inr e)
  ·exact .inr (.inl e)
 ·simp only[Fr.re]at ht;split at ht
  ·cases ht
  ·injection ht
theorem Rel.unre {A0:Fr} {E0:Env} {σ0:St} {a0:Act} (h0:Rel P A0 E0 σ0 (λ_=>False) a0) {ws:List Nat} (hws: ∀t∈ws,A0.tm t=none) (h:Rel P (A0.re E0 a0 ws) E σ (λ_=>False) a):Rel P A0 E σ (λ_=>False) a:=by
 have hsz:A0.w0.heap.size<=E0.w.heap.size:=h0.good.size;have hsz':E0.w.heap.size<=E.w.heap.size:=h.good.size;refine⟨⟨h.good.obj,λs hs=>hs.elim,h.good.inj,λs g hs=> ?_,h.good.prot,h.good.jf,h0.good.pr0.trans h.good.pr0,λb k hp=> ?_,Zni hsz hsz',h.good.os.trans h0.good.os,h.good.tape.trans h0.good.tape,h.good.output.trans h0.good.output,Zni h0.good.dr h.good.dr,h.good.yok,h.good.yown,h.good.ylt,h.good.dm,λs j g e=>(h.good.rbo s j g e).to λe=>e.elim (λe=> .inl (Zni hsz e)) λe=>e.elim .inr .inl⟩,h.slots,h.size,h.defers,λt u ht=> ?_,h.len,h.outs⟩
 ·rcases h.good.base s g hs with e|e|e
  ·exact .inl (Zni hsz e)
  ·exact .inr e
  ·exact .inl e
 ·rcases h.good.prN b k hp with e|e|e|e
  ·exact h0.good.prN b k e
  ·exact .inr (.inl (Zni hsz e))
  ·exact .inr (.inr e)
  ·exact .inr (.inl e)
 ·have hn:t∉ws:=λe=>by rw[hws t e]at ht;cases ht
  have:=h.tm t (a0.tmps.getD t undef) (by simp[Fr.re,hn]);rw[this];exact h0.tm t u ht
theorem Zig {A0 A1:Fr} {E0:Env} {σ0:St} {a0:Act} {ws:List Nat} (h0:Rel P A0 E0 σ0 (λ_=>False) a0) (h:Rel P A1 E σ (λ_=>False) a) (hn1:A1.n=A0.n) (hp1:Zo E0.w E0.Pr E.w E.Pr) (ht1: ∀t,t∉ws->A1.tm t=some (a0.tmps.getD t undef)) {kp:Keeps} {k:Qx kp.ks->Option R}
  (hg:Mh P kp σ k=some r): ∃z E',k z=some r/\E'.w=E.w/\Rel P A1 E' (Yg P kp.ks z (σ0.clean ws)) (λ_=>False) a/\(E'.D=E.D/\E'.Y=E.Y/\E'.Pr=E.Pr):=by
 unfold Mh at hg;obtain⟨hn,hg⟩:=Za hg;simp only[Zmq]at hn;have hlen:(σ0.clean ws).slots.length=σ0.slots.length:=rfl;have hsl:σ.slots.length=σ0.slots.length:=by rw[h.len,h0.len,hn1]
 have B:Build P A1 E {E with rho:=λ_=>none,rb:=λ_ _=>none} σ (σ0.clean ws) σ.loc a:=by
  refine⟨rfl,rfl,⟨⟨λs _=> .dead rfl,λs hs=>hs.elim,λs s' g hs=>by(cases hs),λs g hs=>(by cases hs),λb k hp=>⟨(h.good.prot b k hp).1,λs hs=>(by cases hs)⟩,A1.jt.weak h.good.jf,h.good.pr0,h.good.prN,h.good.size,h.good.os,h.good.tape,h.good.output,h.good.dr,h.good.yok,λs g hs=>(by cases hs),h.good.ylt,h.good.dm,λs j g e=>(by cases e)⟩,λt ht=> ?_, ?_,h.defers,h.tm, ?_,λ_ _ _ _=> .ghDead rfl⟩,λs s' g hs=>(by cases hs),(λa j g e=>by cases e),(λa g e=>by cases e),rfl,rfl, .inr rfl,λs=> .inr rfl,hlen.trans hsl.symm⟩
  ·have hlt:t<σ0.slots.length:=ht;rcases Kz (ws:=ws) hlt with e|⟨hnt,e⟩
   ·show RV P _ _ ((σ0.clean ws).slots.get t) _;rw[e];exact .und
   ·show RV P _ _ ((σ0.clean ws).slots.get t) _;rw[e];have hr:=h0.slots t hlt;have ey:σ0.get t=σ0.slots.get t:=rfl;rw[ey]at hr;generalize σ0.slots.get t=y at hr⊢;rw[h.tm t (a0.tmps.getD t undef) (ht1 t hnt)];generalize a0.tmps.getD t undef=u at hr⊢;cases y with
    |c c=>cases hr with|c hc=>exact .c (hc.held hp1)
    |agg cs=>cases hr with|agg hc=>exact .agg (hc.held hp1)
    |_=>exact .und
  ·rw[h.size,hlen,hsl]
  ·rw[hlen,<-hsl];exact h.len
 have hbare:Bare (σ0.clean ws) (λs=>s∈kp.ks.flatMap Keep.sites):=⟨λt x hl hx s _=>by
  rcases Kz (ws:=ws) (σ0:=σ0) (t:=t) hl with e|⟨_,e⟩
  ·rw[<-hx,e];rfl
  ·rw[<-hx,e];exact Zif _ s,λs _=>rfl,λs x h=>by simp[Obj.refs,St.clean]at h⟩
 obtain⟨z,E2,g1,g2,gp,gd,g4⟩:=J3 h kp.ks B hbare hn.1 hn.2 hg;exact⟨z,E2,g1,g2,g4,gd.1,gd.2,gp⟩
theorem carry {A0:Fr} {E0:Env} {σ0:St} {a0:Act} {ws:List Nat} (h0:Rel P A0 E0 σ0 (λ_=>False) a0) (h:Rel P (A0.re E0 a0 ws) E σ (λ_=>False) a) {kp:Keeps} {k:Qx kp.ks->Option R}
  (hg:Mh P kp σ k=some r): ∃z E',k z=some r/\E'.w=E.w/\Rel P (A0.re E0 a0 ws) E' (Yg P kp.ks z (σ0.clean ws)) (λ_=>False) a/\(E'.D=E.D/\E'.Y=E.Y/\E'.Pr=E.Pr):=
 Zig h0 h rfl h.good.pr0 (λt ht=>by simp[Fr.re,ht]) hg
end
end Go.PM
namespace Go.PM
open Go
variable {P:Program} {R:Type} {r:R}
section
variable {cf:Cfg} {A:Fr} {E:Env} {σ:St} {a:Act}
theorem Tq: ∀(ts:List Nat) {E:Env} {σ:St} {k:St->Option R} (_:Rel P A E σ (λ_=>False) a) (_:Zbn P ts σ k=some r),∃σ' E',(E'.w=E.w/\E'.D=E.D/\E'.Y=E.Y/\Zo E.w E.Pr E'.w E'.Pr)/\Rel P A E' σ' (λ_=>False) a/\k σ'=some r
 | [],E,σ,k,hr,h=>⟨σ,E,⟨rfl,rfl,rfl, .refl _ _⟩,hr,h⟩
 |t::ts,E,σ,k,hr,h=>by
  unfold Zbn at h;split at h
  ·rename_i s off n hget;have ht:t<σ.slots.length:=by
    by_cases h:t<σ.slots.length
    ·exact h
    ·rw[Mz (E:=E) (l:=σ.loc) (u:=undef) h]at hget;cases hget
   have hx:=hr.slots t ht;rw[hget]at hx;have h1:=Rf hx h rfl;obtain⟨cs,l1,E1,hk,hG,hM,hc,_⟩:=Xf hr.good hx h;rw[cells_one h1]at hc;split at hk
   ·rename_i c;obtain⟨u,us,e,hcu,_⟩:=hc.uncons;have e':a.tmps.getD t undef=u:=by simpa using congrArg Zrl e
    have hr1:Rel P A E1 ⟨σ.slots,l1⟩ (λ_=>False) a:=⟨hG,λt' ht'=>hM.rv (hr.slots t' ht'),hr.size,by rw[hM.D];exact hr.defers,hr.tm,hr.len,λk g n hk=>hM.rv (hr.outs k g n hk)⟩;obtain⟨σ',E',g1,g2,g3⟩:=Tq ts (V6 (t:=t) (x:= .c c) hr1 λ_=>by rw[e'];exact .c hcu) hk;exact⟨σ',E',⟨g1.1.trans hM.w,g1.2.1.trans hM.D,g1.2.2.1.trans hM.Y,hM.held.trans g1.2.2.2⟩,g2,g3⟩
   ·cases hk
  ·rename_i s off hget;have ht:t<σ.slots.length:=by
    by_cases h:t<σ.slots.length
    ·exact h
    ·rw[Mz (E:=E) (l:=σ.loc) (u:=undef) h]at hget;cases hget
   have hx:=hr.slots t ht;rw[hget]at hx;have h1:=Rf hx h rfl;obtain⟨cs,l1,E1,hk,hG,hM,hc,_⟩:=Xf hr.good hx h;rw[cells_one h1]at hc;split at hk
   ·rename_i c;obtain⟨u,us,e,hcu,_⟩:=hc.uncons;have e':a.tmps.getD t undef=u:=by simpa using congrArg Zrl e
    have hr1:Rel P A E1 ⟨σ.slots,l1⟩ (λ_=>False) a:=⟨hG,λt' ht'=>hM.rv (hr.slots t' ht'),hr.size,by rw[hM.D];exact hr.defers,hr.tm,hr.len,λk g n hk=>hM.rv (hr.outs k g n hk)⟩;obtain⟨σ',E',g1,g2,g3⟩:=Tq ts (V6 (t:=t) (x:= .c c) hr1 λ_=>by rw[e'];exact .c hcu) hk;exact⟨σ',E',⟨g1.1.trans hM.w,g1.2.1.trans hM.D,g1.2.2.1.trans hM.Y,hM.held.trans g1.2.2.2⟩,g2,g3⟩
   ·cases hk
  ·rename_i s g j n hget;have ht:t<σ.slots.length:=by
    by_cases h:t<σ.slots.length
    ·exact h
    ·rw[Mz (E:=E) (l:=σ.loc) (u:=undef) h]at hget;cases hget
   have hx:=hr.slots t ht;rw[hget]at hx;have h1:=Rf hx h rfl;obtain⟨cs,l1,E1,hk,hG,hM,hc,_⟩:=Xf hr.good hx h;rw[cells_one h1]at hc;split at hk
   ·rename_i c;obtain⟨u,us,e,hcu,_⟩:=hc.uncons;have e':a.tmps.getD t undef=u:=by simpa using congrArg Zrl e
    have hr1:Rel P A E1 ⟨σ.slots,l1⟩ (λ_=>False) a:=⟨hG,λt' ht'=>hM.rv (hr.slots t' ht'),hr.size,by rw[hM.D];exact hr.defers,hr.tm,hr.len,λk g n hk=>hM.rv (hr.outs k g n hk)⟩;obtain⟨σ',E',g1,g2,g3⟩:=Tq ts (V6 (t:=t) (x:= .c c) hr1 λ_=>by rw[e'];exact .c hcu) hk;exact⟨σ',E',⟨g1.1.trans hM.w,g1.2.1.trans hM.D,g1.2.2.1.trans hM.Y,hM.held.trans g1.2.2.2⟩,g2,g3⟩
   ·cases hk
  ·exact Tq ts hr h
theorem Ae (w:World) (g:Nat) (cur:Array Value) (t:TypeId) (fr:Nat×Nat) (h:w.heap[g]? =some (.cells cur t fr)):w.setRow g cur=w:=by
 first|exact PM.setRow_self w g cur t fr h|exact Go.setRow_self h|exact setRow_self h
theorem Zfz {E:Env} {l:Loc} {pend:Nat->Prop} (hG:Good P A E l pend) {s ty j:Nat} {xs:List V} (hl:l s= .mx ty xs) (hj:j<xs.length) {c:C} (hc: ∀(g:Nat) (cur:Array Value) (u:Value),E.rho s=some g->E.w.heap[g]? =some (.cells cur ty (0,0))->cur[j]? =some u->RC E.w E.Pr c u):
  Good P A E (l.put s (.mx ty (putAtV xs j [.c c]))) pend/\ ∀s',Zi E E l (l.put s (.mx ty (putAtV xs j [.c c]))) s':=by
 have hps: ¬pend s:=λhp=>by obtain⟨_,_,_,e⟩:=hG.pnd s hp;rw[hl]at e;cases e
 have h0:=hG.obj s hps;rw[hl]at h0;cases h0 with
 | @mx _ _ g cur h1 h2 h3 h4 h5=>
  have hw:E.w.setRow g cur=E.w:=Ae E.w g cur ty (0,0) h2;have hE:E.set g cur=E:=by simp[Env.set,hw]
  have hlen:(putAtV xs j [V.c c]).length=xs.length:=by simp[putAtV];omega
  have key:=Pa hG (s:=s) h1 h2 (cur':=cur) rfl (ob:= .mx ty (putAtV xs j [.c c])) (by rw[hl];rfl) (λ_ _=>rfl) (λhx' hk'=>by
   rw[hE]at hx' hk'⊢;refine .mx h1 h2 (by rw[hlen];exact h3) (λi x u hx hu=> ?_) h5;unfold putAtV at hx;rw[Zny,Zn2]at hx;simp only[Znr,Zol (Zqo hj)]at hx;by_cases hi:i<j
   ·rw[if_pos hi,Znc,if_pos hi]at hx;exact⟨(h4 i x u hx hu).1.mono0 hx' hk',(h4 i x u hx hu).2⟩
   ·rw[if_neg hi,Zn2]at hx;by_cases hi2:i-j<[V.c c].length
    ·rw[if_pos hi2]at hx;have e:i=j:=by simp at hi2;omega
     subst e;simp at hx;subst hx;have:=hc g cur u h1 h2 hu;exact⟨.c this,this.one⟩
    ·rw[if_neg hi2,Znd]at hx;have e:j+[V.c c].length+(i-j-[V.c c].length)=i:=by simp at hi2⊢;omega
     rw[e]at hx;exact⟨(h4 i x u hx hu).1.mono0 hx' hk',(h4 i x u hx hu).2⟩)
   ⟨(λ_ _ e=>by rw[hl]at e;cases e),λ_ _ _ e=>(by rw[hl]at e;cases e),λ_=>by rw[Zf];rfl⟩ (λ_ _ _=> .no (Zf _ _ _) rfl rfl)
  rw[hE]at key;exact⟨key.1,key.2.2⟩
theorem Q6: ∀(ps:List (Nat×Nat)) {E:Env} {σ:St} {k:St->Option R} (_:Rel P A E σ (λ_=>False) a) (_:A3 P ps σ k=some r),∃σ' E',(E'.w=E.w/\E'.D=E.D/\E'.Y=E.Y/\Zo E.w E.Pr E'.w E'.Pr)/\Rel P A E' σ' (λ_=>False) a/\k σ'=some r/\σ'.slots=σ.slots/\(∀y v,RV P E σ.loc y v->RV P E' σ'.loc y v)
 | [],E,σ,k,hr,h=>⟨σ,E,⟨rfl,rfl,rfl, .refl _ _⟩,hr,h,rfl,λ_ _ h=>h⟩
 |p::ps,E,σ,k,hr,h=>by
  unfold A3 at h;split at h
  ·rename_i ty xs hl;split at h
   ·rename_i x hget;split at h
    case h_2=>exact Q6 ps hr h
    have h0:=hr.good.obj p.1 (λh=>h);rw[hl]at h0;cases h0 with
    | @mx _ _ g cur g1 g2 g3 g4 g5=>
     have hlt:p.2<cur.size:=by have:=(Zmx.1 hget).1;omega
     obtain⟨hx,h1⟩:=g4 p.2 _ cur[p.2] hget (by simp[hlt]);obtain⟨cs,l1,E1,hk,hG,hM,hc,_⟩:=Xf hr.good hx h;rw[cells_one h1]at hc;split at hk
     ·rename_i c;split at hk
      ·rename_i ty2 xs2 hl2;obtain⟨hb,hk⟩:=Za hk;have hb:=Zmu hb;obtain⟨u,us,e,hcu,_⟩:=hc.uncons;have e':cur[p.2]=u:=by simpa using congrArg Zrl e
       have hr1:Rel P A E1 ⟨σ.slots,l1⟩ (λ_=>False) a:=⟨hG,λt' ht'=>hM.rv (hr.slots t' ht'),hr.size,by rw[hM.D];exact hr.defers,hr.tm,hr.len,λk g n hk=>hM.rv (hr.outs k g n hk)⟩;have hrho:E1.rho p.1=E.rho p.1\/E1.rho p.1=none:= .inl (by rw[hM.rho]);obtain⟨q1,q2⟩:=Zfz (c:=c) hG hl2 hb (λg' cur' u' e1 e2 e3=>by
        rcases hrho with e4|e4
        ·rw[e4,g1]at e1;injection e1 with e1
         subst e1;rw[hM.w,g2]at e2;injection e2 with e2
         injection e2 with e2
         subst e2;have:cur[p.2]=u':=by simpa[hlt]using e3
         rw[<-this,e'];exact hcu
        ·rw[e4]at e1;cases e1)
       have hr2:Rel P A E1 ⟨σ.slots,l1.put p.1 (.mx ty2 (putAtV xs2 p.2 [.c c]))⟩ (λ_=>False) a:=⟨q1,λt' ht'=>(hr1.slots t' ht').mono0 (.refl _ _) q2,hr.size,by rw[hM.D];exact hr.defers,hr.tm,hr.len,λk g n hk=>(hr1.outs k g n hk).mono0 (.refl _ _) q2⟩;obtain⟨σ',E',z1,z2,z3,z4,z5⟩:=Q6 ps hr2 hk;exact⟨σ',E',⟨z1.1.trans hM.w,z1.2.1.trans hM.D,z1.2.2.1.trans hM.Y,hM.held.trans z1.2.2.2⟩,z2,z3,z4,λy v hy=>z5 y v ((hM.rv hy).mono0 (.refl _ _) q2)⟩
      ·cases hk
     ·cases hk
   ·exact Q6 ps hr h
  ·exact Q6 ps hr h
theorem M0 {ts:List Nat} {ps:List (Nat×Nat)} {E:Env} {σ:St} {k:St->Option R} (hr:Rel P A E σ (λ_=>False) a) (h:frzA P ts ps σ k=some r): ∃σ' E',(E'.w=E.w/\E'.D=E.D/\E'.Y=E.Y/\Zo E.w E.Pr E'.w E'.Pr)/\Rel P A E' σ' (λ_=>False) a/\k σ'=some r:=by
 obtain⟨σ1,E1,z1,z2,z3⟩:=Tq ts hr h;obtain⟨σ2,E2,y1,y2,y3,_,_⟩:=Q6 ps z2 z3;exact⟨σ2,E2,⟨y1.1.trans z1.1,y1.2.1.trans z1.2.1,y1.2.2.1.trans z1.2.2.1,z1.2.2.2.trans y1.2.2.2⟩,y2,y3⟩
def Zal (ops:Array Oper) (d:Nat):TypeId:=
 match ops.toList.find? (λo=>match Z5 o with|some d'=>Zqv d' d|none=>false)with
 |some o=>(match o.op with| .alloc t=>t|_=>0)
 |none=>0
theorem P9 {α:Type} (f:α->Option Nat): ∀(os:List α),nodupB (os.filterMap f)=true-> ∀(i j:Nat) (o o':α) (d:Nat),os[i]? =some o->os[j]? =some o' ->f o=some d->f o'=some d->i=j
 | [],_,i,j,o,o',d,h1,_,_,_=>by simp at h1
 |x::os,hn,i,j,o,o',d,h1,h2,h3,h4=>by
  have hn':nodupB (os.filterMap f)=true/\ ∀d,f x=some d->d∉os.filterMap f:=by
   rw[List.filterMap_cons]at hn;cases hs:f x with
   |none=>rw[hs]at hn;exact⟨hn,λ_ h=>by cases h⟩
   |some s0=>
    rw[hs]at hn;simp only[nodupB,Zmq,Znn]at hn;refine⟨hn.2,λs e hs'=> ?_⟩;injection e with e
    subst e;have:=Vg.2 hs';rw[hn.1]at this;cases this
  cases i with
  |zero=>
   simp at h1;subst h1;cases j with
   |zero=>rfl
   |succ j=>exact absurd (Zoh.2 ⟨o',Zm4 (by simpa using h2),h4⟩) (hn'.2 d h3)
  |succ i=>
   cases j with
   |zero=>
    simp at h2;subst h2;exact absurd (Zoh.2 ⟨o,Zm4 (by simpa using h1),h3⟩) (hn'.2 d h4)
   |succ j=>rw[P9 f os hn'.1 i j o o' d (by simpa using h1) (by simpa using h2) h3 h4]
theorem Zkb {ops:Array Oper} (hn:nodupB (Z2 ops.toList)=true) {i:Nat} {o:Oper} {t:TypeId} {d:Nat} (hi:ops[i]? =some o) (ho:o.op= .alloc t) (hd:o.dst=some d):Zal ops d=t:=by
 have had:Z5 o=some d:=by simp[Z5,Zm,ho,hd]
 have hi':ops.toList[i]? =some o:=by simpa using hi
 unfold Zal;cases hf:ops.toList.find? (λo=>match Z5 o with|some d'=>Zqv d' d|none=>false)with
 |none=>
  have:=List.find?_eq_none.1 hf o (Zm4 hi');rw[had]at this;simp at this
 |some o'=>
  have h1:=List.find?_some hf;have h2:=List.mem_of_find?_eq_some hf;obtain⟨j,hj⟩:=Zp6 h2;have h3:Z5 o'=some d:=by
   cases hs:Z5 o' with
   |none=>simp only[hs]at h1;cases h1
   |some d'=>simp only[hs]at h1;rw[Zmp h1]
  have:=P9 Z5 ops.toList hn i j o o' d hi' hj had h3;subst this;rw[hi']at hj;injection hj with hj
  subst hj;simp[ho]
def exOf:Ex->Exit
 | .normal=> .normal
 | .exit id=> .exit id
 | .ret=> .ret
def Pw (P:Program) (A:Fr) (k:Ex->St->Option R) (r:R):Exit->Act->World->Prop:=
 λe a w=> ∃x σ E,e=exOf x/\k x σ=some r/\E.w=w/\Rel P A E σ (λ_=>False) a
theorem Rel.pt {pt:Nat->TypeId} (h:Rel P A E σ (λ_=>False) a):Rel P {A with pt:=pt} E σ (λ_=>False) a:=
 ⟨⟨h.good.obj,λ_ hs=>hs.elim,h.good.inj,h.good.base,h.good.prot,h.good.jf,h.good.pr0,h.good.prN,h.good.size,h.good.os,h.good.tape,h.good.output,h.good.dr,h.good.yok,h.good.yown,h.good.ylt,h.good.dm,Qi h.good.rbo⟩,h.slots,h.size,h.defers,h.tm,h.len,h.outs⟩
theorem Rel.drew {pend:Nat->Prop} (h:Rel P A E σ pend a) (n:Nat) (hn:E.w.drawn<=n):Rel P A {E with w:={E.w with drawn:=n}} σ pend a:=by
 have hx:Zo E.w E.Pr {E.w with drawn:=n} E.Pr:=λb k hp=>⟨hp,rfl,rfl⟩;have hk: ∀s,Zi E {E with w:={E.w with drawn:=n}} σ.loc σ.loc s:=λs=>by
  by_cases hd:σ.loc s= .dead
  ·exact .inl hd
  ·exact .inr ⟨hd,rfl,rfl, .same rfl, .same rfl⟩
 have rv: ∀{x u},RV P E σ.loc x u->RV P {E with w:={E.w with drawn:=n}} σ.loc x u:=λh=>RV.mono0 (E:=E) (E':={E with w:={E.w with drawn:=n}}) (l:=σ.loc) (l':=σ.loc) hx hk h;exact⟨⟨λs hs=>(h.good.obj s hs).keep hx rfl rfl (λ_ _=>rfl) (λ_ _ _ h=>rv h),h.good.pnd,h.good.inj,h.good.base,h.good.prot,h.good.jstep (E':={E with w:={E.w with drawn:=n}}) rfl rfl hx (λ_ _ h=> .inl h) (λ_ _=>rfl) (Zm8 _) rfl rfl rfl hn,h.good.pr0.trans hx,h.good.prN,h.good.size,h.good.os,h.good.tape,h.good.output,Zni h.good.dr hn,h.good.yok,h.good.yown,h.good.ylt,h.good.dm,Qi h.good.rbo⟩,
  λt ht=>rv (h.slots t ht),h.size,h.defers,h.tm,h.len,λk g n hk=>rv (h.outs k g n hk)⟩
theorem Af {ro:Option Nat} (hc:CfgOk P cf A) (h:Rel P A E σ (λ_=>False) a) {id:Nat} {ops:Array Oper} {draw:Bool} {k:Ex->St->Option R} (hk:Yt cf (.region id ops draw) σ k=some r)
  (hw: ∀t∈writes (.region id ops draw),A.tm t=none):(Code.region id ops draw).wpIn (FW ro) 0 P (Pw P A k r) a E.w:=by
 simp only[Yt]at hk;split at hk
 ·cases hk
 ·cases hk
 ·rename_i σ1 hreg hal;rw[hc.hP]at hal;simp only[Zld,Zmq,Zm7]at hreg;obtain⟨hn,hoth⟩:=hreg;have hpt: ∀(i:Nat) (o:Oper) (t:TypeId) (d:Nat),ops[i]? =some o->o.op= .alloc t->o.dst=some d->Zal ops d=t:=λi o t d hi ho hd=>Zkb hn hi ho hd;obtain⟨E1,e1,h1,hgd⟩:=Ri (A:={A with pt:=Zal ops}) ops.toList h.pt (λ_ _ h=>h) hn (λo ho t d hop hd=>by
   obtain⟨i,hi⟩:=Zp6 ho;exact hpt i o t d (by simpa using hi) hop hd) hal
  have F:Facts {A with pt:=Zal ops} ops:={
   pt:=hpt
   gd:=λi o hi ha=>hgd o (by simpa using Zo3 hi) ha
   one:=λi j o o' d hi hj h3 h4=>P9 Z5 ops.toList hn i j o o' d (by simpa using hi) (by simpa using hj) h3 h4
   tm:=λi o d hi hd=>hw d (Zoh.2 ⟨o,by simpa using Zo3 hi,hd⟩)
   other:=λi j o o' d hi hj hna hd had=>by
    have:=hoth o (by simpa using Zo3 hi);rw[hna,hd]at this;simp only[Bool.false_or,Znn]at this;have h2:d∈Z2 ops.toList:=Zoh.2 ⟨o',by simpa using Zo3 hj,had⟩;rw[Vg.2 h2]at this;cases this}
  have hpend:(λs=>(λ_:Nat=>False) s\/s∈Z2 ops.toList)=Sf ops (Zrk 0 ops.toList.length):=by
   funext s
   refine propext ⟨λh=> ?_,λh=> ?_⟩
   ·rcases h with h|h
    ·exact h.elim
    ·obtain⟨o,ho,hd⟩:=Zoh.1 h;obtain⟨i,hi⟩:=Zp6 ho;exact⟨i,by simp only[Zqi];have:=(Zmx.1 hi).1;omega,o,by simpa using hi,hd⟩
   ·obtain⟨i,_,o,hi,hd⟩:=h;exact .inr (Zoh.2 ⟨o,by simpa using Zo3 hi,hd⟩)
  rw[hpend]at h1;have back: ∀σ',k .normal σ'=some r-> ∀E' a',Rel P {A with pt:=Zal ops} E' σ' (λ_=>False) a' ->Pw P A k r .normal a' E'.w:=λσ' hk' E' a' h'=>
   ⟨.normal,σ',E',rfl,hk',rfl,h'.pt⟩
  split at hk
  ·cases hord:Lb {cf with lh:=lhOf cf ops,al:=Z2 ops.toList} ops with
   |false=>rw[hord]at hk;cases hk
   |true=>
    rw[hord]at hk;obtain⟨σ',g1,g2⟩:=Pn hk;refine wpIn_region_any hc.mixed ?_;have h2:=h1.drew (E.w.drawn+1) (by rw[e1];exact Nat.le_succ _);rw[e1]at h2;refine Zd6 (cf:={cf with lh:=lhOf cf ops,al:=Z2 ops.toList}) (E:={E1 with w:={E.w with drawn:=E.w.drawn+1}}) (A:={A with pt:=Zal ops}) ⟨hc.hP,hc.con,hc.fn,hc.mixed,hc.iter,hc.gl,hc.ent,hc.add⟩ F hord (back σ' g2) ops.size _ (Zrk 0 ops.toList.length) (by simp) (by simp) ?_ (λj=> ?_) (λk' o ho hl=> ?_) h2 ?_
    ·exact List.pairwise_lt_range'
    ·simp only[Zqi,Array.length_toList];constructor
     ·intro hj;have hlt:j<ops.size:=by omega
      exact⟨hlt,by simp[hlt]⟩
     ·intro hj;omega
    ·exfalso;by_cases hlt:k'<ops.size
     ·simp[hlt]at hl
     ·simp[hlt]at hl
    ·rw[Zfv ops.toList 0 (λj=>by simp)];exact g1
  ·obtain⟨σ',g1,g2⟩:=Pn hk;refine wpIn_region_list ?_;rw[<-e1];exact D9 (A:={A with pt:=Zal ops}) ⟨hc.hP,hc.con,hc.fn,hc.mixed,hc.iter,hc.gl,hc.ent,hc.add⟩ F (back σ' g2) ops.toList 0 (λj=>by simp) h1 g1
end
end Go.PM
namespace Go.PM
open Go
variable {P:Program} {R:Type} {r:R}
def Zd9:Go.Obj->Bool
 | .cells _ _ _=>true
 | .map _ _=>true
 | .mapIter _ _ _ _=>true
 |_=>false
def Env.own (E:Env) (b:Nat):Prop:=(∃s,E.rho s=some b)\/ ∃s j,E.rb s j=some b
def Env.others (E:Env):Nat->Prop:=λb=>b<E.w.heap.size/\ ¬E.own b
def Env.bare (E:Env):Env:={E with Y:=E.others,D:=[]}
def Hw (A:Fr) (E:Env) (tm:Nat->Option Value):Fr:=
 {A with w0:=E.w,Pr0:=E.Pr,M:=E.own,tm:=tm,jt:=frJ E.w E.others,dfix:=true}
structure RbC (E:Env) (s j g:Nat):Prop where
 cells: ∃cur t,E.w.heap[g]? =some (.cells cur t (0,0))
 rho: ∀s',E.rho s'≠some g
 one: ∀s' j',E.rb s' j'=some g->s'=s/\j'=j
 pr: ∀k,¬E.Pr g k
theorem RbC.lt {E:Env} {s j g:Nat} (h:RbC E s j g):g<E.w.heap.size:=by
 obtain⟨_,_,h⟩:=h.cells;exact(Zmy.1 h).1
structure Core (P:Program) (A:Fr) (E:Env) (σ:St) (a:Act):Prop where
 obj: ∀s,ObjOk P E σ.loc s (σ.loc s)
 inj: ∀s s' g,E.rho s=some g->E.rho s'=some g->s=s'
 prot: ∀b k,E.Pr b k->b<E.w.heap.size/\ ∀s,E.rho s=some b->k<(σ.loc s).fz
 log:σ.loc.log=none
 slots: ∀t,t<σ.slots.length->RV P E σ.loc (σ.get t) (a.tmps.getD t undef)
 size:a.tmps.size=σ.slots.length
 len:σ.slots.length=A.n
 outs: ∀k g n,A.outs k=some (g,n)->RV P E σ.loc (.gh (OUT+k)) (ghv g n)
 rbo: ∀s j g,E.rb s j=some g->RbC E s j g
section
variable {A:Fr} {E E':Env} {σ:St} {a:Act}
theorem U8 {l:Loc} (hr:E'.rho=E.rho) (hb:E'.bs=E.bs) (hrb:E'.rb=E.rb:=by rfl) (hrc:E'.rc=E.rc:=by rfl): ∀s:Nat,Zi E E' l l s:=by
 intro s;by_cases hd:l s= .dead
 ·exact .inl hd
 ·exact .inr ⟨hd,by rw[hr],by rw[hb], .same rfl, .same rfl (by rw[hrb]) (by rw[hrc])⟩
theorem Rel.core (h:Rel P A E σ (λ_=>False) a) (hl:σ.loc.log=none):Core P A E σ a:=
 ⟨λs=>h.good.obj s (λh=>h),h.good.inj,h.good.prot,hl,h.slots,h.size,h.len,h.outs,λs j g e=>let c:=h.good.rbo s j g e;⟨c.cells,c.rho,c.one,c.pr⟩⟩
theorem Core.lt (h:Core P A E σ a) {s g:Nat} (hr:E.rho s=some g):g<E.w.heap.size/\ ∃o,E.w.heap[g]? =some o/\Zd9 o=true:=by
 have h0:=h.obj s;generalize σ.loc s=o at h0;cases h0 with
 |dead h=>rw[h]at hr;cases hr
 |ob h hb _=>rw[h]at hr;cases hr;obtain⟨cur,h1,_⟩:=hb;exact⟨(Zmy.1 h1).1,_,h1,rfl⟩
 |sbNil h=>rw[h]at hr;cases hr
 |sb h hb _=>rw[h]at hr;cases hr;obtain⟨cur,h1,_⟩:=hb;exact⟨(Zmy.1 h1).1,_,h1,rfl⟩
 |mx h hg _ _ _=>rw[h]at hr;cases hr;exact⟨(Zmy.1 hg).1,_,hg,rfl⟩
 |mp h hg _ _=>rw[h]at hr;cases hr;exact⟨(Zmy.1 hg).1,_,hg,rfl⟩
 |cl h hc=>rw[h]at hr;cases hr;exact hc.elim (λ⟨_,_,hg⟩=>⟨(Zmy.1 hg).1,_,hg,rfl⟩) λ⟨_,_,hg⟩=>⟨(Zmy.1 hg).1,_,hg,rfl⟩
 |mr h hg _ _ _ _=>rw[h]at hr;cases hr;exact⟨(Zmy.1 hg).1,_,hg,rfl⟩
 |mf h hg _ _ _ _ _ _=>rw[h]at hr;cases hr;exact⟨(Zmy.1 hg).1,_,hg,rfl⟩
 |it h hg _=>rw[h]at hr;cases hr;exact⟨(Zmy.1 hg).1,_,hg,rfl⟩
 |ir h hg _=>rw[h]at hr;cases hr;exact⟨(Zmy.1 hg).1,_,hg,rfl⟩
 |pk h hg _ _ _ _=>rw[h]at hr;cases hr;exact⟨(Zmy.1 hg).1,_,hg,rfl⟩
theorem Core.own_at (h:Core P A E σ a) {g:Nat} (hr:E.own g):g<E.w.heap.size/\ ∃o,E.w.heap[g]? =some o/\Zd9 o=true:=by
 rcases hr with⟨s,hr⟩|⟨s,j,hr⟩
 ·exact h.lt hr
 ·obtain⟨c,t,e⟩:=(h.rbo s j g hr).cells;exact⟨(h.rbo s j g hr).lt,_,e,rfl⟩
theorem Core.world (h:Core P A E σ a) (hr:E'.rho=E.rho) (hb:E'.bs=E.bs) (hx:Zo E.w E.Pr E'.w E'.Pr) (hg: ∀b,E.own b->E'.w.heap[b]? =E.w.heap[b]?)
  (hp: ∀b k,E'.Pr b k->E.Pr b k\/(b<E'.w.heap.size/\ ¬E.own b)) (hs:E.w.heap.size<=E'.w.heap.size) (hrb:E'.rb=E.rb:=by rfl) (hrc:E'.rc=E.rc:=by rfl):Core P A E' σ a:=by
 refine⟨λs=>(h.obj s).keep hx (by rw[hr]) (by rw[hb]) (λg hs'=>hg g (.inl ⟨s,hs'⟩)) (λ_ _ _ hu=>hu.mono0 hx (U8 hr hb hrb hrc)) (λj=>⟨by rw[hrb],λg e=>hg g (.inr ⟨s,j,e⟩)⟩) (by rw[hrc]),λs s' g h1 h2=>h.inj s s' g (by rw[<-hr];exact h1) (by rw[<-hr];exact h2),λb k hpb=> ?_,h.log,
  λt ht=>(h.slots t ht).mono0 hx (U8 hr hb hrb hrc),h.size,h.len,λk g n hk=>(h.outs k g n hk).mono0 hx (U8 hr hb hrb hrc),λs j g e=> ?_⟩
 ·rcases hp b k hpb with e|⟨e1,e2⟩
  ·exact⟨Zne (h.prot b k e).1 hs,λs hs'=>(h.prot b k e).2 s (by rw[<-hr];exact hs')⟩
  ·exact⟨e1,λs hs'=>absurd (.inl ⟨s,by rw[<-hr];exact hs'⟩) e2⟩
 ·rw[hrb]at e;obtain⟨c1,c2,c3,c4⟩:=h.rbo s j g e;refine⟨by rw[hg g (.inr ⟨s,j,e⟩)];exact c1,by rw[hr];exact c2,by rw[hrb];exact c3,λk hk=> ?_⟩;rcases hp g k hk with e'|⟨_,e'⟩
  ·exact c4 k e'
  ·exact e' (.inr ⟨s,j,e⟩)
theorem Good.yno {l:Loc} (h:Good P A E l (λ_=>False)) {b:Nat} (hb:E.own b): ¬E.Y b:=by
 rcases hb with⟨s,e⟩|⟨s,j,e⟩
 ·exact h.yown s b e
 ·exact(h.rbo s j b e).y
theorem Good.obase {l:Loc} (h:Good P A E l (λ_=>False)) {b:Nat} (hb:E.own b):A.w0.heap.size<=b\/A.M b:=by
 rcases hb with⟨s,e⟩|⟨s,j,e⟩
 ·exact h.base s b e
 ·exact(h.rbo s j b e).base
theorem Good.dmno' {l:Loc} (h:Good P A E l (λ_=>False)) {r:Nat} (hr:r∈E.D): ¬E.own r:=by
 rintro (⟨s,e⟩|⟨s,j,e⟩)
 ·exact h.dmno hr s e
 ·obtain⟨_,_,e1⟩:=(h.rbo s j r e).cells;rw[(h.dm r hr).1]at e1;cases e1
structure Grow (E E':Env):Prop where
 others: ∀b,E.others b->E'.w.heap[b]? =E.w.heap[b]?
 held:Zo E.w E.Pr E'.w E'.Pr
 rho: ∀b,E'.own b->E.own b\/E.w.heap.size<=b
 pr: ∀b k,E'.Pr b k->E.Pr b k\/E.w.heap.size<=b\/E.own b
 size:E.w.heap.size<=E'.w.heap.size
 os:E'.w.os=E.w.os
 tape:E'.w.tape=E.w.tape
 output:E'.w.output=E.w.output
 dr:E.w.drawn<=E'.w.drawn
theorem Core.rel (h:Core P A E σ a) {tm:Nat->Option Value} (ht: ∀t u,tm t=some u->a.tmps.getD t undef=u) (hd:a.defers=[]):Rel P (Hw A E tm) E.bare σ (λ_=>False) a:=by
 have hk: ∀s,Zi E E.bare σ.loc σ.loc s:=U8 rfl rfl;have hx:Zo E.w E.Pr E.bare.w E.bare.Pr:=Zo.refl E.w E.Pr;refine⟨⟨λs _=>(h.obj s).keep hx rfl rfl (λ_ _=>rfl) λ_ _ _ hu=>hu.mono0 hx hk,λ_ hp=>hp.elim,h.inj,λs g hs=> .inr (.inl ⟨s,hs⟩),h.prot,⟨h.log,λb hb=>⟨hb,rfl⟩⟩, .refl _ _,λ_ _ hp=> .inl hp,Zm8 _,rfl,rfl,rfl,Zm8 _,
  Hs _ _,λs g hs hy=>hy.2 (.inl ⟨s,hs⟩),λb hb=>hb.1,λr hr=>(by cases hr),λs j g e=> ?_⟩,λt ht=>(h.slots t ht).mono0 hx hk,h.size,⟨hd,λ_=>rfl,Zpv⟩,ht,h.len,λk g n hk'=>(h.outs k g n hk').mono0 hx hk⟩
 obtain⟨c1,c2,c3,c4⟩:=h.rbo s j g e;exact⟨c1,c2,c3,c4,λhy=>hy.2 (.inr ⟨s,j,e⟩), .inr (.inr ⟨s,j,e⟩)⟩
theorem Rel.grow {E':Env} {σ':St} {a':Act} {tm:Nat->Option Value} (h:Rel P (Hw A E tm) E' σ' (λ_=>False) a'):Grow E E'/\a'.defers=[]/\σ'.loc.log=none/\(∀t u,tm t=some u->a'.tmps.getD t undef=u):=by
 have hD:=h.defers.2.1 rfl;refine⟨⟨λb hb=>(h.good.jf.2 b hb).2,h.good.pr0,λb hs=> ?_,λb k hp=>h.good.prN b k hp,h.good.size,h.good.os,h.good.tape,h.good.output,h.good.dr⟩,by rw[h.defers.1,hD];rfl,h.good.jf.1,h.tm⟩;rcases hs with⟨s,hs⟩|⟨s,j,hs⟩
 ·rcases h.good.base s b hs with e|e
  ·exact .inr e
  ·exact .inl e
 ·rcases(h.good.rbo s j b hs).base with e|e
  ·exact .inr e
  ·exact .inl e
theorem Grow.no {E':Env} (h:Grow E E') {b:Nat} (hb:E.others b):E'.others b:=by
 refine⟨Zne hb.1 h.size,λhs=> ?_⟩;rcases h.rho b hs with e|e
 ·exact hb.2 e
 ·have:=hb.1;omega
theorem Grow.trans {E1 E2:Env} (h:Grow E E1) (h':Grow E1 E2):Grow E E2:=by
 refine⟨λb hb=>(h'.others b (h.no hb)).trans (h.others b hb),h.held.trans h'.held,λb hs=> ?_,λb k hp=> ?_,Zni h.size h'.size,h'.os.trans h.os,h'.tape.trans h.tape,h'.output.trans h.output,Zni h.dr h'.dr⟩
 ·rcases h'.rho b hs with e|e
  ·exact h.rho b e
  ·exact .inr (Zni h.size e)
 ·rcases h'.pr b k hp with e|e|e
  ·exact h.pr b k e
  ·exact .inr (.inl (Zni h.size e))
  ·rcases h.rho b e with e|e
   ·exact .inr (.inr e)
   ·exact .inr (.inl e)
end
section
variable {I X:Type} {body:I->X->Option (Nat×X)} {xs:List I} {x0:X}
def Px (body:I->X->Option (Nat×X)) (xs:List I) (x0:X):Nat->Option X
 |0=>some x0
 |n+1=>(Px body xs x0 n).bind λx=>(xs[n]?).bind λit=>(body it x).bind λp=>match p.1 with
  |0=>some p.2
  |_+1=>none
theorem Ag {p:Nat×X} (h:R6 body xs x0=some p): ∀(n:Nat) (x:X),Px body xs x0 n=some x->n<=xs.length/\R6 body (xs.drop n) x=some p
 |0,x,hc=>by injection hc with hc;subst hc;exact⟨Znv _,by simpa using h⟩
 |n+1,x,hc=>by
  simp only[Px]at hc;obtain⟨y,h1,hc⟩:=Zm6.1 hc;obtain⟨it,h2,hc⟩:=Zm6.1 hc;obtain⟨q,h3,hc⟩:=Zm6.1 hc;obtain⟨_,h4⟩:=Ag h n y h1;have hlt:=(Zmx.1 h2).1;have hd:xs.drop n=it::xs.drop (n+1):=by
   rw[Zof hlt];rw[Zm0 hlt]at h2;injection h2 with h2;rw[h2]
  rw[hd]at h4;simp only[R6,h3,Znx]at h4;refine⟨hlt, ?_⟩;split at hc
  ·rename_i h0;injection hc with hc;subst hc
   rw[h0]at h4;exact h4
  ·cases hc
theorem Zcs {p:Nat×X} (h:R6 body xs x0=some p) {n:Nat} {x:X} (hc:Px body xs x0 n=some x) {it:I} (hi:xs[n]? =some it):
  ∃q,body it x=some q/\((q.1=0/\Px body xs x0 (n+1)=some q.2)\/((∃m,q.1=m+1)/\Px body xs x0 (n+1)=none/\p=q)):=by
 obtain⟨_,h4⟩:=Ag h n x hc;have hlt:=(Zmx.1 hi).1;have hd:xs.drop n=it::xs.drop (n+1):=by
  rw[Zof hlt];rw[Zm0 hlt]at hi;injection hi with hi;rw[hi]
 rw[hd]at h4;simp only[R6]at h4;obtain⟨q,h3,h4⟩:=Zm6.1 h4;refine⟨q,h3, ?_⟩;split at h4
 ·rename_i h0;refine .inl ⟨h0, ?_⟩;simp only[Px,hc,Znx,hi,h3,h0]
 ·rename_i m h0;injection h4 with h4
  refine .inr ⟨⟨m,h0⟩, ?_, ?_⟩
  ·simp only[Px,hc,Znx,hi,h3,h0]
  ·rw[<-h4];exact Prod.ext h0.symm rfl
theorem Zf0 {p:Nat×X} (h:R6 body xs x0=some p) {x:X} (hc:Px body xs x0 xs.length=some x):p=(0,x):=by
 obtain⟨_,h4⟩:=Ag h _ x hc;rw[List.drop_length]at h4;injection h4 with h4
 exact h4.symm
end
end Go.PM
namespace Go.PM
open Go
variable {P:Program} {R:Type} {r:R}
section
variable {A:Fr} {E:Env} {σ:St} {a:Act}
theorem Rel.world (h:Rel P A E σ (λ_=>False) a) {w':World} (hx:Zo E.w E.Pr w' E.Pr) (hg: ∀b,E.own b->w'.heap[b]? =E.w.heap[b]?) (hy: ∀b,E.Y b->w'.heap[b]? =E.w.heap[b]?)
  (hd: ∀r,r∈E.D->w'.heap[r]? =E.w.heap[r]?) (hs:E.w.heap.size<=w'.heap.size) (ho:w'.os=E.w.os) (ht:w'.tape=E.w.tape) (hu:w'.output=E.w.output) (hdr:E.w.drawn<=w'.drawn:=by exact Zm8 _):Rel P A {E with w:=w'} σ (λ_=>False) a:=by
 have hk: ∀s,Zi E {E with w:=w'} σ.loc σ.loc s:=U8 rfl rfl;have hx':Zo E.w E.Pr ({E with w:=w'}:Env).w ({E with w:=w'}:Env).Pr:=hx;refine⟨⟨λs hp=>(h.good.obj s hp).keep hx' rfl rfl (λg hs'=>hg g (.inl ⟨s,hs'⟩)) (λ_ _ _ hu=>hu.mono0 hx' hk) (λj=>⟨rfl,λg e=>hg g (.inr ⟨s,j,e⟩)⟩),λs hp=>hp.elim,h.good.inj,h.good.base,λb k hp=>⟨Zne (h.good.prot b k hp).1 hs,(h.good.prot b k hp).2⟩,
  h.good.jstep (E':={E with w:=w'}) rfl rfl hx' (λ_ _ h=> .inl h) hy hs ho ht hu hdr,h.good.pr0.trans hx',h.good.prN,Zni h.good.size hs,ho.trans h.good.os,ht.trans h.good.tape,hu.trans h.good.output,Zni h.good.dr hdr,h.good.yok,h.good.yown,λb hb=>Zne (h.good.ylt b hb) hs,
  λr hr=>⟨(hd r hr).trans (h.good.dm r hr).1,(h.good.dm r hr).2⟩,λs j g e=>(let c:=h.good.rbo s j g e;⟨(by obtain⟨cur,t,e1⟩:=c.cells;exact⟨cur,t,(hg g (.inr ⟨s,j,e⟩)).trans e1⟩),c.rho,c.one,c.pr,c.y,c.base⟩)⟩,λt ht'=>(h.slots t ht').mono0 hx' hk,h.size,h.defers,h.tm,h.len,λk g n hk'=>(h.outs k g n hk').mono0 hx' hk⟩
end
theorem Ca {E:Env} {l:Loc}: ∀(ps:List Nat) (it:List V) (us:List Value) (sl:Sl) (tm:Array Value),us.length=it.length->(∀(i:Nat) (x:V) (u:Value),it[i]? =some x->us[i]? =some u->RI E.w E.Pr x u)->
  (∀t,t<sl.length->RV P E l (sl.get t) (tm.getD t undef))->tm.size=sl.length->
  (Lc ps it sl).length=sl.length/\((ps.zip us).foldl (λt p=>t.setIfInBounds p.1 p.2) tm).size=sl.length/\ ∀t,t<sl.length->RV P E l ((Lc ps it sl).get t) (((ps.zip us).foldl (λt p=>t.setIfInBounds p.1 p.2) tm).getD t undef)
 | [],it,us,sl,tm,_,_,h,hs=>by simp only[Lc,List.zip_nil_left,List.foldl_nil];exact⟨trivial,hs,h⟩
 |p::ps,[],us,sl,tm,hl,_,h,hs=>by
  have:us=[]:=Zrm.1 hl;subst this;simp only[Lc,List.zip_nil_right,List.foldl_nil];exact⟨trivial,hs,h⟩
 |p::ps,x::it,[],sl,tm,hl,_,h,hs=>by simp at hl
 |p::ps,x::it,u::us,sl,tm,hl,hi,h,hs=>by
  simp only[Lc,Zrn,Zo4];have hx:RV P E l x u:=by
   cases hi 0 x u rfl rfl with
   |c h=>exact .c h
   |agg h=>exact .agg h
  have:=Ca (E:=E) (l:=l) ps it us (sl.set p x) (tm.setIfInBounds p u) (by simpa using hl) (λi y v hy hv=>hi (i+1) y v (by simpa using hy) (by simpa using hv)) (λt ht=>by
   have ht':t<sl.length:=ht;by_cases e:p=t
   ·subst e;rw[Sl.set_self ht'];have:(tm.setIfInBounds p u).getD p undef=u:=by simp[Zri,hs,ht']
    rw[this];exact hx
   ·rw[Sl.set_ne e];have:(tm.setIfInBounds p u).getD t undef=tm.getD t undef:=by
     simp only[Zri,Zoo];by_cases hlt:t<tm.size
     ·simp[hlt,Zod,e]
     ·simp[hlt]
    rw[this];exact h t ht') (by simp[hs])
  exact this
theorem J4: ∀(ps:List Nat) (us:List Value) (tm:Array Value) {t:Nat},t∉ps->((ps.zip us).foldl (λt p=>t.setIfInBounds p.1 p.2) tm).getD t undef=tm.getD t undef
 | [],us,tm,t,_=>by simp
 |p::ps,[],tm,t,_=>by simp
 |p::ps,u::us,tm,t,h=>by
  simp only[Zrn,Zo4];rw[J4 ps us _ (λe=>h (Znm _ e))];have e:p≠t:=λe=>h (by simp[e]);simp only[Zri,Zoo];by_cases hlt:t<tm.size
  ·simp[hlt,Zod,e]
  ·simp[hlt]
theorem Qo (s:Nat): ∀(ts:List (Nat×Nat)) (sl:Sl) {t:Nat},t∉ts.map (·.1)->(Xj s ts sl).get t=sl.get t
 | [],sl,t,_=>rfl
 |p::ts,sl,t,h=>by
  simp only[Xj];rw[Qo s ts _ (λe=>h (by simp at e⊢;exact .inr e)),Sl.set_ne (λe=>h (by simp[e]))]
theorem Rq (s:Nat): ∀(ts:List Nat) (sl:Sl) {t:Nat},t∉ts->(U4 s ts sl).get t=sl.get t
 | [],sl,t,_=>rfl
 |p::ts,sl,t,h=>by
  simp only[U4];rw[Rq s ts _ (λe=>h (by simp[e])),Sl.set_ne (λe=>h (by simp[e]))]
theorem Lw (s n:Nat): ∀(ts:List Nat) (sl:Sl) {t:Nat},t∉ts->(Vy s n ts sl).get t=sl.get t
 | [],sl,t,_=>rfl
 |p::ts,sl,t,h=>by
  simp only[Vy];rw[Lw s n ts _ (λe=>h (by simp[e])),Sl.set_ne (λe=>h (by simp[e]))]
theorem Rr (cells:List V): ∀(wt:List (Nat×Nat)) (sl:Sl) {t:Nat},t∉wt.map (·.1)->(Qf cells wt sl).get t=sl.get t
 | [],sl,t,_=>rfl
 |p::wt,sl,t,h=>by
  simp only[Zn0,Znl,not_or]at h;simp only[Qf];split
  ·rw[Rr cells wt _ h.2,Sl.set_ne (Ne.symm h.1)]
  ·exact Rr cells wt sl h.2
theorem keep_other (kp:Keep) (x:kp.ty) (τ:St) {t:Nat} (h:t∉kp.slots):(kp.put P x τ).slots.get t=τ.slots.get t:=by
 cases kp with
 |lf s l=>exact Sl.set_ne (λe=>h (by simp[Keep.slots,e]))
 |ag s ls=>exact Sl.set_ne (λe=>h (by simp[Keep.slots,e]))
 |ao s=>exact Sl.set_ne (λe=>h (by simp[Keep.slots,e]))
 |ow s d ty=>exact Sl.set_ne (λe=>h (by simp[Keep.slots,e]))
 |us s d ty=>exact Sl.set_ne (λe=>h (by simp[Keep.slots,e]))
 |ob s ty ls ts=>exact Qo s ts _ (by simpa[Keep.slots]using h)
 |oo s ty ts=>exact Qo s ts _ (by simpa[Keep.slots]using h)
 |mp s kt et ts=>exact Rq s ts _ (by simpa[Keep.slots]using h)
 |mr s kt et te ts=>exact Rq s ts _ (by simpa[Keep.slots]using h)
 |mx s ty ms ts wt=>
  have h':t∉ts.map (·.1)/\t∉wt.map (·.1):=by simpa only[Keep.slots,Zoc,not_or]using h
  exact(Rr _ wt _ h'.2).trans (Qo s ts _ h'.1)
 |pk s ty ks ts=>exact Qo s ts _ (by simpa[Keep.slots]using h)
 |rx s ty te ts=>exact Lw s _ ts _ (by simpa[Keep.slots]using h)
 |lg=>rfl
theorem J5: ∀(ks:List Keep) (x:Qx ks) (τ:St) {t:Nat},(∀q∈ks,t∉q.slots)->(Yg P ks x τ).slots.get t=τ.slots.get t
 | [],_,τ,t,_=>rfl
 |kp::ks,(x,y),τ,t,h=>by
  simp only[Yg];rw[J5 ks y _ (λq hq=>h q (by simp[hq])),keep_other kp x τ (h kp (by simp))]
theorem Sy: ∀(ms:List MK) (z:C3 ms) (l:Loc),(Xx P ms z l).log=l.log
 | [],_,_=>rfl
 | .lf _::r,(_,z),l=>Sy r z l
 | .ow _ _::r,(_,z),l=>Sy r z _
 | .mp _ _ _::r,(_,z),l=>Sy r z _
 | .ws _ _ _::r,(_,z),l=>Sy r z _
theorem Cb: ∀(ks:List Keep) (x:Qx ks) (τ:St),(∀q∈ks,q.noLg=true)->(Yg P ks x τ).loc.log=τ.loc.log
 | [],_,τ,_=>rfl
 |kp::ks,(x,y),τ,h=>by
  simp only[Yg];rw[Cb ks y _ (λq hq=>h q (by simp[hq]))];have:=h kp (by simp);cases kp<;>first|rfl|exact Sy _ _ _|cases this
theorem Ah {ws:List Nat} {σ:St} {t:Nat} (h:t∈ws):(σ.clean ws).slots.get t= .und:=by
 by_cases hl:t<σ.slots.length
 ·rcases Kz (ws:=ws) hl with e|⟨e,_⟩
  ·exact e
  ·exact absurd h e
 ·exact Sl.get_ge hl
structure RInv (P:Program) (A:Fr) (E1 E2:Env) (a:Act) (ws:List Nat) (τ:St) (L D0 n1:Nat) (rec:Go.Obj) (Y:Nat->Prop) (Pr:Nat->Nat->Prop) (W:World) (E3:Env):Prop where
 w:E3.w=W
 Y3:E3.Y=E2.Y
 D3:E3.D=E2.D
 low: ∀b,b<n1->Y b
 own: ∀b,E3.own b->Y b
 pr: ∀b k,E3.Pr b k->Y b\/Pr b k
 prY: ∀b k,Pr b k->Y b->E3.Pr b k
 prN: ∀b k,Pr b k->E2.Pr b k\/n1<=b
 rel:Rel P (A.re E1 a ws) E3 τ (λ_=>False) a
 hD:W.heap[D0]? =some (.deferred (some []))
 hL:W.heap[L]? =some rec
section
variable {A:Fr} {E1 E2 E3:Env} {a:Act} {ws:List Nat} {τ:St} {L D0 n1:Nat} {rec:Go.Obj} {Y:Nat->Prop} {Pr:Nat->Nat->Prop} {W:World}
theorem RInv.stab (h:RInv P A E1 E2 a ws τ L D0 n1 rec Y Pr W E3) (hY2: ∀b,E2.Y b->b<n1) (hD2: ∀r,r∈E2.D->r<n1) (hLn:L<n1) (hDn:D0<n1) {Pr':Nat->Nat->Prop} {w':World} (hb: ∀b,Y b->w'.heap[b]? =W.heap[b]?) (hx:Zo W Pr w' Pr')
  (hpr: ∀b k,Pr' b k->Pr b k\/ ¬Y b) (hs:W.heap.size<=w'.heap.size) (ho:w'.os=W.os) (ht:w'.tape=W.tape) (hu:w'.output=W.output) (hdr:W.drawn<=w'.drawn):RInv P A E1 E2 a ws τ L D0 n1 rec Y Pr' w' {E3 with w:=w'}:=by
 have hw:=h.w;subst hw;refine⟨rfl,h.Y3,h.D3,h.low,h.own,λb k hp=> ?_,λb k hp hy=> ?_,λb k hp=> ?_, ?_,(hb _ (h.low _ hDn)).trans h.hD,(hb _ (h.low _ hLn)).trans h.hL⟩
 ·rcases h.pr b k hp with e|e
  ·exact .inl e
  ·exact .inr (hx b k e).1
 ·rcases hpr b k hp with e|e
  ·exact h.prY b k e hy
  ·exact absurd hy e
 ·rcases hpr b k hp with e|e
  ·exact h.prN b k e
  ·exact .inr (Zql λhlt=>e (h.low b hlt))
 ·refine h.rel.world (λb k hp=>⟨hp, ?_⟩) (λb hs'=>hb b (h.own b hs')) (λb hy=>hb b (h.low b (hY2 b (by rw[<-h.Y3];exact hy)))) (λr hr=>hb r (h.low r (hD2 r (by rw[<-h.D3];exact hr)))) hs ho ht hu hdr;rcases h.pr b k hp with e|e
  ·exact⟨World.cell?_of_block (w:=E3.w) (hb b e),Xi (hb b e)⟩
  ·exact(hx b k e).2
end
end Go.PM
namespace Go.PM
open Go
variable {P:Program}
structure CodeOk (P:Program) (cf:Cfg) (c:Code) (ro:Option Nat):Prop where
 run: ∀{R:Type} {r:R} {A:Fr} {E:Env} {σ:St} {a:Act} {k:Ex->St->Option R},GlobOk cf.glob A.w0 A.Pr0->Rel P A E σ (λ_=>False) a->(∀t∈writes c,A.tm t=none)->Yt cf c σ k=some r->c.wpIn (FW ro) 0 P (Pw P A k r) a E.w
theorem wpM {F:Fence} {n:Nat} {c:Code} {Q Q':Exit->Act->World->Prop} {a:Act} {w:World} (hq: ∀e a w,Q e a w->Q' e a w) (h:c.wpIn F n P Q a w):c.wpIn F n P Q' a w:=wpIn_mono h hq
theorem M1 {A:Type} {kp:Keeps} {n:Option Nat} {σ:St} {k:Nat->Qx kp.ks->Option A} {r:A} (h:Ji P kp n σ k=some r): ∃m,n=some m/\Mh P kp σ (k m)=some r:=by
 unfold Ji at h;split at h
 ·exact⟨_,rfl,h⟩
 ·cases h
theorem Zih {R:Type} {r:R} {s:Shp} {x:V} {k:V->Option R} (h:shape s x k=some r):k x=some r:=by
 unfold shape at h;split at h
 ·unfold rC at h;split at h
  ·rename_i c;exact Tn (k:=λc'=>k (.c c')) h
  ·cases h
 ·unfold rA at h;split at h
  case h_2=>cases h
  rename_i cs;obtain⟨hl,h⟩:=Za h;have h:=Qa h;rw[<-Zmp hl,Zow]at h;exact h.2
theorem Cc {R:Type} {r:R}: ∀{ss:List Shp} {xs:List V} {k:List V->Option R},Mo ss xs k=some r->k xs=some r
 | [],xs,k,h=>by
  unfold Mo at h;cases xs with
  |nil=>exact h
  |cons x xs=>cases h
 |s::ss,xs,k,h=>by
  unfold Mo at h;cases xs with
  |nil=>cases h
  |cons x xs=>
   have h1:=Zih (k:=λv=>Mo ss xs λvs=>k (v::vs)) h;exact Cc (k:=λvs=>k (x::vs)) h1
def Ux:Ex->Option Code
 | .normal=>none
 | .exit id=>some (.exit id)
 | .ret=>some .ret
def mapO:Go.Obj->Option (Array MapEntry×Nat)| .map ms n=>some (ms,n)|_=>none
theorem Ce {w:World} {b:Nat} {o:Go.Obj} (h:w.heap[b]? =some o):So w b=mapO o:=by
 unfold So;rw[h];cases o<;>rfl
theorem T8 {w:World} {Pr:Nat->Nat->Prop} {L:Nat} {o o':Go.Obj} (hL:w.heap[L]? =some o) (hn:o.isCells=false) (hn':o'.isCells=false) (hm:mapO o=none:=by rfl) (hm':mapO o'=none:=by rfl):Zo w Pr (w.putObj L o') Pr:=by
 intro b k hp;refine⟨hp, ?_⟩;by_cases e:b=L
 ·subst e;have h1:(w.putObj b o').heap[b]? =some o':=World.putObj_heap_same (Zmy.1 hL).1;have: ∀(v:World) (q:Go.Obj),v.heap[b]? =some q->q.isCells=false->v.cell? ⟨b,k,none⟩=none:=by
   intro v q hq hc;unfold World.cell?;rw[hq];cases q<;>first|rfl|(cases hc;done)
  rw[this _ _ h1 hn',this _ _ hL hn];exact⟨rfl,by rw[Ce h1,Ce hL,hm,hm']⟩
 ·exact⟨World.cell?_of_block (w:=w) (World.putObj_heap_other e),Xi (World.putObj_heap_other e)⟩
def Tr (fn:FuncId) (a:Act) (ps:Array Tmp) (as bd:Code) (D0:Nat) (st:LoopState) (pe:Option Code):Loop:={state:=st,pending:=pe,fn:=fn,tmps:=a.tmps,params:=ps,assign:=as,body:=bd,defers:=D0}
section
variable {A:Fr} {E1 E2 E3:Env} {σ1:St} {a:Act} {ws:List Nat} {L D0 n1:Nat} {Y:Nat->Prop} {Pr:Nat->Nat->Prop} {W:World} {kp:Keeps} {cf:Cfg} {fn:FuncId} {ps:Array Tmp} {as bd:Code}
structure RFix (P:Program) (A:Fr) (E1 E2:Env) (σ1:St) (a:Act) (ws:List Nat) (L D0 n1:Nat) (kp:Keeps) (cf:Cfg) (ps:Array Tmp) (as bd:Code):Prop where
 r1:Rel P A E1 σ1 (λ_=>False) a
 gl:GlobOk cf.glob A.w0 A.Pr0
 cA:CodeOk P cf as (some L)
 cB:CodeOk P cf bd (some L)
 wA: ∀t∈writes as,t∈ws
 wB: ∀t∈writes bd,t∈ws
 wP: ∀t∈ps.toList,t∈ws
 ks: ∀q∈kp.ks,q.noLg=true/\ ∀t∈q.slots,t∉ws
 le1:E1.w.heap.size<=n1
 pr2:E2.Pr=E1.Pr
 y2: ∀b,E2.Y b->b<n1
 y2L: ¬E2.Y L
 d2: ∀r,r∈E2.D->r<n1
 lL:L<n1
 lD:D0<n1
noncomputable def R0 (P:Program) (kp:Keeps) (cf:Cfg) (σ1:St) (ws:List Nat) (ps:Array Tmp) (as bd:Code) (it:List V) (y:Qx kp.ks):Option (Nat×Qx kp.ks):=
 Mo kp.sh it λit=>need (Zqv it.length ps.toList.length) (Yt cf as ⟨Lc ps.toList it (Yg P kp.ks y (σ1.clean ws)).slots,(Yg P kp.ks y (σ1.clean ws)).loc⟩ λe σ'=>match e with
  | .normal=>Yt cf bd σ' λe σ'=>Ji P kp (U9 (.normal::kp.ex) e) σ' λn z=>some (n,z)
  |_=>none)
theorem Fs {A:Fr} {E1:Env} {a:Act} {ws:List Nat} {t:Nat} (h:t∈ws):(A.re E1 a ws).tm t=none:=by simp[Fr.re,h]
theorem K0 {A:Fr} {E1:Env} {a:Act} {ws:List Nat} {t:Nat} (h:t∉ws):(A.re E1 a ws).tm t=some (a.tmps.getD t undef):=by simp[Fr.re,h]
theorem Zct (F:RFix P A E1 E2 σ1 a ws L D0 n1 kp cf ps as bd) {x:Qx kp.ks} (hinv:RInv P A E1 E2 a ws (Yg P kp.ks x (σ1.clean ws)) L D0 n1 (.loop (Tr fn a ps as bd D0 .ready none)) Y Pr W E3)
  (hPlt: ∀b k,Pr b k->b<W.heap.size) (hYlt: ∀b,Y b->b<W.heap.size) {it:List V} {us:List Value} (hul:us.length=it.length) (hus: ∀(i:Nat) (x:V) (u:Value),it[i]? =some x->us[i]? =some u->RI W Pr x u)
  {q:Nat×Qx kp.ks} (hq:R0 P kp cf σ1 ws ps as bd it x=some q):
  YieldAt Fence.wide 0 P L us.toArray W (λe W'=> ∃x':Ex,U9 (.normal::kp.ex) x'=some q.1/\e= .returned (.bool (Ux x').isNone)/\ ∃(Y':Nat->Prop) (E4:Env),(∀b,Y b->Y' b)/\(∀b,Y' b->Y b\/W.heap.size<=b)/\(∀b,Y' b->b<W'.heap.size)/\Zo W Pr W' Pr/\
   RInv P A E1 E2 a ws (Yg P kp.ks q.2 (σ1.clean ws)) L D0 n1 (.loop (Tr fn a ps as bd D0 (if(Ux x').isNone then .ready else .done) (Ux x'))) Y' Pr W' E4/\
   (∀b,b<W.heap.size-> ¬Y b->W'.heap[b]? =W.heap[b]?)/\W.heap.size<=W'.heap.size/\W'.os=W.os/\W'.tape=W.tape/\W'.output=W.output/\W.drawn<=W'.drawn):=by
 have hw:=hinv.w;subst hw;unfold R0 at hq;have hq:=Cc hq;obtain⟨hlen,hq⟩:=Za hq;have hlen:=Zmp hlen;have hlog:(Yg P kp.ks x (σ1.clean ws)).loc.log=none:=by rw[Cb kp.ks x _ λq hq=>(F.ks q hq).1];rfl
 have hcore0:=hinv.rel.core hlog
 let E4:Env:={E3 with Pr:=λb k=>E3.Pr b k\/Pr b k}
 have hcore1:Core P (A.re E1 a ws) E4 (Yg P kp.ks x (σ1.clean ws)) a:=hcore0.world (E':=E4) rfl rfl (λb k hp=>⟨.inl hp,rfl,rfl⟩) (λ_ _=>rfl) (λb k hp=>by
  rcases hp with e|e
  ·exact .inl e
  ·by_cases hy:Y b
   ·exact .inl (hinv.prY b k e hy)
   ·exact .inr ⟨hPlt b k e,λhs=>hy (hinv.own b hs)⟩) (Zm8 _)
 obtain⟨p1,p2,p3⟩:=Ca (E:=E4) (l:=(Yg P kp.ks x (σ1.clean ws)).loc) ps.toList it us (Yg P kp.ks x (σ1.clean ws)).slots a.tmps hul (λi y u hy hu=>by
  cases hus i y u hy hu with
  |c h=>exact .c (h.held (λb k hp=>⟨.inr hp,rfl,rfl⟩))
  |agg h=>exact .agg (h.held (λb k hp=>⟨.inr hp,rfl,rfl⟩))) (λt ht=>hcore1.slots t ht) hcore1.size
 have hcore4:Core P (A.re E1 a ws) E4 ⟨Lc ps.toList it (Yg P kp.ks x (σ1.clean ws)).slots,(Yg P kp.ks x (σ1.clean ws)).loc⟩ {tmps:=(ps.toList.zip us).foldl (λt p=>t.setIfInBounds p.1 p.2) a.tmps,defers:=[]}:=
  ⟨hcore1.obj,hcore1.inj,hcore1.prot,hlog,λt ht=>p3 t (by rw[<-p1];exact ht),by rw[p2];exact p1.symm,p1.trans hcore1.len,hcore1.outs,hcore1.rbo⟩
 have htm4: ∀t u,(A.re E1 a ws).tm t=some u->((ps.toList.zip us).foldl (λt p=>t.setIfInBounds p.1 p.2) a.tmps).getD t undef=u:=by
  intro t u ht;by_cases hws:t∈ws
  ·rw[Fs hws]at ht;cases ht
  ·rw[K0 hws]at ht;injection ht with ht
   rw[J4 _ _ _ (λe=>hws (F.wP t e))];exact ht
 have hLno: ¬E3.own L:=λhs=>by
  obtain⟨_,o,h,ho⟩:=hcore0.own_at hs;rw[hinv.hL]at h;cases h;cases ho
 have hLlt:L<E3.w.heap.size:=(Zmy.1 hinv.hL).1;have hL4:E4.others L:=⟨hLlt,hLno⟩;have hfold:(ps.zip us.toArray).foldl (λtmps (x:Tmp×Value)=>tmps.setIfInBounds x.1 x.2) a.tmps=(ps.toList.zip us).foldl (λt p=>t.setIfInBounds p.1 p.2) a.tmps:=by
  rw[<-Zp9,Array.toList_zip]
 refine⟨fn,_,as,bd,run_yield hinv.hL (by show us.toArray.size=ps.size;simp[hul,hlen]), ?_⟩;refine roundIn_of_wpIn (F:=Fence.wide) trivial ?_;show as.wpIn (FW (some L)) 0 P _ {tmps:=(ps.zip us.toArray).foldl (λtmps (x:Tmp×Value)=>tmps.setIfInBounds x.1 x.2) a.tmps,defers:=[]} E4.w;rw[hfold];have hgl4:GlobOk cf.glob E4.w E4.Pr:=((F.gl.held F.r1.good.pr0).held hinv.rel.good.pr0).held (λb k hp=>⟨.inl hp,rfl,rfl⟩);have run5:=F.cA.run (A:=Hw (A.re E1 a ws) E4 (A.re E1 a ws).tm) (E:=E4.bare) hgl4 (hcore4.rel htm4 rfl) (λt ht=>show(A.re E1 a ws).tm t=none from Fs (F.wA t ht)) hq;refine wpM (λe a5 w5 hp=> ?_) run5;obtain⟨x5,σ5,E5,rfl,hk5,rfl,hr5⟩:=hp;cases x5 with
 |exit id=>cases hk5
 |ret=>cases hk5
 |normal=>
 obtain⟨hg5,hd5,hl5,ht5⟩:=hr5.grow;have hL5:E5.w.heap[L]? =some (.loop (Tr fn a ps as bd D0 .ready none)):=(hg5.others L hL4).trans hinv.hL;refine⟨_,run_beginRound hL5 rfl, ?_⟩;show bd.wpIn (FW (some L)) 0 P _ a5 (E5.w.putObj L (.loop (Tr fn a ps as bd D0 .busy none)))
 let E6:Env:={E5 with w:=E5.w.putObj L (.loop (Tr fn a ps as bd D0 .busy none))}
 have hx56:Zo E5.w E5.Pr E6.w E6.Pr:=T8 hL5 rfl rfl;have hL5no:=(hg5.no hL4).2;have hcore6:Core P (A.re E1 a ws) E6 σ5 a5:=(show Core P (A.re E1 a ws) E5 σ5 a5 from⟨(hr5.core hl5).obj,(hr5.core hl5).inj,(hr5.core hl5).prot,hl5,(hr5.core hl5).slots,(hr5.core hl5).size,(hr5.core hl5).len,(hr5.core hl5).outs,(hr5.core hl5).rbo⟩).world (E':=E6) rfl rfl hx56
  (λb hs=>World.putObj_heap_other (λe=>hL5no (e▸hs))) (λ_ _ h=> .inl h) (Zoy World.putObj_size.symm)
 have hgl6:GlobOk cf.glob E6.w E6.Pr:=(hgl4.held hr5.good.pr0).held hx56;have run7:=F.cB.run (A:=Hw (A.re E1 a ws) E6 (A.re E1 a ws).tm) (E:=E6.bare) hgl6 (hcore6.rel ht5 hd5) (λt ht=>show(A.re E1 a ws).tm t=none from Fs (F.wB t ht)) hk5;refine wpM (λe a7 w7 hp=> ?_) run7;obtain⟨x7,σ7,E7,rfl,hk7,rfl,hr7⟩:=hp;obtain⟨m,hm,hg7⟩:=M1 hk7;have hgr7:=hr7.grow.1;have hg56:E6.w.heap.size=E5.w.heap.size:=World.putObj_size;have h17:Zo E1.w E1.Pr E7.w E7.Pr:=(hinv.rel.good.pr0.trans (λb k hp=>⟨(hg5.held b k (.inl hp)).1,(hg5.held b k (.inl hp)).2⟩)).trans (hx56.trans hgr7.held);obtain⟨z,E8,g1,g2,g3,_,_,gp⟩:=Zig F.r1 hr7 rfl h17 (λt ht=>K0 (A:=A) (E1:=E1) ht) hg7;injection g1 with g1
 subst g1;obtain⟨hg8,hd8,hl8,ht8⟩:=g3.grow;have hL6:E6.others L:=⟨by rw[hg56];exact(hg5.no hL4).1,hL5no⟩;have hL8:E8.w.heap[L]? =some (.loop (Tr fn a ps as bd D0 .busy none)):=(hg8.others L hL6).trans (World.putObj_heap_same (hg5.no hL4).1);have hx08:Zo E3.w E4.Pr E8.w E8.Pr:=Zo.trans (w:=E3.w) (Pr:=E4.Pr) (w1:=E5.w) (Pr1:=E5.Pr) hg5.held (hx56.trans hg8.held);have hsz5:E3.w.heap.size<=E5.w.heap.size:=hg5.size;have hsz8:E5.w.heap.size<=E8.w.heap.size:=by have:=hg8.size;rw[hg56]at this;exact this
 have no6: ∀b,E4.others b->E6.others b:=λb hb=>⟨by rw[hg56];exact(hg5.no hb).1,(hg5.no hb).2⟩;obtain⟨rec',hrec'⟩: ∃rec':Go.Obj,rec'= .loop (Tr fn a ps as bd D0 (if(Ux x7).isNone then .ready else .done) (Ux x7)):=⟨_,rfl⟩;have hsame: ∀b,E4.others b->b≠L->(E8.w.putObj L rec').heap[b]? =E3.w.heap[b]? :=λb hb hne=>
  (World.putObj_heap_other hne).trans ((hg8.others b (no6 b hb)).trans ((World.putObj_heap_other hne).trans (hg5.others b hb)))
 have hown8: ∀b,E8.own b->E3.own b\/E3.w.heap.size<=b:=λb hs=>by
  rcases hg8.rho b hs with e|e
  ·exact hg5.rho b e
  ·rw[hg56]at e;exact .inr (Zni hsz5 e)
 have hpr8: ∀b k,E8.Pr b k->E3.Pr b k\/Pr b k\/E3.w.heap.size<=b\/E3.own b:=λb k hp=>by
  have h5: ∀b k,E5.Pr b k->E3.Pr b k\/Pr b k\/E3.w.heap.size<=b\/E3.own b:=λb k hp=>by
   rcases hg5.pr b k hp with(e|e)|e|e
   ·exact .inl e
   ·exact .inr (.inl e)
   ·exact .inr (.inr (.inl e))
   ·exact .inr (.inr (.inr e))
  rcases hg8.pr b k hp with e|e|e
  ·exact h5 b k e
  ·rw[hg56]at e;exact .inr (.inr (.inl (Zni hsz5 e)))
  ·rcases hg5.rho b e with e|e
   ·exact .inr (.inr (.inr e))
   ·exact .inr (.inr (.inl e))
 have core8:Core P (A.re E1 a ws) E8 (Yg P kp.ks z (σ1.clean ws)) a7:=⟨(g3.core hl8).obj,(g3.core hl8).inj,(g3.core hl8).prot,hl8,(g3.core hl8).slots,(g3.core hl8).size,(g3.core hl8).len,(g3.core hl8).outs,(g3.core hl8).rbo⟩;have hL8no: ¬E8.own L:=λhs=>by
  obtain⟨_,o,h,ho⟩:=core8.own_at hs;rw[hL8]at h;cases h;cases ho
 have core9a:Core P (A.re E1 a ws) E8 (Yg P kp.ks z (σ1.clean ws)) a:=by
  refine⟨core8.obj,core8.inj,core8.prot,hl8,λt ht=> ?_, ?_,core8.len,core8.outs,core8.rbo⟩
  ·by_cases hws:t∈ws
   ·have e:(Yg P kp.ks z (σ1.clean ws)).get t= .und:=by
     show(Yg P kp.ks z (σ1.clean ws)).slots.get t= .und;rw[J5 kp.ks z _ (λq hq hmem=>(F.ks q hq).2 t hmem hws)];exact Ah hws
    rw[e];exact .und
   ·have:=core8.slots t ht;rw[ht8 t _ (K0 hws)]at this;exact this
  ·rw[hinv.rel.size,hinv.rel.len];exact core8.len.symm
 let E9:Env:={E8 with w:=E8.w.putObj L rec',Y:=E2.Y,D:=E2.D}
 have hn':rec'.isCells=false:=by rw[hrec'];rfl
 have hx89:Zo E8.w E8.Pr E9.w E9.Pr:=T8 hL8 rfl hn' rfl (by rw[hrec'];rfl);have core9:Core P (A.re E1 a ws) E9 (Yg P kp.ks z (σ1.clean ws)) a:=core9a.world (E':=E9) rfl rfl hx89 (λb hs=>World.putObj_heap_other (λe=>hL8no (e▸hs))) (λ_ _ h=> .inl h) (Zoy World.putObj_size.symm);have hsz9:E9.w.heap.size=E8.w.heap.size:=World.putObj_size;have hYo: ∀b,E3.Y b->E4.others b/\b≠L:=λb hy=>⟨⟨hinv.rel.good.ylt b hy,λhs=>hinv.rel.good.yno hs hy⟩,λe=>F.y2L (by rw[<-hinv.Y3,<-e];exact hy)⟩;have hDo: ∀r,r∈E3.D->E4.others r/\r≠L:=λr hr=>⟨⟨(Zmy.1 (hinv.rel.good.dm r hr).1).1,hinv.rel.good.dmno' hr⟩,λe=>by
  have h1:=(hinv.rel.good.dm r hr).1;rw[e,hinv.hL]at h1;cases h1⟩
 have hD0o:E4.others D0/\D0≠L:=⟨⟨(Zmy.1 hinv.hD).1,λhs=>by
  obtain⟨_,o,h,ho⟩:=hcore0.own_at hs;rw[hinv.hD]at h;cases h;cases ho⟩,λe=>by
  have h1:=hinv.hD;rw[e,hinv.hL]at h1;cases h1⟩
 have hx39:Zo E3.w E3.Pr E9.w E9.Pr:=λb k hp=>(Zo.trans hx08 hx89) b k (.inl hp);have hnoY: ∀b k,E8.Pr b k->E3.Pr b k\/ ¬E3.Y b:=λb k hp=>by
  rcases hpr8 b k hp with e|e|e|e
  ·exact .inl e
  ·by_cases hy:E3.Y b
   ·exact .inl (hinv.prY b k e (hinv.low b (F.y2 b (by rw[<-hinv.Y3];exact hy))))
   ·exact .inr hy
  ·exact .inr λhy=>Zpe _ (Zne (hinv.rel.good.ylt b hy) e)
  ·exact .inr (hinv.rel.good.yno e)
 have hos:E9.w.os=E3.w.os:=hg8.os.trans hg5.os;have htp:E9.w.tape=E3.w.tape:=hg8.tape.trans hg5.tape;have hou:E9.w.output=E3.w.output:=hg8.output.trans hg5.output;have hdw:E3.w.drawn<=E9.w.drawn:=Zni (show E3.w.drawn<=E5.w.drawn from hg5.dr) (show E5.w.drawn<=E8.w.drawn from hg8.dr);have hE1:E1.w.heap.size<=E3.w.heap.size:=hinv.rel.good.size;have hrel9:Rel P (A.re E1 a ws) E9 (Yg P kp.ks z (σ1.clean ws)) (λ_=>False) a:=by
  refine⟨⟨λs _=>core9.obj s,λs hp=>hp.elim,core9.inj,λs g hs=> ?_,core9.prot, ?_,hinv.rel.good.pr0.trans hx39,λb k hp=> ?_,Zni hE1 (by rw[hsz9];omega),hos.trans hinv.rel.good.os,htp.trans hinv.rel.good.tape,hou.trans hinv.rel.good.output,Zni hinv.rel.good.dr hdw,F.r1.good.yok,λs g hs hy=> ?_,λb hy=> ?_,λr hr=> ?_,λs j g e=> ?_⟩,
   core9.slots,core9.size, ?_,hinv.rel.tm,core9.len,core9.outs⟩
  ·rcases hown8 g (.inl ⟨s,hs⟩)with e|e
   ·exact hinv.rel.good.obase e
   ·exact .inl (Zni hE1 e)
  ·have hj:=hinv.rel.good.jf;rw[hlog]at hj;show A.jt.J E2.Y E9.Pr (Yg P kp.ks z (σ1.clean ws)).loc.log E9.w;rw[hl8,<-hinv.Y3];exact A.jt.stab hj (λb hb=>hsame b (hYo b hb).1 (hYo b hb).2) hx39 hnoY (by rw[hsz9];omega) hos htp hou hdw
  ·rcases hpr8 b k hp with e|e|e|e
   ·exact hinv.rel.good.prN b k e
   ·rcases hinv.prN b k e with e|e
    ·exact .inl (by show E1.Pr b k;rw[<-F.pr2];exact e)
    ·exact .inr (.inl (Zni F.le1 e))
   ·exact .inr (.inl (Zni hE1 e))
   ·exact .inr (hinv.rel.good.obase e)
  ·have hy':E3.Y g:=by rw[hinv.Y3];exact hy
   rcases hown8 g (.inl ⟨s,hs⟩)with e|e
   ·exact hinv.rel.good.yno e hy'
   ·exact Zpe _ (Zne (hinv.rel.good.ylt g hy') e)
  ·have hy':E3.Y b:=by rw[hinv.Y3];exact hy
   have:=hinv.rel.good.ylt b hy';rw[hsz9];omega
  ·have hr':r∈E3.D:=by rw[hinv.D3];exact hr
   refine⟨(hsame r (hDo r hr').1 (hDo r hr').2).trans (hinv.rel.good.dm r hr').1,λhy=>(hinv.rel.good.dm r hr').2 ?_⟩;rw[hinv.Y3];exact hy
  ·have c:=core9.rbo s j g e;refine⟨c.cells,c.rho,c.one,c.pr,λhy=> ?_, ?_⟩
   ·have hy':E3.Y g:=by rw[hinv.Y3];exact hy
    rcases hown8 g (.inr ⟨s,j,e⟩)with e|e
    ·exact hinv.rel.good.yno e hy'
    ·exact Zpe _ (Zne (hinv.rel.good.ylt g hy') e)
   ·rcases hown8 g (.inr ⟨s,j,e⟩)with e|e
    ·exact hinv.rel.good.obase e
    ·exact .inl (Zni hE1 e)
  ·have:=hinv.rel.defers;rw[hinv.D3]at this;exact this
 have key: ∃v w',(Instr.endRound L (Ux x7)).run P E7.w= .ok v w'/\(∃x':Ex,U9 (.normal::kp.ex) x'=some m/\Ending.returned v= .returned (.bool (Ux x').isNone)/\ ∃(Y':Nat->Prop) (E4:Env),(∀b,Y b->Y' b)/\(∀b,Y' b->Y b\/E3.w.heap.size<=b)/\(∀b,Y' b->b<w'.heap.size)/\Zo E3.w Pr w' Pr/\
   RInv P A E1 E2 a ws (Yg P kp.ks z (σ1.clean ws)) L D0 n1 (.loop (Tr fn a ps as bd D0 (if(Ux x').isNone then .ready else .done) (Ux x'))) Y' Pr w' E4/\
   (∀b,b<E3.w.heap.size-> ¬Y b->w'.heap[b]? =E3.w.heap[b]?)/\E3.w.heap.size<=w'.heap.size/\w'.os=E3.w.os/\w'.tape=E3.w.tape/\w'.output=E3.w.output/\E3.w.drawn<=w'.drawn):=by
  have hrun:=run_endRound (P:=P) (Ux x7) hL8;rw[g2]at hrun;refine⟨_,E8.w.putObj L rec',by rw[hrun,hrec',g2];rfl,x7,hm,rfl,λb=>Y b\/(E3.w.heap.size<=b/\b<E9.w.heap.size),E9,λb hb=> .inl hb,λb hb=> ?_,λb hb=> ?_,λb k hp=>⟨hp,((Zo.trans hx08 hx89) b k (.inr hp)).2⟩,
   ⟨rfl,rfl,rfl,λb hb=> .inl (hinv.low b hb),λb hs=> ?_,λb k hp=> ?_,λb k hp _=>((Zo.trans hx08 hx89) b k (.inr hp)).1,hinv.prN,hrel9,(hsame D0 hD0o.1 hD0o.2).trans hinv.hD, ?_⟩,
   λb hb hy=>hsame b ⟨hb,λhs=>hy (hinv.own b hs)⟩ (λe=>hy (e▸hinv.low L F.lL)),by show _<=E9.w.heap.size;rw[hsz9];omega,hos,htp,hou,hdw⟩
  ·rcases hb with e|e
   ·exact .inl e
   ·exact .inr e.1
  ·rcases hb with e|e
   ·have:=hYlt b e;show b<E9.w.heap.size;rw[hsz9];omega
   ·exact e.2
  ·rcases hown8 b hs with e|e
   ·exact .inl (hinv.own b e)
   ·exact .inr ⟨e,by rw[hsz9];exact(core8.own_at hs).1⟩
  ·rcases hpr8 b k hp with e|e|e|e
   ·rcases hinv.pr b k e with e|e
    ·exact .inl (.inl e)
    ·exact .inr e
   ·exact .inr e
   ·exact .inl (.inr ⟨e,(core9.prot b k hp).1⟩)
   ·exact .inl (.inl (hinv.own b e))
  ·rw[hrec'];exact World.putObj_heap_same (by have:=(Zmy.1 hL8).1;exact this)
 cases x7 with
 |normal=>exact key
 |exit id=>exact key
 |ret=>exact key
end
end Go.PM
namespace Go.PM
open Go
variable {P:Program}
theorem Zcu {ex:List Ex} {x:Ex} (h:U9 (.normal::ex) x=some 0):x= .normal:=by
 unfold U9 at h;split at h
 ·rename_i he;exact(of_decide_eq_true he).symm
 ·split at h
  ·injection h with h;cases h
  ·cases h
theorem Ai {ex:List Ex} {n:Nat} (h:U9 (.normal::ex) .normal=some n):n=0:=by
 unfold U9 at h;simp at h;exact h.symm
theorem Zam {x:Ex} (h:(Ux x).isNone=true):x= .normal:=by cases x<;>first|rfl|cases h
section
variable {A:Fr} {E1 E2:Env} {σ1:St} {a:Act} {ws:List Nat} {L D0 n1:Nat} {kp:Keeps} {cf:Cfg} {ps:Array Tmp} {as bd:Code}
noncomputable def Ey {I X:Type} (body:I->X->Option (Nat×X)) (xs:List I) (x0:X) (n:Nat):Bool:=(Px body xs x0 (n+1)).isSome
noncomputable def Zii (F:RFix P A E1 E2 σ1 a ws L D0 n1 kp cf ps as bd) (fn:FuncId) (xs:List (List V)) (x0:Qx kp.ks) (p:Nat×Qx kp.ks):JT where
 J Y Pr lg W:=(∃n x E3,Px (R0 P kp cf σ1 ws ps as bd) xs x0 n=some x/\n<=xs.length/\(lg=none\/lg=some ⟨L,Ey (R0 P kp cf σ1 ws ps as bd) xs x0,n,xs.drop n,false⟩)/\
   RInv P A E1 E2 a ws (Yg P kp.ks x (σ1.clean ws)) L D0 n1 (.loop (Tr fn a ps as bd D0 .ready none)) Y Pr W E3)\/
  (∃x' E3,U9 (.normal::kp.ex) x'=some p.1/\(Ux x').isNone=false/\(lg=none\/ ∃n rest,lg=some ⟨L,Ey (R0 P kp cf σ1 ws ps as bd) xs x0,n,rest,true⟩)/\
   RInv P A E1 E2 a ws (Yg P kp.ks p.2 (σ1.clean ws)) L D0 n1 (.loop (Tr fn a ps as bd D0 .done (Ux x'))) Y Pr W E3)
 stab:=λh hb hx hpr hs ho ht hu hdr=>by
  rcases h with⟨n,x,E3,h1,h2,h3,h4⟩|⟨x',E3,h1,h2,h3,h4⟩
  ·exact .inl ⟨n,x,_,h1,h2,h3,h4.stab F.y2 F.d2 F.lL F.lD hb hx hpr hs ho ht hu hdr⟩
  ·exact .inr ⟨x',_,h1,h2,h3,h4.stab F.y2 F.d2 F.lL F.lD hb hx hpr hs ho ht hu hdr⟩
 weak:=λh=>by
  rcases h with⟨n,x,E3,h1,h2,h3,h4⟩|⟨x',E3,h1,h2,h3,h4⟩
  ·exact .inl ⟨n,x,_,h1,h2, .inl rfl,h4⟩
  ·exact .inr ⟨x',_,h1,h2, .inl rfl,h4⟩
theorem Zcv (F:RFix P A E1 E2 σ1 a ws L D0 n1 kp cf ps as bd) (fn:FuncId) {xs:List (List V)} {x0:Qx kp.ks} {p:Nat×Qx kp.ks} (hp:R6 (R0 P kp cf σ1 ws ps as bd) xs x0=some p):YOk P (Zii F fn xs x0 p):=by
 intro Y Pr lg w it rest us hJ hst hrest hul hus hPlt hYlt;rcases hJ with⟨n,x,E3,h1,h2,h3,h4⟩|⟨x',E3,h1,h2,h3,h4⟩
 ·rcases h3 with h3|h3
  ·cases h3
  injection h3 with h3
  subst h3;have hd:xs.drop n=it::rest:=hrest;have hlt:n<xs.length:=by
   apply Nat.lt_of_not_le;intro hle;rw[List.drop_eq_nil_of_le hle]at hd;cases hd
  have hd2:=Zof hlt;rw[hd]at hd2;injection hd2 with e1 e2
  have hi:xs[n]? =some it:=by rw[Zm0 hlt,e1]
  obtain⟨q,hq,hc⟩:=Zcs hp h1 hi;obtain⟨fn',tmps,as',bd',hrun,hR⟩:=Zct F h4 hPlt hYlt hul hus hq;refine⟨fn',tmps,as',bd',hrun,hR.mono λe W' he=> ?_⟩;obtain⟨x',hx',he,Y',E4,y1,y2,y3,hx,hinv,hfr,hsz,hos,htp,hou,hdw⟩:=he;rcases hc with⟨hq0,hcS⟩|⟨⟨m,hqm⟩,hcS,hpq⟩
  ·rw[hq0]at hx';have:=Zcu hx';subst this;have hgo:Ey (R0 P kp cf σ1 ws ps as bd) xs x0 n=true:=by unfold Ey;rw[hcS];rfl
   refine⟨?_,Y',y1,y2,y3,hx, .inl ⟨n+1,q.2,E4,hcS,hlt, .inr ?_,hinv⟩,hfr,hsz,hos,htp,hou,hdw⟩
   ·rw[he];simp only[Ux,Option.isNone_none,hgo]
   ·simp only[hgo,e2];rfl
  ·have hne:(Ux x').isNone=false:=by
    cases hj:(Ux x').isNone with
    |false=>rfl
    |true=>
     have:=Zam hj;subst this;have:=Ai hx';omega
   have hgo:Ey (R0 P kp cf σ1 ws ps as bd) xs x0 n=false:=by unfold Ey;rw[hcS];rfl
   subst hpq;rw[hne]at hinv;refine⟨?_,Y',y1,y2,y3,hx, .inr ⟨x',E4,hx',hne, .inr ⟨n+1,rest, ?_⟩,hinv⟩,hfr,hsz,hos,htp,hou,hdw⟩
   ·rw[he,hne];simp only[hgo]
   ·simp only[hgo];rfl
 ·rcases h3 with h3|⟨n,rest',h3⟩
  ·cases h3
  ·injection h3 with h3
   subst h3;cases hst
end
theorem Tt {R:Type} {f:Ex->Option R} {r:R}: ∀{ex:List Ex} {x:Ex} {n:Nat},U9 ex x=some n->H5 ex n f=some r->f x=some r
 | [],x,n,h,_=>by cases h
 |e::ex,x,n,h,hd=>by
  unfold U9 at h;split at h
  ·rename_i he;have he:=of_decide_eq_true he;subst he;injection h with h
   subst h;cases ex<;>exact hd
  ·split at h
   ·rename_i m hm;injection h with h
    subst h;cases ex with
    |nil=>cases hm
    |cons e' ex=>exact Tt hm hd
   ·cases h
theorem Good.cells {A:Fr} {E:Env} {l:Loc} (h:Good P A E l (λ_=>False)) {s g:Nat} (hr:E.rho s=some g): ∃o,E.w.heap[g]? =some o/\Zd9 o=true:=by
 have h0:=h.obj s (λh=>h);generalize l s=o at h0;cases h0 with
 |dead h=>rw[h]at hr;cases hr
 |ob h hb _=>rw[h]at hr;cases hr;obtain⟨cur,h1,_⟩:=hb;exact⟨_,h1,rfl⟩
 |sbNil h=>rw[h]at hr;cases hr
 |sb h hb _=>rw[h]at hr;cases hr;obtain⟨cur,h1,_⟩:=hb;exact⟨_,h1,rfl⟩
 |mx h hg _ _ _=>rw[h]at hr;cases hr;exact⟨_,hg,rfl⟩
 |mp h hg _ _=>rw[h]at hr;cases hr;exact⟨_,hg,rfl⟩
 |cl h hc=>rw[h]at hr;cases hr;rcases hc with⟨_,_,hg⟩|⟨_,_,hg⟩<;>exact⟨_,hg,rfl⟩
 |mr h hg _ _ _ _=>rw[h]at hr;cases hr;exact⟨_,hg,rfl⟩
 |mf h hg _ _ _ _ _ _=>rw[h]at hr;cases hr;exact⟨_,hg,rfl⟩
 |it h hg _=>rw[h]at hr;cases hr;exact⟨_,hg,rfl⟩
 |ir h hg _=>rw[h]at hr;cases hr;exact⟨_,hg,rfl⟩
 |pk h hg _ _ _ _=>rw[h]at hr;cases hr;exact⟨_,hg,rfl⟩
theorem Good.cells' {A:Fr} {E:Env} {l:Loc} (h:Good P A E l (λ_=>False)) {g:Nat} (hr:E.own g): ∃o,E.w.heap[g]? =some o/\Zd9 o=true:=by
 rcases hr with⟨s,e⟩|⟨s,j,e⟩
 ·exact h.cells e
 ·obtain⟨_,_,e⟩:=(h.rbo s j g e).cells;exact⟨_,e,rfl⟩
theorem Good.olt {A:Fr} {E:Env} {l:Loc} (h:Good P A E l (λ_=>False)) {g:Nat} (hr:E.own g):g<E.w.heap.size:=by
 rcases hr with⟨s,e⟩|⟨s,j,e⟩
 ·exact h.lt e
 ·exact(h.rbo s j g e).lt
theorem Rel.mark {A:Fr} {E:Env} {σ:St} {a:Act} (h:Rel P A E σ (λ_=>False) a) {D0:Nat} (hf:A.dfix=false) (hD:E.w.heap[D0]? =some (.deferred (some []))) (hy: ¬E.Y D0) (hn:D0∉E.D):
  Rel P A {E with D:=D0::E.D} σ (λ_=>False) {a with defers:=[{target:= .collected D0,args:= #[]}]++a.defers}:=by
 have hx:Zo E.w E.Pr ({E with D:=D0::E.D}:Env).w ({E with D:=D0::E.D}:Env).Pr:=Zo.refl E.w E.Pr;have hk: ∀s,Zi E {E with D:=D0::E.D} σ.loc σ.loc s:=U8 rfl rfl;refine⟨⟨λs hp=>(h.good.obj s hp).keep hx rfl rfl (λ_ _=>rfl) λ_ _ _ hu=>hu.mono0 hx hk,h.good.pnd,h.good.inj,h.good.base,h.good.prot,h.good.jf,h.good.pr0,h.good.prN,h.good.size,h.good.os,h.good.tape,h.good.output,h.good.dr,h.good.yok,h.good.yown,h.good.ylt,λr hr=> ?_,λs j g e=>(let c:=h.good.rbo s j g e;⟨c.cells,c.rho,c.one,c.pr,c.y,c.base⟩)⟩,
  λt ht=>(h.slots t ht).mono0 hx hk,h.size,⟨?_,λe=>(by rw[hf]at e;cases e),Zpc.2 ⟨hn,h.defers.2.2⟩⟩,h.tm,h.len,λk g n hk'=>(h.outs k g n hk').mono0 hx hk⟩
 ·rcases Znl.1 hr with rfl|hr
  ·exact⟨hD,hy⟩
  ·exact h.good.dm r hr
 ·show _=Ms D0::E.D.map Ms;rw[<-h.defers.1];rfl
theorem Zan {cf:Cfg} {A:Fr} (hc:CfgOk P cf A) {g:Operand} {ps:Array Tmp} {as bd:Code} (hA: ∀L,CodeOk P {cf with rnd:=true,ent:=none} as (some L)) (hB: ∀L,CodeOk P {cf with rnd:=true,ent:=none} bd (some L)) {R:Type} {r:R} (hfix:A.dfix=false) (hrnd:cf.rnd=false)
  {E:Env} {σ:St} {a:Act} {k:Ex->St->Option R} (hr:Rel P A E σ (λ_=>False) a) (hw: ∀t∈writes (.rangeFunc g ps as bd),A.tm t=none) (h:Yt cf (.rangeFunc g ps as bd) σ k=some r):
  (Code.rangeFunc g ps as bd).wpIn (FW none) 0 P (Pw P A k r) a E.w:=by
 have hP:=hc.hP;subst hP;simp only[Yt,hrnd]at h;split at h
 case h_2=>cases h
 case h_1 c hgv=>
  obtain⟨f,caps,rfl,h⟩:=Zjp h;obtain⟨xs,hxs,h⟩:=Zm6.1 h;have hv0:=W4 hc.gl hr g;rw[hgv]at hv0;generalize hav:a.eval g=gv at hv0;cases hv0 with|c hv0=>
  cases hv0 with| @fn _ _ cvs q1 q2=>
  have hcaps:RCs E.w E.Pr caps cvs:=⟨q1,q2⟩;generalize hkp:cf.keep (Ys bd)=kp at h;generalize hws:ps.toList++(writes as++writes bd)=ws at h;have hww: ∀t∈ws,A.tm t=none:=λt ht=>hw t (by rw[<-hws]at ht;exact ht);simp only[Zg1]at h;obtain⟨σ1,E1,⟨e1,eD,eY,ex⟩,hr1,h⟩:=M0 hr h;obtain⟨x0,E2,h,g2,g3,gD,gY,gPr⟩:=carry hr1 (hr1.re ws) h;obtain⟨hks,h⟩:=Za h;obtain⟨p,h1,h2⟩:=Zm6.1 h;have hks': ∀q∈kp.ks,q.noLg=true/\ ∀t∈q.slots,t∉ws:=λq hq=>by
   have:=Zm7.1 hks q hq;rw[Zmq]at this;refine⟨this.1,λt ht hm=> ?_⟩;have:=Zm7.1 this.2 t ht;rw[Vg.2 hm]at this;cases this
  have hw2:E2.w=E.w:=g2.trans e1;rw[<-hw2];obtain⟨out,lg,hcall,hlg,hend⟩:=hc.iter f caps xs hxs (E2.w.heap.size+1) (Ey (R0 cf.P kp {cf with rnd:=true,ent:=none} σ1 ws ps as bd) xs x0);obtain⟨fnn,hf1,hf2,hf3⟩:=hc.fn _ _ _ _ hcall;have hcon:=hc.con _ _ _ _ hcall;refine wpIn_rangeFunc ?_;intro fn _;have F:RFix cf.P A E1 E2 σ1 a ws (E2.w.heap.size+1) E2.w.heap.size (E2.w.heap.size+2) kp {cf with rnd:=true,ent:=none} ps as bd:={
   r1:=hr1,gl:=hc.gl,cA:=hA _,cB:=hB _
   wA:=λt ht=>by rw[<-hws];simp[ht]
   wB:=λt ht=>by rw[<-hws];simp[ht]
   wP:=λt ht=>by rw[<-hws];exact Zn3 _ ht
   ks:=hks'
   le1:=by rw[g2];omega
   pr2:=gPr
   y2:=λb hb=>by have:=g3.good.ylt b hb;omega
   y2L:=λhb=>by have:=g3.good.ylt _ hb;omega
   d2:=λr hr=>by have:=(Zmy.1 (g3.good.dm r hr).1).1;omega
   lL:=by omega
   lD:=by omega}
  obtain⟨W1,hW1⟩: ∃W1,(E2.w.alloc (.deferred (some []))).alloc (.loop (Tr fn a ps as bd E2.w.heap.size .ready none))=W1:=⟨_,rfl⟩;have hL1:W1.heap[E2.w.heap.size+1]? =some (.loop (Tr fn a ps as bd E2.w.heap.size .ready none)):=by
   rw[<-hW1];have:=World.alloc_heap_new (E2.w.alloc (.deferred (some []))) (.loop (Tr fn a ps as bd E2.w.heap.size .ready none));rwa [World.size_alloc]at this
  have hK1:W1.heap[E2.w.heap.size]? =some (.deferred (some [])):=by
   rw[<-hW1];exact(Go.RowKit.Below.heap_alloc _ _ _ (by simp)).trans (World.alloc_heap_new E2.w _)
  have hold: ∀b,b<E2.w.heap.size->W1.heap[b]? =E2.w.heap[b]? :=λb hb=>by
   rw[<-hW1];exact(Go.RowKit.Below.heap_alloc _ _ _ (by simp;omega)).trans (Go.RowKit.Below.heap_alloc _ _ _ hb)
  have hsz:W1.heap.size=E2.w.heap.size+2:=by rw[<-hW1];simp
  have hos:W1.os=E2.w.os:=by rw[<-hW1];rfl
  have htp:W1.tape=E2.w.tape:=by rw[<-hW1];rfl
  have hou:W1.output=E2.w.output:=by rw[<-hW1];rfl
  have hx1:Zo E2.w E2.Pr W1 E2.Pr:=λb k hp=>⟨hp,World.cell?_of_block (w:=E2.w) (hold b (g3.good.prot b k hp).1),Xi (hold b (g3.good.prot b k hp).1)⟩;have hrel1:Rel cf.P (A.re E1 a ws) {E2 with w:=W1} (Yg cf.P kp.ks x0 (σ1.clean ws)) (λ_=>False) a:=
   g3.world hx1 (λb hs=>hold b (g3.good.olt hs)) (λb hb=>hold b (g3.good.ylt b hb)) (λr hr=>hold r (Zmy.1 (g3.good.dm r hr).1).1) (by rw[hsz];omega) hos htp hou (by rw[<-hW1];exact Zm8 _)
  let Ei:Env:={w:=W1,rho:=λ_=>none,bs:=λ_=>0,Pr:=E2.Pr,Y:=λb=>b<W1.heap.size,D:=[]}
  let j:=Zii F fn xs x0 p
  have hj0:j.J Ei.Y Ei.Pr (some ⟨E2.w.heap.size+1,Ey (R0 cf.P kp {cf with rnd:=true,ent:=none} σ1 ws ps as bd) xs x0,0,xs,false⟩) W1:=
   .inl ⟨0,x0,{E2 with w:=W1},rfl,Znv _, .inr rfl,⟨rfl,rfl,rfl,λb hb=>by show b<W1.heap.size;omega,λb hs=>by show b<W1.heap.size;have:=g3.good.olt (g:=b) hs;omega,λb k hp=> .inr hp,λb k hp _=>hp,λb k hp=> .inl hp,hrel1,hK1,hL1⟩⟩
  have hGi:Good cf.P (Xc A.pt Ei j) Ei (Zs [] (some ⟨E2.w.heap.size+1,Ey (R0 cf.P kp {cf with rnd:=true,ent:=none} σ1 ws ps as bd) xs x0,0,xs,false⟩)) (λ_=>False):=by
   refine⟨λs _=> ?_,λs hp=>hp.elim,λs s' g hs=>(by cases hs),λs g hs=>(by cases hs),λb k hp=>⟨by have:=(g3.good.prot b k hp).1;show b<W1.heap.size;omega,λs hs=>(by cases hs)⟩,hj0, .refl _ _,λb k hp=> .inl hp,Zm8 _,rfl,rfl,rfl,Zm8 _,Zcv F fn (by exact h1),λs g hs=>(by cases hs),λb hb=>hb,λr hr=>(by cases hr),λs j g e=>(by cases e)⟩;have:(Zs [] (some ⟨E2.w.heap.size+1,Ey (R0 cf.P kp {cf with rnd:=true,ent:=none} σ1 ws ps as bd) xs x0,0,xs,false⟩)) s= .dead:=by
    simp only[Zs];cases Nat.ble OUT s<;>rfl
   rw[this];exact .dead rfl
  have hcaps1:RCs Ei.w Ei.Pr caps cvs:=hcaps.held (Zo.trans (w:=E.w) (Pr:=E.Pr) (w1:=E1.w) (Pr1:=E1.Pr) ex (Zo.trans (w1:=E2.w) (Pr1:=E2.Pr) (by rw[g2,gPr];exact .refl _ _) hx1));have hC:=hcon A.pt Ei (.func (.yield (E2.w.heap.size+1)) #[] #[]::cvs) j (by simp[hcaps.len]) rfl ((hc.gl.held hr1.good.pr0).held hrel1.good.pr0) hGi (λi y u hy hu=>by
   cases i with
   |zero=>simp at hy hu;subst hy hu;exact .c .yl
   |succ i=>
    simp only[List.getElem?_cons_succ,Zm9]at hy hu;cases hc':caps[i]? with
    |none=>rw[hc']at hy;cases hy
    |some c'=>rw[hc']at hy;injection hy with hy;subst hy;exact .c (hcaps1.2 i c' u hc' hu))
  have hb':fnn.body.isNone=false:=by cases h:fnn.body<;>simp_all
  refine⟨E2.w.heap.size+1,[{target:= .collected E2.w.heap.size,args:= #[]}],W1,{target:= .fn (.func f) cvs.toArray,args:= #[.func (.yield (E2.w.heap.size+1)) #[] #[]]},W1,f,
   #[.func (.yield (E2.w.heap.size + 1)) #[] #[]] ++ cvs.toArray, W1, ?_, ?_, fun _ _ => trivial, ?_, fun e => (by cases e), ?_⟩
  ·rw[<-hW1];exact run_enterLoop_outer _ _ _ _ _
  ·simp only[resolve,hav];simp[go_sem]
  ·simp only[invoke,callFunc,Sem.run_bind,Sem.run_pure,Result.andThen_ok,run_program,hf1,hf3,hb',Zpq,if_false]
  ·have e2:(#[.func (.yield (E2.w.heap.size+1)) #[] #[]]++cvs.toArray:Array Value)=(.func (.yield (E2.w.heap.size+1)) #[] #[]::cvs:List Value).toArray:=by apply Array.ext';simp
   rw[e2];have hC':CallsIn (FW none) (0-1) cf.P f (.func (.yield (E2.w.heap.size+1)) #[] #[]::cvs:List Value).toArray W1 _:=callsIn_wide.2 hC;refine CallsIn.mono hC' λe w' he=> ?_;obtain⟨u,E',rfl,rfl,hG',_,_⟩:=he;have hJ:=hG'.jf;have hJ':j.J E'.Y E'.Pr (some lg) E'.w:=by rw[<-hlg];exact hJ
   have fin: ∀{x':Ex} {E3:Env} {rec:Loop} {z:Qx kp.ks},RInv cf.P A E1 E2 a ws (Yg cf.P kp.ks z (σ1.clean ws)) (E2.w.heap.size+1) E2.w.heap.size (E2.w.heap.size+2) (.loop rec) E'.Y E'.Pr E'.w E3->k x' (Yg cf.P kp.ks z (σ1.clean ws))=some r->
     Pw cf.P A k r (exOf x') {a with defers:=[{target:= .collected E2.w.heap.size,args:= #[]}]++a.defers} (E'.w.putObj (E2.w.heap.size+1) (.loop {rec with state:= .exhausted})):=by
    intro x' E3 rec z hi hk;have hiw:=hi.w;have hL:=hi.hL;have hD:=hi.hD;rw[<-hiw]at hL hD⊢;have hLno: ¬E3.own (E2.w.heap.size+1):=λhs=>by
     obtain⟨o,h,ho⟩:=hi.rel.good.cells' hs;rw[hL]at h;cases h;cases ho
    have hrelA:=(hi.rel.world (w':=E3.w.putObj (E2.w.heap.size+1) (.loop {rec with state:= .exhausted})) (T8 hL rfl rfl) (λb hs=>World.putObj_heap_other (λe=>hLno (e▸hs)))
     (λb hb=>World.putObj_heap_other (λe=>by rw[hi.Y3]at hb;exact F.y2L (e▸hb))) (λr hr=>World.putObj_heap_other (λe=>by
      have h1:=(hi.rel.good.dm r hr).1;rw[e,hL]at h1;cases h1)) (Zoy World.putObj_size.symm) rfl rfl rfl)
    have hrelB:=(hr1.unre hww hrelA).mark (D0:=E2.w.heap.size) hfix ((World.putObj_heap_other (by omega)).trans hD) (λhy=>by
     have hy':E3.Y E2.w.heap.size:=hy;rw[hi.Y3]at hy';have:=g3.good.ylt _ hy';omega) (λhm=>by
     have hm':E2.w.heap.size∈E3.D:=hm;rw[hi.D3]at hm';have:=(Zmy.1 (g3.good.dm _ hm').1).1;omega)
    exact⟨x',_,_,rfl,hk,rfl,hrelB⟩
   rcases hJ' with⟨n,x,E3,j1,j2,j3,j4⟩|⟨x',E3,j1,j2,j3,j4⟩
   ·rcases j3 with j3|j3
    ·cases j3
    injection j3 with j3
    have hr0:xs.drop n=[]:=by
     rcases hend with e|e
     ·rw[j3]at e;cases e
     ·rw[j3]at e;exact e
    have hn:n=xs.length:=by
     have:=List.drop_eq_nil_iff.1 hr0;omega
    subst hn;have hpx:=Zf0 h1 j1;refine⟨_,_,run_endLoop j4.hL (by simp[Tr]), ?_⟩;exact fin (x':= .normal) j4 (Tt (ex:= .normal::kp.ex) (x:= .normal) (n:=0) (by simp[U9]) (by rw[hpx]at h2;exact h2))
   ·refine⟨_,_,run_endLoop j4.hL (by simp[Tr]), ?_⟩;have hf:=fin (x':=x') j4 (Tt j1 h2);cases x' with
    |normal=>cases j2
    |exit id=>exact wpIn_exit hf
    |ret=>exact wpIn_ret hf
end Go.PM
namespace Go.PM
open Go
variable {P:Program}
section
variable {B:Fr} {E:Env} {τ:St} {a:Act} {m:Nat} {kt et te:TypeId} {ts:List Nat} {cur:List (List C×List C)}
end
end Go.PM
namespace Go.PM
open Go
open Go.ChangeMaps (setBlock)
variable {P:Program}
def Env.rest (E:Env):Nat->Prop:=λb=>E.others b/\b∉E.D
section
variable {A:Fr} {E E':Env} {σ σ':St} {a a':Act}
theorem Rel.und {d:Nat} {u:Value} (h:Rel P A E σ (λ_=>False) a) (hd:σ.get d= .und) (ht:A.tm d=none):Rel P A E σ (λ_=>False) (a.put (some d) u):=by
 refine⟨h.good,λt hlt=> ?_,by rw[<-h.size];simp[Act.put],h.defers,λt v hv=> ?_,h.len,h.outs⟩
 ·by_cases e:t=d
  ·subst e;rw[hd];exact .und
  ·have e1:(a.put (some d) u).tmps.getD t undef=a.tmps.getD t undef:=by
    simp only[Act.put,Zri,Zoo];by_cases hl:t<a.tmps.size
    ·simp[hl,Zod,Ne.symm e]
    ·simp[hl]
   rw[e1];exact h.slots t hlt
 ·have e:t≠d:=λe=>by subst e;rw[ht]at hv;cases hv
  have e1:(a.put (some d) u).tmps.getD t undef=a.tmps.getD t undef:=by
   simp only[Act.put,Zri,Zoo];by_cases hl:t<a.tmps.size
   ·simp[hl,Zod,Ne.symm e]
   ·simp[hl]
  rw[e1];exact h.tm t v hv
end
section
variable {A:Fr} {E:Env} {σ:St} {a:Act}
end
end Go.PM
namespace Go.PM
open Go
variable {P:Program}
theorem Zij {A0:Fr} {E0:Env} {a0:Act} {ws ws':List Nat} (h: ∀t∈ws',t∈ws): ∀t∈ws',(A0.re E0 a0 ws).tm t=none:=λt ht=>by simp[Fr.re,h t ht]
theorem Jw.re {cf:Cfg} {A:Fr} (h:Jw P cf A) {E0:Env} {σ:St} {pend:Nat->Prop} {a0:Act} (hr:Rel P A E0 σ pend a0) {ws:List Nat} (hw: ∀t∈ws,A.tm t=none):Jw P cf (A.re E0 a0 ws):=by
 intro t kv vv he;obtain⟨r,bm,since,clock,seen,ms,e,h1,h2,h5,h6,h7,h8⟩:=h t kv vv he;have hx:=hr.good.pr0;refine⟨r,bm,since,clock,seen,ms,e, ?_,λY Pr lg w hJ hH=>h2 Y Pr lg w hJ (hx.trans hH),h5,h6,h7.held hx, ?_⟩
 ·have hn:t∉ws:=λe=>by rw[hw t e]at h1;cases h1
  simp only[Fr.re,if_neg hn];rw[hr.tm t _ h1]
 ·unfold Zhw at h8⊢;split at h8
  ·exact h8
  ·rename_i hne;have:=h8.held hx;cases vv<;>first|exact this|exact absurd rfl (hne _ _ _)
theorem Jw.none {cf:Cfg} {A:Fr} (h:cf.ent=none):Jw P cf A:=λt kv vv e=>by rw[h]at e;cases e
theorem CfgOk.re {cf:Cfg} {A:Fr} (h:CfgOk P cf A) {E0:Env} {σ:St} {p:Nat->Prop} {a:Act} (hr:Rel P A E0 σ p a) {ws:List Nat} (hw: ∀t∈ws,A.tm t=none):CfgOk P cf (A.re E0 a ws):=⟨h.hP,h.con,h.fn,h.mixed,h.iter,h.gl.held hr.good.pr0,h.ent.re hr hw,h.add⟩
theorem Zf1 {R:Type} {a b:Option R} {r:R} (h:same a b=some r):a=some r/\b=some r:=by
 unfold same at h;split at h
 ·rename_i e;exact⟨h,e▸h⟩
 ·cases h
theorem Ya: ∀(c:Code) {cf:Cfg} {A:Fr} (_:CfgOk P cf A) {ro:Option Nat} {R:Type} {r:R} (_:cf.rnd=true\/(ro=none/\A.dfix=false)) {E:Env} {σ:St} {a:Act} {k:Ex->St->Option R} (_:Rel P A E σ (λ_=>False) a) (_: ∀t∈writes c,A.tm t=none)
  (_:Yt cf c σ k=some r),c.wpIn (FW ro) 0 P (Pw P A k r) a E.w
 | .skip,cf,A,hc,ro,R,r,hro,E,σ,a,k,hr,hw,h=>wpIn_skip ⟨.normal,σ,E,rfl,h,rfl,hr⟩
 | .region id ops draw,cf,A,hc,ro,R,r,hro,E,σ,a,k,hr,hw,h=>Af hc hr h hw
 | .seq x y,cf,A,hc,ro,R,r,hro,E,σ,a,k,hr,hw,h=>by
  refine wpIn_seq (wpM (λe a' w' hq=> ?_) (Ya x hc hro hr (λt ht=>hw t (Zn3 _ ht)) h));obtain⟨x',σ',E',rfl,hk,rfl,hr'⟩:=hq;cases x' with
  |normal=>exact Ya y hc hro hr' (λt ht=>hw t (Zoj _ ht)) hk
  |exit id=>exact⟨.exit id,σ',E',rfl,hk,rfl,hr'⟩
  |ret=>exact⟨.ret,σ',E',rfl,hk,rfl,hr'⟩
 | .cond c x y,cf,A,hc,ro,R,r,hro,E,σ,a,k,hr,hw,h=>by
  simp only[Yt]at h;split at h
  case h_3=>cases h
  case h_2 n neg hq=>
   obtain⟨b,hv,hb⟩: ∃b,a.eval c= .bool b/\(n≠0->b=neg):=by
    have:=W4 hc.gl hr c;rw[hq]at this;generalize a.eval c=u at this⊢;cases this with
    |nq h=>exact⟨_,rfl,h⟩
   have hwx: ∀t∈writes x,A.tm t=none:=λt ht=>hw t (Zn3 _ ht);have hwy: ∀t∈writes y,A.tm t=none:=λt ht=>hw t (Zoj _ ht);split at h
   case h_2=>cases h
   case h_1=>
    have key:(if b then Yt cf x σ k else Yt cf y σ k)=some r:=by
     cases hz:Zqv n 0 with
     |true=>
      rw[hz]at h;obtain⟨h1,h2⟩:=Zf1 h;cases b<;>assumption
     |false=>
      rw[hz]at h;have hn:n≠0:=λe=>by rw[e]at hz;cases hz
      rw[hb hn];cases neg<;>exact h
    cases b with
    |true=>exact wpIn_cond_true hv (Ya x hc hro hr hwx key)
    |false=>exact wpIn_cond_false hv (Ya y hc hro hr hwy key)
  case h_1 q hq=>
   have hv:a.eval c= .bool q:=by
    have:=W4 hc.gl hr c;rw[hq]at this;generalize a.eval c=u at this⊢;cases this with
    |c h=>cases h;rfl
   have hwx: ∀t∈writes x,A.tm t=none:=λt ht=>hw t (Zn3 _ ht);have hwy: ∀t∈writes y,A.tm t=none:=λt ht=>hw t (Zoj _ ht);generalize Zbr cf c=jn at h;cases jn with
   |none=>
    cases q with
    |true=>exact wpIn_cond_true hv (Ya x hc hro hr hwx h)
    |false=>exact wpIn_cond_false hv (Ya y hc hro hr hwy h)
   |some kp=>
    rw[hc.hP]at h;simp only[Zlf]at h;obtain⟨σ1,E1,⟨e1,_⟩,hr1,h⟩:=M0 hr h;obtain⟨p,h1,h2⟩:=Zm6.1 h;rw[<-e1];have key: ∀(z:Code),(∀t∈writes z,t∈writes x++writes y)->z.wpIn (FW ro) 0 P (Pw P (A.re E1 a (writes x++writes y)) (λe σ'=>Ji P kp (U9 kp.ex e) σ' λn z=>some (n,z)) p) a E1.w->z.wpIn (FW ro) 0 P (Pw P A k r) a E1.w:=by
     intro z hz hwp;refine wpM (λe a' w' hq=> ?_) hwp;obtain⟨x',σ',E',rfl,hk,rfl,hr'⟩:=hq;obtain⟨m,hm,hg⟩:=M1 hk;obtain⟨z,E2,g1,g2,g3,_⟩:=carry hr1 hr' hg;injection g1 with g1
     subst g1;exact⟨x',_,E2,rfl,Tt hm h2,g2,hr1.unre hw g3⟩
    cases q with
    |true=>exact wpIn_cond_true hv (key x (λt ht=>Zn3 _ ht) (Ya x (hc.re hr1 hw) hro (hr1.re _) (Zij λt ht=>Zn3 _ ht) h1))
    |false=>exact wpIn_cond_false hv (key y (λt ht=>Zoj _ ht) (Ya y (hc.re hr1 hw) hro (hr1.re _) (Zij λt ht=>Zoj _ ht) h1))
 | .block id b,cf,A,hc,ro,R,r,hro,E,σ,a,k,hr,hw,h=>by
  refine wpIn_block (wpM (λe a' w' hq=> ?_) (Ya b hc hro hr hw h));obtain⟨x',σ',E',rfl,hk,rfl,hr'⟩:=hq;cases x' with
  |normal=>exact⟨.normal,σ',E',rfl,hk,rfl,hr'⟩
  |exit id'=>
   show if id'=id then _ else _
   simp only at hk;by_cases e:id'=id
   ·rw[if_pos e];rw[decide_eq_true e]at hk;exact⟨.normal,σ',E',rfl,hk,rfl,hr'⟩
   ·rw[if_neg e];rw[decide_eq_false e]at hk;exact⟨.exit id',σ',E',rfl,hk,rfl,hr'⟩
  |ret=>exact⟨.ret,σ',E',rfl,hk,rfl,hr'⟩
 | .loop b,cf,A,hc,ro,R,r,hro,E,σ,a,k,hr,hw,h=>by
  simp only[Yt]at h;split at h
  case h_2 n hn=>
   have rounds: ∀(n:Nat) {E:Env} {σ:St} {a:Act},Rel P A E σ (λ_=>False) a->Ho (λσ k=>Yt cf b σ k) k n σ=some r->Code.roundsIn (FW ro) 0 P b (Pw P A k r) n a E.w:=by
    intro n
    induction n with
    |zero=>intro E σ a _ h;cases h
    |succ n ih=>
     intro E σ a hr h;simp only[Ho]at h;rw[roundsIn_succ];refine wpM (λe a2 w2 hp=> ?_) (Ya b hc hro hr hw h);obtain⟨x',σ',E3,rfl,hk,rfl,hr3⟩:=hp;cases x' with
     |normal=>exact ih hr3 hk
     |exit id=>exact⟨.exit id,σ',E3,rfl,hk,rfl,hr3⟩
     |ret=>exact⟨.ret,σ',E3,rfl,hk,rfl,hr3⟩
   exact wpIn_loop_rounds (n+1) (rounds (n+1) hr h)
  split at h
  case h_2 t ht=>cases h
  simp only[Zle]at h;generalize cf.keep (Ys b)=kp at h;rw[hc.hP]at h;obtain⟨σ1,E1,⟨e1,_⟩,hr1,h⟩:=M0 hr h;obtain⟨x0,E2,h,g2,g3,_⟩:=carry hr1 (hr1.re (writes b)) h;obtain⟨p,h1,h2⟩:=Zm6.1 h;rw[<-e1,<-g2];have rounds: ∀(n:Nat) {x:Qx kp.ks} {E':Env} {a':Act},Rel P (A.re E1 a (writes b)) E' (Yg P kp.ks x (σ1.clean (writes b))) (λ_=>False) a' ->
    iter (λy=>Yt cf b (Yg P kp.ks y (σ1.clean (writes b))) λe σ'=>Ji P kp (U9 (.normal::kp.ex) e) σ' λn z=>some (n,z)) n x=some p->Code.roundsIn (FW ro) 0 P b (Pw P A k r) n a' E'.w:=by
   intro n
   induction n with
   |zero=>intro x E' a' _ hi;cases hi
   |succ n ih=>
    intro x E' a' hr' hi;simp only[iter]at hi;obtain⟨q,hq,hi⟩:=Zm6.1 hi;rw[roundsIn_succ];refine wpM (λe a2 w2 hp=> ?_) (Ya b (hc.re hr1 hw) hro hr' (Zij λt ht=>ht) hq);obtain⟨x',σ',E3,rfl,hk,rfl,hr3⟩:=hp;obtain⟨m,hm,hg⟩:=M1 hk;obtain⟨z,E4,f1,f2,f3,_⟩:=carry hr1 hr3 hg;injection f1 with f1
    subst f1;by_cases hx:x'= .normal
    ·subst hx;have hm0:m=0:=by simp[U9]at hm;exact hm.symm
     subst hm0;show Code.roundsIn (FW ro) 0 P b _ n a2 E3.w;rw[<-f2];exact ih f3 hi
    ·have hm': ∃m',m=m'+1/\U9 kp.ex x'=some m':=by
      unfold U9 at hm;have:decide (Ex.normal=x')=false:=decide_eq_false λe=>hx e.symm;rw[this]at hm;simp only at hm;split at hm
      ·rename_i m' hm';injection hm with hm;exact⟨m',hm.symm,hm'⟩
      ·cases hm
     obtain⟨m',rfl,hm'⟩:=hm';injection hi with hi
     subst hi;have fin:Pw P A k r (exOf x') a2 E3.w:=⟨x',_,E4,rfl,Tt hm' h2,f2,hr1.unre hw f3⟩;cases x' with
     |normal=>exact absurd rfl hx
     |exit id=>exact fin
     |ret=>exact fin
  exact wpIn_loop_rounds cf.fuel (rounds cf.fuel g3 h1)
 | .exit id,cf,A,hc,ro,R,r,hro,E,σ,a,k,hr,hw,h=>wpIn_exit ⟨.exit id,σ,E,rfl,h,rfl,hr⟩
 | .ret,cf,A,hc,ro,R,r,hro,E,σ,a,k,hr,hw,h=>wpIn_ret ⟨.ret,σ,E,rfl,h,rfl,hr⟩
 | .rangeFunc g ps x y,cf,A,hc,ro,R,r,hro,E,σ,a,k,hr,hw,h=>by
  cases hrnd:cf.rnd with
  |true=>simp only[Yt,hrnd]at h;cases h
  |false=>
   rw[hrnd]at hro;obtain⟨rfl,hfix⟩:=hro.resolve_left (by simp);have hc1: ∀A',GlobOk cf.glob A'.w0 A'.Pr0->CfgOk P {cf with rnd:=true,ent:=none} A':=λA' hg=>⟨hc.hP,hc.con,hc.fn,hc.mixed,hc.iter,hg, .none rfl,hc.add⟩;exact Zan hc (λL=>⟨λhg hr hw h=>Ya x (hc1 _ hg) (.inl rfl) hr hw h⟩) (λL=>⟨λhg hr hw h=>Ya y (hc1 _ hg) (.inl rfl) hr hw h⟩) hfix hrnd hr hw h
 | .scope _,cf,A,hc,ro,R,r,hro,E,σ,a,k,hr,hw,h=>by simp[Yt]at h
 | .label _,cf,A,hc,ro,R,r,hro,E,σ,a,k,hr,hw,h=>by simp[Yt]at h
 | .goto _,cf,A,hc,ro,R,r,hro,E,σ,a,k,hr,hw,h=>by simp[Yt]at h
 | .refuse _,cf,A,hc,ro,R,r,hro,E,σ,a,k,hr,hw,h=>by simp[Yt]at h
end Go.PM
