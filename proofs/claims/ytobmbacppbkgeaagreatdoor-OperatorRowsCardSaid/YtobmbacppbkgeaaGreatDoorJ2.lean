/- Parts put together: PMh, PMi, PMj, PMk, PMl, PMm, PMn, PMoa, PMo, PMp. -/
import Derived.Test.YtobmbacppbkgeaaGreatDoorJ1
set_option linter.unusedSimpArgs false
set_option linter.unusedVariables false
open Array renaming range→Zra,ext'→Zrc,toList_zipIdx→Zre,length_toList→Zrf
open Int renaming mul_comm→Zrd
open Go.IntKind renaming i64→Zqu
open List renaming range→Zq6,toList_toArray→Zrh
open Nat renaming beq→Zqv,add_mul→Zrb,ble→Zqw,succ→Zq4,le_mul_of_pos_right→Zrg
namespace Go.PM
open Go
variable {P:Program}
section
variable {A:Fr} {E:Env} {l:Loc} {pend:Nat->Prop} {R:Type} {k:V->Loc->List Nat->Option R} {r:R} {o:Oper} {ρ:Operand->Value}
theorem Vp {x:Option V} {v:Option Value} (hv: ∀y,x=some y-> ∃u,v=some u/\RV P E l y u) (hn:x=none->v=none) {d y:Nat} {kk:Nat->Option R} (h:bound x d y kk=some r):
  ∃n,kk n=some r/\((v=none/\n=d)\/ ∃kd i,v=some (.int kd i)/\0<=i/\i<=y/\n=i.toNat):=by
 unfold bound at h;split at h
 ·exact⟨d,h, .inl ⟨hn rfl,rfl⟩⟩
 ·rename_i c;split at h
  ·rename_i kd i;obtain⟨hb,hk⟩:=Za h;obtain⟨u,e,hu⟩:=hv _ rfl;cases hu with|c hc=>cases hc with|v _=>
   rw[Zmq,decide_eq_true_iff,decide_eq_true_iff]at hb;exact⟨_,hk, .inr ⟨kd,i,e,hb.1,hb.2,rfl⟩⟩
  ·cases h
 ·cases h
theorem Q2 {w:World} {n cap h a:Nat} {lo hi:Option Value} {isS:Bool} (hh:(hi=none/\h=n)\/ ∃kd i,hi=some (.int kd i)/\0<=i/\i<=(n:Int)/\h=i.toNat) (hc:n<=cap)
  (ha:(lo=none/\a=0)\/ ∃kd i,lo=some (.int kd i)/\0<=i/\i<=(h:Int)/\a=i.toNat):(Instr.sliceBounds isS n cap lo hi none).run P w= .ok (a,h,cap) w:=by
 rcases hh with⟨rfl,rfl⟩|⟨kd,i,rfl,h1,h2,rfl⟩<;>rcases ha with⟨rfl,rfl⟩|⟨kd',i',rfl,h1',h2',rfl⟩
 ·simp[Instr.sliceBounds]
 ·simp[Instr.sliceBounds,Instr.sliceBound,asIntOf,h1',h2']
 ·have h3:i<=(cap:Int):=by omega
  simp[Instr.sliceBounds,Instr.sliceBound,asIntOf,h1,h3]
 ·have h3:i<=(cap:Int):=by omega
  have h4:i'<=max i 0:=by omega
  simp[Instr.sliceBounds,Instr.sliceBound,asIntOf,h1,h3,h1',h4]
theorem Gh {n h a:Nat} {lo hi:Option Value} (hh:(hi=none/\h=n)\/ ∃kd i,hi=some (.int kd i)/\0<=i/\i<=(n:Int)/\h=i.toNat)
  (ha:(lo=none/\a=0)\/ ∃kd i,lo=some (.int kd i)/\0<=i/\i<=(h:Int)/\a=i.toNat):a<=h/\h<=n:=by
 rcases hh with⟨_,rfl⟩|⟨_,i,_,_,_,rfl⟩<;>rcases ha with⟨_,rfl⟩|⟨_,i',_,_,_,rfl⟩<;>omega
theorem Wc {w:World} {n cap:Nat} {kd kd':IntKind} {i:Int} (h1:0<=i) (h2:i<=(cap:Int)):(Instr.sliceBounds true n cap none (some (.int kd i)) (some (.int kd' i))).run P w= .ok (0,i.toNat,i.toNat) w:=by
 have h3: ¬(i<0):=by omega
 have h4: ¬(max i 0<i):=by omega
 simp[Instr.sliceBounds,Instr.sliceBound,asIntOf,h1,h2,h4]
theorem Zhb (hG:Good P A E l pend) {t:TypeId} {a:Operand} {lo hi:Option Operand} (ho:o.op= .slice t a lo hi none) {x:V} {u:Value} {e:Operand->V} (hx:RV P E l x u) (hu:ρ a=u)
  (hl: ∀y,lo=some y->RV P E l (e y) (ρ y)) (hh: ∀y,hi=some y->RV P E l (e y) (ρ y)) (h0:Ym P l k t x (lo.map e) (hi.map e)=some r):Zt P A E l pend ((execOp ρ o).run P E.w) k r:=by
 have hlo: ∀y,lo.map e=some y-> ∃u,lo.map ρ=some u/\RV P E l y u:=by
  intro y hy;cases lo with
  |none=>cases hy
  |some z=>injection hy with hy;subst hy;exact⟨_,rfl,hl z rfl⟩
 have hhi: ∀y,hi.map e=some y-> ∃u,hi.map ρ=some u/\RV P E l y u:=by
  intro y hy;cases hi with
  |none=>cases hy
  |some z=>injection hy with hy;subst hy;exact⟨_,rfl,hh z rfl⟩
 have hln:lo.map e=none->lo.map ρ=none:=by cases lo<;>simp
 have hhn:hi.map e=none->hi.map ρ=none:=by cases hi<;>simp
 unfold Ym at h0;split at h0
 case h_4=>cases h0
 case h_3 n el hT=>
  split at h0
  case h_3=>cases h0
  case h_2 inf s off hinf hlo' hhi'=>
   have e1:lo=none:=by cases lo<;>simp_all
   have e2:hi=none:=by cases hi<;>simp_all
   subst e1 e2;split at h0
   case h_2=>cases h0
   case h_1 t' fz cs hls=>
    obtain⟨hb,h2⟩:=Za h0;simp only[Zmq]at hb;have hoff:=Zmp hb.1.1.1.1;subst hoff;have hs0:inf.size≠0:=by intro e;rw[e]at hb;cases hb.1.1.2
    have hn1:=Zmu hb.1.2;have hn2:=Zmu hb.2;cases hx with
    |ptrDead hd=>rw[hd]at hls;cases hls
    | @ptr _ _ g hr=>
     have:(execOp ρ o).run P E.w= .ok (.value (.slice (some ⟨g,0,none⟩) n n)) E.w:=by
      have hn0: ¬n=0:=by omega
      simp[execOp,ho,hu,Instr.sliceAt,Instr.sureAddr,run_underlying hT,Instr.sliceBounds,run_sizeOf hinf,hn0,Addr.add]
     rw[this];exact .quiet hG h2 (.ws hr (by unfold maxLen;omega))
  case h_1 inf c hinf hlo' hhi'=>
   have e1:lo=none:=by cases lo<;>simp_all
   have e2:hi=none:=by cases hi<;>simp_all
   subst e1 e2;obtain⟨cs,rfl,h1⟩:=Be h0;obtain⟨hb,h2⟩:=Za h1;simp only[Zmq]at hb;have hlen:=Zmp hb.1.1.1;have hs0:inf.size≠0:=by intro e;rw[e]at hb;cases hb.1.1.2
   have hn1:=Zmu hb.1.2;have hn2:=Zmu hb.2;cases hx with|c hc=>
   obtain⟨ad,e1,hat⟩:=hc.cp_at;have hmul:1<=n*inf.size:=Nat.mul_le_mul hn1 (by omega:1<=inf.size);rcases hat with rfl|⟨g,o',rfl,hat,hp⟩
   ·simp at hlen;omega
   ·have:(execOp ρ o).run P E.w= .ok (.value (.slice (some ⟨g,o',none⟩) n n)) E.w:=by
     have hn0: ¬n=0:=by omega
     simp[execOp,ho,hu,e1,Instr.sliceAt,Instr.sureAddr,run_underlying hT,Instr.sliceBounds,run_sizeOf hinf,hn0,Addr.add]
    rw[this];obtain⟨us,q1,q2⟩:=hat.fn (λj hj=>hp j hj);exact .quiet hG h2 (.c (.sl (Zm8 _) (by unfold maxLen;omega) q1 q2))
 case h_1 hT=>
  cases x with
  |c c=>
   obtain⟨s,rfl,h1⟩:=Zbu h0;obtain⟨h,h2,e1⟩:=Vp hhi hhn h1;obtain⟨b,h3,e2⟩:=Vp hlo hln h2;cases hx with|c hc=>cases hc with|v _=>
   have hrb:=Q2 (P:=P) (w:=E.w) (isS:=false) e1 (Zm8 _) e2;have:(execOp ρ o).run P E.w= .ok (.value (.string (s.extract b h))) E.w:=by
    simp[execOp,ho,hu,Instr.sliceAt,Instr.slice,run_underlying hT,hrb]
   rw[this];exact .quiet hG h3 (.c (.v rfl))
  |_=>cases h0
 case h_2 el hT=>
  split at h0
  case h_2=>cases h0
  case h_1 inf hinf=>
   have key: ∀a' n cap b h,u= .slice a' n cap->(Instr.sliceBounds true n cap (lo.map ρ) (hi.map ρ) none).run P E.w= .ok (b,h,cap) E.w->
     (execOp ρ o).run P E.w= .ok (.value (.slice (if cap=b then a' else a'.map (·.add (b*inf.size))) (h-b) (cap-b))) E.w:=by
    intro a' n cap b h h1 h2;simp[execOp,ho,hu,h1,Instr.sliceAt,Instr.slice,run_underlying hT,h2,run_sizeOf hinf]
   cases x with
   |c c=>
    simp only at h0;cases hx with|c hc=>
    by_cases hcn:c= .nl
    ·subst hcn;simp only[sliceC]at h0;obtain⟨h,h2,e1⟩:=Vp hhi hhn h0;obtain⟨b,h3,e2⟩:=Vp hlo hln h2;obtain⟨hle1,hle2⟩:=Gh e1 e2;obtain rfl:h=0:=by omega
     obtain rfl:b=0:=by omega
     cases hc with|nl=>
     rw[key _ _ _ 0 0 rfl (Q2 e1 (Zm8 _) e2)];exact .quiet hG h3 (.c .nl)
    replace h0:asSl c (λn cs=>bound (hi.map e) n n λh=>bound (lo.map e) 0 h λa=>k (.c (.sl (h-a) ((cs.drop (a*inf.size)).take ((h-a)*inf.size)))) l [])=some r:=by
     cases c<;>first|exact absurd rfl hcn|exact h0
    obtain⟨n,cs,a',cap,h1,e0,hn,hc,hz⟩:=Li hc h0;obtain⟨h,h2,e1⟩:=Vp hhi hhn h1;obtain⟨b,h3,e2⟩:=Vp hlo hln h2;obtain⟨hle1,hle2⟩:=Gh e1 e2;rw[key _ _ _ b h e0 (Q2 e1 hn e2)];refine .quiet hG h3 (.c ?_);rcases hz with⟨rfl,rfl⟩|⟨g,o',rfl,hat,hp⟩
    ·obtain rfl:h=0:=by omega
     obtain rfl:b=0:=by omega
     simp only[List.drop_nil,List.take_nil,Zp8];exact .sl0 hc
    ·by_cases hcb:cap=b
     ·obtain rfl:h=b:=by omega
      simp only[Zph,Zm5,Zn1];exact .sl0 (by omega)
     ·rw[if_neg hcb];simp only[Zpo,Yu];obtain⟨us,q1,q2⟩:=((hat.drop (b*inf.size)).take ((h-b)*inf.size)).fn (λj hj=>Zbv (m:=b*inf.size) hp j (by simp only[Znr]at hj;omega));exact .sl (by omega) (by omega) q1 q2
   |own s off n=>
    simp only at h0;split at h0
    case h_2=>cases h0
    case h_1 t' _ _ hl'=>
     obtain⟨hb,h1⟩:=Za h0;rw[Zmq]at hb;have ht:t'=el:=Zmp hb.1;have hs0:inf.size≠0:=by intro e;rw[e]at hb;cases hb.2
     subst ht;obtain⟨h,h2,e1⟩:=Vp hhi hhn h1;obtain⟨b,h3,e2⟩:=Vp hlo hln h2;obtain⟨hle1,hle2⟩:=Gh e1 e2;cases hx with
     |ownDead hd=>rw[hd]at hl';cases hl'
     |ownMx hd=>first|exact(Uk hd hl').elim|(rw[hl']at hd;cases hd)
     |ownNil hr hl2=>
      obtain rfl:h=0:=by omega
      obtain rfl:b=0:=by omega
      rw[key _ _ _ 0 0 rfl (Q2 e1 (Zm8 _) e2)];simp only[Zm5,Znz,Zp8]at h3⊢;exact .quiet hG h3 (.ownNil hr hl2)
     | @own0 _ _ g o' t2 fz cs hr hl2 hoff=>
      obtain rfl:h=0:=by omega
      obtain rfl:b=0:=by omega
      rw[key _ _ _ 0 0 rfl (Q2 e1 (Zm8 _) e2)];simp only[Zm5,Znz,Zp8]at h3⊢;exact .quiet hG h3 (.own0 hr hl' hoff)
     | @own _ _ _ g cap t2 fz cs hr hl2 hn hc hs=>
      rw[hl']at hl2;injection hl2 with hl2;injection hl2 with q1 q2;subst q1
      rw[key _ _ _ b h rfl (Q2 e1 hn e2)];have hsz:Zg P t'=inf.size:=Z3 hinf;rw[hsz]at hs;by_cases hcb:cap=b
      ·obtain rfl:h=b:=by omega
       rw[if_pos hcb];subst hcb;simp only[Zph]at h3⊢;by_cases hb0:cap=0
       ·subst hb0;simp only[Zm5,Znz]at h3;refine .quiet hG h3 (.own hr hl' (Zm8 _) (by omega) ?_);rw[hsz];omega
       ·have:1<=cap*inf.size:=Zqs (by omega) (by omega);exact .quiet hG h3 (.own0 hr hl' (by omega))
      ·rw[if_neg hcb];simp only[Zpo,Yu];refine .quiet hG h3 (.own hr hl' (by omega) (by omega) ?_);rw[hsz];have:b*inf.size+(cap-b)*inf.size=cap*inf.size:=by rw[<-Zrb];congr 1;omega
       omega
   |_=>cases h0
theorem Zly (hG:Good P A E l pend) {c:Call} {T:TypeId} {a:Operand} (ho:o.op= .call c) (hc1:c.callee= .builtin .cap) (hc2:c.args= #[a]) (hc3:c.argTypes= #[T]) {x:V} {u:Value} (hx:RV P E l x u) (hu:ρ a=u)
  (h0:H6 P l k T x=some r):Zt P A E l pend ((execOp ρ o).run P E.w) k r:=by
 unfold H6 at h0;split at h0
 ·rename_i el hT;cases hx with|c hc=>cases hc with|nl=>
  have:(execOp ρ o).run P E.w= .ok (.value (.int .i64 0)) E.w:=by
   simp[execOp,ho,resolve,hc1,hc2,hc3,invoke,builtin,hu,Builtin.cap_,goInt,run_underlying hT]
  rw[this];exact .quiet hG h0 (.c (.v rfl))
 ·cases h0
theorem Zlz (hG:Good P A E l pend) {c:Call} {T:TypeId} {a:Operand} (ho:o.op= .call c) (hc1:c.callee= .builtin .len) (hc2:c.args= #[a]) (hc3:c.argTypes= #[T]) {x:V} {u:Value} (hx:RV P E l x u) (hu:ρ a=u)
  (h0:Yn P l k T x=some r):Zt P A E l pend ((execOp ρ o).run P E.w) k r:=by
 have key: ∀v,(Builtin.len_ #[T] o.type #[u]).run P E.w= .ok v E.w->(execOp ρ o).run P E.w= .ok (.value v) E.w:=by
  intro v h;simp[execOp,ho,resolve,hc1,hc2,hc3,invoke,builtin,hu,h]
 unfold Yn at h0;split at h0
 case h_1 c' el hT=>
  cases hx with|c hc=>
  obtain⟨n,cs,a',cap,hk,e1,_⟩:=Li hc h0;rw[key (.int .i64 n) (by simp[Builtin.len_,run_underlying hT,e1,goInt])];exact .quiet hG hk (.c (.v rfl))
 case h_2 c' hT=>
  cases hx with|c hc=>
  obtain⟨s,rfl,hk⟩:=Zbu h0;cases hc with|v _=>
  rw[key (.int .i64 s.size) (by simp[Builtin.len_,run_underlying hT,goInt])];exact .quiet hG hk (.c (.v rfl))
 case h_3 s off n el hT=>
  split at h0
  case h_2=>cases h0
  case h_1 q hl=>
   obtain⟨t',fz,cs⟩:=q;have: ∃a' cap,u= .slice a' n cap:=by
    cases hx with
    |ownDead hd=>rw[hd]at hl;cases hl
    |ownMx hd=>first|exact(Uk hd hl).elim|(rw[hl]at hd;cases hd)
    |ownNil _ _=>exact⟨_,_,rfl⟩
    |own0 _ _ _=>exact⟨_,_,rfl⟩
    |own _ _ _ _ _=>exact⟨_,_,rfl⟩
   obtain⟨a',cap,e1⟩:=this;rw[key (.int .i64 n) (by simp[Builtin.len_,run_underlying hT,e1,goInt])];exact .quiet hG h0 (.c (.v rfl))
 case h_4 s kt et hT=>
  split at h0
  case h_3=>cases h0
  case h_2 kt' et' te' es hl=>
   cases hx with
   |mpDead hd=>rw[hd]at hl;cases hl
   | @mp _ g hr=>
    obtain⟨ms,hg,hlen,_⟩:=mr_of hG hl hr;have hgo:(getObj g).run P E.w= .ok (.map ms es.length) E.w:=by simp[getObj,Sem.run,hg]
    rw[key (.int .i64 es.length) (by simp[Builtin.len_,run_underlying hT,hgo,goInt,hlen])];exact .quiet hG h0 (.c (.v rfl))
  case h_1 kt' et' es hl=>
   cases hx with
   |mpDead hd=>rw[hd]at hl;cases hl
   | @mp _ g hr=>
    obtain⟨ms,hg,hlen,_⟩:=Zdu hG hl hr;have hgo:(getObj g).run P E.w= .ok (.map ms es.length) E.w:=by simp[getObj,Sem.run,hg]
    rw[key (.int .i64 es.length) (by simp[Builtin.len_,run_underlying hT,hgo,goInt,hlen])];exact .quiet hG h0 (.c (.v rfl))
 case h_5 c' kt et hT=>
  split at h0
  case h_2=>cases h0
  case h_1 kt' et' ka va es=>
   cases hx with|c hc=>
   cases hc with
   | @mp _ _ _ _ _ g ms kus vus hg hp hs hk h1 h2=>
    have hgo:(getObj g).run P E.w= .ok (.map ms es.length) E.w:=by simp[getObj,Sem.run,(Sp).1 hg]
    rw[key (.int .i64 es.length) (by simp[Builtin.len_,run_underlying hT,hgo,goInt,hs])];exact .quiet hG h0 (.c (.v rfl))
 case h_6 s n el hT=>
  obtain⟨hb,hk⟩:=Za h0;cases hx with
  |wsDead hd=>rw[hd]at hb;cases hb
  |ws hr _=>
   rw[key (.int .i64 n) (by simp[Builtin.len_,run_underlying hT,goInt])];exact .quiet hG hk (.c (.v rfl))
 case h_7 s g j n el hT=>
  split at h0
  case h_2=>cases h0
  case h_1 g' hg=>
   obtain⟨hb,hk⟩:=Za h0;have e:=Zmp hb;subst e;have: ∃a' cap,u= .slice a' n cap:=by
    cases hx with
    |rwOff h=>
     rcases h.2 _ _ hg with h|⟨_,h⟩
     ·omega
     ·cases h
    |rw _ hv=>
     rcases hv with⟨_,rfl,rfl⟩|⟨g2,_,rfl⟩
     ·exact⟨_,_,rfl⟩
     ·exact⟨_,_,rfl⟩
   obtain⟨a',cap,e1⟩:=this;rw[key (.int .i64 n) (by simp[Builtin.len_,run_underlying hT,e1,goInt])];exact .quiet hG hk (.c (.v rfl))
 case h_8 _ _ _ n el hT=>
  rw[key (.int .i64 n) (by simp[Builtin.len_,run_underlying hT,goInt])];exact .quiet hG h0 (.c (.v rfl))
 case h_9=>cases h0
end
end Go.PM
namespace Go.PM
open Go
variable {P:Program}
section
variable {A:Fr} {E:Env} {l:Loc} {pend:Nat->Prop} {R:Type} {k:V->Loc->List Nat->Option R} {r:R} {o:Oper} {ρ:Operand->Value}
theorem N7 {lt:Bool}: ∀{xs:List V} {us:List Value} {kd:IntKind} {a:Int} {kk:V->Option R} (_:us.length=xs.length) (_: ∀(j:Nat) (x:V) (u:Value),xs[j]? =some x->us[j]? =some u->RV P E l x u) (_:T3 lt xs kd a kk=some r),
  ∃b,kk (.c (.v (.int kd b)))=some r/\(us.foldlM (match lt with|true=>Builtin.min2|false=>Builtin.max2) (.int kd a)).run P E.w= .ok (.int kd b) E.w
 | [],[],kd,a,kk,_,_,h=>⟨a,h,by simp⟩
 | [],_::_,_,_,_,hl,_,_=>by simp at hl
 |_::_,[],_,_,_,hl,_,_=>by simp at hl
 |x::xs,u::us,kd,a,kk,hl,hx,h=>by
  have h1:=hx 0 x u rfl rfl
  match x,h with
  | .c (.v (.int kd' b)),h=>
   cases h1 with|c hc=>cases hc with|v _=>
   simp only[T3]at h;cases hk:decide (kd'=kd)with
   |false=>rw[hk]at h;cases h
   |true=>
    rw[hk]at h;obtain⟨c,h2,h3⟩:=N7 (xs:=xs) (us:=us) (by simpa using hl) (λj y v hy hv=>hx (j+1) y v (by simpa using hy) (by simpa using hv)) h;refine⟨c,h2, ?_⟩;rw[List.foldlM_cons,Sem.run_bind];cases lt
    ·simp only[Builtin.max2,Sem.run_pure,Result.andThen_ok];exact h3
    ·simp only[Builtin.min2,Sem.run_pure,Result.andThen_ok];exact h3
theorem Zhc (hG:Good P A E l pend) {c:Call} {lt:Bool} (ho:o.op= .call c) (hc1:c.callee= .builtin (match lt with|true=> .min|false=> .max)) {e:Operand->V} (hop: ∀y∈c.args.toList,RV P E l (e y) (ρ y))
  (h0:Hd l k lt (c.args.toList.map e)=some r):Zt P A E l pend ((execOp ρ o).run P E.w) k r:=by
 have hrel: ∀(ys:List Operand),(∀y∈ys,RV P E l (e y) (ρ y))-> ∀(j:Nat) (x:V) (u:Value),(ys.map e)[j]? =some x->(ys.map ρ)[j]? =some u->RV P E l x u:=by
  intro ys hy j x u hx hu;rw[Zm9]at hx hu;cases hj:ys[j]? with
  |none=>rw[hj]at hx;cases hx
  |some y=>
   rw[hj]at hx hu;injection hx with hx;injection hu with hu;subst hx hu
   exact hy y (Zm4 hj)
 have key: ∀v,(match lt with|true=>Builtin.min_ c.argTypes o.type (c.args.map ρ)|false=>Builtin.max_ c.argTypes o.type (c.args.map ρ)).run P E.w= .ok v E.w->(execOp ρ o).run P E.w= .ok (.value v) E.w:=by
  intro v h;cases lt<;>simp[execOp,ho,resolve,hc1,invoke,builtin]<;>simp at h<;>simp[h]
 cases hargs:c.args.toList with
 |nil=>rw[hargs]at h0;cases h0
 |cons y ys=>
  rw[hargs,Zn0]at h0;rw[hargs]at hop;unfold Hd at h0;split at h0
  case h_2=>cases h0
  case h_1 kd a rest hxs=>
   injection hxs with e1 e2
   subst e2;have h1:=hop y (by simp);rw[e1]at h1;obtain⟨b,hk,hr⟩:=N7 (P:=P) (E:=E) (l:=l) (us:=ys.map ρ) (by simp) (hrel ys (λz hz=>hop z (by simp[hz]))) h0;have hy:ρ y= .int kd a:=by
    generalize ρ y=u at h1;cases h1 with|c hc=>cases hc with|v _=>rfl
   rw[key (.int kd b) ?_]
   ·exact .quiet hG hk (.c (.v rfl))
   ·cases lt<;>simp[Builtin.min_,Builtin.max_,hargs,hy]<;>simpa using hr
theorem Rf {strict:Bool} {x:V} {u:Value} (hx:RV P E l x u) {kk:List C->Loc->Option R} (h:pur P strict x l kk=some r) (h1:Zbo x=true):u.oneCell'=true:=by
 cases x with
 |c c=>cases hx with|c hc=>exact hc.one
 |agg cs=>cases h1
 |own s off n=>
  cases hx with
  |ownDead hd=>cases strict<;>simp[pur,Xd,hd,Z4]at h
  |ownMx hd=>
   exfalso;cases strict with
   |true=>simp[pur,Xd]at h
   |false=>
    simp only[pur,Xd]at h;split at h
    ·rename_i ho;exact Uk hd ho
    ·cases h
  |ownNil _ _=>rfl
  |own _ _ _ _ _=>rfl
  |own0 _ _ _=>rfl
 |ptr s off=>
  cases hx with
  |ptrDead hd=>cases strict<;>simp[pur,Xd,hd,Z4]at h
  |ptr _=>rfl
 |mp s=>
  cases hx with
  |mpDead hd=>cases strict<;>simp[pur,Xd,hd]at h
  |mp _=>rfl
 |ws s n=>
  cases hx with
  |wsDead hd=>cases strict<;>simp[pur,Xd,hd]at h
  |ws _ _=>rfl
 |rw s g j n=>
  have hon: ∃g' t q,l s= .pk g' t q none/\Zqv g g'=true:=by
   cases strict with
   |true=>simp[pur,Xd]at h
   |false=>
    simp only[pur,Xd]at h;split at h
    ·rename_i g' t ps _ hl;exact⟨g',t,_,hl,(Za h).1⟩
    ·cases h
  obtain⟨g',t,q,hl,hb⟩:=hon;rcases Zdv hx hl hb with⟨_,_,rfl⟩|⟨_,_,rfl⟩<;>rfl
 |_=>cases strict<;>cases h
theorem Dm (hG:Good P A E l pend) {t:TypeId} {a m:Operand} {lo hi:Option Operand} (ho:o.op= .slice t a lo hi (some m)) {x:V} {u:Value} {e:Operand->V} (hx:RV P E l x u) (hu:ρ a=u)
  (hh: ∀y,hi=some y->RV P E l (e y) (ρ y)) (hm:RV P E l (e m) (ρ m)) {strict:Bool} (h0:U0 P l k strict t x (lo.map e) (hi.map e) (some (e m))=some r):Zt P A E l pend ((execOp ρ o).run P E.w) k r:=by
 unfold U0 at h0;split at h0
 case h_2=>cases h0
 case h_1 el h h' hT hlo hhi hm'=>
  cases lo with
  |some _=>cases hlo
  |none=>
  cases hi with
  |none=>cases hhi
  |some hiO=>
  injection hhi with hhi
  injection hm' with hm'
  subst hhi hm';split at h0
  case h_2=>cases h0
  case h_1 inf i j hinf hi' hj'=>
   obtain⟨hb,h1⟩:=Za h0;simp only[Zmq,decide_eq_true_iff]at hb;obtain⟨⟨rfl,hi0⟩,hone⟩:=hb;obtain⟨kd1,e1⟩:=Uq hi' (hh hiO rfl);obtain⟨kd2,e2⟩:=Uq hj' hm;have h1c:=Rf hx h1 hone;obtain⟨cs,l1,E1,hk,hG1,hM,hc,_⟩:=Xf hG hx h1;rw[cells_one h1c]at hc;split at hk
   case h_2=>cases hk
   case h_1 c=>
    obtain⟨uc,us,e3,hcu,hnil⟩:=hc.uncons;have e3:u=uc:=by simpa using congrArg List.head? e3
    subst e3;obtain⟨n,cs',a',cap,h2,e0,hn,hcm,hz⟩:=Li hcu hk;obtain⟨hle,h3⟩:=Za h2;have hle:=Zmu hle;subst e0;have hrb:=Wc (P:=P) (w:=E.w) (kd:=kd1) (kd':=kd2) (cap:=cap) (n:=n) hi0 (by omega);have hrun: ∃a'',(execOp ρ o).run P E.w= .ok (.value (.slice a'' i.toNat i.toNat)) E.w/\(i.toNat≠0->a''=a'):=by
     by_cases hc0:i.toNat=0
     ·refine⟨if i.toNat=0 then a' else a'.map (·.add (0*inf.size)), ?_,λh=>absurd hc0 h⟩;simp[execOp,ho,hu,e1,e2,Instr.sliceAt,Instr.slice,run_underlying hT,hrb,run_sizeOf hinf]
     ·refine⟨if i.toNat=0 then a' else a'.map (·.add (0*inf.size)), ?_,λ_=> ?_⟩
      ·simp[execOp,ho,hu,e1,e2,Instr.sliceAt,Instr.slice,run_underlying hT,hrb,run_sizeOf hinf]
      ·rw[if_neg hc0];cases a' with
       |none=>rfl
       |some ad=>simp[Addr.add]
    obtain⟨a'',hrun,ha⟩:=hrun;rw[hrun];refine .mild hG1 hM h3 (.fs ?_ ⟨a'',rfl⟩);by_cases hc0:i.toNat=0
    ·rw[hc0];simp only[Zm5,Zn1];exact .sl0 (Znv _)
    ·obtain rfl:=ha hc0;rcases hz with⟨h0,rfl⟩|⟨g,o',rfl,hat,hp⟩
     ·omega
     ·obtain⟨us,q1,q2⟩:=(hat.take (i.toNat*inf.size)).fn (λj hj=>hp j (by simp only[Znr]at hj;omega));exact .sl (Zm8 _) (by omega) q1 q2
theorem Dn {w:World} {Pr:Nat->Nat->Prop} {x:Value} {c:C} (h:C1 x=some c):RC w Pr c x:=by
 unfold C1 at h;split at h
 ·injection h with h;subst h;exact .nl
 ·rename_i f first cap
  split at h
  ·rename_i hs;injection h with h;subst h
   have e1:first= #[]:=Zp4 hs.1
   have e2:cap= #[]:=Zp4 hs.2;subst e1 e2;exact .fn (us:=[]) rfl (by simp)
  ·cases h
 ·split at h
  ·rename_i hs;injection h with h;subst h;exact .v hs
  ·cases h
theorem Mu {w:World} {Pr:Nat->Nat->Prop}: ∀{xs:List Value} {cs:List C} (_:M6 xs=some cs),RCs w Pr cs xs
 | [],cs,h=>by injection h with h;subst h;exact .nil
 |x::xs,cs,h=>by
  unfold M6 at h;split at h
  ·rename_i c cs' h1 h2;injection h with h;subst h
   exact .cons (Dn h1) (Mu h2)
  ·cases h
theorem Y9 {t:TypeId} {zs:List C} (h:Uw P t=some zs) (w:World): ∃i z,P.info? t=some i/\i.zero=some z/\(zeroValue t).run P w= .ok z w/\zs.length=i.size/\ ∀w' Pr,RCs w' Pr zs z.cells.toList:=by
 unfold Uw at h;split at h
 ·rename_i i hi;split at h
  ·rename_i z hz;split at h
   ·rename_i cs hcs;cases hb:Zqv cs.length i.size with
    |false=>rw[hb]at h;cases h
    |true=>
     rw[hb]at h;injection h with h;subst h
     exact⟨i,z,hi,hz,by simp[zeroValue,typeInfo,hi,hz],Zmp hb,λ_ _=>Mu hcs⟩
   ·cases h
  ·cases h
 ·cases h
theorem Zhd (hG:Good P A E l pend) {t:TypeId} {d:Nat} (ho:o.op= .alloc t) (hp:pend d) (ht:A.pt d=t) (href: ∀s',∀x∈(l s').refs,x.at d=false) (h0:k (.ptr d 0) l []=some r):
  Zt P A E l (λs=>pend s/\s≠d) ((execOp ρ o).run P E.w) k r:=by
 obtain⟨hr,cs,hz,hl⟩:=hG.pnd d hp;rw[ht]at hz hl;obtain⟨i,z,hi,hiz,hrun,hlen,hrc⟩:=Y9 hz E.w;have hRC:RCs E.w E.Pr cs z.cells.toList:=hrc _ _;have hG1:=hG.new (s:=d) (pend':=λs=>pend s/\s≠d) (.inr ⟨hp,λ_=>Iff.rfl⟩) (cur:=z.cells) (t:=t) (cs:=cs) (o:= .ob t 0 cs) (.inl rfl) (Znv _) (by have:=hRC.len;simp at this;omega) (by rw[Zm1 (by have:=hRC.len;omega)];exact hRC) href;have hput:l.put d (.ob t 0 cs)=l:=by
  refine Loc.eq (λs=> ?_) rfl;by_cases hs:s=d
  ·subst hs;rw[Zf,hl]
  ·rw[Zc l _ hs]
 rw[hput]at hG1;have hrun':(execOp ρ o).run P E.w= .ok (.value (.pointer (some ⟨E.w.heap.size,0,none⟩))) (E.w.alloc (.cells z.cells t)):=by
  simp[execOp,ho,Instr.alloc,hrun,newVar,newRow]
 rw[hrun'];refine⟨_,_,_,h0,E.new d z.cells t,rfl,⟨hG1,rfl⟩, .ptr (by simp[Env.new]),λy v hy _=>hy.mono2 (λ_=>False) (Xk _ _ _ λb k hp=>(hG.prot b k hp).1) (λs _=> ?_) (λ_ h=>h.elim)⟩;by_cases hs:s=d
 ·subst hs;exact .inr ⟨hr,t,0,cs,hl⟩
 ·have:=Zi.new hG d z.cells t (.ob t 0 cs) hs;rw[hput]at this;exact .inl this
end
end Go.PM
namespace Go.PM
open Go
variable {P:Program}
section
variable {A:Fr} {E:Env} {l:Loc} {pend:Nat->Prop} {R:Type} {k:V->Loc->List Nat->Option R} {r:R} {o:Oper} {ρ:Operand->Value}
theorem Ur (s:Nat) (l:Loc):Loc.kill s l s= .dead:=by simp[Loc.kill]
theorem Xq (s:Nat) (l:Loc) (s':Nat): ∀x∈(Loc.kill s l s').refs,x.at s=false:=by
 rcases Tl s l s' with⟨hk,_⟩|⟨_,hk,hr⟩|⟨_,t',ys,_,hk⟩|⟨_,_,_,_,_,_,_,_,_,hk⟩|⟨_,_,_,_,hk⟩
 ·rw[hk];intro x hx;simp[Obj.refs]at hx
 ·rw[hk,hr];intro x hx;simp at hx
 ·rw[hk];intro x hx;obtain⟨y,_,rfl⟩:=Zpu.1 hx;exact S9 s y
 ·rw[hk];intro x hx;simp[Obj.refs]at hx;subst hx;exact S9 s _
 ·rw[hk];intro x hx;simp[Obj.refs]at hx;subst hx;exact S9 s _
theorem Kn (hG:Good P A E l pend) {d:Nat} (hd: ¬pend d) {cur:Array Value} {t:TypeId} {cs:List C} {fz:Nat} {ob:Obj} (ho:ob= .ob t fz cs\/ob= .sb t fz cs) (hfz:fz<=cs.length)
  (hc:cs.length<=cur.size) (hr:RCs E.w E.Pr cs (cur.toList.take cs.length)) {x:V} {u:Value} (hx:RV P ((E.kill l d).new d cur t) ((l.kill d).put d ob) x u):
  Up P A E l pend x ((l.kill d).put d ob) [d] u (E.w.alloc (.cells cur t)):=by
 have hG1:=hG.kill hd;have hG2:=hG1.new (s:=d) (pend':=pend) (.inl ⟨Ur d l,λ_=>Iff.rfl⟩) (cur:=cur) (t:=t) (cs:=cs) ho hfz hc hr (Xq d l);refine⟨_,rfl,⟨hG2,rfl⟩,hx,λy v hy hk=> ?_⟩;have hy1:RV P (E.kill l d) (Loc.kill d l) y v:=hy.mono0 (E':=E.kill l d) (Zo.refl E.w E.Pr) λs=>Zi.kill E l d s;exact hy1.mono (λs=>s=d) (Xk _ _ _ λb k hp=>(hG.prot b k hp).1) (λs hs=>Zi.new hG1 d cur t ob hs) (λs hs=>by subst hs;exact hk s (by simp))
theorem Jl (hG:Good P A E l pend) {d:Nat} (hd: ¬pend d) {us:List Value} {t:TypeId} {xs:List V} (hs:us.length=xs.length) (h1: ∀u∈us,u.oneCell'=true)
  (h: ∀(j:Nat) (x:V) (u:Value),xs[j]? =some x->us[j]? =some u->RV P E l x u):
  Up P A E l pend (.ptr d 0) ((l.kill d).put d (.mx t (xs.map (V.kill d)))) [d] (.pointer (some ⟨E.w.heap.size,0,none⟩)) (E.w.alloc (.cells us.toArray t)):=by
 have hG1:=hG.kill hd;have hx:Zo E.w E.Pr ((E.kill l d).new d us.toArray t).w ((E.kill l d).new d us.toArray t).Pr:=Xk _ _ _ λb k hp=>(hG.prot b k hp).1;have hmv: ∀{y:V} {v:Value},RV P E l y v->y.at d=false->RV P ((E.kill l d).new d us.toArray t) ((l.kill d).put d (.mx t (xs.map (V.kill d)))) y v:=λ{y v} hy hk=>by
  have hy1:RV P (E.kill l d) (Loc.kill d l) y v:=hy.mono0 (E':=E.kill l d) (Zo.refl E.w E.Pr) λs=>Zi.kill E l d s;exact hy1.mono (λs=>s=d) (Xk _ _ _ λb k hp=>(hG.prot b k hp).1) (λs hs=>Zi.new hG1 d us.toArray t _ hs) (λs hs=>by subst hs;exact hk)
 have hG2:=hG1.newO (s:=d) (pend':=pend) (.inl ⟨Ur d l,λ_=>Iff.rfl⟩) (cur:=us.toArray) (t:=t) (o:= .mx t (xs.map (V.kill d)))
  (.mx (g:=E.w.heap.size) (cur:=us.toArray) (by simp[Env.new,Env.kill]) (heap_alloc_new _ _) (by simp[hs]) (λj x u hx' hu=>by
   rw[Zm9]at hx';obtain⟨y,hy,rfl⟩:=Znq.1 hx';have hu':us[j]? =some u:=by simpa using hu
   exact⟨hmv ((h j y u hy hu').kill d) (S9 d y),h1 u (Zm4 hu')⟩) (by simp[Env.new])) (Xq d l)
 refine⟨_,rfl,⟨hG2,rfl⟩, .ptr (by simp[Env.new,Env.kill]),λy v hy hk=>hmv hy (hk d (by simp))⟩
theorem Up.of_mild {E1:Env} {l1:Loc} (hM:Mild E E1 l l1) {x:V} {l':Loc} {ks:List Nat} {u:Value} {w':World} (h:Up P A E1 l1 pend x l' ks u w'):Up P A E l pend x l' ks u w':=by
 obtain⟨E',h1,h2,h3,h4⟩:=h;exact⟨E',h1,⟨h2.1,h2.2.trans hM.D⟩,h3,λy v hy hk=>h4 y v (hM.rv hy) hk⟩
theorem Bh (hG:Good P A E l pend) (cur:Array Value) (t:TypeId) {x:V} {u:Value} (hx:RV P (E.fix cur t) l x u):Up P A E l pend x l [] u (E.w.alloc (.cells cur t)):=
 ⟨_,rfl,⟨hG.fix cur t,rfl⟩,hx,λ_ _ hy _=>hy.mono0 (Ga hG cur t) λs=>Zi.fix E l cur t s⟩
theorem Bi (hG:Good P A E l pend) {cur:Array Value} {t:TypeId} {cs:List C} (h:RCs E.w E.Pr cs cur.toList):At (E.fix cur t).w (E.fix cur t).Pr E.w.heap.size 0 cs:=by
 intro j c hj;have hlt:j<cur.toList.length:=by rw[h.len];exact(Zmx.1 hj).1
 have hg:cur.toList[j]? =some cur.toList[j]:=Zm0 hlt;refine⟨cur.toList[j], ?_,(h.2 j c _ hj hg).held (Ga hG cur t)⟩;have:=cell_of_row (E.w.alloc (.cells cur t)) E.w.heap.size (0+j) cur t (0,0) (heap_alloc_new _ _);rw[Zmt]at this⊢;show(E.w.alloc (.cells cur t)).cell? _=_;rw[this,<-hg];simp
theorem Zl0 (hG:Good P A E l pend) {t:TypeId} {d:Nat} {a:Operand} {strict own:Bool} (ho:o.op= .box t a) (hd: ¬pend d) {x:V} {u:Value} (hx:RV P E l x u) (hu:ρ a=u) (h0:Kl P l k strict own t d x=some r):
  Zt P A E l pend ((execOp ρ o).run P E.w) k r:=by
 have hrun:(execOp ρ o).run P E.w= .ok (.value (.pointer (some ⟨E.w.heap.size,0,none⟩))) (E.w.alloc (.cells u.cells t)):=by
  simp[execOp,ho,hu,Instr.box,newVar,newRow]
 have himm: ∀st,pur P st x l (λcs l1=>k (.c (.cp cs)) l1 [])=some r->Zt P A E l pend ((execOp ρ o).run P E.w) k r:=by
  intro st h;obtain⟨cs,l1,E1,hk,hG1,hM,hc,_⟩:=Xf hG hx h;rw[hrun];refine⟨_,_,_,hk,Up.of_mild hM ?_⟩;rw[<-hM.w];refine Bh hG1 u.cells t (.c ?_);exact(Bi hG1 hc).toC λj _=> .inr rfl
 unfold Kl at h0;split at h0
 ·split at h0
  ·cases hx with
   |mag hs h1 h2=>
    rw[hrun];refine⟨_,_,_,h0, ?_⟩;exact Jl hG hd hs h1 h2
  obtain⟨cs,l1,E1,hk,hG1,hM,hc,_⟩:=Xf hG hx h0;obtain⟨hb,hk⟩:=Za hk;rw[hrun];refine⟨_,_,_,hk,Up.of_mild hM ?_⟩;rw[<-hM.w];have hl:u.cells.toList.length=cs.length:=hc.len;refine Kn hG1 hd (.inl rfl) (Znv _) (by simp at hl;omega) (by rw[Zm1 (by omega)];exact hc) (.ptr ?_);simp[Env.new,Env.kill]
 ·cases h0
 ·exact himm _ h0
theorem foldl_set: ∀(xs:List Value) (off i:Nat) (cells:Array Value),off+i+xs.length<=cells.size->
  ((xs.zipIdx i).foldl (λcs q=>cs.setIfInBounds (off+q.2) q.1) cells).toList=cells.toList.take (off+i)++xs++cells.toList.drop (off+i+xs.length)
 | [],off,i,cells,h=>by simp
 |x::xs,off,i,cells,h=>by
  simp only[List.zipIdx_cons,Zo4];rw[foldl_set xs off (i+1) _ (by simp at h⊢;omega)];simp only[Zms]at h;simp only[Array.toList_setIfInBounds];rw[show off+(i+1)=off+i+1 by omega,show off+i+1+xs.length=off+i+(xs.length+1) by omega];have hlt:off+i<cells.toList.length:=by simp;omega
  rw[List.take_set,List.drop_set_of_lt (by omega)];have h1:(cells.toList.take (off+i+1)).set (off+i) x=cells.toList.take (off+i)++[x]:=by
   rw[Znu hlt,List.set_append_right _ _ (by simp;omega)];simp;have:off+i-min (off+i) cells.size=0:=by simp at hlt;omega
   simp[this]
  rw[h1];simp
theorem Mv {w:World} {Pr:Nat->Nat->Prop} {place:Nat->Option (Nat×Nat)} {R:Type} {r:R}: ∀{ips:List (Nat×Value)} {ps:List (List C)} {cs:List C} {cells:Array Value} {kk:List C->Option R}
  (_:ps.length=ips.length) (_: ∀(j:Nat) (p:List C) (q:Nat×Value),ps[j]? =some p->ips[j]? =some q->RCs w Pr p q.2.cells.toList) (_:RCs w Pr cs cells.toList)
  (_:V2 place (ips.map (·.1)) ps cs kk=some r),∃cs' cells',kk cs'=some r/\Instr.fill place cells ips=some cells'/\RCs w Pr cs' cells'.toList/\cells'.size=cells.size
 | [],[],cs,cells,kk,_,_,hc,h=>⟨cs,cells,h,rfl,hc,rfl⟩
 | [],_::_,_,_,_,hl,_,_,_=>by simp at hl
 |_::_,[],_,_,_,hl,_,_,_=>by simp at hl
 |(i,v)::ips,p::ps,cs,cells,kk,hl,hp,hc,h=>by
  simp only[Zn0,V2]at h;split at h
  ·cases h
  ·rename_i off sz hpl;obtain⟨hb,hk⟩:=Za h;rw[Zmq]at hb;have h1:p.length=sz:=Zmp hb.1;have h2:off+p.length<=cs.length:=Zmu hb.2;have hv:=hp 0 p (i,v) rfl rfl;have hvl:v.cells.size=p.length:=by have:=hv.len;simpa using this
   have hcl:cells.size=cs.length:=by have:=hc.len;simpa using this
   have hset:=foldl_set v.cells.toList off 0 cells (by simp;omega);have e:v.cells.zipIdx.foldl (λcs q=>cs.setIfInBounds (off+q.2) q.1) cells=(v.cells.toList.zipIdx 0).foldl (λcs q=>cs.setIfInBounds (off+q.2) q.1) cells:=by
    rw[<-Zp9,Zre]
   have hc2:RCs w Pr (putAt cs off p) (v.cells.zipIdx.foldl (λcs q=>cs.setIfInBounds (off+q.2) q.1) cells).toList:=by
    rw[e,hset,Znz];exact hc.putAt hv off
   have hsz2:(v.cells.zipIdx.foldl (λcs q=>cs.setIfInBounds (off+q.2) q.1) cells).size=cells.size:=by
    rw[e,<-Zrf,hset];simp;omega
   obtain⟨cs',cells',h3,h4,h5,h6⟩:=Mv (ips:=ips) (ps:=ps) (by simpa using hl) (λj q z hq hz=>hp (j+1) q z (by simpa using hq) (by simpa using hz)) hc2 hk;refine⟨cs',cells',h3, ?_,h5,h6.trans hsz2⟩;simp only[Instr.fill,hpl];rw[if_neg (by simp;constructor<;>omega)];exact h4
theorem N8 {α β:Type} (f:α->Sem β) (g:α->β) (w:World): ∀(xs:List α),(∀x∈xs,(f x).run P w= .ok (g x) w)->(xs.mapM f).run P w= .ok (xs.map g) w
 | [],_=>by simp
 |x::xs,h=>by
  rw[Zqa,Sem.run_bind,h x (by simp)];simp only[Result.andThen_ok];rw[Sem.run_bind,N8 f g w xs (λy hy=>h y (by simp[hy]))];rfl
theorem R8 {α β:Type} (f:α->Sem β) (g:α->β) (w:World) (xs:Array α) (h: ∀x∈xs.toList,(f x).run P w= .ok (g x) w):(xs.mapM f).run P w= .ok (xs.map g) w:=by
 rw[Zqe,Sem.run_map,N8 f g w xs.toList h];simp only[Result.andThen_ok]
 congr 1
 apply Zrc;simp
def RVs (P:Program) (E:Env) (l:Loc) (xs:List V) (us:List Value):Prop:=us.length=xs.length/\(∀u∈us,u.oneCell'=true)/\ ∀(j:Nat) (x:V) (u:Value),xs[j]? =some x->us[j]? =some u->RV P E l x u
theorem RVs.append {a b:List V} {x y:List Value} (h:RVs P E l a x) (h':RVs P E l b y):RVs P E l (a++b) (x++y):=by
 obtain⟨h1,h2,h3⟩:=h;obtain⟨q1,q2,q3⟩:=h';refine⟨by simp[h1,q1],λu hu=>(Zoc.1 hu).elim (h2 u) (q2 u),λj z u hz hu=> ?_⟩;rw[Zn2]at hz hu;rw[h1]at hu;by_cases hj:j<a.length
 ·rw[if_pos hj]at hz hu;exact h3 j z u hz hu
 ·rw[if_neg hj]at hz hu;exact q3 _ z u hz hu
theorem RVs.take {xs:List V} {us:List Value} (h:RVs P E l xs us) (n:Nat):RVs P E l (xs.take n) (us.take n):=
 ⟨by simp[h.1],λu hu=>h.2.1 u (Zpg hu),λj x u hx hu=>by
  rw[Znc]at hx hu;split at hx<;>simp_all;exact h.2.2 j x u hx hu⟩
theorem RVs.drop {xs:List V} {us:List Value} (h:RVs P E l xs us) (n:Nat):RVs P E l (xs.drop n) (us.drop n):=
 ⟨by simp[h.1],λu hu=>h.2.1 u (List.mem_of_mem_drop hu),λj x u hx hu=>by
  rw[Znd]at hx hu;exact h.2.2 _ x u hx hu⟩
theorem RVs.putAt {cs xs:List V} {us ys:List Value} (h:RVs P E l cs us) (h':RVs P E l xs ys) (off:Nat):RVs P E l (PM.putAtV cs off xs) (us.take off++ys++us.drop (off+ys.length)):=by
 unfold PM.putAtV;rw[<-h'.1];exact((h.take off).append h').append (h.drop _)
theorem RCs.rvs {cs:List C} {us:List Value} (h:RCs E.w E.Pr cs us):RVs P E l (cs.map .c) us:=
 ⟨by simp[h.1],h.ones,λj x u hx hu=>by
  rw[Zm9]at hx;obtain⟨c,hc,rfl⟩:=Znq.1 hx;exact .c (h.2 j c u hc hu)⟩
theorem Wd {x:V} {u:Value} (hx:RV P E l x u) {p:List V} (h:Zdq l x=some p):RVs P E l p u.cells.toList:=by
 have one: ∀{y:V} {v:Value},RV P E l y v->v.oneCell'=true->RVs P E l [y] v.cells.toList:=λ{y v} hy h1=>by
  rw[cells_one h1];refine⟨rfl,by simpa using h1,λj z w hz hw=> ?_⟩;cases j with
  |zero=>simp at hz hw;subst hz hw;exact hy
  |succ j=>simp at hz
 cases x with
 |c c=>cases hx with|c hc=>injection h with h;subst h;exact one (.c hc) hc.one
 |agg cs=>cases hx with|agg hc=>injection h with h;subst h;simpa[Value.cells]using (hc.rvs (P:=P) (l:=l))
 |own s off n=>
  simp only[Zdq]at h;cases hq:(Z4 (l s)).isSome with
  |false=>rw[hq]at h;cases h
  |true=>
   rw[hq]at h;injection h with h;subst h
   obtain⟨q,hq⟩:=Zng.1 hq;refine one hx ?_;cases hx with
   |ownDead hd=>rw[hd]at hq;cases hq
   |ownMx hd=>exact(Uk hd hq).elim
   |ownNil _ _=>rfl
   |own _ _ _ _ _=>rfl
   |own0 _ _ _=>rfl
 |mp s=>
  simp only[Zdq]at h;cases hq:isMp (l s)with
  |false=>rw[hq]at h;cases h
  |true=>
   rw[hq]at h;injection h with h;subst h
   refine one hx ?_;cases hx with
   |mpDead hd=>rw[hd]at hq;cases hq
   |mp _=>rfl
 |_=>cases h
theorem Rh: ∀{xs:List V} {us:List Value} (_:us.length=xs.length) (_: ∀(j:Nat) (x:V) (u:Value),xs[j]? =some x->us[j]? =some u->RV P E l x u) {ps:List (List V)} (_:H4 l xs=some ps),
  ps.length=us.length/\ ∀(j:Nat) (p:List V) (u:Value),ps[j]? =some p->us[j]? =some u->RVs P E l p u.cells.toList
 | [],us,hl,_,ps,h=>by injection h with h;subst h;exact⟨by simp at hl;simp[hl],by simp⟩
 |x::xs,[],hl,_,_,_=>by simp at hl
 |x::xs,u::us,hl,hx,ps,h=>by
  simp only[H4]at h;split at h
  ·rename_i p ps' hp hps;injection h with h;subst h
   obtain⟨q1,q2⟩:=Rh (xs:=xs) (us:=us) (by simpa using hl) (λj y v hy hv=>hx (j+1) y v (by simpa using hy) (by simpa using hv)) hps;refine⟨by simp[q1],λj p' u' hp' hu'=> ?_⟩;cases j with
   |zero=>simp at hp' hu';subst hp' hu';exact Wd (hx 0 x u rfl rfl) hp
   |succ j=>exact q2 j p' u' (by simpa using hp') (by simpa using hu')
  ·cases h
theorem R9 {place:Nat->Option (Nat×Nat)}: ∀{ips:List (Nat×Value)} {ps:List (List V)} {cs:List V} {cells:Array Value} {kk:List V->Option R}
  (_:ps.length=ips.length) (_: ∀(j:Nat) (p:List V) (q:Nat×Value),ps[j]? =some p->ips[j]? =some q->RVs P E l p q.2.cells.toList) (_:RVs P E l cs cells.toList)
  (_:Sk place (ips.map (·.1)) ps cs kk=some r),∃cs' cells',kk cs'=some r/\Instr.fill place cells ips=some cells'/\RVs P E l cs' cells'.toList/\cells'.size=cells.size
 | [],[],cs,cells,kk,_,_,hc,h=>⟨cs,cells,h,rfl,hc,rfl⟩
 | [],_::_,_,_,_,hl,_,_,_=>by simp at hl
 |_::_,[],_,_,_,hl,_,_,_=>by simp at hl
 |(i,v)::ips,p::ps,cs,cells,kk,hl,hp,hc,h=>by
  simp only[Zn0,Sk]at h;split at h
  ·cases h
  ·rename_i off sz hpl;obtain⟨hb,hk⟩:=Za h;rw[Zmq]at hb;have h1:p.length=sz:=Zmp hb.1;have h2:off+p.length<=cs.length:=Zmu hb.2;have hv:=hp 0 p (i,v) rfl rfl;have hvl:v.cells.size=p.length:=by have:=hv.1;simpa using this
   have hcl:cells.size=cs.length:=by have:=hc.1;simpa using this
   have hset:=foldl_set v.cells.toList off 0 cells (by simp;omega);have e:v.cells.zipIdx.foldl (λcs q=>cs.setIfInBounds (off+q.2) q.1) cells=(v.cells.toList.zipIdx 0).foldl (λcs q=>cs.setIfInBounds (off+q.2) q.1) cells:=by
    rw[<-Zp9,Zre]
   have hc2:RVs P E l (putAtV cs off p) (v.cells.zipIdx.foldl (λcs q=>cs.setIfInBounds (off+q.2) q.1) cells).toList:=by
    rw[e,hset,Znz];exact hc.putAt hv off
   have hsz2:(v.cells.zipIdx.foldl (λcs q=>cs.setIfInBounds (off+q.2) q.1) cells).size=cells.size:=by
    rw[e,<-Zrf,hset];simp;omega
   obtain⟨cs',cells',h3,h4,h5,h6⟩:=R9 (ips:=ips) (ps:=ps) (by simpa using hl) (λj q z hq hz=>hp (j+1) q z (by simpa using hq) (by simpa using hz)) hc2 hk;refine⟨cs',cells',h3, ?_,h5,h6.trans hsz2⟩;simp only[Instr.fill,hpl];rw[if_neg (by simp;constructor<;>omega)];exact h4
theorem Zhe (hG:Good P A E l pend) {t:TypeId} {parts:Array (Nat×Operand)} {strict:Bool} (ho:o.op= .build t parts) {e:Operand->V} (hop: ∀p∈parts.toList,RV P E l (e p.2) (ρ p.2))
  (h0:Qh P l k strict t (parts.toList.map (·.1)) (parts.toList.map λp=>e p.2)=some r):Zt P A E l pend ((execOp ρ o).run P E.w) k r:=by
 have hrel: ∀(j:Nat) (x:V) (u:Value),(parts.toList.map λp=>e p.2)[j]? =some x->(parts.toList.map λp=>ρ p.2)[j]? =some u->RV P E l x u:=by
  intro j x u hx hu;rw[Zm9]at hx hu;cases hj:parts.toList[j]? with
  |none=>rw[hj]at hx;cases hx
  |some y=>
   rw[hj]at hx hu;injection hx with hx;injection hu with hu;subst hx hu
   exact hop y (Zm4 hj)
 have main: ∀(place:Nat->Option (Nat×Nat)) (zs:List C),Uw P t=some zs->
   (∀z w,(zeroValue t).run P w= .ok z w-> ∀cells',Instr.fill place z.cells (parts.toList.map λp=>(p.1,ρ p.2))=some cells' ->(Instr.build t (parts.map λp=>(p.1,ρ p.2))).run P w= .ok (.agg cells') w)->
   Nx P strict (parts.toList.map λp=>e p.2) l (λps l1=>V2 place (parts.toList.map (·.1)) ps zs λcs=>k (.agg cs) l1 [])=some r->Zt P A E l pend ((execOp ρ o).run P E.w) k r:=by
  intro place zs hz hb h;obtain⟨ps,l1,E1,hk,hG1,hM,hl,hp,_⟩:=Rc (us:=parts.toList.map λp=>ρ p.2) hG (by simp) hrel h;obtain⟨i,z,hi,hiz,hrun,hlen,hrc⟩:=Y9 hz E.w;have hips:(parts.toList.map λp=>(p.1,ρ p.2)).map (·.1)=parts.toList.map (·.1):=by simp
  rw[<-hips]at hk;obtain⟨cs,cells',hk',hf,hc,_⟩:=Mv (w:=E1.w) (Pr:=E1.Pr) (ips:=parts.toList.map λp=>(p.1,ρ p.2)) (by simpa using hl) (λj p q hp' hq=>by
   refine hp j p q.2 hp' ?_;rw[Zm9]at hq⊢;cases hj:parts.toList[j]? with
   |none=>rw[hj]at hq;cases hq
   |some y=>rw[hj]at hq;injection hq with hq;subst hq;rfl) (hrc _ _) hk
  have hrun2:(execOp ρ o).run P E.w= .ok (.value (.agg cells')) E.w:=by
   simp only[execOp,ho];rw[Sem.run_bind,hb z E.w hrun cells' hf];rfl
  rw[hrun2];refine .mild hG1 hM hk' ?_;have:=RV.agg (P:=P) (l:=l1) hc;simpa using this
 unfold Qh at h0;split at h0
 ·rename_i fs zs hT hz;obtain⟨hall,h1⟩:=Za h0;refine main _ zs hz (λz w hrun cells' hf=> ?_) h1;have hinf: ∀f∈fs.toList,(sizeOf f.type).run P w= .ok (Zg P f.type) w:=by
   intro f hf';have:=Zm7.1 hall f hf';obtain⟨i,hi⟩:=Zng.1 this;rw[run_sizeOf hi,Z3 hi]
  have hm:=R8 (P:=P) (λf:Field=>do pure (f.offset,<-sizeOf f.type)) (λf=>(f.offset,Zg P f.type)) w fs (λf hf'=>by simp[hinf f hf']);have hpl:(λi:Nat=>(fs.map λf:Field=>(f.offset,Zg P f.type))[i]?)=Kk P fs:=by
   funext i
   simp only[Kk,Zqb,Zpy];cases fs[i]? <;>rfl
  simp only[Instr.build,Sem.run_bind,hrun,Result.andThen_ok,run_underlying hT,hm];rw[hpl];simp only[Zov];rw[hf];rfl
 ·rename_i n el zs hT hz;obtain⟨hall,h1⟩:=Za h0;obtain⟨i,hi⟩:=Zng.1 hall;refine main _ zs hz (λz w hrun cells' hf=> ?_) h1;rw[Z3 hi]at hf;simp only[Instr.build,Sem.run_bind,hrun,Result.andThen_ok,run_underlying hT,run_sizeOf hi];simp only[Zov];rw[hf];rfl
 ·cases h0
theorem Zbx (hG:Good P A E l pend) {t:TypeId} {parts:Array (Nat×Operand)} (ho:o.op= .build t parts) {e:Operand->V} (hop: ∀p∈parts.toList,RV P E l (e p.2) (ρ p.2))
  (h0:S7 P l k t (parts.toList.map (·.1)) (parts.toList.map λp=>e p.2)=some r):Zt P A E l pend ((execOp ρ o).run P E.w) k r:=by
 have hrel: ∀(j:Nat) (x:V) (u:Value),(parts.toList.map λp=>e p.2)[j]? =some x->(parts.toList.map λp=>ρ p.2)[j]? =some u->RV P E l x u:=by
  intro j x u hx hu;rw[Zm9]at hx hu;cases hj:parts.toList[j]? with
  |none=>rw[hj]at hx;cases hx
  |some y=>
   rw[hj]at hx hu;injection hx with hx;injection hu with hu;subst hx hu
   exact hop y (Zm4 hj)
 unfold S7 at h0;split at h0
 case h_2=>cases h0
 case h_1 fs zs ps hT hz hps=>
  obtain⟨hall,h1⟩:=Za h0;obtain⟨hl,hp⟩:=Rh (us:=parts.toList.map λp=>ρ p.2) (by simp) hrel hps;obtain⟨i,z,hi,hiz,hrun,hlen,hrc⟩:=Y9 hz E.w;have hips:(parts.toList.map λp=>(p.1,ρ p.2)).map (·.1)=parts.toList.map (·.1):=by simp
  rw[<-hips]at h1;obtain⟨cs,cells',hk',hf,hc,_⟩:=R9 (ips:=parts.toList.map λp=>(p.1,ρ p.2)) (by simpa using hl) (λj p q hp' hq=>by
   refine hp j p q.2 hp' ?_;rw[Zm9]at hq⊢;cases hj:parts.toList[j]? with
   |none=>rw[hj]at hq;cases hq
   |some y=>rw[hj]at hq;injection hq with hq;subst hq;rfl) ((hrc E.w E.Pr).rvs) h1
  have hinf: ∀f∈fs.toList,(sizeOf f.type).run P E.w= .ok (Zg P f.type) E.w:=by
   intro f hf';have:=Zm7.1 hall f hf';obtain⟨i,hi⟩:=Zng.1 this;rw[run_sizeOf hi,Z3 hi]
  have hm:=R8 (P:=P) (λf:Field=>do pure (f.offset,<-sizeOf f.type)) (λf=>(f.offset,Zg P f.type)) E.w fs (λf hf'=>by simp[hinf f hf']);have hpl:(λi:Nat=>(fs.map λf:Field=>(f.offset,Zg P f.type))[i]?)=Kk P fs:=by
   funext i
   simp only[Kk,Zqb,Zpy];cases fs[i]? <;>rfl
  have hb:(Instr.build t (parts.map λp=>(p.1,ρ p.2))).run P E.w= .ok (.agg cells') E.w:=by
   simp only[Instr.build,Sem.run_bind,hrun,Result.andThen_ok,run_underlying hT,hm];rw[hpl];simp only[Zov];rw[hf];rfl
  have hrun2:(execOp ρ o).run P E.w= .ok (.value (.agg cells')) E.w:=by
   simp only[execOp,ho];rw[Sem.run_bind,hb];rfl
  rw[hrun2];refine .quiet hG hk' ?_;have:=RV.mag (P:=P) (l:=l) hc.1 hc.2.1 hc.2.2;simpa using this
end
end Go.PM
namespace Go.PM
open Go
variable {P:Program}
section
variable {A:Fr} {E:Env} {l:Loc} {pend:Nat->Prop} {R:Type} {k:V->Loc->List Nat->Option R} {r:R} {o:Oper} {ρ:Operand->Value}
theorem Qb (n:Nat) (zs:List C):(Qw n zs).length=n*zs.length:=by simp[Qw]
theorem We (zs:List C): ∀(n j:Nat) (c:C),(Qw n zs)[j]? =some c->zs[j%zs.length]? =some c
 |0,j,c,h=>by simp[Qw]at h
 |n+1,j,c,h=>by
  have e:Qw (n+1) zs=zs++Qw n zs:=by simp[Qw,List.replicate_succ]
  rw[e,Zn2]at h;split at h
  ·rename_i hlt;rw[Nat.mod_eq_of_lt hlt];exact h
  ·rename_i hge;have:=We zs n (j-zs.length) c h
   rwa [Nat.mod_eq_sub_mod (by omega)]
theorem Sq {w:World} {Pr:Nat->Nat->Prop} {zs:List C} {zero:Array Value} (h:RCs w Pr zs zero.toList) (n:Nat) (hn:n≠0\/True):
  RCs w Pr (Qw n zs) ((Zra (n*zs.length)).map (zero[· %zero.size]!)).toList:=by
 have hs:zero.size=zs.length:=by have:=h.len;simpa using this
 refine⟨by simp[Qb],λj c u hc hu=> ?_⟩;have h1:=We zs n j c hc;have hlt:j%zs.length<zs.length:=(Zmx.1 h1).1;simp only[Zov,Zm9,Array.toList_range]at hu;cases hj:(Zq6 (n*zs.length))[j]? with
 |none=>rw[hj]at hu;cases hu
 |some i=>
  rw[hj]at hu;have hi:i=j:=by
   have:=Zmx.1 hj;obtain⟨_,e⟩:=this;simpa using e.symm
  subst hi;injection hu with hu
  subst hu;refine h.2 _ c _ h1 ?_;rw[hs];have hlt':i%zs.length<zero.size:=by omega
  simp[hlt']
theorem Bj {xs:List Operand} {e:Operand->V} (hop: ∀y∈xs,RV P E l (e y) (ρ y)): ∀(j:Nat) (x:V) (u:Value),(xs.map e)[j]? =some x->(xs.map ρ)[j]? =some u->RV P E l x u:=by
 intro j x u hx hu;rw[Zm9]at hx hu;cases hj:xs[j]? with
 |none=>rw[hj]at hx;cases hx
 |some y=>
  rw[hj]at hx hu;injection hx with hx;injection hu with hu;subst hx hu
  exact hop y (Zm4 hj)
theorem Eo (hG:Good P A E l pend) {t:TypeId} {n d:Nat} {parts:Array (Nat×Operand)} {strict own full:Bool} (ho:o.op= .buildSlice t n parts) (hd: ¬pend d) {e:Operand->V} (hop: ∀p∈parts.toList,RV P E l (e p.2) (ρ p.2))
  (h0:Z0 P l k strict own full t n d (parts.toList.map (·.1)) (parts.toList.map λp=>e p.2)=some r):Zt P A E l pend ((execOp ρ o).run P E.w) k r:=by
 have hrel: ∀(j:Nat) (x:V) (u:Value),(parts.toList.map λp=>e p.2)[j]? =some x->(parts.toList.map λp=>ρ p.2)[j]? =some u->RV P E l x u:=by
  intro j x u hx hu;rw[Zm9]at hx hu;cases hj:parts.toList[j]? with
  |none=>rw[hj]at hx;cases hx
  |some y=>
   rw[hj]at hx hu;injection hx with hx;injection hu with hu;subst hx hu
   exact hop y (Zm4 hj)
 unfold Z0 at h0;split at h0
 case h_2=>cases h0
 case h_1 el hT=>
  split at h0
  case h_2=>cases h0
  case h_1 zs hz=>
   obtain⟨ps,l1,E1,hk,hG1,hM,hl,hp,_⟩:=Rc (us:=parts.toList.map λp=>ρ p.2) hG (by simp) hrel h0;obtain⟨i,z,hi,hiz,hrun,hlen,hrc⟩:=Y9 hz E.w;have hips:(parts.toList.map λp=>(p.1,ρ p.2)).map (·.1)=parts.toList.map (·.1):=by simp
   rw[<-hips]at hk;have hbase:=Sq (hrc E1.w E1.Pr) n (.inr trivial);obtain⟨cs,cells',hk',hf,hc,hfs⟩:=Mv (w:=E1.w) (Pr:=E1.Pr) (ips:=parts.toList.map λp=>(p.1,ρ p.2)) (by simpa using hl) (λj p q hp' hq=>by
    refine hp j p q.2 hp' ?_;rw[Zm9]at hq⊢;cases hj:parts.toList[j]? with
    |none=>rw[hj]at hq;cases hq
    |some y=>rw[hj]at hq;injection hq with hq;subst hq;rfl) hbase hk
   obtain⟨hb,hk2⟩:=Za hk';rw[Zmq]at hb;have hsz:Zg P el=i.size:=Z3 hi;have hs0:i.size≠0:=by intro e;rw[hsz,e]at hb;cases hb.2
   have hle:n*i.size<=16777216:=by have:=Zmu hb.1;rwa [hsz]at this
   rw[hlen,hsz]at hf;have hrun2:(execOp ρ o).run P E.w= .ok (.value (.slice (some ⟨E.w.heap.size,0,none⟩) n n)) (E.w.alloc (.cells cells' el)):=by
    have hnot: ¬(n*i.size>2^24):=by omega
    simp only[execOp,ho,Instr.buildSlice];rw[Sem.run_bind,Sem.run_bind,run_underlying hT];simp only[Result.andThen_ok,Sem.run_bind,run_sizeOf hi];rw[if_neg hnot];by_cases h:n*i.size=0
    ·rw[if_pos h];have hb0:(Zra (n*i.size)).map ((#[]:Array Value)[· %(#[]:Array Value).size]!)=(Zra (n*i.size)).map (z.cells[· %z.cells.size]!):=by simp[h]
     simp only[Sem.run_bind,Sem.run_pure,Result.andThen_ok];rw[hb0];simp only[Zov];rw[hf];simp[newRow]
    ·rw[if_neg h];simp only[Sem.run_bind,Sem.run_pure,Result.andThen_ok,hrun];simp only[Zov];rw[hf];simp[newRow]
   have hcl:cells'.size=n*i.size:=by
    rw[hfs];simp[hlen]
   rw[hrun2];split at hk2
   ·refine⟨_,_,_,hk2,Up.of_mild hM ?_⟩;rw[<-hM.w];refine Kn hG1 hd (.inr rfl) (Znv _) (by have:=hc.len;simp at this;omega) (by rw[Zm1 (by have:=hc.len;omega)];exact hc) (.own (g:=E1.w.heap.size) (cap:=n) (t:=el) (fz:=0) (cs:=cs) (by simp[Env.new,Env.kill]) (by rw[Zf];rfl) (Zm8 _) ?_ ?_)
    ·unfold maxLen;have:n<=n*i.size:=Zrg n (by omega);omega
    ·rw[hsz];simp[Env.new,hcl]
   ·cases hk2
   ·refine⟨_,_,_,hk2,Up.of_mild hM ?_⟩;rw[<-hM.w];have hsl:RC (E1.fix cells' el).w (E1.fix cells' el).Pr (.sl n cs) (.slice (some ⟨E1.w.heap.size,0,none⟩) n n):=by
     obtain⟨us,q1,q2⟩:=(Bi hG1 hc).fn (λj _=> .inr rfl);refine .sl (Zm8 _) ?_ q1 q2;unfold maxLen;have:n<=n*i.size:=Zrg n (by omega);omega
    refine Bh hG1 cells' el ?_;cases full with
    |false=>exact .c hsl
    |true=>exact .fs hsl ⟨_,rfl⟩
theorem Gi (hG:Good P A E l pend) {t:TypeId} {n d:Nat} {parts:Array (Nat×Operand)} (ho:o.op= .buildSlice t n parts) (hd: ¬pend d) {e:Operand->V} (hop: ∀p∈parts.toList,RV P E l (e p.2) (ρ p.2))
  (h0:Xh P l k t n d (parts.toList.map (·.1)) (parts.toList.map λp=>e p.2)=some r):Zt P A E l pend ((execOp ρ o).run P E.w) k r:=by
 have hrel: ∀(j:Nat) (x:V) (u:Value),(parts.toList.map λp=>e p.2)[j]? =some x->(parts.toList.map λp=>ρ p.2)[j]? =some u->RV P E l x u:=by
  intro j x u hx hu;rw[Zm9]at hx hu;cases hj:parts.toList[j]? with
  |none=>rw[hj]at hx;cases hx
  |some y=>
   rw[hj]at hx hu;injection hx with hx;injection hu with hu;subst hx hu
   exact hop y (Zm4 hj)
 unfold Xh at h0;split at h0
 case h_2=>cases h0
 case h_1 el hT=>
  split at h0
  case h_2=>cases h0
  case h_1 zs pps hz hps=>
   obtain⟨hl,hp⟩:=Rh (us:=parts.toList.map λp=>ρ p.2) (by simp) hrel hps;obtain⟨i,z,hi,hiz,hrun,hlen,hrc⟩:=Y9 hz E.w;have hips:(parts.toList.map λp=>(p.1,ρ p.2)).map (·.1)=parts.toList.map (·.1):=by simp
   rw[<-hips]at h0;have hbase:=(Sq (hrc E.w E.Pr) n (.inr trivial)).rvs (P:=P) (l:=l);obtain⟨cs,cells',hk',hf,hc,hfs⟩:=R9 (ips:=parts.toList.map λp=>(p.1,ρ p.2)) (by simpa using hl) (λj p q hp' hq=>by
    refine hp j p q.2 hp' ?_;rw[Zm9]at hq⊢;cases hj:parts.toList[j]? with
    |none=>rw[hj]at hq;cases hq
    |some y=>rw[hj]at hq;injection hq with hq;subst hq;rfl) hbase h0
   obtain⟨hb,hk2⟩:=Za hk';rw[Zmq]at hb;have hsz:Zg P el=i.size:=Z3 hi;have hle:n*i.size<=16777216:=by have:=Zmu hb.1;rwa [hsz]at this
   rw[hlen,hsz]at hf;have hrun2:(execOp ρ o).run P E.w= .ok (.value (.slice (some ⟨E.w.heap.size,0,none⟩) n n)) (E.w.alloc (.cells cells' el)):=by
    have hnot: ¬(n*i.size>2^24):=by omega
    simp only[execOp,ho,Instr.buildSlice];rw[Sem.run_bind,Sem.run_bind,run_underlying hT];simp only[Result.andThen_ok,Sem.run_bind,run_sizeOf hi];rw[if_neg hnot];by_cases h:n*i.size=0
    ·rw[if_pos h];have hb0:(Zra (n*i.size)).map ((#[]:Array Value)[· %(#[]:Array Value).size]!)=(Zra (n*i.size)).map (z.cells[· %z.cells.size]!):=by simp[h]
     simp only[Sem.run_bind,Sem.run_pure,Result.andThen_ok];rw[hb0];simp only[Zov];rw[hf];simp[newRow]
    ·rw[if_neg h];simp only[Sem.run_bind,Sem.run_pure,Result.andThen_ok,hrun];simp only[Zov];rw[hf];simp[newRow]
   rw[hrun2];refine⟨_,_,_,hk2, ?_⟩;obtain⟨E',q1,q2,q3,q4⟩:=Jl (t:=el) hG hd hc.1 hc.2.1 hc.2.2;refine⟨E',by simpa using q1,q2, ?_,q4⟩;cases q3 with
   |ptrDead hd=>rw[Zf]at hd;cases hd
   |ptr hr=>
    refine .ws hr ?_;have hs0:Zg P el≠0:=λe=>by rw[e]at hb;cases hb.2
    have h1:=Zmu hb.1;have h2:n*1<=n*Zg P el:=Nat.mul_le_mul_left n (Zo0 hs0);unfold maxLen;omega
theorem Gj (hG:Good P A E l pend) {t:TypeId} {n d:Nat} {parts:Array (Nat×Operand)} {strict own full:Bool} (ho:o.op= .buildSlice t n parts) (hd: ¬pend d) {e:Operand->V} (hop: ∀p∈parts.toList,RV P E l (e p.2) (ρ p.2))
  (h0:Yr P l k strict own full t n d (parts.toList.map (·.1)) (parts.toList.map λp=>e p.2)=some r):Zt P A E l pend ((execOp ρ o).run P E.w) k r:=by
 cases own<;>cases full<;>cases strict
 case true.true.false=>simp only[Yr]at h0;exact Gi hG ho hd hop h0
 all_goals (simp only[Yr]at h0;exact Eo hG ho hd hop h0)
end
end Go.PM
namespace Go.PM
open Go
variable {P:Program}
section
variable {A:Fr} {E:Env} {l:Loc} {pend:Nat->Prop} {R:Type} {k:V->Loc->List Nat->Option R} {r:R} {o:Oper} {ρ:Operand->Value}
theorem wrap_small {a:Int} (h0:0<=a) (h1:a<=140737488355328):Zqu.wrap a=a:=by
 have e1:((2:Int)^Zqu.bits)=18446744073709551616:=by decide
 have e2:((2:Int)^(Zqu.bits-1))=9223372036854775808:=by decide
 unfold IntKind.wrap;simp only[e1,e2];rw[Int.emod_eq_of_lt h0 (by omega)];rw[if_neg];simp[IntKind.signed];omega
theorem Bl (hG:Good P A E l pend) {t:TypeId} {d:Nat} {a b:Operand} (ho:o.op= .makeSlice t a b) (hd: ¬pend d) {x y:V} {u v:Value} (hx:RV P E l x u) (hy:RV P E l y v) (hu:ρ a=u) (hv:ρ b=v)
  (h0:X4 P l k t d x y=some r):Zt P A E l pend ((execOp ρ o).run P E.w) k r:=by
 unfold X4 at h0;split at h0
 case h_2=>cases h0
 case h_1 el n c hT hn hc=>
  obtain⟨kd,rfl⟩:=Uq hn hx;obtain⟨kd',rfl⟩:=Uq hc hy;split at h0
  case h_2=>cases h0
  case h_1 i zs hi hz=>
   obtain⟨hb,hk⟩:=Za h0;simp only[Zmq,decide_eq_true_iff]at hb;obtain⟨⟨⟨⟨hb1,hb2⟩,hb3⟩,hb4⟩,hb5⟩:=hb;have hs0:i.size≠0:=by intro e;rw[e]at hb5;cases hb5
   obtain⟨i',z,hi',hiz,hrun,hlen,hrc⟩:=Y9 hz E.w;rw[hi]at hi';injection hi' with hi';subst hi'
   have w1:=wrap_small hb1 (by omega);have w2:=wrap_small (by omega:0<=c) hb4;have hzs:z.cells.size=i.size:=by have:=(hrc E.w E.Pr).len;simp at this;omega
   have hnot: ¬((decide (c<0)||decide ((i.bytes:Int)*c>2^48))||decide (n<0)||decide (n>c))=true:=by
    simp only[Zn7,decide_eq_true_iff,not_or];refine⟨⟨⟨by omega, ?_⟩,by omega⟩,by omega⟩;have:(2:Int)^48=281474976710656:=by decide
    rw[this];omega
   have hrun2:(execOp ρ o).run P E.w= .ok (.value (.slice (some ⟨E.w.heap.size,0,none⟩) n.toNat c.toNat)) (E.w.alloc (.cells ((Zra (c.toNat*i.size)).map (z.cells[· %z.cells.size]!)) el)):=by
    simp only[execOp,ho,hu,hv,Instr.makeSlice,Sem.run_bind,run_underlying hT,Result.andThen_ok,asInt,asIntOf,Sem.run_pure,typeInfo,run_program,hi,w1,w2];rw[if_neg hnot];simp only[Sem.run_bind,run_askRoom,Result.andThen_ok,run_sizeOf hi];by_cases h:c.toNat*i.size=0
    ·rw[if_pos h];have hb0:(Zra (c.toNat*i.size)).map ((#[]:Array Value)[· %(#[]:Array Value).size]!)=(Zra (c.toNat*i.size)).map (z.cells[· %z.cells.size]!):=by simp[h]
     simp only[Sem.run_bind,Sem.run_pure,Result.andThen_ok];rw[hb0];simp[newRow]
    ·rw[if_neg h];simp only[Sem.run_bind,Sem.run_pure,Result.andThen_ok,hrun];simp[newRow]
   rw[hrun2];have hfull:=Sq (hrc E.w E.Pr) c.toNat (.inr trivial);have htk:RCs E.w E.Pr (Qw n.toNat zs) (((Zra (c.toNat*i.size)).map (z.cells[· %z.cells.size]!)).toList.take (Qw n.toNat zs).length):=by
    have h1:=hfull.take (n.toNat*zs.length);have h2:(Qw c.toNat zs).take (n.toNat*zs.length)=Qw n.toNat zs:=by
     have hle:n.toNat<=c.toNat:=by omega
     obtain⟨m,hm⟩:=Nat.exists_eq_add_of_le hle;rw[hm];have:Qw (n.toNat+m) zs=Qw n.toNat zs++Qw m zs:=by simp[Qw,<-List.replicate_append_replicate]
     rw[this,Zo8 (by rw[Qb];exact Zm8 _),Zm1 (by rw[Qb];exact Zm8 _)]
    rw[h2,hlen]at h1;rw[Qb,hlen];exact h1
   refine⟨_,_,_,hk,Kn hG hd (.inr rfl) (Znv _) (by simp[Qb,hlen];exact Zn9 _ (by omega)) htk (.own (g:=E.w.heap.size) (cap:=c.toNat) (t:=el) (fz:=0) (cs:=Qw n.toNat zs) (by simp[Env.new,Env.kill]) (by rw[Zf];rfl) (by omega) (by unfold maxLen;omega) ?_)⟩;rw[Z3 hi];simp[Env.new]
theorem Wg (hG:Good P A E l pend) {t:TypeId} {d:Nat} {a b:Operand} (ho:o.op= .makeSlice t a b) {x y:V} {u v:Value} (hx:RV P E l x u) (hy:RV P E l y v) (hu:ρ a=u) (hv:ρ b=v)
  (h0:Xe P l k t x y=some r):Zt P A E l pend ((execOp ρ o).run P E.w) k r:=by
 unfold Xe at h0;split at h0
 case h_2=>cases h0
 case h_1 el n c hT hn hc=>
  obtain⟨kd,rfl⟩:=Uq hn hx;obtain⟨kd',rfl⟩:=Uq hc hy;split at h0
  case h_2=>cases h0
  case h_1 i zs hi hz=>
   obtain⟨hb,hk⟩:=Za h0;simp only[Zmq,decide_eq_true_iff]at hb;obtain⟨⟨⟨⟨hb1,hb2⟩,hb3⟩,hb4⟩,hb5⟩:=hb;subst hb2;obtain⟨i',z,hi',hiz,hrun,hlen,hrc⟩:=Y9 hz E.w;rw[hi]at hi';injection hi' with hi';subst hi'
   have w1:=wrap_small hb1 (by omega);have hzs:z.cells.size=i.size:=by have:=(hrc E.w E.Pr).len;simp at this;omega
   have hnot: ¬((decide (n<0)||decide ((i.bytes:Int)*n>2^48))||decide (n<0)||decide (n>n))=true:=by
    simp only[Zn7,decide_eq_true_iff,not_or];refine⟨⟨⟨by omega, ?_⟩,by omega⟩,by omega⟩;have:(2:Int)^48=281474976710656:=by decide
    rw[this];omega
   have hrun2:(execOp ρ o).run P E.w= .ok (.value (.slice (some ⟨E.w.heap.size,0,none⟩) n.toNat n.toNat)) (E.w.alloc (.cells ((Zra (n.toNat*i.size)).map (z.cells[· %z.cells.size]!)) el)):=by
    simp only[execOp,ho,hu,hv,Instr.makeSlice,Sem.run_bind,run_underlying hT,Result.andThen_ok,asInt,asIntOf,Sem.run_pure,typeInfo,run_program,hi,w1];rw[if_neg hnot];simp only[Sem.run_bind,run_askRoom,Result.andThen_ok,run_sizeOf hi];by_cases h:n.toNat*i.size=0
    ·rw[if_pos h];have hb0:(Zra (n.toNat*i.size)).map ((#[]:Array Value)[· %(#[]:Array Value).size]!)=(Zra (n.toNat*i.size)).map (z.cells[· %z.cells.size]!):=by simp[h]
     simp only[Sem.run_bind,Sem.run_pure,Result.andThen_ok];rw[hb0];simp[newRow]
    ·rw[if_neg h];simp only[Sem.run_bind,Sem.run_pure,Result.andThen_ok,hrun];simp[newRow]
   rw[hrun2];have hfull:=Sq (hrc E.w E.Pr) n.toNat (.inr trivial);rw[hlen]at hfull;refine⟨_,_,_,hk,Bh hG _ el (.c ?_)⟩;obtain⟨us,q1,q2⟩:=(Bi hG hfull).fn (λj _=> .inr rfl);exact .sl (Zm8 _) (by unfold maxLen;omega) q1 q2
theorem Jm: ∀(ps:List (List C)),(ps.all λp=>Zqv p.length 1)=true-> ∃cs:List C,ps=cs.map (λc=>[c])/\ps.flatten=cs
 | [],_=>⟨[],rfl,rfl⟩
 |p::ps,h=>by
  rw[Zoq,Zmq]at h;obtain⟨cs,e1,e2⟩:=Jm ps h.2;have hp:p.length=1:=Zmp h.1
  match p,hp with
  | [c],_=>exact⟨c::cs,by simp[e1],by simp[e2]⟩
theorem Wh {strict:Bool}: ∀{xs:List V} {us:List Value} {l:Loc} {E:Env} {pend:Nat->Prop} (_:Good P A E l pend) (_:us.length=xs.length) (_: ∀(j:Nat) (x:V) (u:Value),xs[j]? =some x->us[j]? =some u->RV P E l x u)
  {kk:List (List C)->Loc->Option R} (_:Nx P strict xs l kk=some r) (_:xs.all Zbo=true),∀u∈us,u.oneCell'=true
 | [],[],_,_,_,_,_,_,_,_,_=>by simp
 | [],_::_,_,_,_,_,hl,_,_,_,_=>by simp at hl
 |_::_,[],_,_,_,_,hl,_,_,_,_=>by simp at hl
 |x::xs,u::us,l,E,pend,hG,hl,hx,kk,h,h1=>by
  rw[Zoq,Zmq]at h1;have hu:=Rf (hx 0 x u rfl rfl) h h1.1;obtain⟨cs,l1,E1,hk,hG1,hM,_,_⟩:=Xf hG (hx 0 x u rfl rfl) h;intro v hv;rcases Znl.1 hv with rfl|hv
  ·exact hu
  ·exact Wh hG1 (by simpa using hl) (λj y w hy hw=>hM.rv (hx (j+1) y w (by simpa using hy) (by simpa using hw))) hk h1.2 v hv
theorem Wi (hG:Good P A E l pend) {f:FuncId} {first cap:Array Operand} {strict:Bool} (ho:o.op= .makeFunc (.func f) first cap) (hf:first.toList=[]) {e:Operand->V} (hop: ∀y∈cap.toList,RV P E l (e y) (ρ y))
  (hone:(cap.toList.map e).all Zbo=true) (h0:Y8 P l k strict f (cap.toList.map e)=some r):Zt P A E l pend ((execOp ρ o).run P E.w) k r:=by
 have hfe:first= #[]:=by apply Zrc;simpa using hf
 subst hfe;unfold Y8 at h0;have hones:=Wh (us:=cap.toList.map ρ) hG (by simp) (Bj hop) h0 hone;obtain⟨ps,l1,E1,hk,hG1,hM,hl,hp,_⟩:=Rc (us:=cap.toList.map ρ) hG (by simp) (Bj hop) h0;obtain⟨hb,hk2⟩:=Za hk;obtain⟨cs,e1,e2⟩:=Jm ps hb;rw[e2]at hk2;have hrun:(execOp ρ o).run P E.w= .ok (.value (.func (.func f) #[] (cap.toList.map ρ).toArray)) E.w:=by
  simp[execOp,ho,Instr.makeFunc];apply Zrc;simp
 rw[hrun];refine .mild hG1 hM hk2 (.c (.fn ?_ ?_))
 ·rw[<-hl,e1];simp
 ·intro j c u hc hu;have h1:=hp j [c] u (by rw[e1];simp[hc]) hu;rw[cells_one (hones u (Zm4 hu))]at h1;obtain⟨v,vs,e3,h3,_⟩:=h1.uncons;simp at e3;rw[e3.1];exact h3
theorem Bm (hG:Good P A E l pend) {f:FuncId} {first cap:Array Operand} {own strict:Bool} (ho:o.op= .makeFunc (.func f) first cap) (hf:first.toList=[]) {e:Operand->V} (hop: ∀y∈cap.toList,RV P E l (e y) (ρ y))
  (hone:(cap.toList.map e).all Zbo=true) (h0:Ue P l k own strict f (cap.toList.map e)=some r):Zt P A E l pend ((execOp ρ o).run P E.w) k r:=by
 unfold Ue at h0;split at h0
 ·unfold La at h0;split at h0
  ·rename_i s off hx;obtain⟨hb,hk⟩:=Za h0;rw[Zmq]at hb;have e0:=Zmp hb.1;subst e0;have hfe:first= #[]:=by apply Zrc;simpa using hf
   subst hfe;have hrun:(execOp ρ o).run P E.w= .ok (.value (.func (.func f) #[] (cap.toList.map ρ).toArray)) E.w:=by
    simp[execOp,ho,Instr.makeFunc];apply Zrc;simp
   rw[hrun];cases hc:cap.toList with
   |nil=>rw[hc]at hx;cases hx
   |cons a as=>
    rw[hc]at hx;simp only[Zn0,List.cons.injEq,List.map_eq_nil_iff]at hx;obtain⟨e1,rfl⟩:=hx;have hv:=hop a (by rw[hc];simp);rw[e1]at hv;refine .quiet hG hk ?_;show RV P E l (.clo f s) (.func (.func f) #[] #[ρ a]);generalize ρ a=u at hv;cases hv with
    |ptrDead hd=>exact .cloDead hd
    |ptr hr=>exact .clo hr
  ·cases h0
 ·exact Wi hG ho hf hop hone h0
def Env.set (E:Env) (g:Nat) (cur:Array Value):Env:={E with w:=E.w.setRow g cur}
theorem setRow_size (w:World) (g:Nat) (cs:Array Value):(w.setRow g cs).heap.size=w.heap.size:=by simp[World.setRow]
theorem Pa (hG:Good P A E l pend) {s g:Nat} (hr:E.rho s=some g) {cur cur':Array Value} {t:TypeId} (hg:E.w.heap[g]? =some (.cells cur t (0,0))) (hsz:cur'.size=cur.size)
  {ob:Obj} (hfz:ob.fz=(l s).fz) (hsame: ∀j,j<(l s).fz->cur'[j]? =cur[j]?) (hob:Zo E.w E.Pr (E.set g cur').w (E.set g cur').Pr->(∀s',Zi E (E.set g cur') l (l.put s ob) s')->ObjOk P (E.set g cur') (l.put s ob) s ob) (hsh:Sh l (l.put s ob) s) (hrk: ∀E',E'.rb=E.rb->E'.rc=E.rc->Rk E E' l (l.put s ob) s):
  Good P A (E.set g cur') (l.put s ob) pend/\Zo E.w E.Pr (E.set g cur').w (E.set g cur').Pr/\ ∀s',Zi E (E.set g cur') l (l.put s ob) s':=by
 have hlt:=hG.lt hr;have hgn:(E.set g cur').w.heap[g]? =some (.cells cur' t (0,0)):=setRow_heap E.w g cur cur' t (0,0) hg;have hx:Zo E.w E.Pr (E.set g cur').w (E.set g cur').Pr:=by
  intro b k hp;refine⟨hp, ?_⟩;by_cases hb:b=g
  ·subst hb;have hk:=(hG.prot b k hp).2 s hr;refine⟨?_,(T4 hgn).trans (T4 hg).symm⟩;rw[cell_of_row _ b k cur' t (0,0) hgn,cell_of_row _ b k cur t (0,0) hg];exact hsame k hk
  ·exact⟨World.cell?_of_block (w:=E.w) (setRow_other E.w g b cur' hb),Xi (setRow_other E.w g b cur' hb)⟩
 have hk: ∀s',Zi E (E.set g cur') l (l.put s ob) s':=by
  intro s';by_cases hne:s'=s
  ·subst hne;exact .inr ⟨hG.ne_dead hr,rfl,rfl,hsh,hrk _ rfl rfl⟩
  ·by_cases hd:l s'= .dead
   ·exact .inl ((Zc l ob hne).trans hd)
   ·exact .inr ⟨hd,rfl,rfl, .same (Zc l ob hne), .same (Zc l ob hne)⟩
 have hps: ¬pend s:=λhp=>by rw[(hG.pnd s hp).1]at hr;cases hr
 refine⟨⟨λs' hp=> ?_,λs' hp=> ?_,hG.inj,hG.base,λb k hp=>⟨?_,λa ha=> ?_⟩,hG.jstep rfl rfl hx (λ_ _ h=> .inl h) (λb hb=>setRow_other E.w g b cur' (λe=>hG.yown s g hr (e▸hb))) (Zoy (setRow_size E.w g cur').symm) rfl rfl rfl,hG.pr0.trans hx,hG.prN, ?_,hG.os,hG.tape,hG.output,hG.dr,hG.yok,hG.yown,λb hb=>Zne (hG.ylt b hb) (Zoy (setRow_size E.w g cur').symm),λr hr'=>⟨(setRow_other E.w g r cur' (λe=>by have h1:=(hG.dm r hr').1;rw[e,hg]at h1;cases h1)).trans (hG.dm r hr').1,(hG.dm r hr').2⟩,Uy hG.rbo (λ_ _ _ e=>e) (λ_ _ e=> .inl e) (λ_ _ e=> .inl e) (λ_ e=> .inl e) λb _ hb _=>setRow_other E.w g b cur' (λe=>hb s (e▸hr))⟩,hx,hk⟩
 ·by_cases hne:s'=s
  ·subst hne;rw[Zf];exact hob hx hk
  ·rw[Zc l ob hne];refine(hG.obj s' hp).keep hx rfl rfl (λg' hg'=> ?_) (λ_ _ _ hu=>hu.mono0 hx hk) λj=>⟨rfl,λg' hg'=> ?_⟩
   ·exact setRow_other E.w g g' cur' (λe=>hne (hG.inj s' s g (e▸hg') hr))
   ·exact setRow_other E.w g g' cur' (λe=>(hG.rbo _ _ _ hg').rho s (e▸hr))
 ·obtain⟨h1,cs',hz,ho'⟩:=hG.pnd s' hp;exact⟨h1,cs',hz,(Zc l ob (λ(e:s'=s)=>hps (e▸hp))).trans ho'⟩
 ·have:=(hG.prot b k hp).1;show b<(E.w.setRow g cur').heap.size;rw[setRow_size];exact this
 ·by_cases hne:a=s
  ·subst hne;rw[Zf,hfz];exact(hG.prot b k hp).2 a ha
  ·rw[Zc l ob hne];exact(hG.prot b k hp).2 a ha
 ·show _<=(E.w.setRow g cur').heap.size;rw[setRow_size];exact hG.size
theorem Zhf {cur:Array Value} {off:Nat} {v:Value} (h:off<cur.size) (j:Nat):((cur.toList.take off++[v]++cur.toList.drop (off+1)).toArray)[j]? =if j=off then some v else cur[j]? :=by
 rw[Zpf,Zny,Zn2];have hl:(cur.toList.take off).length=off:=by simp;omega
 rw[hl];split
 ·rename_i h1;rw[if_neg (by omega),Znc,if_pos h1];simp
 ·rename_i h1;rw[Zn2];split
  ·rename_i h2;have:j=off:=by simp at h2;omega
   subst this;simp
  ·rename_i h2;have: ¬j=off:=by simp at h2;omega
   rw[if_neg this,Znd];have:off+1+(j-off-[v].length)=j:=by simp;omega
   rw[this];simp
theorem Rws.at_put {q:Rws} {j:Nat} {te:TypeId} {row row0:List C} (h:q.at j=some (.r te row0)) (i:Nat):(q.put j te row).at i=if i=j then some (.r te row)else q.at i:=by
 cases q with
 |ps l=>
  have hj:j<l.length:=(Zmx.1 h).1;show(l.set j _)[i]? =_;by_cases e:i=j
  ·subst e;rw[if_pos rfl,Zoz hj]
  ·rw[if_neg e,Zo5 (Ne.symm e)];rfl
 |rs te' rows=>
  obtain⟨r,hr,e0⟩:=Znq.1 h;injection e0 with e1 e2;subst e1
  have hj:j<rows.length:=(Zmx.1 hr).1;show((rows.set j row)[i]?).map _=_;by_cases e:i=j
  ·subst e;rw[if_pos rfl,Zoz hj];rfl
  ·rw[if_neg e,Zo5 (Ne.symm e)];rfl
theorem Rws.len_put (q:Rws) (j:Nat) (te:TypeId) (row:List C):(q.put j te row).len=q.len:=by cases q<;>simp[Rws.put,Rws.len]
theorem Wj: ∀{ps:List PC} {cs:List C} (_:ps.mapM pcC=some cs),ps=cs.map .c
 | [],cs,h=>by simp at h;subst h;rfl
 |p::ps,cs,h=>by
  cases p with
  |r te row=>simp[pcC]at h
  |c c=>
   simp only[Zqa,pcC]at h;cases hm:ps.mapM pcC with
   |none=>rw[hm]at h;cases h
   |some cs'=>
    rw[hm]at h;injection h with h;subst h
    simp[Wj hm]
theorem Zby (hG:Good P A E l pend) {t:TypeId} {a b:Operand} (ho:o.op= .store t a b) {s off g':Nat} {t':TypeId} {q:Rws} {pe:Option (Nat×TypeId×List C)} (hl:l s= .pk g' t' q pe) {y:V} {u v:Value}
  (hx:RV P E l (.ptr s off) u) (hy:RV P E l y v) (hu:ρ a=u) (hv:ρ b=v) (h0:X3 P l k t s off g' t' q pe y=some r):Zt P A E l pend ((execOp ρ o).run P E.w) k r:=by
 obtain⟨hb,h0⟩:=Za h0;rw[Zmq]at hb;have hs1:=Zmp hb.1;obtain⟨i,hi⟩:=Zng.1 hb.2;obtain⟨g,cur,hr,hps,hg,hlen,hbs,hcs,hpd⟩:=Lg hG hl;have hu':u= .pointer (some ⟨g,off,none⟩):=by
  cases hx with
  |ptrDead hd=>rw[hd]at hl;cases hl
  |ptr hr'=>rw[hr]at hr';injection hr' with hr';subst hr';rfl
 have hfz0:(l s).fz=0:=by rw[hl];rfl
 have key:off<cur.size->v.oneCell'=true-> ∀ob:Obj,ob.fz=0->En ob=true\/(∃a b c,ob= .pk (Zq4 g') a b c)->
   (∀cur':Array Value,cur'.size=cur.size->(∀j:Nat,cur'[j]? =if j=off then some v else cur[j]?)->Zo E.w E.Pr (E.set g cur').w (E.set g cur').Pr->(∀s',Zi E (E.set g cur') l (l.put s ob) s')->(E.set g cur').w.heap[g]? =some (.cells cur' t' (0,0))->ObjOk P (E.set g cur') (l.put s ob) s ob)->
   k .und (l.put s ob) []=some r->Zt P A E l pend ((execOp ρ o).run P E.w) k r:=by
  intro hlt hone ob hofz hkind hok hk
  let cur':Array Value:=(cur.toList.take off++[v]++cur.toList.drop (off+1)).toArray
  have hcs':cur'.size=cur.size:=by simp[cur'];omega
  have hst:=run_storeCells_at P g off t' [v] 0 cur E.w hg (by simp;omega) (by simpa using hone);have hrun:(execOp ρ o).run P E.w= .ok .skip (E.w.setRow g cur'):=by
   have hsz:v.cells.size=i.size:=by rw[<-Z3 hi,hs1,cells_one hone];rfl
   simp only[execOp,ho,hu,hv,hu',Instr.storeAt,Instr.sureAddr,storeVar,Sem.run_bind,Sem.run_pure,Result.andThen_ok,run_sizeOf hi];rw[if_neg (by simp[hsz]),cells_one hone,hst];simp[cur']
  rw[hrun];obtain⟨q1,q2,q3⟩:=Pa hG (s:=s) hr hg hcs' (ob:=ob) (by rw[hfz0];exact hofz) (λj hj=>by rw[hfz0]at hj;omega)
   (λhx' hk'=>hok cur' hcs' (Zhf hlt) hx' hk' (setRow_heap E.w g cur cur' t' (0,0) hg))
   ⟨(λ_ _ e=>by rw[hl]at e;cases e),(λ_ _ _ e=>by rw[hl]at e;cases e),λe=>by rw[hl]at e;cases e⟩
   (λE' e1 e2=>by
    rcases hkind with h|⟨a,b,c,rfl⟩
    ·cases ob<;>simp[En]at h
     ·exact .no (Zf _ _ _) rfl rfl
     ·exact .no (Zf _ _ _) rfl rfl
    ·exact .inr (.inr (.inr ⟨g',Zq4 g',pe.isSome,c.isSome,by rw[hl];rfl,by rw[Zf];rfl,Zp3 _⟩)))
  exact⟨_,_,_,hk,_,rfl,⟨q1,rfl⟩, .und,λz v' hz' _=>hz'.mono0 q2 q3⟩
 have keepP: ∀{cur':Array Value} {j:Nat} {p:PC} {u:Value},Zo E.w E.Pr (E.set g cur').w (E.set g cur').Pr->Bb P E s j p u->Bb P (E.set g cur') s j p u:=λ{cur' j p u} hx' h=>
  h.keep hx' ⟨rfl,λg2 hg2=>setRow_other E.w g g2 cur' (λe=>(hG.rbo _ _ _ hg2).rho s (e▸hr))⟩ rfl
 have keepR: ∀{cur':Array Value} {j:Nat} {te:TypeId} {row:List C} {u:Value},Zo E.w E.Pr (E.set g cur').w (E.set g cur').Pr->Vo P E s j te row u->Vo P (E.set g cur') s j te row u:=λ{cur' j te row u} hx' h=>
  h.keep hx' ⟨rfl,λg2 hg2=>setRow_other E.w g g2 cur' (λe=>(hG.rbo _ _ _ hg2).rho s (e▸hr))⟩ rfl
 cases y with
 |rp s2 g2 j2 n=>
  cases pe with
  |none=>cases h0
  |some e=>
  obtain⟨j,te,row⟩:=e;obtain⟨hb2,hk⟩:=Za h0;simp only[Zmq]at hb2;obtain⟨⟨⟨⟨e1,e2⟩,e3⟩,e4⟩,e5⟩:=hb2;have e1:=Zmp e1;have e2:=Zmp e2;have e3:=Zmp e3;have e4:=Zmp e4;have hn:=Zmp e5;subst e1 e2 e3 e4;obtain⟨hz,⟨p0,hp0⟩,v0,hv0⟩:=hpd _ te row rfl;have hvv:Mr E s2 off n v:=by
   cases hy with
   |rpOff h=>have:=h.2 _ _ (show gen (l s2)=_ by rw[hl];rfl);omega
   |rp _ h=>exact h
  have hve:v=v0:=hvv.eq hv0 hz hn;subst hve;have hlt:=Rws.at_lt hp0;refine key (Zne hlt hlen) hv0.1.one _ rfl (.inr ⟨_,_,_,rfl⟩) (λcur' c1 c2 hx' hk' c3=> .pk hr c3 (by rw[c1,Rws.len_put];exact hlen) (hbs.trans c1.symm) (λi p w hp hw=> ?_) λ_ _ _ e=>by cases e) hk;rw[Rws.at_put hp0]at hp;rw[c2]at hw;by_cases e:i=off
  ·subst e;rw[if_pos rfl]at hp hw;injection hp with hp;injection hw with hw;subst hp hw
   exact⟨hv0.1.one,λ_=>⟨hz,keepR hx' hv0⟩⟩
  ·rw[if_neg e]at hp hw;obtain⟨o1,o2⟩:=hcs i p w hp hw;exact⟨o1,λ_=>keepP hx' (o2 λe' he=>by injection he with he;subst he;exact Ne.symm e)⟩
 |c c=>
  cases pe with
  |some e=>cases h0
  |none=>
  cases q with
  |rs te rows=>cases h0
  |ps ps=>
   obtain⟨hb2,hk⟩:=Za h0;have hlt:off<ps.length:=Zmu hb2;cases hy with|c hc=>
   refine key (Zne hlt hlen) hc.one _ rfl (.inr ⟨_,_,_,rfl⟩) (λcur' c1 c2 hx' hk' c3=> .pk hr c3 (by rw[c1];simpa[Rws.len]using hlen) (hbs.trans c1.symm) (λj p w hp hw=> ?_) λ_ _ _ e=>by cases e) hk;have hp':(ps.set off (.c c))[j]? =some p:=hp;rw[c2]at hw;by_cases e:j=off
   ·subst e;rw[Zoz hlt]at hp';rw[if_pos rfl]at hw;injection hp' with hp';injection hw with hw;subst hp' hw
    exact⟨hc.one,λ_=>RC.held hx' hc⟩
   ·rw[Zo5 (Ne.symm e)]at hp';rw[if_neg e]at hw;obtain⟨o1,o2⟩:=hcs j p w hp' hw;exact⟨o1,λ_=>keepP hx' (o2 λe he=>by cases he)⟩
 |ws s2 n2=>
  cases pe with
  |some e=>cases h0
  |none=>
  cases q with
  |rs te rows=>cases h0
  |ps ps=>
   simp only at h0;split at h0
   case h_2=>cases h0
   case h_1 cs hcsm=>
    obtain⟨hb2,hk⟩:=Za h0;simp only[Zmq]at hb2;have hlt:off<ps.length:=Zmu hb2.1.1;have hps2:=Wj hcsm;subst hps2;have hone:v.oneCell'=true:=by
     cases hy with
     |wsDead hd=>rw[hd]at hb2;cases hb2.1.2
     |ws _ _=>rfl
    have hltc:off<cur.size:=Zne hlt hlen;have hl2:cs.length<=cur.size:=by simpa[Rws.len]using hlen
    have hlt2:off<cs.length:=by simpa using hlt
    have hpl:(putAtV (cs.map .c) off [.ws s2 n2]).length=cs.length:=by simp[putAtV];omega
    refine key hltc hone _ rfl (.inl rfl) (λcur' c1 c2 hx' hk' c3=> .mx hr c3 (by rw[c1,hpl];exact hl2) (λj x w hxx hw=> ?_) (hbs.trans c1.symm)) hk;rw[c2]at hw;have hat:(putAtV (cs.map .c) off [.ws s2 n2])[j]? =if j=off then some (.ws s2 n2)else(cs[j]?).map .c:=by
     unfold putAtV;rw[Zny,Zn2];have h1:((cs.map V.c).take off).length=off:=by simp;omega
     rw[h1];split
     ·rename_i h2;rw[if_neg (by omega),Znc,if_pos h2,Zm9]
     ·rename_i h2;rw[Zn2];split
      ·rename_i h3;have:j=off:=by simp at h3;omega
       subst this;simp
      ·rename_i h3;have: ¬j=off:=by simp at h3;omega
       rw[if_neg this,Znd];have:off+[V.ws s2 n2].length+(j-off-[V.ws s2 n2].length)=j:=by simp at h3⊢;omega
       rw[this,Zm9]
    rw[hat]at hxx;by_cases e:j=off
    ·subst e;rw[if_pos rfl]at hxx hw;injection hxx with hxx;injection hw with hw;subst hxx hw
     exact⟨hy.mono0 hx' hk',hone⟩
    ·rw[if_neg e]at hxx hw;obtain⟨c,hc,rfl⟩:=Znq.1 hxx;obtain⟨o1,o2⟩:=hcs j (.c c) w (by show(cs.map PC.c)[j]? =_;rw[Zm9,hc];rfl) hw;exact⟨.c (RC.held hx' (o2 λe he=>by cases he)),o1⟩
 |_=>cases pe<;>cases h0
theorem Zhg (hG:Good P A E l pend) {t:TypeId} {a b:Operand} {strict mix:Bool} (ho:o.op= .store t a b) {x y:V} {u v:Value} (hx:RV P E l x u) (hy:RV P E l y v) (hu:ρ a=u) (hv:ρ b=v)
  (h0:Xo P l k strict mix t x y=some r):Zt P A E l pend ((execOp ρ o).run P E.w) k r:=by
 unfold Xo at h0;split at h0
 case h_2=>cases h0
 case h_1 s off=>
  have hobj:Xl P l k strict t s off y=some r->Zt P A E l pend ((execOp ρ o).run P E.w) k r:=by
   intro h;unfold Xl at h;obtain⟨xs,l1,E1,hk,hG1,hM,hc,_⟩:=Xf hG hy h;have hx1:=hM.rv hx;have main: ∀t' fz cs (mk:List C->Obj),Z4 (l1 s)=some (t',fz,cs)->(∀q,Z4 (mk q)=some (t',fz,q))->(mk (putAt cs off xs)).fz=fz->Sh l1 (l1.put s (mk (putAt cs off xs))) s->(∀E',Rk E1 E' l1 (l1.put s (mk (putAt cs off xs))) s)->
     (∀E' l',Blk E' s (((E1.rho s).getD 0)) t' (putAt cs off xs)->E'.rho s=some ((E1.rho s).getD 0)->fz<=(putAt cs off xs).length->ObjOk P E' l' s (mk (putAt cs off xs)))->
     xs.length=Zg P t->fz<=off->off+xs.length<=cs.length->(∃i,P.info? t=some i)->k .und (l1.put s (mk (putAt cs off xs))) []=some r->Zt P A E l pend ((execOp ρ o).run P E.w) k r:=by
    intro t' fz cs mk hl hmk hmf hsh hrk hok hlen hfz hle hi hk;cases hx1 with
    |ptrDead hd=>rw[hd]at hl;cases hl
    | @ptr _ _ g hr=>
     obtain⟨⟨cur,hg,hbs,hcl,hcc⟩,hfl⟩:=Tm hG1 hl hr;have hpl:(putAt cs off xs).length=cs.length:=by simp[putAt];omega
     have hvl:v.cells.toList.length=xs.length:=hc.len
     let cur':Array Value:=(cur.toList.take off++v.cells.toList++cur.toList.drop (off+v.cells.toList.length)).toArray
     have hcs:cur'.size=cur.size:=by simp[cur']at hvl⊢;omega
     obtain⟨i,hi⟩:=hi;have hst:=run_storeCells_at P g off t' v.cells.toList 0 cur E1.w hg (by rw[hvl];omega) hc.ones;have hrun:(execOp ρ o).run P E.w= .ok .skip (E1.w.setRow g cur'):=by
      have hsz:v.cells.size=i.size:=by rw[<-Z3 hi,<-hlen,<-hvl];simp
      simp only[execOp,ho,hu,hv,Instr.storeAt,Instr.sureAddr,storeVar,Sem.run_bind,Sem.run_pure,Result.andThen_ok,run_sizeOf hi];rw[if_neg (by simp[hsz])];rw[<-hM.w,hst];simp[cur']
     rw[hrun];obtain⟨q1,q2,q3⟩:=Pa hG1 (s:=s) hr hg hcs (ob:=mk (putAt cs off xs)) (by rw[hmf];rcases Y6 hl with e|e<;>rw[e]<;>rfl) (λj hj=>by
       have hfz':(l1 s).fz=fz:=by rcases Y6 hl with e|e<;>rw[e]<;>rfl
       rw[hfz']at hj;have hjc:j<cur.size:=by omega
       simp only[cur',Zpf];rw[Zny,Znt (by simp;omega),Znc,if_pos (by omega)];simp) (λhx' hk'=>hok _ _ ⟨cur',by rw[hr];exact setRow_heap E1.w g cur cur' t' (0,0) hg,hcs.trans hbs,by rw[hpl,hcs];exact hcl,by
        have h1:=(hcc.held hx').putAt (hc.held hx') off;have h2:cur'.toList.take (putAt cs off xs).length=(cur.toList.take cs.length).take off++v.cells.toList++(cur.toList.take cs.length).drop (off+v.cells.toList.length):=by
         rw[hpl];simp only[cur'];rw[Zqt,Zol (by omega),List.drop_take];rw[Zny,Zpi,Zny];simp only[Znr];have e1:min off cur.toList.length=off:=by simp;omega
         rw[e1,Zm1 (by simp;omega),Zpi]
         congr 1
         rw[Zm1 (by omega)]
         congr 2
         omega
        rw[h2];exact h1⟩ (by rw[hr];exact hr) (by rw[hpl];exact hfl)) hsh (λ_ _ _=>hrk _)
     refine⟨_,_,_,hk,Up.of_mild hM ⟨_,rfl,⟨q1,rfl⟩, .und,λy' v' hy' _=>hy'.mono0 q2 q3⟩⟩
   split at hk
   ·rename_i t' fz cs hl;obtain⟨hb,hk2⟩:=Za hk;rw[Zmq,Zmq,Zmq]at hb;obtain⟨hb,hinf⟩:=hb;refine main t' fz cs (λq=> .ob t' fz q) (by rw[hl];rfl) (λ_=>rfl) rfl ⟨(λ_ _ e=>by rw[hl]at e;cases e),λ_ _ _ e=> .inl ⟨fz,putAt cs off xs,by rw[hl]at e;injection e with e;injection e with e1 _;subst e1;rw[Zf];rfl⟩,(λe=>by rw[hl]at e;cases e)⟩ (λ_=> .ob (by rw[Zf];rfl) (by rw[hl];rfl))
     (λE' l' h1 h2 h3=> .ob h2 h1 h3) (Zmp hb.1.1) (Zmu hb.1.2) (Zmu hb.2) (Zng.1 hinf) hk2
   ·rename_i t' fz cs hl;obtain⟨hb,hk2⟩:=Za hk;rw[Zmq,Zmq,Zmq]at hb;obtain⟨hb,hinf⟩:=hb;have hle:=Zmu hb.2;refine main t' fz cs (λq=> .sb t' fz q) (by rw[hl];rfl) (λ_=>rfl) rfl ⟨(λt2 fz2 e=>by
      rw[hl]at e;injection e with e1 e2 e3;subst e1 e3
      have hle2:off+xs.length<=0:=hle;have hxs:xs=[]:=Zna (by omega);have ho0:off=0:=by omega
      exact⟨fz,by rw[Zf,hxs,ho0];rfl⟩),λ_ _ _ e=> .inl ⟨fz,putAt cs off xs,by rw[hl]at e;injection e with e;injection e with e1 _;subst e1;rw[Zf];rfl⟩,(λe=>by rw[hl]at e;cases e)⟩ (λ_=> .no (Zf _ _ _) rfl rfl)
     (λE' l' h1 h2 h3=> .sb h2 h1 h3) (Zmp hb.1.1) (Zmu hb.1.2) hle (Zng.1 hinf) hk2
   ·cases hk
  have hmx: ∀t' (xs:List V),(l s= .mx t' xs\/ ∃cs,l s= .ob t' 0 cs/\xs=cs.map .c)->Yk P l k t s off t' xs y=some r->Zt P A E l pend ((execOp ρ o).run P E.w) k r:=by
   intro t' xs hl h;have hdead:l s≠ .dead:=by rcases hl with e|⟨_,e,_⟩<;>rw[e]<;>simp
   have hfz0:(l s).fz=0:=by rcases hl with e|⟨_,e,_⟩<;>rw[e]<;>rfl
   cases hx with
   |ptrDead hd=>exact absurd hd hdead
   | @ptr _ _ g hr=>
    have hb1: ∃cur:Array Value,E.w.heap[g]? =some (.cells cur t' (0,0))/\xs.length<=cur.size/\(∀(j:Nat) (x:V) (u:Value),xs[j]? =some x->cur[j]? =some u->RV P E l x u/\u.oneCell'=true)/\E.bs s=cur.size:=by
     rcases hl with e|⟨cs,e,rfl⟩
     ·exact Wa hG e hr
     ·obtain⟨⟨cur,q1,q2,q3,q4⟩,_⟩:=Tm hG (show Z4 (l s)=some (t',0,cs) by rw[e];rfl) hr;refine⟨cur,q1,by simpa using q3,λj x u hx hu=> ?_,q2.symm⟩;rw[Zm9]at hx;obtain⟨c,hc,rfl⟩:=Znq.1 hx;have hlt:j<cs.length:=(Zmx.1 hc).1;have h1:=q4.2 j c u hc (by rw[Znc,if_pos hlt];simpa using hu);exact⟨.c h1,h1.one⟩
    obtain⟨cur,hg,hlen,hxx,hbs⟩:=hb1;have key: ∀ys:List V,(∀(j:Nat) (x:V) (u:Value),ys[j]? =some x->v.cells.toList[j]? =some u->RV P E l x u/\u.oneCell'=true)->v.cells.toList.length=ys.length->off+ys.length<=xs.length->ys.length=Zg P t->(∃i,P.info? t=some i)->k .und (l.put s (.mx t' (putAtV xs off ys))) []=some r->Zt P A E l pend ((execOp ρ o).run P E.w) k r:=by
     intro ys hys hvl hle hs1 hi hk;obtain⟨i,hi⟩:=hi;have hone: ∀u∈v.cells.toList,u.oneCell'=true:=λu hu=>by
      obtain⟨j,hj,rfl⟩:=Znp.1 hu;exact(hys j ys[j] _ (Zm0 (by omega)) (Zm0 hj)).2
     let cur':Array Value:=(cur.toList.take off++v.cells.toList++cur.toList.drop (off+v.cells.toList.length)).toArray
     have hcs:cur'.size=cur.size:=by simp[cur']at hvl⊢;omega
     have hst:=run_storeCells_at P g off t' v.cells.toList 0 cur E.w hg (by rw[hvl];omega) hone;have hrun:(execOp ρ o).run P E.w= .ok .skip (E.w.setRow g cur'):=by
      have hsz:v.cells.size=i.size:=by rw[<-Z3 hi,<-hs1,<-hvl];simp
      simp only[execOp,ho,hu,hv,Instr.storeAt,Instr.sureAddr,storeVar,Sem.run_bind,Sem.run_pure,Result.andThen_ok,run_sizeOf hi];rw[if_neg (by simp[hsz]),hst];simp[cur']
     rw[hrun];have hpl:(putAtV xs off ys).length=xs.length:=by simp[putAtV];omega
     obtain⟨q1,q2,q3⟩:=Pa hG (s:=s) hr hg hcs (ob:= .mx t' (putAtV xs off ys)) (by rw[hfz0];rfl) (λj hj=>by rw[hfz0]at hj;omega)
      (λhx' hk'=> .mx hr (setRow_heap E.w g cur cur' t' (0,0) hg) (by rw[hpl,hcs];exact hlen) (λj x u hx hu=>by
       have hlist:cur'.toList=cur.toList.take off++v.cells.toList++cur.toList.drop (off+v.cells.toList.length):=by simp[cur']
       have hu':(cur.toList.take off++v.cells.toList++cur.toList.drop (off+v.cells.toList.length))[j]? =some u:=by rw[<-hlist];simpa using hu
       have fin:RV P E l x u/\u.oneCell'=true:=by
        unfold putAtV at hx;have hol:off<=cur.toList.length:=by simp;omega
        have hox:off<=xs.length:=by omega
        rw[Zny,Zn2]at hx hu';simp only[Znr,Zol hol,Zol hox]at hx hu';by_cases hj:j<off
        ·rw[if_pos hj,Znc,if_pos hj]at hx hu';exact hxx j x u hx (by simpa using hu')
        ·rw[if_neg hj,Zn2]at hx hu';rw[hvl]at hu';by_cases hj2:j-off<ys.length
         ·rw[if_pos hj2]at hx hu';exact hys _ x u hx hu'
         ·rw[if_neg hj2,Znd]at hx hu';exact hxx _ x u hx (by simpa using hu')
       exact⟨fin.1.mono0 hx' hk',fin.2⟩) (hbs.trans hcs.symm))
      ⟨(λ_ _ e=>by rcases hl with h'|⟨_,h',_⟩<;>rw[h']at e<;>cases e),λ_ _ _ _=> .inr (by rw[Zf];rfl),λ_=>by rw[Zf];rfl⟩ (λ_ _ _=> .no (Zf _ _ _) rfl rfl)
     exact⟨_,_,_,hk,_,rfl,⟨q1,rfl⟩, .und,λz v' hz' _=>hz'.mono0 q2 q3⟩
    have one: ∀y',RV P E l y' v->v.oneCell'=true->Zqw (off+1) xs.length=true->Zqv (Zg P t) 1=true->(P.info? t).isSome=true->k .und (l.put s (.mx t' (putAtV xs off [y']))) []=some r->Zt P A E l pend ((execOp ρ o).run P E.w) k r:=by
     intro y' hy' hone hb1 hb2 hb3 hk;refine key [y'] (λj x u hx hu=> ?_) (by rw[cells_one hone];rfl) (Zmu hb1) (Zmp hb2).symm (Zng.1 hb3) hk;rw[cells_one hone]at hu;cases j with
     |zero=>simp at hx hu;subst hx hu;exact⟨hy',hone⟩
     |succ j=>simp at hx
    unfold Yk at h;split at h
    ·obtain⟨hb,hk⟩:=Za h;simp only[Zmq]at hb;obtain⟨⟨⟨hb1,hb2⟩,hb3⟩,hl'⟩:=hb;refine one _ hy ?_ hb1 hb2 hb3 hk;cases hy with
     |ownDead hd=>rw[hd]at hl';cases hl'
     |ownMx hd=>obtain⟨q,hl'⟩:=Zng.1 hl';exact(Uk hd hl').elim
     |ownNil _ _=>rfl
     |own _ _ _ _ _=>rfl
     |own0 _ _ _=>rfl
    ·obtain⟨hb,hk⟩:=Za h;simp only[Zmq]at hb;obtain⟨⟨⟨hb1,hb2⟩,hb3⟩,hl'⟩:=hb;refine one _ hy ?_ hb1 hb2 hb3 hk;cases hy with
     |mpDead hd=>rw[hd]at hl';cases hl'
     |mp _=>rfl
    ·obtain⟨hb,hk⟩:=Za h;simp only[Zmq]at hb;obtain⟨⟨hb1,hb2⟩,hb3⟩:=hb;refine one _ hy ?_ hb1 hb2 hb3 hk;cases hy with|c hc=>exact hc.one
    ·rename_i cs;obtain⟨hb,hk⟩:=Za h;simp only[Zmq]at hb;obtain⟨⟨hb1,hb2⟩,hb3⟩:=hb;cases hy with
     | @agg _ us hc=>
      refine key (cs.map .c) (λj x u hx hu=> ?_) (by simpa[Value.cells]using hc.1) (by rw[Zpb];exact Zmu hb1) (by rw[Zpb];exact Zmp hb2) (Zng.1 hb3) hk;rw[Zm9]at hx;obtain⟨c,hc',rfl⟩:=Znq.1 hx;have h1:=hc.2 j c u hc' (by simpa[Value.cells]using hu);exact⟨.c h1,h1.one⟩
    ·rename_i ys;obtain⟨hb,hk⟩:=Za h;simp only[Zmq]at hb;obtain⟨⟨hb1,hb2⟩,hb3⟩:=hb;cases hy with
     | @mag _ us hs h1 hc=>
      exact key ys (λj x u hx hu=>⟨hc j x u hx (by simpa[Value.cells]using hu),h1 u (Zm4 (by simpa[Value.cells]using hu))⟩) (by simpa[Value.cells]using hs) (Zmu hb1) (Zmp hb2) (Zng.1 hb3) hk
    ·cases h
  cases hl:l s with
  |dead=>rw[hl]at h0;cases h0
  |mp _ _ _=>rw[hl]at h0;cases h0
  |cl _=>rw[hl]at h0;cases h0
  |mr _ _ _ _=>rw[hl]at h0;cases h0
  |mf _ _ _ _ _ _ _=>rw[hl]at h0;cases h0
  |it _ _ _ _ _=>rw[hl]at h0;cases h0
  |ir _ _=>rw[hl]at h0;cases h0
  |ob t' fz cs=>
   rw[hl]at h0;simp only at h0;cases hb:(A8 y&&(Zqv cs.length 1||mix)&&Zqv fz 0)with
   |true=>
    rw[hb]at h0;rw[Zmq]at hb;have hf:=Zmp hb.2;subst hf;exact hmx t' (cs.map .c) (.inr ⟨cs,hl,rfl⟩) h0
   |false=>rw[hb]at h0;exact hobj h0
  |sb t' fz cs=>rw[hl]at h0;exact hobj h0
  |mx t' xs=>rw[hl]at h0;exact hmx t' xs (.inl hl) h0
  |pk g' t' q pe=>rw[hl]at h0;exact Zby hG ho hl hx hy hu hv h0
end
end Go.PM
namespace Go.PM
open Go
variable {P:Program}
section
variable {A:Fr} {E:Env} {l:Loc} {pend:Nat->Prop} {R:Type} {k:V->Loc->List Nat->Option R} {r:R} {o:Oper} {ρ:Operand->Value}
theorem Pb {E:Env} {l:Loc} {s a g:Nat} (h:(E.kill l s).rho a=some g):E.rho a=some g:=by
 simp only[Env.kill]at h;split at h
 ·cases h
 ·exact h
theorem Se (E:Env) (l:Loc) (s:Nat):(E.kill l s).rho s=none:=by simp[Env.kill,Ur]
theorem U1 {E:Env} {l:Loc} (s:Nat) {y:V} {v:Value} (hy:RV P E l y v):RV P (E.kill l s) (Loc.kill s l) y v:=
 hy.mono0 (E':=E.kill l s) (Zo.refl E.w E.Pr) λa=>Zi.kill E l s a
def Env.adopt (E:Env) (d g:Nat) (cur:Array Value):Env:=
 {E with w:=E.w.setRow g cur,rho:=λs'=>if s'=d then some g else E.rho s',bs:=λs'=>if s'=d then cur.size else E.bs s'}
theorem Jn (hG:Good P A E l pend) {d g:Nat} (hd:l d= .dead) (hpd: ¬pend d) (hno: ∀a,E.rho a≠some g) (hrn': ∀a j,E.rb a j≠some g) (hyg: ¬E.Y g) (hb:A.w0.heap.size<=g\/A.M g) {cur cur':Array Value} {t:TypeId} (hg:E.w.heap[g]? =some (.cells cur t (0,0)))
  (hsz:cur'.size=cur.size) {fz:Nat} (hp: ∀k,E.Pr g k->k<fz) (hsame: ∀j,j<fz->cur'[j]? =cur[j]?) {ob:Obj} (hobfz:ob.fz=fz)
  (hok:Zo E.w E.Pr (E.adopt d g cur').w (E.adopt d g cur').Pr->(∀s',s'≠d->Zi E (E.adopt d g cur') l (l.put d ob) s')->ObjOk P (E.adopt d g cur') (l.put d ob) d ob) (href: ∀s',∀x∈(l s').refs,x.at d=false):
  Good P A (E.adopt d g cur') (l.put d ob) pend/\Zo E.w E.Pr (E.adopt d g cur').w (E.adopt d g cur').Pr/\ ∀s',s'≠d->Zi E (E.adopt d g cur') l (l.put d ob) s':=by
 have hgn:(E.adopt d g cur').w.heap[g]? =some (.cells cur' t (0,0)):=setRow_heap E.w g cur cur' t (0,0) hg;have hx:Zo E.w E.Pr (E.adopt d g cur').w (E.adopt d g cur').Pr:=by
  intro b k hp';refine⟨hp', ?_⟩;by_cases hb:b=g
  ·subst hb;refine⟨?_,(T4 hgn).trans (T4 hg).symm⟩;rw[cell_of_row _ b k cur' t (0,0) hgn,cell_of_row _ b k cur t (0,0) hg];exact hsame k (hp k hp')
  ·exact⟨World.cell?_of_block (w:=E.w) (setRow_other E.w g b cur' hb),Xi (setRow_other E.w g b cur' hb)⟩
 have hrn:(E.adopt d g cur').rho d=some g:=by simp[Env.adopt]
 have hro: ∀s',s'≠d->(E.adopt d g cur').rho s'=E.rho s':=λs' hne=>by simp[Env.adopt,hne]
 have hk: ∀s',s'≠d->Zi E (E.adopt d g cur') l (l.put d ob) s':=by
  intro s' hne;by_cases hd:l s'= .dead
  ·exact .inl ((Zc l ob hne).trans hd)
  ·exact .inr ⟨hd,hro s' hne,by simp[Env.adopt,hne], .same (Zc l ob hne), .same (Zc l ob hne)⟩
 refine⟨⟨λs' hp'=> ?_,λs' hp'=> ?_,λa b g' ha hb'=> ?_,λa g' ha=> ?_,λb k hp'=>⟨?_,λa ha=> ?_⟩,hG.jstep rfl rfl hx (λ_ _ h=> .inl h) (λb hb=>setRow_other E.w g b cur' (λe=>hyg (e▸hb))) (Zoy (setRow_size E.w g cur').symm) rfl rfl rfl,hG.pr0.trans hx,hG.prN, ?_,hG.os,hG.tape,hG.output,hG.dr,hG.yok,λa g' ha hy=> ?_,λb hb=>Zne (hG.ylt b hb) (Zoy (setRow_size E.w g cur').symm),λr hr'=>⟨(setRow_other E.w g r cur' (λe=>by have h1:=(hG.dm r hr').1;rw[e,hg]at h1;cases h1)).trans (hG.dm r hr').1,(hG.dm r hr').2⟩,λs j b hb=> ?_⟩,hx,hk⟩
 ·by_cases hne:s'=d
  ·subst hne;rw[Zf];exact hok hx hk
  ·rw[Zc l ob hne];refine(hG.obj s' hp').keep hx (hro s' hne) (by simp[Env.adopt,hne]) (λg' hg'=>setRow_other E.w g g' cur' (λe=>hno s' (e▸hg'))) (λx u hm hu=> ?_) λj=>⟨rfl,λg' hg'=> ?_⟩
   ·exact hu.mono (λa=>a=d) hx (λa ha=>hk a ha) (λa ha=>by subst ha;exact href s' x hm)
   ·exact setRow_other E.w g g' cur' (λe=>hrn' s' j (e▸hg'))
 ·have hne:s'≠d:=λe=>hpd (e▸hp');obtain⟨h1,cs',hz,ho'⟩:=hG.pnd s' hp';exact⟨(hro s' hne).trans h1,cs',hz,(Zc l ob hne).trans ho'⟩
 ·by_cases ea:a=d<;>by_cases eb:b=d
  ·rw[ea,eb]
  ·subst ea;rw[hrn]at ha;rw[hro b eb]at hb';injection ha with ha;subst ha;exact absurd hb' (hno b)
  ·subst eb;rw[hrn]at hb';rw[hro a ea]at ha;injection hb' with hb';subst hb';exact absurd ha (hno a)
  ·rw[hro a ea]at ha;rw[hro b eb]at hb';exact hG.inj a b g' ha hb'
 ·by_cases ea:a=d
  ·subst ea;rw[hrn]at ha;injection ha with ha;subst ha;exact hb
  ·rw[hro a ea]at ha;exact hG.base a g' ha
 ·have:=(hG.prot b k hp').1;show b<(E.w.setRow g cur').heap.size;rw[setRow_size];exact this
 ·by_cases ea:a=d
  ·subst ea;rw[hrn]at ha;injection ha with ha;subst ha;rw[Zf,hobfz];exact hp k hp'
  ·rw[hro a ea]at ha;rw[Zc l ob ea];exact(hG.prot b k hp').2 a ha
 ·show _<=(E.w.setRow g cur').heap.size;rw[setRow_size];exact hG.size
 ·by_cases ea:a=d
  ·subst ea;rw[hrn]at ha;injection ha with ha;subst ha;exact hyg hy
  ·rw[hro a ea]at ha;exact hG.yown a g' ha hy
 ·have h0:=hG.rbo s j b hb;refine⟨?_,λa e=> ?_,h0.one,h0.pr,h0.y,h0.base⟩
  ·obtain⟨c2,t2,e⟩:=h0.cells;exact⟨c2,t2,(setRow_other E.w g b cur' (λe=>hrn' s j (e▸hb))).trans e⟩
  ·by_cases ea:a=d
   ·subst ea;rw[hrn]at e;injection e with e;subst e;exact hrn' s j hb
   ·rw[hro a ea]at e;exact h0.rho a e
theorem Gk (hG:Good P A E l pend) {d g:Nat} (hd:l d= .dead) (hpd: ¬pend d) (hno: ∀a,E.rho a≠some g) (hrn': ∀a j,E.rb a j≠some g) (hyg: ¬E.Y g) (hb:A.w0.heap.size<=g\/A.M g) {cur cur':Array Value} {t:TypeId} (hg:E.w.heap[g]? =some (.cells cur t (0,0)))
  (hsz:cur'.size=cur.size) {fz:Nat} (hp: ∀k,E.Pr g k->k<fz) (hsame: ∀j,j<fz->cur'[j]? =cur[j]?) {cs:List C} {ob:Obj} (ho:ob= .ob t fz cs\/ob= .sb t fz cs) (hf:fz<=cs.length) (hcl:cs.length<=cur'.size)
  (hc:RCs E.w E.Pr cs (cur'.toList.take cs.length)) (href: ∀s',∀x∈(l s').refs,x.at d=false):
  Good P A (E.adopt d g cur') (l.put d ob) pend/\Zo E.w E.Pr (E.adopt d g cur').w (E.adopt d g cur').Pr/\ ∀s',s'≠d->Zi E (E.adopt d g cur') l (l.put d ob) s':=
 Jn hG hd hpd hno hrn' hyg hb hg hsz hp hsame (by rcases ho with rfl|rfl<;>rfl) (λhx _=>by
  have hblk:Blk (E.adopt d g cur') d g t cs:=⟨cur',setRow_heap E.w g cur cur' t (0,0) hg,by simp[Env.adopt],hcl,hc.held hx⟩;rcases ho with rfl|rfl
  ·exact .ob (by simp[Env.adopt]) hblk hf
  ·exact .sb (by simp[Env.adopt]) hblk hf) href
def Env.take (E:Env) (d g n:Nat):Env:=
 {E with rho:=λs'=>if s'=d then some g else E.rho s',bs:=λs'=>if s'=d then n else E.bs s'}
theorem Zey (hG:Good P A E l pend) {d g n:Nat} (hd:l d= .dead) (hpd: ¬pend d) (hno: ∀a,E.rho a≠some g) (hrn': ∀a j,E.rb a j≠some g) (hyg: ¬E.Y g) (hb:A.w0.heap.size<=g\/A.M g)
  (hp: ∀k,¬E.Pr g k) {ob:Obj}
  (hok:(∀s',s'≠d->Zi E (E.take d g n) l (l.put d ob) s')->ObjOk P (E.take d g n) (l.put d ob) d ob) (href: ∀s',∀x∈(l s').refs,x.at d=false):
  Good P A (E.take d g n) (l.put d ob) pend/\ ∀s',s'≠d->Zi E (E.take d g n) l (l.put d ob) s':=by
 have hx:Zo E.w E.Pr (E.take d g n).w (E.take d g n).Pr:= .refl _ _;have hrn:(E.take d g n).rho d=some g:=by simp[Env.take]
 have hro: ∀s',s'≠d->(E.take d g n).rho s'=E.rho s':=λs' hne=>by simp[Env.take,hne]
 have hk: ∀s',s'≠d->Zi E (E.take d g n) l (l.put d ob) s':=by
  intro s' hne;by_cases hd:l s'= .dead
  ·exact .inl ((Zc l ob hne).trans hd)
  ·exact .inr ⟨hd,hro s' hne,by simp[Env.take,hne], .same (Zc l ob hne), .same (Zc l ob hne)⟩
 refine⟨⟨λs' hp'=> ?_,λs' hp'=> ?_,λa b g' ha hb'=> ?_,λa g' ha=> ?_,λb k hp'=>⟨(hG.prot b k hp').1,λa ha=> ?_⟩,hG.jf,hG.pr0,hG.prN,hG.size,hG.os,hG.tape,hG.output,hG.dr,hG.yok,λa g' ha hy=> ?_,hG.ylt,hG.dm,λs j b hb=> ?_⟩,hk⟩
 ·by_cases hne:s'=d
  ·subst hne;rw[Zf];exact hok hk
  ·rw[Zc l ob hne];refine(hG.obj s' hp').keep hx (hro s' hne) (by simp[Env.take,hne]) (λ_ _=>rfl) λx u hm hu=> ?_;exact hu.mono (λa=>a=d) hx (λa ha=>hk a ha) (λa ha=>by subst ha;exact href s' x hm)
 ·have hne:s'≠d:=λe=>hpd (e▸hp');obtain⟨h1,cs',hz,ho'⟩:=hG.pnd s' hp';exact⟨(hro s' hne).trans h1,cs',hz,(Zc l ob hne).trans ho'⟩
 ·by_cases ea:a=d<;>by_cases eb:b=d
  ·rw[ea,eb]
  ·subst ea;rw[hrn]at ha;rw[hro b eb]at hb';injection ha with ha;subst ha;exact absurd hb' (hno b)
  ·subst eb;rw[hrn]at hb';rw[hro a ea]at ha;injection hb' with hb';subst hb';exact absurd ha (hno a)
  ·rw[hro a ea]at ha;rw[hro b eb]at hb';exact hG.inj a b g' ha hb'
 ·by_cases ea:a=d
  ·subst ea;rw[hrn]at ha;injection ha with ha;subst ha;exact hb
  ·rw[hro a ea]at ha;exact hG.base a g' ha
 ·by_cases ea:a=d
  ·subst ea;rw[hrn]at ha;injection ha with ha;subst ha;exact absurd hp' (hp k)
  ·rw[hro a ea]at ha;rw[Zc l ob ea];exact(hG.prot b k hp').2 a ha
 ·by_cases ea:a=d
  ·subst ea;rw[hrn]at ha;injection ha with ha;subst ha;exact hyg hy
  ·rw[hro a ea]at ha;exact hG.yown a g' ha hy
 ·have h0:=hG.rbo s j b hb;refine⟨h0.cells,λa e=> ?_,h0.one,h0.pr,h0.y,h0.base⟩;by_cases ea:a=d
  ·subst ea;rw[hrn]at e;injection e with e;subst e;exact hrn' s j hb
  ·rw[hro a ea]at e;exact h0.rho a e
theorem Wk (hG:Good P A E l pend) {d:Nat} (hd:l d= .dead) (hpd: ¬pend d) (t:TypeId) (href: ∀s',∀x∈(l s').refs,x.at d=false):
  Good P A E (l.put d (.sb t 0 [])) pend/\ ∀s',s'≠d->Zi E E l (l.put d (.sb t 0 [])) s':=by
 have hr:E.rho d=none:=by
  have:=hG.obj d hpd;rw[hd]at this;cases this with|dead h=>exact h
 have hk: ∀s',s'≠d->Zi E E l (l.put d (.sb t 0 [])) s':=by
  intro s' hne;by_cases hd:l s'= .dead
  ·exact .inl ((Zc l _ hne).trans hd)
  ·exact .inr ⟨hd,rfl,rfl, .same (Zc l _ hne), .same (Zc l _ hne)⟩
 refine⟨⟨λs' hp'=> ?_,λs' hp'=> ?_,hG.inj,hG.base,λb k hp'=>⟨(hG.prot b k hp').1,λa ha=> ?_⟩,hG.jf,hG.pr0,hG.prN,hG.size,hG.os,hG.tape,hG.output,hG.dr,hG.yok,hG.yown,hG.ylt,hG.dm,hG.rbo⟩,hk⟩
 ·by_cases hne:s'=d
  ·subst hne;rw[Zf];exact .sbNil hr
  ·rw[Zc l _ hne];exact(hG.obj s' hp').keep (.refl _ _) rfl rfl (λ_ _=>rfl) λx u hm hu=>hu.mono (λa=>a=d) (.refl _ _) (λa ha=>hk a ha) (λa ha=>by subst ha;exact href s' x hm)
 ·have hne:s'≠d:=λe=>hpd (e▸hp');obtain⟨h1,cs',hz,ho'⟩:=hG.pnd s' hp';exact⟨h1,cs',hz,(Zc l _ hne).trans ho'⟩
 ·by_cases ea:a=d
  ·subst ea;rw[hr]at ha;cases ha
  ·rw[Zc l _ ea];exact(hG.prot b k hp').2 a ha
theorem Jo (hG:Good P A E l pend) {e:TypeId} {x:V} {u:Value} (hx:RV P E l x u) {kk:Nat->List C->Option R} (h:Sn P e x l kk=some r):
  ∃m news us,kk m news=some r/\news.length=m*Zg P e/\RCs E.w E.Pr news us/\(Builtin.lenOf u).run P E.w= .ok m E.w/\(∃a c,u= .slice a m c)/\ ∀w1:World,w1.heap=E.w.heap->(Builtin.firstCells (Zg P e) m u).run P w1= .ok us.toArray w1:=by
 have hcell: ∀(w1:World),w1.heap=E.w.heap-> ∀a,w1.cell? a=E.w.cell? a:=λw1 h a=>by simp[World.cell?,h]
 have fin: ∀m c (a:Option Addr) (news:List C),u= .slice a m c->news.length=m*Zg P e->((news=[])\/ ∃g o',a=some ⟨g,o',none⟩/\At E.w E.Pr g o' news)->
   ∃us,RCs E.w E.Pr news us/\(Builtin.lenOf u).run P E.w= .ok m E.w/\ ∀w1:World,w1.heap=E.w.heap->(Builtin.firstCells (Zg P e) m u).run P w1= .ok us.toArray w1:=by
  intro m c a news hu hl hz;subst hu;rcases hz with rfl|⟨g,o',rfl,hat⟩
  ·refine⟨[], .nil,rfl,λw1 hw=> ?_⟩;have hm:m*Zg P e=0:=by simpa using hl.symm
   cases a with
   |none=>simp[Builtin.firstCells]
   |some a=>simp[Builtin.firstCells,hm,loadCells,loadCellsFrom]
  ·obtain⟨us,h1,h2⟩:=hat.list;refine⟨us,h2,rfl,λw1 hw=> ?_⟩;exact run_firstCells_some (P:=P) w1 (Zg P e) m ⟨g,o',none⟩ m c us (by rw[h2.len,hl]) (λj v hv=>by rw[hcell w1 hw,Yu];exact h1 j v hv)
 unfold Sn at h;split at h
 case h_3=>cases h
 case h_1 c=>
  cases hx with|c hc=>
  obtain⟨m,cs,a,cap,hk,e1,_,_,hz⟩:=Li hc h;obtain⟨hb,hk⟩:=Za hk;have hl:cs.length=m*Zg P e:=(Zmp hb).symm;obtain⟨us,h1,h2,h3⟩:=fin m cap a cs e1 hl (by rcases hz with⟨_,h⟩|⟨g,o',h,hat,_⟩;exact .inl h;exact .inr ⟨g,o',h,hat⟩);exact⟨m,cs,us,hk,hl,h1,h2,⟨a,cap,e1⟩,h3⟩
 case h_2 s off m=>
  split at h
  case h_2=>cases h
  case h_1 t fz cs hl=>
   obtain⟨hb,hk⟩:=Za h;rw[Zmq]at hb;have hle:off+m*Zg P e<=cs.length:=Zmu hb.2;have hnl:((cs.drop off).take (m*Zg P e)).length=m*Zg P e:=by simp;omega
   have: ∃a c,u= .slice a m c/\(((cs.drop off).take (m*Zg P e))=[]\/ ∃g o',a=some ⟨g,o',none⟩/\At E.w E.Pr g o' ((cs.drop off).take (m*Zg P e))):=by
    cases hx with
    |ownDead hd=>rw[hd]at hl;cases hl
    |ownMx hd=>first|exact(Uk hd hl).elim|(rw[hl]at hd;cases hd)
    |ownNil _ _=>exact⟨_,_,rfl, .inl (by simp)⟩
    |own0 _ _ _=>exact⟨_,_,rfl, .inl (by simp)⟩
    | @own _ _ _ g cap t2 fz2 cs2 hr hl2 hn hc hs=>
     have hat:=(((Tm hG hl hr).1.at_).drop off).take (m*Zg P e);rw[Zmt]at hat;exact⟨_,_,rfl, .inr ⟨g,off,rfl,hat⟩⟩
   obtain⟨a,c,e1,hz⟩:=this;obtain⟨us,h1,h2,h3⟩:=fin m c a _ e1 hnl hz;exact⟨m,_,us,hk,hnl,h1,h2,⟨a,c,e1⟩,h3⟩
def Env.row (E:Env) (w':World) (Pr':Nat->Nat->Prop) (s j:Nat) (b:Option Nat) (c:Nat):Env:=
 {E with w:=w',Pr:=Pr',rb:=λs' j'=>if s'=s/\j'=j then b else E.rb s' j',rc:=λs' j'=>if s'=s/\j'=j then c else E.rc s' j'}
theorem good_row (hG:Good P A E l pend) {s j c g:Nat} {b:Option Nat} {ob:Obj} (hr:E.rho s=some g) (hfz:(l s).fz=0) (hof:ob.fz=0) (hno:Z4 (l s)=none) (hno2:En (l s)=false) {w':World} {Pr':Nat->Nat->Prop}
  (hsame: ∀b',b'<E.w.heap.size->E.rb s j≠some b' ->w'.heap[b']? =E.w.heap[b']?) (hs:E.w.heap.size<=w'.heap.size) (hos:w'.os=E.w.os) (htp:w'.tape=E.w.tape) (hou:w'.output=E.w.output) (hdr:E.w.drawn<=w'.drawn)
  (hsub: ∀b' k,E.Pr b' k->Pr' b' k) (hnew: ∀b' k,Pr' b' k->b'<w'.heap.size/\(E.Pr b' k\/E.w.heap.size<=b'\/E.rb s j=some b'))
  (hb: ∀g',b=some g' ->(∃cur t,w'.heap[g']? =some (.cells cur t (0,0)))/\(E.rb s j=some g'\/(E.w.heap.size<=g'))/\ ∀k,¬Pr' g' k)
  (hrk:Rk E (E.row w' Pr' s j b c) l (l.put s ob) s)
  (hob:Zo E.w E.Pr w' Pr' ->w'.heap[g]? =E.w.heap[g]? ->(∀i,i≠j->Le E (E.row w' Pr' s j b c) s i)->ObjOk P (E.row w' Pr' s j b c) (l.put s ob) s ob):
  Good P A (E.row w' Pr' s j b c) (l.put s ob) pend/\Zo E.w E.Pr w' Pr'/\ ∀a,Zi E (E.row w' Pr' s j b c) l (l.put s ob) a:=by
 have hps: ¬pend s:=λhp=>by rw[(hG.pnd s hp).1]at hr;cases hr
 have hx:Zo E.w E.Pr w' Pr':=λb' k hp=>by
  have h1:=hsame b' (hG.prot b' k hp).1 (λe=>(hG.rbo s j b' e).pr k hp);exact⟨hsub b' k hp,World.cell?_of_block (w:=E.w) h1,Xi h1⟩
 have hrs: ∀a g',E.rho a=some g' ->w'.heap[g']? =E.w.heap[g']? :=λa g' ha=>hsame g' (hG.lt ha) (λe=>(hG.rbo s j g' e).rho a ha);have hrb0: ∀s' j' g',¬(s'=s/\j'=j)->E.rb s' j'=some g' ->w'.heap[g']? =E.w.heap[g']? :=λs' j' g' hn e=>hsame g' (hG.rbo _ _ _ e).lt (λe2=>hn (by
  have:=(hG.rbo s' j' g' e).one s j e2;exact⟨this.1.symm,this.2.symm⟩))
 have hk: ∀a,Zi E (E.row w' Pr' s j b c) l (l.put s ob) a:=by
  intro a;by_cases e:a=s
  ·subst e;exact .inr ⟨hG.ne_dead hr,rfl,rfl,⟨(λt fz e=>by rw[e]at hno;cases hno),(λt fz cs e=>by rw[e]at hno;cases hno),λe=>by rw[e]at hno2;cases hno2⟩,hrk⟩
  ·by_cases hdd:l a= .dead
   ·exact .inl ((Zc _ _ e).trans hdd)
   ·exact .inr ⟨hdd,rfl,rfl, .same (Zc _ _ e), .same (Zc _ _ e) (by funext i;simp[Env.row,e]) (by funext i;simp[Env.row,e])⟩
 have hrb: ∀s' j' g',(E.row w' Pr' s j b c).rb s' j'=some g' ->(s'=s/\j'=j/\b=some g')\/(¬(s'=s/\j'=j)/\E.rb s' j'=some g'):=by
  intro s' j' g' h;simp only[Env.row]at h;split at h
  ·rename_i hn;exact .inl ⟨hn.1,hn.2,h⟩
  ·rename_i hn;exact .inr ⟨hn,h⟩
 refine⟨⟨λs' hp=> ?_,λs' hp=> ?_,hG.inj,hG.base,λb' k' hp=>⟨(hnew b' k' hp).1,λa ha=> ?_⟩,hG.jstep rfl rfl hx (λb' k' hp=> ?_) (λb' hb'=>hsame b' (hG.ylt b' hb') (λe=>(hG.rbo s j b' e).y hb')) hs hos htp hou hdr,hG.pr0.trans hx,λb' k' hp=> ?_,Zni hG.size hs,hos.trans hG.os,htp.trans hG.tape,hou.trans hG.output,Zni hG.dr hdr,hG.yok,hG.yown,λb' hb'=>Zne (hG.ylt b' hb') hs,λr' hr'=>⟨(hsame r' (Zmy.1 (hG.dm r' hr').1).1 (λe=>by
   obtain⟨_,_,h3⟩:=(hG.rbo s j r' e).cells;have h4:=(hG.dm r' hr').1;rw[h3]at h4;cases h4)).trans (hG.dm r' hr').1,(hG.dm r' hr').2⟩,λs' j' g' hg'=> ?_⟩,hx,hk⟩
 ·by_cases e2:s'=s
  ·subst e2;rw[Zf];exact hob hx (hrs _ _ hr) λi hi=>⟨by simp[Env.row,hi],λg' hg'=>hrb0 _ _ _ (λh=>hi h.2) hg'⟩
  ·rw[Zc _ _ e2];exact(hG.obj s' hp).keep hx rfl rfl (λg' hg'=>hrs s' g' hg') (λx u hm hu=>hu.mono0 hx hk) (λj'=>⟨by simp[Env.row,e2],λg' hg'=>hrb0 _ _ _ (λh=>e2 h.1) hg'⟩) (by funext i;simp[Env.row,e2])
 ·obtain⟨h1,cs',hz,ho'⟩:=hG.pnd s' hp;exact⟨h1,cs',hz,(Zc _ _ (λ(e:s'=s)=>hps (e▸hp))).trans ho'⟩
 ·have ha:E.rho a=some b':=ha;rcases(hnew b' k' hp).2 with h|h|h
  ·by_cases e2:a=s
   ·subst e2;have:=(hG.prot b' k' h).2 a ha;omega
   ·rw[Zc _ _ e2];exact(hG.prot b' k' h).2 a ha
  ·have:=hG.lt ha;omega
  ·exact absurd ha ((hG.rbo s j b' h).rho a)
 ·rcases(hnew b' k' hp).2 with h|h|h
  ·exact .inl h
  ·exact .inr λhy=>by have:=hG.ylt b' hy;omega
  ·exact .inr (hG.rbo s j b' h).y
 ·rcases(hnew b' k' hp).2 with h|h|h
  ·exact hG.prN b' k' h
  ·exact .inr (.inl (Zni hG.size h))
  ·exact .inr (hG.rbo s j b' h).base
 ·rcases hrb _ _ _ hg' with⟨rfl,rfl,e⟩|⟨h4,h3⟩
  ·obtain⟨h5,h6,h7⟩:=hb g' e;refine⟨h5,λa ha=> ?_,λs2 j2 e2=> ?_,h7,λhy=> ?_, ?_⟩
   ·rcases h6 with h|h
    ·exact(hG.rbo _ _ _ h).rho a ha
    ·have:=hG.lt (show E.rho a=some g' from ha);omega
   ·rcases hrb _ _ _ e2 with⟨e3,e4,_⟩|⟨_,e3⟩
    ·exact⟨e3,e4⟩
    ·rcases h6 with h|h
     ·exact(hG.rbo _ _ _ h).one _ _ e3
     ·have:=(hG.rbo _ _ _ e3).lt;omega
   ·rcases h6 with h|h
    ·exact(hG.rbo _ _ _ h).y hy
    ·have:=hG.ylt g' hy;omega
   ·rcases h6 with h|h
    ·exact(hG.rbo _ _ _ h).base
    ·exact .inl (Zni hG.size h)
  ·have h0:=hG.rbo s' j' g' h3;refine⟨?_,h0.rho,λs2 j2 e2=> ?_,λk' hp=> ?_,h0.y,h0.base⟩
   ·obtain⟨c0,t0,e⟩:=h0.cells;exact⟨c0,t0,(hrb0 _ _ _ h4 h3).trans e⟩
   ·rcases hrb _ _ _ e2 with⟨e3,e4,e5⟩|⟨_,e3⟩
    ·rcases(hb g' e5).2.1 with h|h
     ·have:=h0.one s j h;exact⟨e3.trans this.1,e4.trans this.2⟩
     ·have:=h0.lt;omega
    ·exact h0.one _ _ e3
   ·rcases(hnew g' k' hp).2 with h|h|h
    ·exact h0.pr k' h
    ·have:=h0.lt;omega
    ·have:=h0.one s j h;exact h4 ⟨this.1.symm,this.2.symm⟩
end
end Go.PM
namespace Go.PM
open Go
variable {P:Program}
section
variable {A:Fr} {E:Env} {l:Loc} {pend:Nat->Prop} {R:Type} {k:V->Loc->List Nat->Option R} {r:R} {o:Oper} {ρ:Operand->Value}
theorem run_append_fits {t ty e:TypeId} {i:TypeInfo} (ht:P.underlying t=some (.slice e)) (hi:P.info? e=some i) {w:World} {g n cap m c:Nat} {a:Option Addr} {us:List Value} {cur:Array Value}
  (hfc:(Builtin.firstCells i.size m (.slice a m c)).run P w= .ok us.toArray w) (hroom:n+m<=cap)
  (hg:w.heap[g]? =some (.cells cur e (0,0))) (hus:n*i.size+us.length<=cur.size) (h1: ∀u∈us,u.oneCell'=true):
  (Builtin.append_ #[t,t] ty #[.slice (some ⟨g,0,none⟩) n cap, .slice a m c]).run P w= .ok (.slice (some ⟨g,0,none⟩) (n+m) cap) (w.setRow g (cur.toList.take (n*i.size)++us++cur.toList.drop (n*i.size+us.length)).toArray):=by
 have hst:=run_storeCells_at P g (n*i.size) e us 0 cur w hg (by simpa using hus) h1;simp only[Znz]at hst;simp[Builtin.append_,run_underlying ht,sizeOf,typeInfo,hi,Builtin.lenOf,hroom,hfc,Yu,hst]
theorem Ql {t ty e:TypeId} {i:TypeInfo} (ht:P.underlying t=some (.slice e)) (hi:P.info? e=some i) {w:World} {c:Nat} {a:Option Addr}
  (hfc:(Builtin.firstCells i.size 0 (.slice a 0 c)).run P w= .ok #[] w):(Builtin.append_ #[t,t] ty #[.slice none 0 0, .slice a 0 c]).run P w= .ok (.slice none 0 0) w:=by
 simp[Builtin.append_,run_underlying ht,sizeOf,typeInfo,hi,Builtin.lenOf,hfc]
theorem Xr {t ty e:TypeId} {i:TypeInfo} {z:Value} (ht:P.underlying t=some (.slice e)) (hi:P.info? e=some i) (hz:i.zero=some z) {w:World} {n cap m c:Nat} {a b:Option Addr} {olds us:List Value}
  (hfo:(Builtin.firstCells i.size n (.slice b n cap)).run P w.drew= .ok olds.toArray w.drew) (hfc:(Builtin.firstCells i.size m (.slice a m c)).run P w.drew= .ok us.toArray w.drew) (hroom:cap<n+m)
  (h63:n+m<=9223372036854775807) (hfit:Builtin.nextslicecap (n+m) cap*i.bytes<=281474976710656):
  (Builtin.append_ #[t,t] ty #[.slice b n cap, .slice a m c]).run P w= .ok (.slice (some ⟨w.heap.size,0,none⟩) (n+m) (grownCap w (n+m) cap e))
   (w.drew.alloc (.cells (olds++us++(Builtin.zeroCells z.cells (grownCap w (n+m) cap e-(n+m))).toList).toArray e)):=by
 have hn: ¬(n+m<=cap):=by omega
 have h63': ¬(9223372036854775807<((n:Int)+(m:Int))):=by omega
 have hfit': ¬(281474976710656<Builtin.nextslicecap (n+m) cap*i.bytes):=by omega
 simp[Builtin.append_,run_underlying ht,sizeOf,typeInfo,zeroValue,hi,hz,Builtin.lenOf,hn,h63',hfit',Question.forced,newRow,grownCap,hfo,hfc]
 congr 2
 apply Zrc;simp[Zny]
def Env.drew (E:Env):Env:={E with w:=E.w.drew}
theorem Qc (E:Env):Zo E.w E.Pr E.drew.w E.drew.Pr:=λ_ _ hp=>⟨hp,rfl,rfl⟩
theorem Gl (E:Env) (l:Loc) (s:Nat):Zi E E.drew l l s:=by
 by_cases hd:l s= .dead
 ·exact .inl hd
 ·exact .inr ⟨hd,rfl,rfl, .same rfl, .same rfl⟩
theorem Do (hG:Good P A E l pend):Good P A E.drew l pend:=
 ⟨λs hp=>(hG.obj s hp).keep (Qc E) rfl rfl (λ_ _=>rfl) λ_ _ _ hu=>hu.mono0 (Qc E) (Gl E l),hG.pnd,hG.inj,hG.base,hG.prot,hG.jstep rfl rfl (Qc E) (λ_ _ h=> .inl h) (λ_ _=>rfl) (Zm8 _) rfl rfl rfl (Nat.le_succ _),hG.pr0.trans (Qc E),hG.prN,hG.size,hG.os,hG.tape,hG.output,Nat.le_succ_of_le hG.dr,hG.yok,hG.yown,hG.ylt,hG.dm,Qi hG.rbo⟩
theorem Zdy {y:V} {v:Value} (hy:RV P E l y v):RV P E.drew l y v:=hy.mono0 (Qc E) (Gl E l)
theorem Rx (z:Array Value) (n:Nat):(Builtin.zeroCells z n).toList.length=n*z.size:=by simp[Builtin.zeroCells]
theorem Lj {d:Nat} {e:TypeId} {i:TypeInfo} {z:Value} (hi:P.info? e=some i) (hzs:z.cells.size=i.size) (hs0:i.size≠0) (hG:Good P A E l pend) (hdead:l d= .dead) (hd: ¬pend d) (href: ∀s',∀x∈(l s').refs,x.at d=false)
  {cs:List C} {olds:List Value} (hc:RCs E.w E.Pr cs olds) {n cap:Nat} (hl:cs.length=n*i.size) (hcap:n<=cap) (hcm:cap<=maxLen) {fz:Nat} (hfz:fz<=cs.length) {ob:Obj} (ho:ob= .ob e fz cs\/ob= .sb e fz cs):
  Up P A E l pend (.own d 0 n) (l.put d ob) [d] (.slice (some ⟨E.w.heap.size,0,none⟩) n cap) (E.w.drew.alloc (.cells (olds++(Builtin.zeroCells z.cells (cap-n)).toList).toArray e)):=by
 have hG1:=Do hG;have hsz:(olds++(Builtin.zeroCells z.cells (cap-n)).toList).toArray.size=cap*i.size:=by
  rw[List.size_toArray,Znb,Rx,hc.len,hl,hzs,<-Zrb];congr 1;omega
 have hG2:=hG1.new (s:=d) (pend':=pend) (.inl ⟨hdead,λ_=>Iff.rfl⟩) (cur:=(olds++(Builtin.zeroCells z.cells (cap-n)).toList).toArray) (t:=e) (cs:=cs) ho hfz (by rw[hsz,hl];exact Zn9 _ hcap)
  (by rw[show((olds++(Builtin.zeroCells z.cells (cap-n)).toList).toArray.toList).take cs.length=olds by rw[<-hc.len];simp];exact hc.held (Qc E)) href
 refine⟨_,rfl,⟨hG2,rfl⟩, ?_,λy v hy hk=> ?_⟩
 ·refine .own (g:=E.w.heap.size) (t:=e) (fz:=fz) (cs:=cs) (by simp[Env.new];rfl) (by rw[Zf];rcases ho with rfl|rfl<;>rfl) hcap hcm ?_;rw[Z3 hi];simp only[Env.new,if_pos,Zmt,hsz]
 ·exact(Zdy hy).mono (λs=>s=d) (Xk _ _ _ λb k hp=>(hG1.prot b k hp).1) (λs hs=>Zi.new hG1 d _ e ob hs) (λs hs=>by subst hs;exact hk s (by simp))
open Classical in
theorem Zhh (hG:Good P A E l pend) {e:TypeId} {n:Nat} {cs:List C} {u:Value} (hc:RC E.w E.Pr (.sl n cs) u) {kk:Nat->List C->Option R} (h:Sn P e (.c (.sl n cs)) l kk=some r):
  ∃us,kk n cs=some r/\cs.length=n*Zg P e/\RCs E.w E.Pr cs us/\(∃a c,u= .slice a n c)/\ ∀w1:World,w1.heap=E.w.heap->(Builtin.firstCells (Zg P e) n u).run P w1= .ok us.toArray w1:=by
 have h':Sn P e (.c (.sl n cs)) l (λn' cs'=>if n'=n/\cs'=cs then kk n cs else none)=some r:=by
  show need _ (if n=n/\cs=cs then kk n cs else none)=some r;rw[if_pos ⟨rfl,rfl⟩];exact h
 obtain⟨m,news,us,hk,h1,h2,_,h4,h5⟩:=Jo hG (.c hc) h';split at hk
 ·rename_i e;obtain⟨rfl,rfl⟩:=e;exact⟨us,hk,h1,h2,h4,h5⟩
 ·cases hk
theorem Bn {e:TypeId} (hG:Good P A E l pend) {cs zc:List C} {olds zeros:List Value} (hc:RCs E.w E.Pr cs olds) (hz:RCs E.w E.Pr zc zeros) {n cap:Nat} (hn:n<=cap) (hcm:cap<=maxLen):
  Up P A E l pend (.c (.sl n cs)) l [] (.slice (some ⟨E.w.heap.size,0,none⟩) n cap) (E.w.drew.alloc (.cells (olds++zeros).toArray e)):=by
 have hG1:=Do hG;have hat:=Bi hG1 (cur:=(olds++zeros).toArray) (t:=e) (cs:=cs++zc) (by simpa using (hc.held (Qc E)).append (hz.held (Qc E)));have hat2:=hat.take cs.length;rw[List.take_left' rfl]at hat2;obtain⟨us,q1,q2⟩:=hat2.fn (λj _=> .inr rfl);obtain⟨E',h1,h2,h3,h4⟩:=Bh hG1 (olds++zeros).toArray e (x:= .c (.sl n cs)) (u:= .slice (some ⟨E.w.heap.size,0,none⟩) n cap) (.c (.sl hn hcm q1 q2));exact⟨E',h1,h2,h3,λy v hy hk=>h4 y v (Zdy hy) hk⟩
theorem Bo (hG:Good P A E l pend) {T e ty:TypeId} {i:TypeInfo} {z:Value} (hT:P.underlying T=some (.slice e)) (hi:P.info? e=some i) (hiz:i.zero=some z) (hzs:z.cells.size=i.size) {m c':Nat} {a':Option Addr} {news:List C} {us:List Value}
  (hnl:news.length=m*i.size) (hrcs:RCs E.w E.Pr news us) (hfc: ∀w1:World,w1.heap=E.w.heap->(Builtin.firstCells i.size m (.slice a' m c')).run P w1= .ok us.toArray w1) {u:Value} {run:Result Next}
  (key: ∀q w',(Builtin.append_ #[T,T] ty #[u, .slice a' m c']).run P E.w= .ok q w' ->run= .ok (.value q) w') {s g g' j n:Nat} {t:TypeId} {q:Rws} {row:List C} (hl:l s= .pk g' t q none) (hx:RV P E l (.rw s g j n) u) (hg:Zqv g g'=true)
  (hp:q.at j=some (.r e row)) (hn:n*i.size=row.length) (hs0:i.size≠0) (hby:(n+m)*i.bytes<=140737488355328) (hm:n+m<=140737488355328)
  (hk:k (.rp s g j (n+m)) (l.put s (.pk g' t q (some (j,e,row++news)))) []=some r):Zt P A E l pend run k r:=by
 obtain⟨gb,cur,hr,hps,hc,hlen,hbs,hcs,_⟩:=Lg hG hl;have hsz:Zg P e=i.size:=Z3 hi;have hz:Zg P e≠0:=by rw[hsz];exact hs0
 have hv:=Zdv hx hl hg;have e1:=Zmp hg;subst e1;have hjc:j<cur.size:=Zne (Rws.at_lt hp) hlen;obtain⟨_,hpc⟩:=hcs j (.r e row) cur[j] hp (Znj hjc);obtain⟨_,hrow⟩:=hpc (λe he=>by cases he);have hu:=hv.eq hrow hz (by rw[hsz];exact hn);rw[<-hu]at hrow;have husl:us.length=m*i.size:=by rw[hrcs.len,hnl]
 have hnm:(row++news).length=(n+m)*i.size:=by rw[Znb,hnl,<-hn,Zrb]
 have hdiv:(row++news).length/Zg P e=n+m:=by rw[hnm,hsz];exact Zog _ (Zo0 hs0)
 have fin: ∀(w':World) (b:Option Nat) (cc:Nat) (v:Value),(∀b',b'<E.w.heap.size->E.rb s j≠some b' ->w'.heap[b']? =E.w.heap[b']?)->E.w.heap.size<=w'.heap.size->w'.os=E.w.os->w'.tape=E.w.tape->w'.output=E.w.output->E.w.drawn<=w'.drawn->
   (∀g',b=some g' ->(∃cur t,w'.heap[g']? =some (.cells cur t (0,0)))/\(E.rb s j=some g'\/(E.w.heap.size<=g')))->(Zo E.w E.Pr w' E.Pr->Vo P (E.row w' E.Pr s j b cc) s j e (row++news) v)->run= .ok (.value v) w' ->Zt P A E l pend run k r:=by
  intro w' b cc v h1 h2 h3 h4 h5 h6 h7 h8 h9;obtain⟨q1,q2,q3⟩:=good_row (P:=P) (A:=A) (c:=cc) (b:=b) (ob:= .pk g t q (some (j,e,row++news))) (Pr':=E.Pr) hG hr (by rw[hl];rfl) rfl (by rw[hl];rfl) (by rw[hl];rfl) (j:=j) h1 h2 h3 h4 h5 h6 (λ_ _ h=>h)
   (λb' k' hp'=>⟨Zne (hG.prot b' k' hp').1 h2, .inl hp'⟩) (λg' e'=>⟨(h7 g' e').1,(h7 g' e').2,λk' hp'=>by
    rcases(h7 g' e').2 with h|h
    ·exact(hG.rbo _ _ _ h).pr k' hp'
    ·have:=(hG.prot g' k' hp').1;omega⟩) (.inr (.inr (.inl ⟨g,by rw[hl];rfl,by rw[Zf];rfl⟩)))
   (λhx' hgb hkp=> .pk hr (hgb.trans hc) hlen hbs (λi' p w hp' hw=>⟨(hcs i' p w hp' hw).1,λhe=>by
    have hne:i'≠j:=λe=>he _ rfl e.symm;exact((hcs i' p w hp' hw).2 λe he=>by cases he).keep hx' (hkp i' hne) (by simp[Env.row,hne])⟩) λj' te' row' e'=>by
     injection e' with e';injection e' with e1 e2;injection e2 with e2 e3
     subst e1 e2 e3;exact⟨hz,⟨_,hp⟩,v,h8 hx'⟩)
  rw[h9];refine⟨_,_,_,hk,_,rfl,⟨q1,rfl⟩, .rp (by rw[Zf];rfl) ?_,λy v' hy _=>hy.mono0 q2 q3⟩;have:=(h8 q2).rowV;rw[hdiv]at this;exact this
 have grow: ∀(olds:List Value) (n0 cap:Nat) (b0:Option Addr),u= .slice b0 n0 cap->RCs E.w E.Pr row olds->n0=n->(Builtin.firstCells i.size n0 (.slice b0 n0 cap)).run P E.w.drew= .ok olds.toArray E.w.drew->cap<n0+m->Zt P A E l pend run k r:=by
  intro olds n0 cap b0 hun ho e0 hfo hroom;subst e0;have hr':=Xr (ty:=ty) hT hi hiz (w:=E.w) (n:=n0) (cap:=cap) (m:=m) (c:=c') (a:=a') (b:=b0) (olds:=olds) (us:=us) hfo (hfc E.w.drew rfl) hroom (by omega) (growslice_fits (by omega) hby);have hcm:=grownCap_le_maxLen E.w (n0+m) cap e (by unfold maxLen;omega);have hge:=grownCap_ge E.w (n0+m) cap e
  let cur2:Array Value:=(olds++us++(Builtin.zeroCells z.cells (grownCap E.w (n0+m) cap e-(n0+m))).toList).toArray
  have hsz2:cur2.size=grownCap E.w (n0+m) cap e*i.size:=by
   show(olds++us++_).toArray.size=_;rw[List.size_toArray,Znb,Rx,Znb,ho.len,hrcs.len,<-Znb,hnm,hzs,<-Zrb];congr 1;omega
  refine fin (E.w.drew.alloc (.cells cur2 e)) (some E.w.heap.size) (grownCap E.w (n0+m) cap e) (.slice (some ⟨E.w.heap.size,0,none⟩) (n0+m) (grownCap E.w (n0+m) cap e)) (λb' hb' _=>Go.RowKit.Below.heap_alloc _ _ _ hb') (by simp) rfl rfl rfl (Nat.le_succ _)
   (λg' e'=>by injection e' with e';subst e';exact⟨⟨_,_,heap_alloc_new E.w.drew (.cells cur2 e)⟩, .inr (Zm8 _)⟩) (λhx'=> ?_) (key _ _ (by rw[hun];exact hr'))
  have hne:E.w.heap.size=E.w.drew.heap.size:=rfl;refine⟨.inr ⟨E.w.heap.size,grownCap E.w (n0+m) cap e,cur2,by simp[Env.row],heap_alloc_new E.w.drew (.cells cur2 e),by rw[hnm,hsz2];exact Zn9 _ hge, ?_,by rw[hdiv],by rw[hdiv,hsz];exact hnm.symm,by rw[hdiv];exact hge,hcm,by rw[hsz];exact hsz2.symm⟩,λa2 m2 cap2 e2=>by injection e2 with _ _ e2;subst e2;simp[Env.row]⟩;have h1:=(ho.append hrcs).held hx';have h2:cur2.toList.take (row++news).length=olds++us:=by
   show((olds++us++_).toArray.toList).take _=_;rw[Zrh,Znb,<-ho.len,<-hrcs.len,<-Znb,List.take_left]
  rw[h2];exact h1
 obtain⟨hsl,hrcap⟩:=hrow;rcases hsl with⟨hrb,rfl,hun⟩|⟨gr,cap,cr,hrb,hgr,hle,hcc,hun,hmul,hncap,hcapm,hsc⟩
 ·have hn0:n=0:=by
   have:n*i.size=0:=by simpa using hn
   rcases Nat.mul_eq_zero.1 this with h|h
   ·exact h
   ·exact absurd h hs0
  subst hn0;by_cases hm0:m=0
  ·subst hm0;have hn0:news=[]:=Zna (by simpa using hnl);subst hn0;have hus0:us=[]:=Zna (by simpa using husl);subst hus0;refine fin E.w none 0 (.slice none 0 0) (λ_ _ _=>rfl) (Zm8 _) rfl rfl rfl (Zm8 _) (λg' e'=>by cases e') (λhx'=>⟨.inl ⟨by simp[Env.row],rfl,rfl⟩,λa2 m2 cap2 e2=>by cases e2⟩) (key _ _ (by rw[hun];exact Ql hT hi (hfc E.w rfl)))
  ·exact grow [] 0 0 none hun .nil rfl (by simp[Builtin.firstCells]) (by omega)
 ·have hdn:row.length/Zg P e=n:=by rw[<-hn,hsz];exact Zog _ (Zo0 hs0)
  rw[hdn]at hun hncap;rw[hsz]at hsc;by_cases hroom:n+m<=cap
  ·have hfit:n*i.size+us.length<=cr.size:=by rw[husl,<-hsc,<-Zrb];exact Zn9 _ hroom
   let cur2:Array Value:=(cr.toList.take (n*i.size)++us++cr.toList.drop (n*i.size+us.length)).toArray
   have hsz2:cur2.size=cr.size:=by simp[cur2];omega
   have hrcc:cap=E.rc s j:=hrcap _ _ _ hun;refine fin (E.w.setRow gr cur2) (some gr) cap (.slice (some ⟨gr,0,none⟩) (n+m) cap) (λb' _ hb'=>setRow_other E.w gr b' cur2 (λe=>hb' (e▸hrb))) (Zoy (setRow_size E.w gr cur2).symm) rfl rfl rfl (Zm8 _)
    (λg' e'=>by injection e' with e';subst e';exact⟨⟨_,_,setRow_heap E.w gr cr cur2 e (0,0) hgr⟩, .inl hrb⟩) (λhx'=> ?_) (key _ _ (by rw[hun];exact run_append_fits hT hi (hfc E.w rfl) hroom hgr hfit hrcs.ones))
   refine⟨.inr ⟨gr,cap,cur2,by simp[Env.row],setRow_heap E.w gr cr cur2 e (0,0) hgr,by rw[hnm,hsz2,<-hsc];exact Zn9 _ hroom, ?_,by rw[hdiv],by rw[hdiv,hsz];exact hnm.symm,by rw[hdiv];exact hroom,hcapm,by rw[hsz,hsz2];exact hsc⟩,λa2 m2 cap2 e2=>by injection e2 with _ _ e2;subst e2;simp[Env.row]⟩;have h1:=(hcc.append hrcs).held hx';have h2:cur2.toList.take (row++news).length=cr.toList.take row.length++us:=by
    show((cr.toList.take (n*i.size)++us++cr.toList.drop (n*i.size+us.length)).toArray.toList).take _=_;rw[Zrh,Znb,<-hrcs.len,hn];have:(cr.toList.take row.length++us).length=row.length+us.length:=by simp;omega
    rw[<-this,List.take_left]
   rw[h2];exact h1
  ·have hcells: ∀(jj:Nat) (v:Value),(cr.toList.take row.length)[jj]? =some v->E.w.drew.cell? ((⟨gr,0,none⟩:Addr).add jj)=some v:=by
    intro jj v hj;rw[Yu,Zmt];rw[Znc]at hj;split at hj
    ·show E.w.cell? _=_;rw[cell_of_row _ gr jj cr e (0,0) hgr];simpa using hj
    ·cases hj
   have hcc2:(cr.toList.take row.length).length=n*i.size:=by simp;omega
   have hfo:=run_firstCells_some (P:=P) E.w.drew i.size n ⟨gr,0,none⟩ n cap (cr.toList.take row.length) hcc2 hcells;exact grow _ n cap _ hun hcc rfl hfo (by omega)
theorem Zez (hG:Good P A E l pend) {cf:Cfg} (hP:cf.P=P) {c:Call} {T:TypeId} {d:Nat} {a b:Operand} (ho:o.op= .call c) (hc1:c.callee= .builtin .append) (hc2:c.args= #[a,b]) (hc3:c.argTypes= #[T,T]) (hd: ¬pend d)
  {x y:V} {u v:Value} (hx:RV P E l x u) (hy:RV P E l y v) (hu:ρ a=u) (hv:ρ b=v) (h0:Y5 cf T x y d l k=some r):Zt P A E l pend ((execOp ρ o).run P E.w) k r:=by
 have key: ∀q w',(Builtin.append_ #[T,T] o.type #[u,v]).run P E.w= .ok q w' ->(execOp ρ o).run P E.w= .ok (.value q) w':=by
  intro q w' h;simp[execOp,ho,resolve,hc1,hc2,hc3,invoke,builtin,hu,hv,h]
 unfold Y5 at h0;rw[hP]at h0;split at h0
 case h_2=>cases h0
 case h_1 e hT=>
  split at h0
  case h_2=>cases h0
  case h_1 i zs hi hz=>
   obtain⟨i',z,hi',hiz,hrun,hlen,hrc⟩:=Y9 hz E.w;rw[hi]at hi';injection hi' with hi';subst hi'
   have hzs:z.cells.size=i.size:=by have:=(hrc E.w E.Pr).len;simp at this;omega
   obtain⟨m,news,us,hk,hnl,hrcs,hlo,⟨a',c',hv2⟩,hfc⟩:=Jo hG hy h0;rw[Z3 hi]at hnl hfc;subst hv2;have husl:us.length=m*i.size:=by rw[hrcs.len,hnl]
   have hnil: ∀(ks:List Nat),d∈ks->u= .slice none 0 0->i.size≠0->m*i.bytes<=140737488355328->m<=140737488355328-> ∀{E1:Env} {l1:Loc},Good P A E1 l1 pend->E1.D=E.D->E1.w=E.w->E1.Pr=E.Pr->(∀y v,RV P E l y v->RV P E1 l1 y v)->
     k (.own d 0 m) ((l1.kill d).put d (.sb e 0 news)) ks=some r->Zt P A E l pend ((execOp ρ o).run P E.w) k r:=by
    intro ks hdk hun hs0 hby hm E1 l1 hG1 hDD hw hPr hrv hk;by_cases hm0:m=0
    ·subst hm0;have hn0:news=[]:=Zna (by simpa using hnl);subst hn0;have hus0:us=[]:=Zna (by simpa using husl);subst hus0;rw[key (.slice none 0 0) E.w (by rw[hun];exact Ql hT hi (hfc E.w rfl))];have hGk:=hG1.kill hd;obtain⟨q1,q2⟩:=Wk hGk (Ur d l1) hd e (Xq d l1);refine⟨_,_,_,hk,E1.kill l1 d,hw,⟨q1,hDD⟩, .ownNil (fz:=0) (Se E1 l1 d) (Zf _ _ _),λy v hy hkk=> ?_⟩;exact(U1 d (hrv y v hy)).mono (λs=>s=d) (.refl _ _) (λs hs=>q2 s hs) (λs hs=>by subst hs;exact hkk s hdk)
    ·have hr:=Xr (ty:=o.type) hT hi hiz (w:=E.w) (n:=0) (cap:=0) (m:=m) (c:=c') (a:=a') (b:=none) (olds:=[]) (us:=us) (by simp[Builtin.firstCells]) (hfc E.w.drew rfl) (by omega) (by omega)
      (growslice_fits (by omega) (by simpa using hby))
     simp only[Zmt,Zmz]at hr;rw[key _ _ (by rw[hun];exact hr)];have hcm:=grownCap_le_maxLen E.w m 0 e (by unfold maxLen;omega);have hge:=grownCap_ge E.w m 0 e;have hup:=Lj (P:=P) (A:=A) (pend:=pend) (E:=E1.kill l1 d) (l:=l1.kill d) (d:=d) hi hzs hs0 (hG1.kill hd) (Ur d l1) hd (Xq d l1) (cs:=news) (olds:=us) (by show RCs E1.w E1.Pr news us;rw[hw,hPr];exact hrcs) hnl hge hcm (fz:=0) (Znv _) (ob:= .sb e 0 news) (.inr rfl);have hw':(E1.kill l1 d).w=E.w:=hw;rw[hw']at hup;obtain⟨E',h1,h2,h3,h4⟩:=hup;exact⟨_,_,_,hk,E',h1,⟨h2.1,h2.2.trans hDD⟩,h3,λy v hy hkk=>h4 y v (U1 d (hrv y v hy)) λs hs=>by simp at hs;subst hs;exact hkk s hdk⟩
   split at hk
   case h_5=>cases hk
   case h_3 s' g j n=>
    split at hk
    case h_2=>cases hk
    case h_1 g' t q hl=>
     obtain⟨hg,hk⟩:=Za hk;obtain⟨p,hp,hk⟩:=Rws.look_eq hk;cases p with
     |c _=>cases hk
     |r te row=>
      obtain⟨hb,hk5⟩:=Za hk;clear hk;simp only[Zmq]at hb;obtain⟨⟨⟨⟨hb1,hb2⟩,hb3⟩,hb4⟩,hb5⟩:=hb;have ht:=Zmp hb1;subst ht;have hs0:i.size≠0:=by intro e;rw[e]at hb3;cases hb3
      exact Bo hG hT hi hiz hzs hnl hrcs hfc key hl hx hg hp (Zmp hb2) hs0 (Zmu hb4) (Zmu hb5) hk5
   case h_4 n0 cs0=>
    cases hx with|fs hc0 hcap=>
    obtain⟨uo,hk2,hol,hrco,⟨a1,c1,hu2⟩,hfo⟩:=Zhh hG hc0 hk;obtain⟨a2,hcap⟩:=hcap;rw[Z3 hi]at hol hfo;subst hu2;injection hcap with e1 e2 e3
    subst e1 e3;split at hk2
    case h_2=>
     obtain⟨hb,hkq⟩:=Za hk2;simp only[Zmq]at hb;obtain⟨⟨hb1,hb3⟩,hb4⟩:=hb;have hs0:i.size≠0:=by intro e;rw[e]at hb1;cases hb1
     have hby:=Zmu hb3;have hm:=Zmu hb4;by_cases hm0:m=0
     ·subst hm0;have hn0:news=[]:=Zna (by simpa using hnl);subst hn0;have hus0:us=[]:=Zna (by simpa using husl);subst hus0;rw[Zn8,Znz]at hkq;have hsame:(Builtin.append_ #[T,T] o.type #[.slice a1 c1 c1, .slice a' 0 c']).run P E.w= .ok (.slice a1 c1 c1) E.w:=by
       cases a1 with
       |none=>
        cases hc0 with
        |sl0 _=>exact Ql hT hi (hfc E.w rfl)
       |some ad=>
        have hf0:=hfc E.w rfl;simp[Builtin.append_,run_underlying hT,sizeOf,typeInfo,hi,Builtin.lenOf,hf0,storeCells]
      rw[key _ _ hsame];exact .quiet hG hkq (.c hc0)
     ·have hr':=Xr (ty:=o.type) hT hi hiz (w:=E.w) (m:=m) (c:=c') (a:=a') (us:=us) (hfo E.w.drew rfl) (hfc E.w.drew rfl) (by omega) (by omega) (growslice_fits (by omega) hby);rw[key _ _ hr'];have hcm:=grownCap_le_maxLen E.w (c1+m) c1 e (by unfold maxLen;omega);have hge:=grownCap_ge E.w (c1+m) c1 e;have hz1: ∀q,(Builtin.zeroCells z.cells q).toList=((Zra (q*i.size)).map (z.cells[· %z.cells.size]!)).toList:=by intro q;simp[Builtin.zeroCells,hzs]
      have hzr:RCs E.w E.Pr (Qw (grownCap E.w (c1+m) c1 e-(c1+m)) zs) (Builtin.zeroCells z.cells (grownCap E.w (c1+m) c1 e-(c1+m))).toList:=by
       rw[hz1,<-hlen];exact Sq (hrc E.w E.Pr) _ (.inr trivial)
      have hup:=Bn (P:=P) (A:=A) (pend:=pend) (l:=l) (e:=e) hG (cs:=cs0++news) (olds:=uo++us) (hrco.append hrcs) hzr hge hcm;exact⟨_,_,_,hkq,hup⟩
    obtain⟨hb,hkq⟩:=Za hk2;simp only[Zmq]at hb;obtain⟨⟨⟨hb1,hb2⟩,hb3⟩,hb4⟩:=hb;have hs0:i.size≠0:=by intro e;rw[e]at hb1;cases hb1
    have hm1:=Zmu hb2;have hby:=Zmu hb3;have hm:=Zmu hb4;have hr':=Xr (ty:=o.type) hT hi hiz (w:=E.w) (m:=m) (c:=c') (a:=a') (us:=us) (hfo E.w.drew rfl) (hfc E.w.drew rfl) (by omega) (by omega) (growslice_fits (by omega) hby);rw[key _ _ hr'];have hG2:=hG.kill hd;have hcm:=grownCap_le_maxLen E.w (c1+m) c1 e (by unfold maxLen;omega);have hge:=grownCap_ge E.w (c1+m) c1 e;have hcn:(cs0++news).length=(c1+m)*i.size:=by rw[Znb,hnl,hol,Zrb]
    have hup:=Lj (P:=P) (A:=A) (pend:=pend) (d:=d) hi hzs hs0 hG2 (Ur d _) hd (Xq d _) (cs:=cs0++news) (olds:=uo++us) (hrco.append hrcs) hcn hge hcm (fz:=0) (Znv _) (ob:= .sb e 0 (cs0++news)) (.inr rfl);obtain⟨E',h1,h2,h3,h4⟩:=hup;exact⟨_,_,_,hkq,E',h1,h2,h3,λy v hy hkk=>h4 y v (U1 d hy) λs hs=>by simp at hs;subst hs;exact hkk s (by simp)⟩
   case h_1=>
    obtain⟨hb,hk⟩:=Za hk;simp only[Zmq]at hb;have hs0:i.size≠0:=by intro e;rw[e]at hb;cases hb.1.1
    cases hx with|c hc=>
    cases hc with
    |nl=>exact hnil [d] (by simp) rfl hs0 (Zmu hb.1.2) (Zmu hb.2) hG rfl rfl rfl (λ_ _ h=>h) hk
   case h_2 s' off n=>
    have hmain: ∀t' fz cs (mk:List C->Obj),Z4 (l s')=some (t',fz,cs)->(∀q,mk q= .ob e fz q\/mk q= .sb e fz q)->(fz=0-> ∀t f,l s'= .sb t f []-> ∀q,mk q= .sb e 0 q)->
      need (Zqv t' e&&Zqv off 0&&Zqv (n*i.size) cs.length&&(!Nat.beq i.size 0)&&Zqw ((n+m)*i.bytes) 140737488355328&&Zqw (n+m) 140737488355328)
       (k (.own d 0 (n+m)) (((l.kill s').kill d).put d (mk (cs++news))) [s',d])=some r->Zt P A E l pend ((execOp ρ o).run P E.w) k r:=by
     intro t' fz cs mk hl hmk hmk0 h;obtain⟨hb,hkq⟩:=Za h;simp only[Zmq]at hb;obtain⟨⟨⟨⟨⟨hb1,hb2⟩,hb3⟩,hb4⟩,hb5⟩,hb6⟩:=hb;have ht:t'=e:=Zmp hb1;have hoff:off=0:=Zmp hb2;have hcl:n*i.size=cs.length:=Zmp hb3;have hs0:i.size≠0:=by intro e;rw[e]at hb4;cases hb4
     have hby:=Zmu hb5;have hm:=Zmu hb6;subst ht hoff;have hps: ¬pend s':=by
      intro hp;have:=hG.pnd s' hp;obtain⟨h1,_,_,h2⟩:=this;cases hx with
      |ownDead hd=>rw[hd]at hl;cases hl
      |ownMx hd=>first|exact(Uk hd hl).elim|(rw[hl]at hd;cases hd)
      |ownNil _ h3=>rw[h2]at h3;cases h3
      |own hr _ _ _ _=>rw[h1]at hr;cases hr
      |own0 hr _ _=>rw[h1]at hr;cases hr
     cases hx with
     |ownDead hd=>rw[hd]at hl;cases hl
     |ownMx hd=>first|exact(Uk hd hl).elim|(rw[hl]at hd;cases hd)
     |own0 _ _ hq=>exact absurd rfl hq
     |ownNil hr hl2=>
      rw[hl2]at hl;injection hl with hl;injection hl with e1 e2;injection e2 with e2 e3;subst e1 e3
      simp only[Zmt,Zmz]at hkq hby hm;have hfz0:fz=0:=by
       have h0:=hG.obj s' hps;rw[hl2]at h0;cases h0 with
       |sbNil _=>exact e2.symm
       |sb h1 _ _=>rw[h1]at hr;cases hr
      rw[hmk0 hfz0 _ _ hl2]at hkq;exact hnil [s',d] (by simp) rfl hs0 hby hm (hG.kill hps) rfl rfl rfl (λ_ _ h=>U1 s' h) hkq
     | @own _ _ _ g cap t2 fz2 cs2 hr hl2 hn hc hs=>
      rw[hl]at hl2;injection hl2 with hl2;injection hl2 with e1 e2;injection e2 with e2 e3;subst e1 e2 e3
      obtain⟨⟨cur,hg,hbs,hclc,hcc⟩,hfl⟩:=Tm hG hl hr;rw[Z3 hi,Zmt]at hs;have hG1:=hG.kill hps;have hG2:=hG1.kill hd;have hfzc:fz<=(cs++news).length:=by simp;omega
      have hcn:(cs++news).length=(n+m)*i.size:=by rw[Znb,hnl,<-hcl,Zrb]
      by_cases hroom:n+m<=cap
      ·have hfit:n*i.size+us.length<=cur.size:=by rw[husl,hbs,<-hs,<-Zrb];exact Zn9 _ hroom
       rw[key _ _ (run_append_fits hT hi (hfc E.w rfl) hroom hg hfit hrcs.ones)]
       let cur':Array Value:=(cur.toList.take (n*i.size)++us++cur.toList.drop (n*i.size+us.length)).toArray
       have hcs:cur'.size=cur.size:=by simp[cur'];omega
       have hno: ∀a,((E.kill l s').kill (Loc.kill s' l) d).rho a≠some g:=by
        intro a ha;have h1:=Pb ha;have h2:=Pb h1;have h3:=hG.inj a s' g h2 hr;subst h3;rw[Se]at h1;cases h1
       have hprot: ∀k,E.Pr g k->k<fz:=by
        intro k hp;have h1:=(hG.prot g k hp).2 s' hr;have h2:(l s').fz=fz:=by rcases Y6 hl with e|e<;>rw[e]<;>rfl
        rwa [h2]at h1
       have hadopt:=Gk (P:=P) (A:=A) hG2 (d:=d) (g:=g) (Ur d _) hd hno (λa j e=>(hG.rbo a j g e).rho s' hr) (hG.yown s' g hr) (hG.base s' g hr) (cur:=cur) (cur':=cur') (t:=t') hg hcs (fz:=fz) hprot (λj hj=>by
         have hjc:j<cur.size:=by omega
         simp only[cur',Zpf];rw[Zny,Znt (by simp;omega),Znc,if_pos (by omega)];simp) (cs:=cs++news) (ob:=mk (cs++news)) (hmk _) hfzc (by rw[hcn,hcs,hbs,<-hs];exact Zn9 _ hroom) (by
         have h1:=hcc.append hrcs;have h2:cur'.toList.take (cs++news).length=cur.toList.take cs.length++us:=by
          simp only[cur',Znb];rw[hcl,<-hrcs.len,Zo8 (by simp;omega),Zm1 (by simp;omega)]
         rw[h2];exact h1) (Xq d _)
       obtain⟨q1,q2,q3⟩:=hadopt;refine⟨_,_,_,hkq,_,rfl,⟨q1,rfl⟩, .own (g:=g) (t:=t') (fz:=fz) (cs:=cs++news) (by simp[Env.adopt]) (by rw[Zf];rcases hmk (cs++news)with e|e<;>rw[e]<;>rfl) hroom hc (by rw[Z3 hi];simp[Env.adopt];rw[hs,<-hbs];exact hcs.symm),λy v hy hkk=> ?_⟩;exact(U1 d (U1 s' hy)).mono (λs=>s=d) q2 (λs hs=>q3 s hs) (λs hs=>by subst hs;exact hkk s (by simp))
      ·have hcc2:(cur.toList.take cs.length).length=n*i.size:=by rw[hcc.len,hcl]
       have hcells: ∀j v,(cur.toList.take cs.length)[j]? =some v->E.w.drew.cell? ((⟨g,0,none⟩:Addr).add j)=some v:=by
        intro j v hj;rw[Yu,Zmt];rw[Znc]at hj;split at hj
        ·show E.w.cell? _=_;rw[cell_of_row _ g j cur t' (0,0) hg];simpa using hj
        ·cases hj
       have hfo:=run_firstCells_some (P:=P) E.w.drew i.size n ⟨g,0,none⟩ n cap (cur.toList.take cs.length) hcc2 hcells;have hr':=Xr (ty:=o.type) hT hi hiz (w:=E.w) (n:=n) (cap:=cap) (m:=m) (c:=c') (a:=a') (b:=some ⟨g,0,none⟩) (us:=us) hfo (hfc E.w.drew rfl) (by omega) (by omega) (growslice_fits (by omega) hby);rw[key _ _ hr'];have hcm:=grownCap_le_maxLen E.w (n+m) cap t' (by unfold maxLen;omega);have hge:=grownCap_ge E.w (n+m) cap t';have hup:=Lj (P:=P) (A:=A) (pend:=pend) (d:=d) hi hzs hs0 hG2 (Ur d _) hd (Xq d _) (cs:=cs++news) (olds:=cur.toList.take cs.length++us) (hcc.append hrcs) hcn hge hcm (fz:=fz) hfzc (ob:=mk (cs++news)) (hmk _);obtain⟨E',h1,h2,h3,h4⟩:=hup;exact⟨_,_,_,hkq,E',h1,h2,h3,λy v hy hkk=>h4 y v (U1 d (U1 s' hy)) λs hs=>by simp at hs;subst hs;exact hkk s (by simp)⟩
    split at hk
    ·rename_i t' fz cs hl;exact hmain t' fz cs (λq=> .ob e fz q) (by rw[hl];rfl) (λ_=> .inl rfl) (λ_ _ _ h=>by rw[hl]at h;cases h) hk
    ·rename_i t' fz cs hl;exact hmain t' fz cs (λq=> .sb e fz q) (by rw[hl];rfl) (λ_=> .inr rfl) (λh0 _ _ _ _=>by rw[h0]) hk
    ·cases hk
theorem Hh {t t' ty e:TypeId} {kd kd':IntKind} {i:TypeInfo} {z:Value} (ht:P.underlying t=some (.slice e)) (ht':P.underlying t'=some (.int kd)) (hi:P.info? e=some i) (hz:i.zero=some z) {w:World} {n:Int} (hn:0<n) (hn2:n<=140737488355328)
  (hs0:i.size≠0) (hby:(i.bytes:Int)*n<=140737488355328):
  (Builtin.append_ #[t,t'] ty #[.slice none 0 0, .int kd' n]).run P w= .ok (.slice (some ⟨w.heap.size,0,none⟩) n.toNat (grownCap w n.toNat 0 e))
   (w.drew.alloc (.cells ((Builtin.zeroCells z.cells n.toNat).toList++(Builtin.zeroCells z.cells (grownCap w n.toNat 0 e-n.toNat)).toList).toArray e)):=by
 obtain⟨m,rfl⟩: ∃m:Nat,n=m:=⟨n.toNat,by omega⟩;have w1:Zqu.wrap (m:Int)=m:=wrap_small (by omega) hn2;have hm: ¬m<=0:=by omega
 have h48: ¬((2:Int)^48<(m:Int)*(i.bytes:Int)):=by
  have:(2:Int)^48=281474976710656:=by decide
  rw[this,Zrd];omega
 have h0: ¬((m:Int)<0):=by omega
 have hmz: ¬(m*i.size=0):=by
  intro h;rcases Nat.mul_eq_zero.1 h with h|h<;>omega
 have h63: ¬((9223372036854775807:Int)<(m:Int)):=by omega
 have e1:((m*i.bytes:Nat):Int)=(i.bytes:Int)*m:=by rw[Zpp,Zrd]
 have hfit: ¬(281474976710656<Builtin.nextslicecap m 0*i.bytes):=by
  have:=growslice_fits (bytes:=i.bytes) (need:=m) (old:=0) (by omega) (by omega);omega
 simp[Builtin.append_,run_underlying ht,run_underlying ht',sizeOf,typeInfo,zeroValue,hi,hz,asInt,asIntOf,w1,h0,h48,hm,hmz,h63,hfit,Question.forced,newRow,grownCap,Builtin.firstCells];have h48': ¬(281474976710656<(m:Int)*(i.bytes:Int)):=by rw[Zrd];omega
 have hm0: ¬m=0:=by omega
 rw[if_neg h48',if_neg hm0]
 congr 2
 congr 1;apply Zrc
 simp
theorem Zbz (hG:Good P A E l pend) {c:Call} {T T':TypeId} {d:Nat} {a b:Operand} (ho:o.op= .call c) (hc1:c.callee= .builtin .append) (hc2:c.args= #[a,b]) (hc3:c.argTypes= #[T,T']) (hd: ¬pend d)
  {x y:V} {u v:Value} (hx:RV P E l x u) (hy:RV P E l y v) (hu:ρ a=u) (hv:ρ b=v) (h0:Xn P l k T T' x y d=some r):Zt P A E l pend ((execOp ρ o).run P E.w) k r:=by
 unfold Xn at h0;split at h0
 case h_2=>cases h0
 case h_1 e kd n hT hT' hn=>
  obtain⟨kd',rfl⟩:=Uq hn hy;cases hx with|c hc=>cases hc with|nl=>
  split at h0
  case h_2=>cases h0
  case h_1 i zs hi hz=>
   obtain⟨hb,hk⟩:=Za h0;simp only[Zmq,decide_eq_true_iff]at hb;obtain⟨⟨⟨hb1,hb2⟩,hb3⟩,hb5⟩:=hb;have hs0:i.size≠0:=by intro e;rw[e]at hb5;cases hb5
   obtain⟨i',z,hi',hiz,hrun,hlen,hrc⟩:=Y9 hz E.w;rw[hi]at hi';injection hi' with hi';subst hi'
   have hzs:z.cells.size=i.size:=by have:=(hrc E.w E.Pr).len;simp at this;omega
   have hr:=Hh (ty:=o.type) (kd':=kd') hT hT' hi hiz (w:=E.w) hb1 hb3 hs0 hb2;have hrun2:(execOp ρ o).run P E.w= .ok (.value (.slice (some ⟨E.w.heap.size,0,none⟩) n.toNat (grownCap E.w n.toNat 0 e)))
     (E.w.drew.alloc (.cells ((Builtin.zeroCells z.cells n.toNat).toList++(Builtin.zeroCells z.cells (grownCap E.w n.toNat 0 e-n.toNat)).toList).toArray e)):=by
    simp[execOp,ho,resolve,hc1,hc2,hc3,invoke,builtin,hu,hv,hr]
   rw[hrun2];have hcm:=grownCap_le_maxLen E.w n.toNat 0 e (by unfold maxLen;omega);have hge:=grownCap_ge E.w n.toNat 0 e;have hz1:(Builtin.zeroCells z.cells n.toNat).toList=((Zra (n.toNat*i.size)).map (z.cells[· %z.cells.size]!)).toList:=by simp[Builtin.zeroCells,hzs]
   have hrcs:RCs E.w E.Pr (Qw n.toNat zs) (Builtin.zeroCells z.cells n.toNat).toList:=by
    rw[hz1,<-hlen];exact Sq (hrc E.w E.Pr) n.toNat (.inr trivial)
   have hup:=Lj (P:=P) (A:=A) (pend:=pend) (E:=E.kill l d) (l:=l.kill d) (d:=d) hi hzs hs0 (hG.kill hd) (Ur d l) hd (Xq d l) (cs:=Qw n.toNat zs) (olds:=(Builtin.zeroCells z.cells n.toNat).toList) hrcs (by rw[Qb,hlen]) hge hcm (fz:=0) (Znv _) (ob:= .sb e 0 (Qw n.toNat zs)) (.inr rfl);obtain⟨E',h1,h2,h3,h4⟩:=hup;exact⟨_,_,_,hk,E',h1,⟨h2.1,h2.2⟩,h3,λy v hy hkk=>h4 y v (U1 d hy) λs hs=>by simp at hs;subst hs;exact hkk s (by simp)⟩
theorem Zb0 {w:World} {dT sT ty el:TypeId} {i:TypeInfo} {g o dLen dCap sLen sCap:Nat} {a:Addr} {cur:Array Value} {t:TypeId} {cs:List Value}
  (hu:P.underlying dT=some (.slice el)) (hi:P.info? el=some i) (hg:w.heap[g]? =some (.cells cur t (0,0))) (hn:cs.length=Nat.min sLen dLen*i.size)
  (hl:(loadCells a cs.length).run P w= .ok cs.toArray w) (hfit:o+cs.length<=cur.size) (h1: ∀v∈cs,v.oneCell'=true):
  (Builtin.copy_ #[dT,sT] ty #[.slice (some ⟨g,o,none⟩) dLen dCap, .slice (some a) sLen sCap]).run P w= .ok (goInt (Nat.min sLen dLen)) (w.setRow g (cur.toList.take o++cs++cur.toList.drop (o+cs.length)).toArray):=by
 have hst:=run_storeCells_at P g o t cs 0 cur w hg (by simpa using hfit) h1;rw[hn]at hl;simp[Builtin.copy_,run_underlying hu,Builtin.lenOf,Builtin.firstCells,sizeOf,typeInfo,hi,hl,hst]
theorem Gm {w:World} {dT sT ty el:TypeId} {i:TypeInfo} {d a:Option Addr} {dLen dCap sLen sCap:Nat} (hu:P.underlying dT=some (.slice el)) (hi:P.info? el=some i) (hn:Nat.min sLen dLen=0):
  (Builtin.copy_ #[dT,sT] ty #[.slice d dLen dCap, .slice a sLen sCap]).run P w= .ok (goInt 0) w:=by
 have hl: ∀(x:Addr),(loadCells x 0).run P w= .ok #[] w:=λx=>by simpa using run_loadCells_list (P:=P) w x [] (by simp)
 cases d<;>cases a<;>simp[Builtin.copy_,run_underlying hu,Builtin.lenOf,Builtin.firstCells,sizeOf,typeInfo,hi,hn,storeCells,hl]
theorem Bp {s off n:Nat} {u:Value} {q:TypeId×Nat×List C} (hl:Z4 (l s)=some q) (hx:RV P E l (.own s off n) u): ∃a cap,u= .slice a n cap:=by
 cases hx with
 |ownDead hd=>rw[hd]at hl;cases hl
 |ownMx hd=>first|exact(Uk hd hl).elim|(rw[hl]at hd;cases hd)
 |ownNil _ _=>exact⟨_,_,rfl⟩
 |own0 _ _ _=>exact⟨_,_,rfl⟩
 |own _ _ _ _ _=>exact⟨_,_,rfl⟩
theorem Bq {s off n:Nat} {u:Value} {q:TypeId×Nat×List C} (hl:Z4 (l s)=some q) (hn:n≠0) (hx:RV P E l (.own s off n) u): ∃g cap,E.rho s=some g/\u= .slice (some ⟨g,off,none⟩) n cap:=by
 cases hx with
 |ownDead hd=>rw[hd]at hl;cases hl
 |ownMx hd=>first|exact(Uk hd hl).elim|(rw[hl]at hd;cases hd)
 |ownNil _ _=>exact absurd rfl hn
 |own0 _ _ _=>exact absurd rfl hn
 |own h _ _ _ _=>exact⟨_,_,h,rfl⟩
theorem Dp (hG:Good P A E l pend) {c:Call} {T T':TypeId} {a b:Operand} {el:TypeId} {i:TypeInfo} (hT:P.underlying T=some (.slice el)) (hi:P.info? el=some i)
  {u v:Value} (key: ∀q w',(Builtin.copy_ #[T,T'] o.type #[u,v]).run P E.w= .ok q w' ->(execOp ρ o).run P E.w= .ok (.value q) w')
  {s off n m g cap cap' q t fz:Nat} {cs xs:List C} {us:List Value} {src:Addr} (hq:Nat.min m n=q+1) (hls:l s= .sb t fz cs) (hr:E.rho s=some g) (e1:u= .slice (some ⟨g,off,none⟩) n cap) (e2:v= .slice (some src) m cap')
  (b3:fz<=off) (b4:off+(q+1)*i.size<=cs.length) (b6:1<=i.size) (hxl:xs.length=(q+1)*i.size) (husl:us.length=(q+1)*i.size)
  (h2:RCs E.w E.Pr xs us) (hload:(loadCells src us.length).run P E.w= .ok us.toArray E.w) (hk:k (I ((q+1:Nat):Int)) (l.put s (.sb t fz (putAt cs off xs))) []=some r):Zt P A E l pend ((execOp ρ o).run P E.w) k r:=by
  subst e2;have hls':Z4 (l s)=some (t,fz,cs):=by rw[hls];rfl
  obtain⟨⟨cur,hg,hbs,hcl,hcc⟩,hfl⟩:=Tm hG hls' hr
  let cur':Array Value:=(cur.toList.take off++us++cur.toList.drop (off+us.length)).toArray
  have hcs:cur'.size=cur.size:=by simp[cur'];omega
  have hpl:(putAt cs off xs).length=cs.length:=by simp[putAt];omega
  have hrun:=Zb0 (ty:=o.type) (sT:=T') (dCap:=cap) (sCap:=cap') hT hi hg (o:=off) (dLen:=n) (sLen:=m) (a:=src) (cs:=us) (by rw[husl,hq]) hload (by omega) h2.ones;rw[key _ _ (by rw[e1];exact hrun)];have hfz:(l s).fz=fz:=by rw[hls];rfl
  obtain⟨q1,q2,q3⟩:=Pa hG (s:=s) hr hg hcs (ob:= .sb t fz (putAt cs off xs)) (by rw[hls];rfl) (λj hj=>by
    rw[hfz]at hj;have hjc:j<cur.size:=by omega
    simp only[cur',Zpf];rw[Zny,Znt (by simp;omega),Znc,if_pos (by omega)];simp) (λhx' hk'=> .sb hr ⟨cur',setRow_heap E.w g cur cur' t (0,0) hg,hcs.trans hbs,by rw[hpl,hcs];exact hcl,by
     have h3:=(hcc.held hx').putAt (h2.held hx') off;have h4:cur'.toList.take (putAt cs off xs).length=(cur.toList.take cs.length).take off++us++(cur.toList.take cs.length).drop (off+us.length):=by
      rw[hpl];simp only[cur'];rw[Zqt,Zol (by omega),List.drop_take];rw[Zny,Zpi,Zny];simp only[Znr];have e1:min off cur.toList.length=off:=by simp;omega
      rw[e1,Zm1 (by simp;omega),Zpi]
      congr 1
      rw[Zm1 (by omega)]
      congr 2
      omega
     rw[h4];exact h3⟩ (by rw[hpl];exact hfl)) ⟨(λt2 fz2 e=>by
      rw[hls]at e;injection e with e1 e2 e3;subst e3
      have b7:0<(q+1)*i.size:=Zqs (by omega) b6;have b4':off+(q+1)*i.size<=0:=b4;omega),λ_ _ _ e=> .inl ⟨fz,putAt cs off xs,by rw[hls]at e;injection e with e;injection e with e1 _;subst e1;rw[Zf];rfl⟩,(λe=>by rw[hls]at e;cases e)⟩ (λ_ _ _=> .no (Zf _ _ _) rfl rfl)
  exact⟨_,_,_,hk,_,rfl,⟨q1,rfl⟩,by rw[hq];exact .c (.v rfl),λy' v' hy' _=>hy'.mono0 q2 q3⟩
theorem Zjt (hG:Good P A E l pend) {c:Call} {T T':TypeId} {a b:Operand} (ho:o.op= .call c) (hc1:c.callee= .builtin .copy) (hc2:c.args= #[a,b]) (hc3:c.argTypes= #[T,T'])
  {x y:V} {u v:Value} (hx:RV P E l x u) (hy:RV P E l y v) (hu:ρ a=u) (hv:ρ b=v) (h0:N6 P l k T x y=some r):Zt P A E l pend ((execOp ρ o).run P E.w) k r:=by
 have key: ∀q w',(Builtin.copy_ #[T,T'] o.type #[u,v]).run P E.w= .ok q w' ->(execOp ρ o).run P E.w= .ok (.value q) w':=by
  intro q w' h;simp[execOp,ho,resolve,hc1,hc2,hc3,invoke,builtin,hu,hv,h]
 unfold N6 at h0;split at h0
 case h_2=>cases h0
 case h_1 el hT=>
 split at h0
 case h_3=>cases h0
 case h_2 i s off n cc hi=>
  obtain⟨m,ds,hc,h0⟩:=Zdx h0;split at h0
  case h_2=>cases h0
  case h_1 t fz cs hls=>
  have hls':Z4 (l s)=some (t,fz,cs):=by rw[hls];rfl
  have hv': ∃a' cap',v= .slice a' m cap':=by
   cases hy with
   |c hy=>rcases hc with rfl|⟨rfl,rfl,rfl⟩<;>cases hy<;>exact⟨_,_,rfl⟩
  split at h0
  ·rename_i hz;obtain⟨b1,c1,e1⟩:=Bp hls' hx;obtain⟨a',cap',e2⟩:=hv';rw[key (goInt 0) E.w (by rw[e1,e2];exact Gm hT hi hz)];exact .quiet hG h0 (.c (.v rfl))
  ·rename_i q hq;obtain⟨hb,hk⟩:=Za h0;simp only[Zmq]at hb;obtain⟨⟨⟨⟨b1,b3⟩,b4⟩,b5⟩,b6⟩:=hb;have b3:=Zmu b3;have b4:=Zmu b4;have b5:=Zmu b5;have b6:=Zmu b6;have b7:0<(q+1)*i.size:=Zqs (by omega) b6;have hn0:n≠0:=λe=>by subst e;exact absurd (hq.symm.trans (Nat.min_zero m)) (by simp)
   obtain⟨g,cap,hr,e1⟩:=Bq hls' hn0 hx;obtain⟨g',o',cap',us',e2,h1,h2⟩: ∃(g' o' cap':Nat) (us':Nat->Value),v= .slice (some ⟨g',o',none⟩) m cap'/\(∀(j:Nat) (c:C),ds[j]? =some c->E.w.cell? ⟨g',o'+j,none⟩=some (us' j))/\ ∀(j:Nat) (c:C),ds[j]? =some c->RC E.w E.Pr c (us' j):=by
    cases hy with
    |c hy=>
     rcases hc with rfl|⟨rfl,rfl,rfl⟩
     ·cases hy with
      |sl0 _=>simp at b5;omega
      |sl _ _ h1 h2=>exact⟨_,_,_,_,rfl,λj c hj=>(h1 j c hj).1,h2⟩
     ·simp at b5;omega
   have hxl:(ds.take ((q+1)*i.size)).length=(q+1)*i.size:=by simp;omega
   let us:=(Zq6 ((q+1)*i.size)).map us'
   have husl:us.length=(q+1)*i.size:=by simp[us]
   have hus: ∀(j:Nat) (v:Value),us[j]? =some v->j<(q+1)*i.size/\v=us' j:=λj v hj=>by
    have hlt:=(Zmx.1 hj).1;rw[husl]at hlt;refine⟨hlt, ?_⟩;simp only[us,Zm9,List.getElem?_range hlt,Zpo]at hj;injection hj with hj;exact hj.symm
   have hds: ∀j,j<(q+1)*i.size-> ∃c,ds[j]? =some c:=λj hj=>⟨_,Zm0 (by omega)⟩;have hrcs:RCs E.w E.Pr (ds.take ((q+1)*i.size)) us:=by
    refine⟨by rw[hxl,husl],λj c u hj hu=> ?_⟩;obtain⟨hlt,rfl⟩:=hus j u hu;rw[Znc,if_pos hlt]at hj;exact h2 j c hj
   have hload:=run_loadCells_list (P:=P) E.w ⟨g',o',none⟩ us (λj v hv=>by
    obtain⟨hlt,rfl⟩:=hus j v hv;obtain⟨c,hc⟩:=hds j hlt;rw[Yu];exact h1 j c hc)
   exact Dp hG (c:=c) (a:=a) (b:=b) hT hi key hq hls hr e1 e2 b3 b4 b6 hxl husl hrcs hload hk
 case h_1 i s off n s' off' m hi=>
 split at h0
 case h_2=>cases h0
 case h_1 q1 t' fz' ds hl hl'=>
 split at h0
 ·rename_i hz;obtain⟨b1,c1,e1⟩:=Bp hl hx;obtain⟨b2,c2,e2⟩:=Bp hl' hy;rw[key (goInt 0) E.w (by rw[e1,e2];exact Gm hT hi hz)];exact .quiet hG h0 (.c (.v rfl))
 ·rename_i q hq;split at h0
  case h_2=>cases h0
  case h_1 t fz cs hls=>
  obtain⟨hb,hk⟩:=Za h0;simp only[Zmq]at hb;obtain⟨⟨⟨⟨⟨b1,b2⟩,b3⟩,b4⟩,b5⟩,b6⟩:=hb;have b3:=Zmu b3;have b4:=Zmu b4;have b5:=Zmu b5;have b6:=Zmu b6;have hn0:n≠0:=λe=>by subst e;exact absurd (hq.symm.trans (Nat.min_zero m)) (by simp)
  have hm0:m≠0:=λe=>by subst e;exact absurd (hq.symm.trans (Nat.zero_min n)) (by simp)
  obtain⟨g,cap,hr,e1⟩:=Bq hl hn0 hx;obtain⟨g',cap',hr',e2⟩:=Bq hl' hm0 hy;obtain⟨hblk',_⟩:=Tm hG hl' hr';have hat:=(((hblk'.at_).drop off').take ((q+1)*i.size));obtain⟨us,h1,h2⟩:=hat.list;have hxl:((ds.drop off').take ((q+1)*i.size)).length=(q+1)*i.size:=by simp;omega
  have husl:us.length=(q+1)*i.size:=by rw[h2.len,hxl]
  have hload:=run_loadCells_list (P:=P) E.w ⟨g',0+off',none⟩ us (λj v hv=>by rw[Yu];exact h1 j v hv);rw[Zmt]at hload;exact Dp hG (c:=c) (a:=a) (b:=b) hT hi key hq hls hr e1 e2 b3 b4 b6 hxl husl h2 hload hk
end
end Go.PM
namespace Go.PM
open Go
variable {P:Program} {R:Type} {r:R}
theorem Zju {kd:IntKind} {c:C} {k:Int->Option R} (h:asI kd c k=some r): ∃n,(∀{S:Type} (k':Int->Option S),asI kd c k'=k' n)/\k n=some r:=by
 unfold asI at h;split at h
 ·rename_i kd' n;split at h
  ·rename_i hk;exact⟨n,λk'=>by simp[asI,hk],h⟩
  ·cases h
 ·cases h
theorem Zjv {c:C} {k:Bool->Option R} (h:asB c k=some r): ∃n,(∀{S:Type} (k':Bool->Option S),asB c k'=k' n)/\k n=some r:=by
 unfold asB at h;split at h
 ·exact⟨_,λk'=>rfl,h⟩
 ·cases h
theorem Vf {c:C} {k:ByteArray->Option R} (h:asS c k=some r): ∃n,(∀{S:Type} (k':ByteArray->Option S),asS c k'=k' n)/\k n=some r:=by
 unfold asS at h;split at h
 ·exact⟨_,λk'=>rfl,h⟩
 ·cases h
theorem Uc {c:C} {k:Nat->List C->Option R} (h:asSl c k=some r): ∃n cs,(∀{S:Type} (k':Nat->List C->Option S),asSl c k'=k' n cs)/\k n cs=some r:=by
 unfold asSl slOf at h;cases c with
 |sl n cs=>exact⟨_,_,λk'=>rfl,h⟩
 |nl=>exact⟨_,_,λk'=>rfl,h⟩
 |_=>cases h
theorem X5 {c:C} {k:List C->Option R} (h:asP c k=some r): ∃cs,(∀{S:Type} (k':List C->Option S),asP c k'=k' cs)/\k cs=some r:=by
 unfold asP at h;split at h
 ·exact⟨_,λk'=>rfl,h⟩
 ·cases h
theorem Zb {b:Bool} {x:Option R} (h:need b x=some r):(∀{S:Type} (y:Option S),need b y=y)/\x=some r:=by
 obtain⟨h1,h2⟩:=Za h;exact⟨λy=>by rw[h1];rfl,h2⟩
theorem Sr {l:Lf} {c:C} {k:C->Option R} (h:Ub l c k=some r): ∃c',(∀{S:Type} (k':C->Option S),Ub l c k'=k' c')/\k c'=some r:=by
 cases l with
 |i kd=>obtain⟨n,h1,h2⟩:=Zju h;exact⟨_,λk'=>h1 _,h2⟩
 |b=>obtain⟨n,h1,h2⟩:=Zjv h;exact⟨_,λk'=>h1 _,h2⟩
 |s=>obtain⟨n,h1,h2⟩:=Vf h;exact⟨_,λk'=>h1 _,h2⟩
 |o=>exact⟨c,λk'=>rfl,h⟩
theorem U6: ∀{ls:List Lf} {cs:List C} {k:List C->Option R} (_:U3 ls cs k=some r),∃cs',(∀{S:Type} (k':List C->Option S),U3 ls cs k'=k' cs')/\k cs'=some r
 | [],cs,k,h=>⟨[],λk'=>rfl,h⟩
 |l::ls,[],k,h=>by cases h
 |l::ls,c::cs,k,h=>by
  obtain⟨c',h1,h2⟩:=Sr (show Ub l c (λc'=>U3 ls cs λcs'=>k (c'::cs'))=some r from h);obtain⟨cs',h3,h4⟩:=U6 h2;exact⟨c'::cs',λk'=>by simp only[U3,unc,h1,h3],h4⟩
theorem Lk {t:TypeId} {x:V} {k:V->Option R} (h:Mi P t x k=some r): ∃v,(∀{S:Type} (k':V->Option S),Mi P t x k'=k' v)/\k v=some r:=by
 unfold Mi at h;split at h
 ·rename_i ha;unfold rA at h;split at h
  ·rename_i cs;split at h
   ·rename_i ls hl;obtain⟨h1,h2⟩:=Zb h;obtain⟨cs',h3,h4⟩:=U6 h2;exact⟨_,λk'=>by simp only[Mi,ha,rA,hl,h1,h3],h4⟩
   ·rename_i hl;exact⟨_,λk'=>by simp only[Mi,ha,rA,hl],h⟩
  ·cases h
 ·rename_i ha;split at h
  ·rename_i lf hl;unfold rC at h;split at h
   ·rename_i c;obtain⟨c',h1,h2⟩:=Sr (k:=λc'=>k (.c c')) h;exact⟨_,λk'=>by simp only[Mi,ha,hl,rC,h1],h2⟩
   ·cases h
  ·cases h
theorem Gn: ∀{ts:List TypeId} {xs:List V} {k:List V->Option R} (_:Mj P ts xs k=some r),∃vs,(∀{S:Type} (k':List V->Option S),Mj P ts xs k'=k' vs)/\k vs=some r
 | [],xs,k,h=>by
  unfold Mj at h;split at h
  ·exact⟨[],λk'=>by simp[Mj],h⟩
  ·cases h
 |t::ts,[],k,h=>by cases h
 |t::ts,x::xs,k,h=>by
  obtain⟨v,h1,h2⟩:=Lk (show Mi P t x (λv=>Mj P ts xs λvs=>k (v::vs))=some r from h);obtain⟨vs,h3,h4⟩:=Gn h2;exact⟨v::vs,λk'=>by simp only[Mj,uncV,h1,h3],h4⟩
theorem Pf {t:TypeId} {x:V} {k:V->Option R} (h:Mk P t x k=some r): ∃v,(∀{S:Type} (k':V->Option S),Mk P t x k'=k' v)/\k v=some r:=by
 unfold Mk at h;split at h
 ·rename_i ts hT;split at h
  ·rename_i hts;exact⟨_,λk'=>by simp only[Mk,hT,hts],h⟩
  ·rename_i hts;unfold rT at h;split at h
   ·rename_i vs;obtain⟨vs',h1,h2⟩:=Gn h;exact⟨.tup vs',λk'=>by
     simp only[Mk,hT,rT,h1],h2⟩
   ·cases h
 ·rename_i hT;obtain⟨v,h1,h2⟩:=Lk h;exact⟨v,λk'=>by
   unfold Mk;split
   ·rename_i ts hts;exact absurd hts (hT ts)
   ·exact h1 k',h2⟩
theorem Yp {xs:List Obj} {k:Obj->List Obj->Option R} (h:uncO xs k=some r): ∃o os,xs=o::os/\k o os=some r:=by
 cases xs with
 |nil=>cases h
 |cons o os=>exact⟨o,os,rfl,h⟩
theorem Gp {o:Obj} {t fz:Nat} {k:List C->Option R} (h:rO o t fz k=some r): ∃cs,o= .ob t fz cs/\k cs=some r:=by
 unfold rO at h;split at h
 ·obtain⟨hb,hq⟩:=Za h;rw[Zmq]at hb;have e1:=Zmp hb.1;have e2:=Zmp hb.2;subst e1 e2;exact⟨_,rfl,hq⟩
 ·cases h
theorem Gq {o:Obj} {t fz:Nat} {k:List C->Option R} (h:rS o t fz k=some r): ∃cs,o= .sb t fz cs/\k cs=some r:=by
 unfold rS at h;split at h
 ·obtain⟨hb,hq⟩:=Za h;rw[Zmq]at hb;have e1:=Zmp hb.1;have e2:=Zmp hb.2;subst e1 e2;exact⟨_,rfl,hq⟩
 ·cases h
theorem Zhi {o:Obj} {t:Nat} {k:Nat->List C->Option R} (h:rF o t k=some r): ∃fz cs,o= .sb t fz cs/\fz<=cs.length/\k fz cs=some r:=by
 unfold rF at h;split at h
 ·obtain⟨hb,hq⟩:=Za h;rw[Zmq]at hb;have e1:=Zmp hb.1;subst e1;exact⟨_,_,rfl,Zmu hb.2,hq⟩
 ·cases h
theorem Zdz {x:V} {m:Nat} {k:Nat->Option R} (h:rW x m k=some r): ∃n,x= .own (OUT+m) 0 n/\k n=some r:=by
 unfold rW at h;split at h
 ·obtain⟨hb,hq⟩:=Za h;rw[Zmq]at hb;have e1:=Zmp hb.1;have e2:=Zmp hb.2;subst e1 e2;exact⟨_,rfl,hq⟩
 ·cases h
theorem Zli {x:V} {m:Nat} {k:Option R} (h:rP x m k=some r):x= .ptr (OUT+m) 0/\k=some r:=by
 unfold rP at h;split at h
 ·obtain⟨hb,hq⟩:=Za h;rw[Zmq]at hb;have e1:=Zmp hb.1;have e2:=Zmp hb.2;subst e1 e2;exact⟨rfl,hq⟩
 ·cases h
theorem Br {t fz:Nat} {cs:List C} {k:List C->Option R}:rS (.sb t fz cs) t fz k=k cs:=by simp[rS,need]
theorem Zjw {t fz:Nat} {cs:List C} {k:Nat->List C->Option R} (h:fz<=cs.length):rF (.sb t fz cs) t k=k fz cs:=by simp[rF,need,Zpz h]
theorem Zd0 {m n:Nat} {k:Nat->Option R}:rW (.own (OUT+m) 0 n) m k=k n:=by simp[rW,need]
theorem Zhj {x:V} {f:FuncId} {m:Nat} {k:Option R} (h:rCl x f m k=some r):x= .clo f (OUT+m)/\k=some r:=by
 unfold rCl at h;split at h
 ·obtain⟨hb,h1⟩:=Za h;rw[Zmq]at hb;rw[Zmp hb.1,Zmp hb.2];exact⟨rfl,h1⟩
 ·cases h
theorem Wl {f:FuncId} {m:Nat} {k:Option R}:rCl (.clo f (OUT+m)) f m k=k:=by simp[rCl,need]
theorem Zd1 {m:Nat} {k:Option R}:rP (.ptr (OUT+m) 0) m k=k:=by simp[rP,need]
theorem Hr {t fz:Nat} {cs:List C} {k:List C->Option R}:rO (.ob t fz cs) t fz k=k cs:=by simp[rO,need]
theorem Zjx {ss:List Nat} {b:Bool} {l l2:Loc} (h: ¬(ss=[]/\b=true)):thaw ss b l l2=l2:=by
 unfold thaw;split
 ·exact absurd ⟨rfl,rfl⟩ h
 ·rfl
theorem Dq (ss:List Nat) (b:Bool) (l:Loc):thaw ss b l l=l:=by unfold thaw;split<;>rfl
theorem P4 {m site i:Nat} {x:Option TypeId} {ty:TypeId} {v:V} {os:List Obj} {l:Loc} {k:V->Nat->List Obj->Loc->List Nat->Option R} (h:take1 P m site i x ty v os l k=some r):
  ∃y i2 os2 l2 ks,(∀{S:Type} (k':V->Nat->List Obj->Loc->List Nat->Option S),take1 P m site i x ty v os l k'=k' y i2 os2 l2 ks)/\k y i2 os2 l2 ks=some r:=by
 unfold take1 at h;split at h
 ·obtain⟨y,h1,h2⟩:=Lk h;exact⟨y,i,os,l,[],λk'=>by simp only[take1,h1],h2⟩
 ·rename_i te;obtain⟨h0,h⟩:=Zb h;split at h
  ·rename_i q hty;obtain⟨rfl,h1⟩:=Zli h;obtain⟨o,os',rfl,h2⟩:=Yp h1;obtain⟨cs,rfl,h3⟩:=Gp h2;split at h3
   ·rename_i ls hls;obtain⟨h4,h5⟩:=Zb h3;obtain⟨cs2,h6,h7⟩:=U6 h5;exact⟨_,_,_,_,_,λk'=>by simp only[take1,h0,hty,Zd1,uncO,Hr,hls,h4,h6],h7⟩
   ·rename_i hls;exact⟨_,_,_,_,_,λk'=>by simp only[take1,h0,hty,Zd1,uncO,Hr,hls],h3⟩
  ·rename_i q hty;obtain⟨n,rfl,h1⟩:=Zdz h;obtain⟨o,os',rfl,h2⟩:=Yp h1;obtain⟨cs,rfl,h3⟩:=Gq h2;obtain⟨h4,h5⟩:=Zb h3;exact⟨_,_,_,_,_,λk'=>by simp only[take1,h0,hty,Zd0,uncO,Br,h4],h5⟩
  ·rename_i hty;obtain⟨rfl,h1⟩:=Zhj h;obtain⟨o,os',rfl,h2⟩:=Yp h1;obtain⟨cs,rfl,h3⟩:=Gp h2;split at h3
   ·rename_i ls hls;obtain⟨h4,h5⟩:=Zb h3;obtain⟨cs2,h6,h7⟩:=U6 h5;exact⟨_,_,_,_,_,λk'=>by simp only[take1,h0,hty,Wl,uncO,Hr,hls,h4,h6],h7⟩
   ·rename_i hls;exact⟨_,_,_,_,_,λk'=>by simp only[take1,h0,hty,Wl,uncO,Hr,hls],h3⟩
  ·cases h
theorem Wm {x:V} {k:List V->Option R} (h:rG x k=some r): ∃xs,x= .mag xs/\k xs=some r:=by
 unfold rG at h;split at h
 ·exact⟨_,rfl,h⟩
 ·cases h
theorem Tc {m d:Nat}: ∀{ts:List (TypeId×Option TypeId)} {xs:List V} {j i:Nat} {os:List Obj} {l:Loc} {k:List V->Loc->List Nat->Option R} (_:T2 P m d j i ts xs os l k=some r),
  ∃ys l2 ks,(∀{S:Type} (k':List V->Loc->List Nat->Option S),T2 P m d j i ts xs os l k'=k' ys l2 ks)/\k ys l2 ks=some r
 | [],xs,j,i,os,l,k,h=>by
  unfold T2 at h;split at h
  ·exact⟨[],l,[],λk'=>by simp[T2],h⟩
  ·cases h
 |q::ts,[],j,i,os,l,k,h=>by cases h
 |q::ts,x::xs,j,i,os,l,k,h=>by
  unfold T2 uncV at h;simp only at h;split at h
  ·rename_i h0;obtain⟨y,h1,h2⟩:=Lk h;obtain⟨ys,l2,ks,h3,h4⟩:=Tc h2;exact⟨_,_,_,λk'=>by simp only[T2,uncV,h0,h1,h3],h4⟩
  ·rename_i te h0;obtain⟨h3,h4⟩:=Zb h;obtain⟨n,rfl,h1⟩:=Zdz h4;obtain⟨o,os',rfl,h2⟩:=Yp h1;obtain⟨cs,rfl,h5⟩:=Gq h2;obtain⟨h6,h7⟩:=Zb h5;obtain⟨ys,l2,ks,h8,h9⟩:=Tc h7;exact⟨_,_,_,λk'=>by simp only[T2,uncV,h0,h3,Zd0,uncO,Br,h6,h8],h9⟩
theorem P5 {m d:Nat}: ∀{ts:List TypeId} {j i:Nat} {xo:List (Option TypeId)} {xs:List V} {os:List Obj} {l:Loc} {k:List V->Loc->List Nat->Option R} (_:Ru P m d j i xo ts xs os l k=some r),
  ∃ys l2 ks,(∀{S:Type} (k':List V->Loc->List Nat->Option S),Ru P m d j i xo ts xs os l k'=k' ys l2 ks)/\k ys l2 ks=some r
 | [],j,i,xo,xs,os,l,k,h=>by
  unfold Ru at h;split at h
  ·exact⟨[],l,[],λk'=>by simp[Ru],h⟩
  ·cases h
 |t::ts,j,i,xo,[],os,l,k,h=>by cases h
 |t::ts,j,i,xo,x::xs,os,l,k,h=>by
  unfold Ru uncV at h;simp only at h;split at h
  ·rename_i cts h0;obtain⟨zs,rfl,h⟩:=Wm h;obtain⟨zs,l2,ks,h1,h2⟩:=Tc h;obtain⟨vs,h3,h4⟩:=Gn h2;exact⟨_,_,_,λk'=>by simp only[Ru,uncV,h0,rG,h1,h3],h4⟩
  ·rename_i hc;obtain⟨h0,h⟩:=Zb h;obtain⟨y,i2,os2,l2,ks,h1,h2⟩:=P4 h;obtain⟨ys,l3,ks3,h3,h4⟩:=P5 h2;exact⟨y::ys,l3,ks++ks3,λk'=>by simp only[Ru,uncV,hc,h0,h1,h3],h4⟩
end Go.PM
namespace Go.PM
open Go
variable {P:Program}
def frJ (w0:World) (Y0:Nat->Prop):JT where
 J Y _ lg w:=lg=none/\ ∀b,Y0 b->Y b/\w.heap[b]? =w0.heap[b]?
 stab:=λh hb _ _ _ _ _ _ _=>⟨h.1,λb h0=>⟨(h.2 b h0).1,(hb b (h.2 b h0).1).trans (h.2 b h0).2⟩⟩
 weak:=λh=>⟨rfl,h.2⟩
theorem Hs (w0:World) (Y0:Nat->Prop):YOk P (frJ w0 Y0):=λ_ _ _ _ _ _ _ h=>by cases h.1
def Xc (pt:Nat->TypeId) (E:Env) (j:JT):Fr:={pt:=pt,w0:=E.w,Pr0:=E.Pr,tm:=λ_=>none,n:=0,outs:=λ_=>none,M:=λb=>(∃s,E.rho s=some b)\/ ∃s j,E.rb s j=some b,jt:=j,dfix:=false}
def GlobOk (G:Nat->Option (List C)) (w:World) (Pr:Nat->Nat->Prop):Prop:= ∀g cs,G g=some cs->RC w Pr (.cp cs) (.pointer (some ⟨g,0,none⟩))
theorem GlobOk.held {G:Nat->Option (List C)} {w w':World} {Pr Pr':Nat->Nat->Prop} (h:GlobOk G w Pr) (hx:Zo w Pr w' Pr'):GlobOk G w' Pr':=λg cs e=>(h g cs e).held hx
def Gr (P:Program) (G:Nat->Option (List C)) (f:FuncId) (args:List V) (objs:List Obj) (out:Out):Prop:=
 ∀(pt:Nat->TypeId) (E:Env) (us:List Value) (j:JT),us.length=args.length->E.D=[]->GlobOk G E.w E.Pr->Good P (Xc pt E j) E (Zs objs (He args)) (λ_=>False)->
  (∀(i:Nat) (x:V) (u:Value),args[i]? =some x->us[i]? =some u->RV P E (Zs objs (He args)) x u)->
  Calls P f us.toArray E.w λe w'=> ∃u E',e= .returned u/\E'.w=w'/\Good P (Xc pt E j) E' (Zs out.objs out.log) (λ_=>False)/\RV P E' (Zs out.objs out.log) out.r u/\
   ∀k,k<objs.length-> ∀g,E.rho (OUT+k)=some g->out.objs[k]? =some .dead\/(E'.rho (OUT+k)=some g/\E'.bs (OUT+k)=E.bs (OUT+k))
section
variable {A:Fr} {E:Env} {l:Loc} {pend:Nat->Prop} {R:Type} {r:R}
theorem Us: ∀{ss:List Nat} {s i n:Nat} (_:Uj ss s i=some n),∃j,n=i+j/\ss[j]? =some s
 | [],_,_,_,h=>by cases h
 |s'::ss,s,i,n,h=>by
  unfold Uj at h;cases hb:Zqv s' s with
  |true=>
   rw[hb]at h;injection h with h
   exact⟨0,by omega,by simp[Zmp hb]⟩
  |false=>
   rw[hb]at h;obtain⟨j,h1,h2⟩:=Us (ss:=ss) h;exact⟨j+1,by omega,by simpa using h2⟩
theorem Qm: ∀{ss:List Nat} {s i:Nat} (_:Uj ss s i=none),s∉ss
 | [],_,_,_=>by simp
 |s'::ss,s,i,h=>by
  unfold Uj at h;cases hb:Zqv s' s with
  |true=>rw[hb]at h;cases h
  |false=>
   rw[hb]at h;have h1:=Qm (ss:=ss) h;intro hm;rcases Znl.1 hm with e|e
   ·subst e;rw[Zox]at hb;cases hb
   ·exact h1 e
def RY (P:Program) (E:Env) (l:Loc) (ss:List Nat) (y:V) (u:Value):Prop:=
 (∃c,y= .c c/\RC E.w E.Pr c u)\/(∃cs vs,y= .agg cs/\u= .agg vs.toArray/\RCs E.w E.Pr cs vs)\/(∃i off s,y= .ptr (OUT+i) off/\ss[i]? =some s/\RV P E l (.ptr s off) u)\/(∃i off n s,y= .own (OUT+i) off n/\ss[i]? =some s/\RV P E l (.own s off n) u)\/(∃i n s,y= .ws (OUT+i) n/\ss[i]? =some s/\RV P E l (.ws s n) u)
def Led (P:Program) (E:Env) (l:Loc) (s:Nat):Prop:=(∃off u,RV P E l (.ptr s off) u)\/(∃off n u,RV P E l (.own s off n) u)\/ ∃n u,RV P E l (.ws s n) u
theorem Led.mild {E E':Env} {l l':Loc} (h:Mild E E' l l') {s:Nat} (hs:Led P E l s):Led P E' l' s:=by
 rcases hs with⟨off,u,h1⟩|⟨off,n,u,h1⟩|⟨n,u,h1⟩
 ·exact .inl ⟨off,u,h.rv h1⟩
 ·exact .inr (.inl ⟨off,n,u,h.rv h1⟩)
 ·exact .inr (.inr ⟨n,u,h.rv h1⟩)
theorem Led.npend (hG:Good P A E l pend) {s:Nat} (h:Led P E l s): ¬pend s:=by
 intro hp;obtain⟨hr,cs,_,hl⟩:=hG.pnd s hp;rcases h with⟨off,u,h⟩|⟨off,n,u,h⟩|⟨n,u,h⟩
 ·cases h with
  |ptrDead hd=>rw[hl]at hd;cases hd
  |ptr h=>rw[hr]at h;cases h
 ·cases h with
  |ownDead hd=>rw[hl]at hd;cases hd
  |ownNil _ hd=>rw[hl]at hd;cases hd
  |own h _ _ _ _=>rw[hr]at h;cases h
  |own0 h _ _=>rw[hr]at h;cases h
  |ownMx hd=>rw[hl]at hd;cases hd
 ·cases h with
  |wsDead hd=>rw[hl]at hd;cases hd
  |ws h _=>rw[hr]at h;cases h
theorem Zjy {w:World} {Pr:Nat->Nat->Prop} {hd:List Nat} {c:C} {u:Value} (h:RC w Pr c u):RC w Pr (Zgx hd c) u:=by
 unfold Zgx;split
 ·rename_i n _;cases Zqv n 2
  ·exact h
  ·show RC w Pr (nrm c) u;unfold nrm;split
   ·cases h;exact .sl0 (by unfold maxLen;omega)
   ·exact h
 ·exact h
theorem T6 {strict:Bool}: ∀{hd:List Nat} {xs:List V} {us:List Value} {E:Env} {l:Loc} {ss:List Nat} (_:Good P A E l pend) (_:us.length=xs.length)
  (_: ∀(j:Nat) (x:V) (u:Value),xs[j]? =some x->us[j]? =some u->RV P E l x u) (_:ss.Nodup) {k:List V->Loc->List Nat->Option R} (_:Ye P strict hd xs l ss k=some r),
  ∃ys l1 ss1 E1,k ys l1 ss1=some r/\Good P A E1 l1 pend/\Mild E E1 l l1/\ys.length=us.length/\(∃rest,ss1=ss++rest)/\ss1.Nodup/\
   (∀(j:Nat) (y:V) (u:Value),ys[j]? =some y->us[j]? =some u->RY P E1 l1 ss1 y u)/\(strict=true->l1=l/\ss1=ss)/\ ∀s∈ss1,s∈ss\/Led P E1 l1 s
 |_,[],us,E,l,ss,hG,hl,_,hn,k,h=>⟨[],l,ss,E,h,hG, .refl E l,by simpa using hl.symm,⟨[],by simp⟩,hn,by simp,λ_=>⟨rfl,rfl⟩,λ_ h=> .inl h⟩
 |hd,x::xs,[],E,l,ss,hG,hl,_,_,k,h=>by simp at hl
 |hd,x::xs,u::us,E,l,ss,hG,hl,hx,hn,k,h=>by
  have hu:=hx 0 x u rfl rfl;have cons: ∀{E1:Env} {l1:Loc} {ss1:List Nat} (y:V),Good P A E1 l1 pend->Mild E E1 l l1->(∃rest,ss1=ss++rest)->ss1.Nodup->(strict=true->l1=l/\ss1=ss)->(∀(E2:Env) (l2:Loc) (rest:List Nat),Mild E1 E2 l1 l2->RY P E2 l2 (ss1++rest) y u)->(∀s∈ss1,s∈ss\/Led P E1 l1 s)->
    Ye P strict hd.tail xs l1 ss1 (λys l' ss'=>k (y::ys) l' ss')=some r->
    ∃ys l1 ss1 E1,k ys l1 ss1=some r/\Good P A E1 l1 pend/\Mild E E1 l l1/\ys.length=(u::us).length/\(∃rest,ss1=ss++rest)/\ss1.Nodup/\
     (∀(j:Nat) (y:V) (u':Value),ys[j]? =some y->(u::us)[j]? =some u' ->RY P E1 l1 ss1 y u')/\(strict=true->l1=l/\ss1=ss)/\ ∀s∈ss1,s∈ss\/Led P E1 l1 s:=by
   intro E1 l1 ss1 y hG1 hM1 hr1 hn1 hst1 hy hpt h;obtain⟨ys,l2,ss2,E2,h1,h2,h3,h4,⟨rest,h5⟩,h6,h7,h8,h9⟩:=T6 (xs:=xs) (us:=us) hG1 (by simpa using hl) (λj z v hz hv=>hM1.rv (hx (j+1) z v (by simpa using hz) (by simpa using hv))) hn1 h;obtain⟨rest1,hr1⟩:=hr1;refine⟨y::ys,l2,ss2,E2,h1,h2,hM1.trans h3,by simp[h4],⟨rest1++rest,by rw[h5,hr1,Zny]⟩,h6,λj y' u' hy' hu'=> ?_,λhs=>⟨(h8 hs).1.trans (hst1 hs).1,(h8 hs).2.trans (hst1 hs).2⟩,λs hs=>by
     rcases h9 s hs with h|h
     ·rcases hpt s h with h|h
      ·exact .inl h
      ·exact .inr (h.mild h3)
     ·exact .inr h⟩
   cases j with
   |zero=>simp at hy' hu';subst hy' hu';rw[h5];exact hy E2 l2 rest h3
   |succ j=>exact h7 j y' u' (by simpa using hy') (by simpa using hu')
  unfold Ye at h;cases x with
  |c c=>
   cases hu with|c hc=>
   exact cons (.c (Zgx hd c)) hG (.refl E l) ⟨[],by simp⟩ hn (λ_=>⟨rfl,rfl⟩) (λE2 l2 rest hM=> .inl ⟨_,rfl,Zjy (hc.held hM.held)⟩) (λ_ h=> .inl h) h
  |agg cs=>
   cases hu with|agg hc=>
   exact cons (.agg cs) hG (.refl E l) ⟨[],by simp⟩ hn (λ_=>⟨rfl,rfl⟩) (λE2 l2 rest hM=> .inr (.inl ⟨cs,_,rfl,rfl,hc.held hM.held⟩)) (λ_ h=> .inl h) h
  |own s off n=>
   simp only at h;split at h
   ·rename_i hh;have hst:strict=false:=by
     cases strict with
     |false=>rfl
     |true=>cases hh
    split at h
    ·rename_i i hi;obtain⟨j,e,hj⟩:=Us hi;obtain rfl:i=j:=by omega
     exact cons (.own (OUT+i) off n) hG (.refl E l) ⟨[],by simp⟩ hn (λhs=>by rw[hst]at hs;cases hs) (λE2 l2 rest hM=> .inr (.inr (.inr (.inl ⟨i,off,n,s,rfl,by
      rw[Znt (Zmx.1 hj).1];exact hj,hM.rv hu⟩)))) (λ_ h=> .inl h) h
    ·rename_i hi;have hns:=Qm hi;exact cons (ss1:=ss++[s]) (.own (OUT+ss.length) off n) hG (.refl E l) ⟨[s],rfl⟩ (by
      rw[Zqh];exact⟨hn,by simp,by intro a ha b hb;simp at hb;subst hb;exact λe=>hns (e▸ha)⟩) (λhs=>by rw[hst]at hs;cases hs) (λE2 l2 rest hM=> .inr (.inr (.inr (.inl ⟨ss.length,off,n,s,rfl,by simp,hM.rv hu⟩)))) (λa ha=>by
      rcases Zoc.1 ha with ha|ha
      ·exact .inl ha
      ·simp at ha;subst ha;exact .inr (.inr (.inl ⟨off,n,u,hu⟩))) h
   have hone:=Rf hu h rfl;obtain⟨cs,l1,E1,hk,hG1,hM,hc,hst⟩:=Xf hG hu h;split at hk
   ·rename_i c;rw[cells_one hone]at hc;obtain⟨v,vs,e,hc1,_⟩:=hc.uncons;simp at e;obtain⟨e1,e2⟩:=e;subst e1;exact cons (.c c) hG1 hM ⟨[],by simp⟩ hn (λhs=>⟨hst hs,rfl⟩) (λE2 l2 rest hM2=> .inl ⟨c,rfl,hc1.held hM2.held⟩) (λ_ h=> .inl h) hk
   ·cases hk
  |ptr s off=>
   simp only at h;cases strict with
   |true=>cases h
   |false=>
    simp only at h;split at h
    ·rename_i i hi;obtain⟨j,e,hj⟩:=Us hi;obtain rfl:i=j:=by omega
     exact cons (.ptr (OUT+i) off) hG (.refl E l) ⟨[],by simp⟩ hn (λhs=>by cases hs) (λE2 l2 rest hM=> .inr (.inr (.inl ⟨i,off,s,rfl,by
      rw[Znt (Zmx.1 hj).1];exact hj,hM.rv hu⟩))) (λ_ h=> .inl h) h
    ·rename_i hi;have hns:=Qm hi;exact cons (ss1:=ss++[s]) (.ptr (OUT+ss.length) off) hG (.refl E l) ⟨[s],rfl⟩ (by
      rw[Zqh];exact⟨hn,by simp,by intro a ha b hb;simp at hb;subst hb;exact λe=>hns (e▸ha)⟩) (λhs=>by cases hs) (λE2 l2 rest hM=> .inr (.inr (.inl ⟨ss.length,off,s,rfl,by simp,hM.rv hu⟩))) (λa ha=>by
      rcases Zoc.1 ha with ha|ha
      ·exact .inl ha
      ·simp at ha;subst ha;exact .inr (.inl ⟨off,u,hu⟩)) h
  |ws s n=>
   simp only at h;split at h
   ·cases h
   ·rename_i hh;have hst:strict=false:=by
     cases strict with
     |false=>rfl
     |true=>cases hh
    split at h
    ·rename_i i hi;obtain⟨j,e,hj⟩:=Us hi;obtain rfl:i=j:=by omega
     exact cons (.ws (OUT+i) n) hG (.refl E l) ⟨[],by simp⟩ hn (λhs=>by rw[hst]at hs;cases hs) (λE2 l2 rest hM=> .inr (.inr (.inr (.inr ⟨i,n,s,rfl,by
      rw[Znt (Zmx.1 hj).1];exact hj,hM.rv hu⟩)))) (λ_ h=> .inl h) h
    ·rename_i hi;have hns:=Qm hi;exact cons (ss1:=ss++[s]) (.ws (OUT+ss.length) n) hG (.refl E l) ⟨[s],rfl⟩ (by
      rw[Zqh];exact⟨hn,by simp,by intro a ha b hb;simp at hb;subst hb;exact λe=>hns (e▸ha)⟩) (λhs=>by rw[hst]at hs;cases hs) (λE2 l2 rest hM=> .inr (.inr (.inr (.inr ⟨ss.length,n,s,rfl,by simp,hM.rv hu⟩)))) (λa ha=>by
      rcases Zoc.1 ha with ha|ha
      ·exact .inl ha
      ·simp at ha;subst ha;exact .inr (.inr (.inr ⟨n,u,hu⟩))) h
  |_=>cases h
theorem P6 {t:TypeId} {x:V} {k:V->Option R} (h:Mi P t x k=some r):((∃c,x= .c c)\/ ∃cs,x= .agg cs)/\k x=some r:=by
 unfold Mi at h;split at h
 ·unfold rA at h;split at h
  ·rename_i cs;refine⟨.inr ⟨cs,rfl⟩, ?_⟩;split at h
   ·obtain⟨hb,h⟩:=Za h;have h1:=Qa h;have h2:=Zmp hb;rw[<-h2,Zow]at h1;exact h1.2
   ·exact h
  ·cases h
 ·split at h
  ·unfold rC at h;split at h
   ·rename_i c;exact⟨.inl ⟨c,rfl⟩,Tn (k:=λc'=>k (.c c')) h⟩
   ·cases h
  ·cases h
theorem Ht: ∀{ts:List TypeId} {xs:List V} {k:List V->Option R} (_:Mj P ts xs k=some r),(∀x∈xs,(∃c,x= .c c)\/ ∃cs,x= .agg cs)/\k xs=some r
 | [],xs,k,h=>by
  unfold Mj at h;split at h
  ·exact⟨by simp,h⟩
  ·cases h
 |t::ts,xs,k,h=>by
  unfold Mj uncV at h;split at h
  ·cases h
  ·rename_i x ys;obtain⟨h1,h2⟩:=P6 h;obtain⟨h3,h4⟩:=Ht h2;exact⟨λz hz=>by rcases Znl.1 hz with rfl|hz;exact h1;exact h3 z hz,h4⟩
inductive PureV:V->Prop
 |c (c:C):PureV (.c c)
 |agg (cs:List C):PureV (.agg cs)
 |tup {vs:List V} (h: ∀x∈vs,(∃c,x= .c c)\/ ∃cs,x= .agg cs):PureV (.tup vs)
 |und:PureV .und
theorem Bs {t:TypeId} {x:V} {k:V->Option R} (h:Mk P t x k=some r): ∃y,PureV y/\k y=some r/\(y=x\/y= .und):=by
 unfold Mk at h;split at h
 ·split at h
  ·exact⟨.und, .und,h, .inr rfl⟩
  ·unfold rT at h;split at h
   ·rename_i vs;obtain⟨h1,h2⟩:=Ht h;exact⟨_, .tup h1,h2, .inl rfl⟩
   ·cases h
 ·obtain⟨h1,h2⟩:=P6 h;rcases h1 with⟨c,rfl⟩|⟨cs,rfl⟩
  ·exact⟨_, .c c,h2, .inl rfl⟩
  ·exact⟨_, .agg cs,h2, .inl rfl⟩
theorem PureV.rv {E E':Env} {l l':Loc} (hx:Zo E.w E.Pr E'.w E'.Pr) {y:V} (hp:PureV y) {u:Value} (h:RV P E l y u):RV P E' l' y u:=by
 cases hp with
 |c c=>cases h with|c h=>exact .c (h.held hx)
 |agg cs=>cases h with|agg h=>exact .agg (h.held hx)
 |tup hv=>
  cases h with
  |tup hs h=>
   refine .tup hs λj x u hx' hu=> ?_;have h1:=h j x u hx' hu;rcases hv x (Zm4 hx')with⟨c,rfl⟩|⟨cs,rfl⟩
   ·cases h1 with|c h=>exact .c (h.held hx)
   ·cases h1 with|agg h=>exact .agg (h.held hx)
 |und=>exact .und
inductive Same:Obj->Obj->Prop
 |ob {t fz:Nat} {cs cs':List C}:Same (.ob t fz cs) (.ob t fz cs')
 |sb {t fz fz':Nat} {cs cs':List C} (h:cs'.length=cs.length) (hf:fz'=fz\/fz'<=cs'.length):Same (.sb t fz cs) (.sb t fz' cs')
 |pk {g t:Nat} {ps ps':List PC}:Same (.pk g t (.ps ps) none) (.pk (Zq4 g) t (.ps ps') none)
def Hb (o:Obj):Prop:=(∃q,Z4 o=some q)\/ ∃g t ps,o= .pk g t (.ps ps) none
theorem Hb.ne {o:Obj} (h:Hb o):o≠ .dead:=by
 rintro rfl
 rcases h with⟨_,h⟩|⟨_,_,_,h⟩<;>cases h
def Stp (o o':Obj):Prop:=o'=o\/ ∃g g' t ps,o= .pk g t (.ps ps) none/\o'= .pk g' t (.ps ps) none
theorem Stp.obj {E:Env} {l:Loc} {s:Nat} {o o':Obj} (h:Stp o o') (h0:ObjOk P E l s o):ObjOk P E l s o':=by
 rcases h with rfl|⟨g,g',t,ps,rfl,rfl⟩
 ·exact h0
 ·cases h0 with
  |pk h1 h2 h3 h4 h5 h6=>exact .pk h1 h2 h3 h4 h5 h6
theorem Stp.fz {o o':Obj} (h:Stp o o'):o'.fz=o.fz:=by
 rcases h with rfl|⟨g,g',t,ps,rfl,rfl⟩<;>rfl
theorem Same.hb {o o':Obj} (h:Same o o'):Hb o/\Hb o':=by
 cases h
 ·exact⟨.inl ⟨_,rfl⟩, .inl ⟨_,rfl⟩⟩
 ·exact⟨.inl ⟨_,rfl⟩, .inl ⟨_,rfl⟩⟩
 ·exact⟨.inr ⟨_,_,_,rfl⟩, .inr ⟨_,_,_,rfl⟩⟩
theorem Same.rk {E E':Env} {l l':Loc} {s:Nat} (h:Same (l s) (l' s)):Rk E E' l l' s:=by
 generalize ho:l s=o at h;generalize ho':l' s=o' at h;cases h with
 |ob=>exact .ob (by rw[ho'];rfl) (by rw[ho];rfl)
 |sb _ _=>exact .no ho' rfl rfl
 | @pk g _ _ _=>exact .inr (.inr (.inr ⟨g,Zq4 g,false,false,by rw[ho];rfl,by rw[ho'];rfl,Zp3 g⟩))
theorem Same.sh {l l':Loc} {s:Nat} (h:Same (l s) (l' s)):Sh l l' s:=by
 generalize ho:l s=o at h;generalize ho':l' s=o' at h;cases h with
 | @ob t fz cs cs'=>
  refine⟨(λ_ _ e=>by rw[ho]at e;cases e),λ_ _ _ e=> .inl ⟨fz,cs', ?_⟩,(λe=>by rw[ho]at e;cases e)⟩;rw[ho]at e;injection e with e;injection e with e1 _;subst e1;rw[ho'];rfl
 | @sb t fz fz' cs cs' hl hf=>
  refine⟨λt2 fz2 e=> ?_,λ_ _ _ e=> .inl ⟨fz',cs', ?_⟩,(λe=>by rw[ho]at e;cases e)⟩
  ·rw[ho]at e;injection e with e1 e2 e3
   subst e1 e3;have:cs'=[]:=Zna (by simpa using hl);exact⟨fz',by rw[ho',this]⟩
  ·rw[ho]at e;injection e with e;injection e with e1 _;subst e1;rw[ho'];rfl
 |pk=>exact⟨(λ_ _ e=>by rw[ho]at e;cases e),(λ_ _ _ e=>by rw[ho]at e;cases e),λe=>by rw[ho]at e;cases e⟩
theorem Ll: ∀{ls:List Lf} {os ps:List PC} {k:List PC->Option R} (_:Ut ls os ps k=some r),k ps=some r
 | [],[],ps,k,h=>by
  unfold Ut at h;split at h
  ·exact h
  ·cases h
 | [],_::_,ps,k,h=>by simp[Ut]at h
 |_::_,[],ps,k,h=>by simp[Ut]at h
 |l::ls,o::os,[],k,h=>by simp[Ut,Zeu]at h
 |l::ls,o::os,p::ps,k,h=>by
  unfold Ut Zeu at h;simp only at h;cases o with
  |c c0=>
   cases p with
   |r te row=>cases h
   |c c=>
    have h1:=Tn (show Ub l c (λc'=>Ut ls os ps λqs=>k (.c c'::qs))=some r from h);exact Ll (k:=λqs=>k (.c c::qs)) h1
  |r te row0=>
   cases p with
   |c c=>cases h
   |r te' row=>
    obtain⟨hb,h1⟩:=Za (show need (Zqv te' te) (Ut ls os ps λqs=>k (.r te row::qs))=some r from h);have e:=Zmp hb;subst e;exact Ll (k:=λqs=>k (.r te' row::qs)) h1
theorem Zb1 {o:Obj} {t:TypeId} {k:List PC->Option R} (h:rPk o t k=some r): ∃g ps,o= .pk g t (.ps ps) none/\k ps=some r:=by
 cases o with
 |pk g t' q pe=>
  cases q with
  |rs _ _=>cases h
  |ps ps=>
   cases pe with
   |some _=>cases h
   |none=>
    obtain⟨hb,h1⟩:=Za (show need (Zqv t' t) (k ps)=some r from h);rw[Zmp hb];exact⟨g,ps,rfl,h1⟩
 |_=>cases h
theorem Wn {fb:Bool}: ∀{ss:List Nat} {os:List Obj} {l:Loc} (_:ss.Nodup) {k:List Obj->Loc->Option R} (_:Uu P fb ss os l k=some r),
  ∃l' rest,k rest l'=some r/\rest=os.drop ss.length/\ss.length<=os.length/\(∀s,s∉ss->l' s=l s)/\l'.log=l.log/\
   ∀(i:Nat) (s:Nat),ss[i]? =some s->Same (l s) (l' s)/\ ∃o,os[i]? =some o/\Stp o (l' s)
 | [],os,l,_,k,h=>⟨l,os,h,by simp,by simp,λ_ _=>rfl,rfl,by simp⟩
 |s::ss,os,l,hn,k,h=>by
  have fin: ∀(o o' o2:Obj) (os':List Obj),l s=o->Same o o' ->Stp o2 o' ->os=o2::os' ->Uu P fb ss os' (l.put s o') k=some r-> ∃l' rest,k rest l'=some r/\rest=os.drop (s::ss).length/\(s::ss).length<=os.length/\(∀a,a∉s::ss->l' a=l a)/\l'.log=l.log/\
    ∀(i:Nat) (a:Nat),(s::ss)[i]? =some a->Same (l a) (l' a)/\ ∃o,os[i]? =some o/\Stp o (l' a):=by
   rintro o o' o2 os' ho hsame hstp rfl h'
   have hns:s∉ss:=(Zpc.1 hn).1;obtain⟨l',rest,q1,q2,q3,q4,q4l,q5⟩:=Wn (ss:=ss) (Zpc.1 hn).2 h';have hls:l' s=o':=by rw[q4 s hns,Zf]
   refine⟨l',rest,q1,by simpa using q2,by simpa using q3,λa ha=> ?_,q4l,λi a hi=> ?_⟩
   ·have ha':a≠s/\a∉ss:=by simpa using ha
    rw[q4 a ha'.2,Zc l _ ha'.1]
   ·cases i with
    |zero=>
     simp at hi;subst hi;rw[hls,ho];exact⟨hsame,_,rfl,hstp⟩
    |succ i=>
     simp at hi;obtain⟨h1,o3,h2,h3⟩:=q5 i a hi;have hne:a≠s:=λe=>hns (e▸Zm4 hi);rw[Zc l _ hne]at h1;exact⟨h1,o3,by simpa using h2,h3⟩
  unfold Uu at h;split at h
  case h_4=>cases h
  case h_1 t fz cs hl=>
   obtain⟨o,os',rfl,h1⟩:=Yp h;obtain⟨cs',rfl,h2⟩:=Gp h1;refine fin _ _ _ os' hl .ob (.inl rfl) rfl ?_;split at h2
   ·obtain⟨hb2,h3⟩:=Za h2;rw[Zmq]at hb2;have h4:=Qa h3;have h5:=Zmp hb2.1;rw[<-h5,Zow]at h4;exact h4.2
   ·exact(Za h2).2
  case h_2 t fz cs hl=>
   obtain⟨o,os',rfl,h1⟩:=Yp h;cases fb with
   |false=>
    obtain⟨cs',rfl,h2⟩:=Gq h1;obtain⟨hb2,h3⟩:=Za h2;exact fin _ _ _ os' hl (.sb (Zmp hb2) (.inl rfl)) (.inl rfl) rfl h3
   |true=>
    obtain⟨fz',cs',rfl,hle,h2⟩:=Zhi h1;obtain⟨hb2,h3⟩:=Za h2;exact fin _ _ _ os' hl (.sb (Zmp hb2) (.inr hle)) (.inl rfl) rfl h3
  case h_3 g t ps hl=>
   obtain⟨o,os',rfl,h1⟩:=Yp h;obtain⟨g2,ps',rfl,h2⟩:=Zb1 h1;split at h2
   ·obtain⟨_,h3⟩:=Za h2;have h4:=Ll h3;exact fin _ _ _ os' hl .pk (.inr ⟨_,_,_,_,rfl,rfl⟩) rfl h4
   ·cases h2
theorem Lm: ∀{ss:List Nat} (_:M8 l ss=true) (s:Nat),s∈ss->Hb (l s)
 |s'::ss,h,s,hs=>by
  unfold M8 at h;split at h
  ·rename_i t fz cs hl;rcases Znl.1 hs with rfl|hs
   ·exact .inl ⟨(t,fz,cs),by rw[hl];rfl⟩
   ·exact Lm h s hs
  ·rename_i t fz cs hl;rcases Znl.1 hs with rfl|hs
   ·exact .inl ⟨(t,fz,cs),by rw[hl];rfl⟩
   ·exact Lm h s hs
  ·rename_i g t ps hl;rcases Znl.1 hs with rfl|hs
   ·exact .inr ⟨g,t,ps,hl⟩
   ·exact Lm h s hs
  ·cases h
end
end Go.PM
namespace Go.PM
open Go
variable {P:Program}
section
variable {A:Fr} {E:Env} {l:Loc} {pend:Nat->Prop} {R:Type} {r:R}
theorem Yc (objs:List Obj) (lg:Option Log) (k:Nat):Zs objs lg (OUT+k)=(objs[k]?).getD .dead:=by
 simp only[Zs];have:Zqw OUT (OUT+k)=true:=Zpz (by omega);rw[this];simp
theorem Dr (objs:List Obj) (lg:Option Log) {s:Nat} (h:s<OUT):Zs objs lg s= .dead:=by
 simp only[Zs];have:Zqw OUT s=false:=by
  cases hb:Zqw OUT s
  ·rfl
  ·have:=Zmu hb;omega
 rw[this];rfl
theorem Wo {objs:List Obj} {lg:Option Log} {s:Nat} (h:Zs objs lg s≠ .dead): ∃k,s=OUT+k/\k<objs.length/\objs[k]? =some (Zs objs lg s):=by
 by_cases hs:s<OUT
 ·exact absurd (Dr objs lg hs) h
 ·obtain⟨k,rfl⟩: ∃k,s=OUT+k:=⟨s-OUT,by omega⟩;rw[Yc]at h⊢;cases hk:objs[k]? with
  |none=>rw[hk]at h;simp at h
  |some o=>exact⟨k,rfl,(Zmx.1 hk).1,by simp[hk]⟩
theorem P7: ∀{ss:List Nat} (_:ss.Nodup) {i j x:Nat} (_:ss[i]? =some x) (_:ss[j]? =some x),i=j
 | [],_,i,j,x,h,_=>by simp at h
 |s::ss,hn,i,j,x,hi,hj=>by
  obtain⟨h1,h2⟩:=Zpc.1 hn;cases i<;>cases j
  ·rfl
  ·simp at hi hj;subst hi;exact absurd (Zm4 hj) h1
  ·simp at hi hj;subst hj;exact absurd (Zm4 hi) h1
  ·simp at hi hj;rw[P7 h2 hi hj]
def Env.callee (E:Env) (ss:List Nat):Env:=
 {w:=E.w,Pr:=E.Pr,rho:=λs=>if OUT<=s then(ss[s-OUT]?).bind E.rho else none,bs:=λs=>if OUT<=s then((ss[s-OUT]?).map E.bs).getD 0 else 0,Y:=λb=>b<E.w.heap.size/\(∀s∈ss,E.rho s≠some b)/\ ∀s∈ss,∀j,E.rb s j≠some b,D:=[],rb:=λs j=>if OUT<=s then(ss[s-OUT]?).bind λa=>E.rb a j else none,rc:=λs j=>if OUT<=s then((ss[s-OUT]?).map λa=>E.rc a j).getD 0 else 0}
abbrev Env.calleeJ (E:Env) (ss:List Nat):JT:=frJ E.w (E.callee ss).Y
theorem Un {E:Env} {ss:List Nat} {i s:Nat} (h:ss[i]? =some s):(E.callee ss).rho (OUT+i)=E.rho s:=by
 simp[Env.callee,h]
theorem Ko {E:Env} {ss:List Nat} {i s:Nat} (h:ss[i]? =some s):(E.callee ss).bs (OUT+i)=E.bs s:=by
 simp[Env.callee,h]
theorem Ze0 {E:Env} {ss:List Nat} {i s:Nat} (h:ss[i]? =some s) (j:Nat):(E.callee ss).rb (OUT+i) j=E.rb s j:=by
 simp[Env.callee,h]
theorem Ze1 {E:Env} {ss:List Nat} {i s:Nat} (h:ss[i]? =some s) (j:Nat):(E.callee ss).rc (OUT+i) j=E.rc s j:=by
 simp[Env.callee,h]
theorem Yw {E:Env} {ss:List Nat} {s g:Nat} (h:(E.callee ss).rho s=some g): ∃i a,s=OUT+i/\ss[i]? =some a/\E.rho a=some g:=by
 simp only[Env.callee]at h;split at h
 ·rename_i hs;cases ha:ss[s-OUT]? with
  |none=>rw[ha]at h;cases h
  |some a=>rw[ha]at h;exact⟨s-OUT,a,by omega,ha,h⟩
 ·cases h
theorem U7 {E:Env} {ss:List Nat} {s j g:Nat} (h:(E.callee ss).rb s j=some g): ∃i a,s=OUT+i/\ss[i]? =some a/\E.rb a j=some g:=by
 simp only[Env.callee]at h;split at h
 ·rename_i hs;cases ha:ss[s-OUT]? with
  |none=>rw[ha]at h;cases h
  |some a=>rw[ha]at h;exact⟨s-OUT,a,by omega,ha,h⟩
 ·cases h
theorem ObjOk.ren {E E':Env} {l l':Loc} {a s':Nat} {o:Obj} (hw:E'.w=E.w) (hPr:E'.Pr=E.Pr) (hr:E'.rho s'=E.rho a) (hb:E'.bs s'=E.bs a) (hrb: ∀j,E'.rb s' j=E.rb a j) (hrc: ∀j,E'.rc s' j=E.rc a j) (hn:Hb o) (h:ObjOk P E l a o):ObjOk P E' l' s' o:=by
 have hblk: ∀{g:Nat} {t:TypeId} {cs:List C},Blk E a g t cs->Blk E' s' g t cs:=by
  rintro g t cs ⟨cur,c1,c2,c3,c4⟩
  exact⟨cur,by rw[hw];exact c1,c2.trans hb.symm,c3,by rw[hw,hPr];exact c4⟩
 have hrow: ∀{j:Nat} {te:TypeId} {row:List C} {u:Value},Vo P E a j te row u->Vo P E' s' j te row u:=by
  rintro j te row u ⟨h1,h2⟩
  refine⟨?_,λa m cap e=>by rw[hrc];exact h2 a m cap e⟩;rcases h1 with⟨q1,q2,q3⟩|⟨g,cap,cur,q1,q2,q3,q4,q5⟩
  ·exact .inl ⟨(hrb j).trans q1,q2,q3⟩
  ·exact .inr ⟨g,cap,cur,(hrb j).trans q1,by rw[hw];exact q2,q3,by rw[hw,hPr];exact q4,q5⟩
 cases h with
 |dead h=>exact absurd rfl hn.ne
 |ob h1 h2 h3=>exact .ob (hr.trans h1) (hblk h2) h3
 |sbNil h=>exact .sbNil (hr.trans h)
 |sb h1 h2 h3=>exact .sb (hr.trans h1) (hblk h2) h3
 |pk h1 h2 h3 h4 h5 h6=>
  refine .pk (hr.trans h1) (by rw[hw];exact h2) h3 (hb.trans h4) (λj p u hp hu=>⟨(h5 j p u hp hu).1,λe=> ?_⟩) λj te row e=>⟨(h6 j te row e).1,(h6 j te row e).2.1,(h6 j te row e).2.2.imp λv hv=>hrow hv⟩;have h0:=(h5 j p u hp hu).2 e;cases p with
  |c c=>show RC E'.w E'.Pr c u;rw[hw,hPr];exact h0
  |r te row=>exact⟨h0.1,hrow h0.2⟩
 |mx _ _ _ _ _=>rcases hn with⟨q,e⟩|⟨_,_,_,e⟩<;>cases e
 |mp _ _ _ _=>rcases hn with⟨q,e⟩|⟨_,_,_,e⟩<;>cases e
 |cl _ _=>rcases hn with⟨q,e⟩|⟨_,_,_,e⟩<;>cases e
 |mr _ _ _ _ _ _=>rcases hn with⟨q,e⟩|⟨_,_,_,e⟩<;>cases e
 |mf _ _ _ _ _ _ _ _=>rcases hn with⟨q,e⟩|⟨_,_,_,e⟩<;>cases e
 |it _ _ _=>rcases hn with⟨q,e⟩|⟨_,_,_,e⟩<;>cases e
 |ir _ _ _=>rcases hn with⟨q,e⟩|⟨_,_,_,e⟩<;>cases e
theorem Wp (hG:Good P A E l pend) {ss:List Nat} (hn:ss.Nodup) (hob: ∀s∈ss,Hb (l s)) (hnp: ∀s∈ss,¬pend s) (pt:Nat->TypeId):
  Good P (Xc pt (E.callee ss) (E.calleeJ ss)) (E.callee ss) (Zs (ss.map l) none) (λ_=>False):=by
 have hcases: ∀s,(Zs (ss.map l) none s= .dead/\(E.callee ss).rho s=none)\/ ∃i a,s=OUT+i/\ss[i]? =some a/\Zs (ss.map l) none s=l a:=by
  intro s;by_cases hd:Zs (ss.map l) none s= .dead
  ·left;refine⟨hd, ?_⟩;cases hr:(E.callee ss).rho s with
   |none=>rfl
   |some g=>
    obtain⟨i,a,rfl,ha,hg⟩:=Yw hr;rw[Yc,Zm9,ha]at hd;have hd':l a= .dead:=by simpa using hd
    exact absurd hd' (hob a (Zm4 ha)).ne
  ·obtain⟨k,rfl,hk,hk2⟩:=Wo hd;right;have hk':k<ss.length:=by simpa using hk
   refine⟨k,ss[k],rfl,Zm0 hk', ?_⟩;rw[Yc,Zm9,Zm0 hk'];rfl
 refine⟨λs _=> ?_,λs h=>h.elim,λa b g ha hb=> ?_,λs g h=> .inr (.inl ⟨s,h⟩),λb k hp=>⟨(hG.prot b k hp).1,λs hs=> ?_⟩,⟨rfl,λ_ h=>⟨h,rfl⟩⟩, .refl _ _,λb k hp=> .inl hp,Zm8 _,rfl,rfl,rfl,Zm8 _,Hs _ _,λs g hs hy=> ?_,λb hb=>hb.1,(λr hr=>by cases hr),λs j g h=> ?_⟩
 ·rcases hcases s with⟨h1,h2⟩|⟨i,a,rfl,ha,h1⟩
  ·rw[h1];exact .dead h2
  ·rw[h1];have hm:=Zm4 ha;exact ObjOk.ren (E:=E) (E':=E.callee ss) (a:=a) (s':=OUT+i) rfl rfl (Un ha) (Ko ha) (Ze0 ha) (Ze1 ha) (hob a hm) (hG.obj a (hnp a hm))
 ·obtain⟨i,x,rfl,hx,h1⟩:=Yw ha;obtain⟨j,y,rfl,hy,h2⟩:=Yw hb;have hxy:=hG.inj x y g h1 h2;subst hxy;rw[P7 hn hx hy]
 ·obtain⟨i,a,rfl,ha,h1⟩:=Yw hs;rw[Yc,Zm9,ha];exact(hG.prot b k hp).2 a h1
 ·obtain⟨i,a,rfl,ha,h1⟩:=Yw hs;exact hy.2.1 a (Zm4 ha) h1
 ·obtain⟨i,a,rfl,ha,h1⟩:=U7 h;have h0:=hG.rbo a j g h1;refine⟨h0.cells,λs' e=> ?_,λs' j' e=> ?_,h0.pr,λhy=>hy.2.2 a (Zm4 ha) j h1, .inr (.inr ⟨_,_,h⟩)⟩
  ·obtain⟨_,a',_,_,h2⟩:=Yw e;exact h0.rho a' h2
  ·obtain⟨i',a',rfl,ha',h2⟩:=U7 e;obtain⟨e1,e2⟩:=h0.one a' j' h2;subst e1;exact⟨by rw[P7 hn ha ha'],e2⟩
def Env.back (E E':Env) (ss:List Nat):Env:=
 {E with w:=E'.w,Pr:=E'.Pr,rb:=λs=>match Uj ss s 0 with|some i=>E'.rb (OUT+i)|none=>E.rb s,rc:=λs=>match Uj ss s 0 with|some i=>E'.rc (OUT+i)|none=>E.rc s}
theorem Zb2 {ss:List Nat} (hn:ss.Nodup) {i s:Nat} (h:ss[i]? =some s):Uj ss s 0=some i:=by
 cases hq:Uj ss s 0 with
 |none=>exact absurd (Zm4 h) (Qm hq)
 |some n=>
  obtain⟨j,e,hj⟩:=Us hq;rw[P7 hn h hj,e];simp
theorem Wq {ss:List Nat} {s:Nat} (h:s∉ss):Uj ss s 0=none:=by
 cases hq:Uj ss s 0 with
 |none=>rfl
 |some n=>
  obtain⟨j,_,hj⟩:=Us hq;exact absurd (Zm4 hj) h
theorem Q3 {E E':Env} {ss:List Nat} (hn:ss.Nodup) {i s:Nat} (h:ss[i]? =some s):(E.back E' ss).rb s=E'.rb (OUT+i)/\(E.back E' ss).rc s=E'.rc (OUT+i):=by
 simp[Env.back,Zb2 hn h]
theorem Xz {E E':Env} {ss:List Nat} {s:Nat} (h:s∉ss):(E.back E' ss).rb s=E.rb s/\(E.back E' ss).rc s=E.rc s:=by
 simp[Env.back,Wq h]
theorem Ze2 (hG:Good P A E l pend) {ss:List Nat} (hn:ss.Nodup) (hnp: ∀s∈ss,¬pend s) {pt:Nat->TypeId} {E':Env} {os:List Obj} {lg:Option Log} (hG':Good P (Xc pt (E.callee ss) (E.calleeJ ss)) E' (Zs os lg) (λ_=>False))
  (hrho: ∀k,k<ss.length-> ∀g,(E.callee ss).rho (OUT+k)=some g->E'.rho (OUT+k)=some g/\E'.bs (OUT+k)=(E.callee ss).bs (OUT+k)) {l':Loc} (hlog:l'.log=l.log) (hother: ∀s,s∉ss->l' s=l s)
  (hthese: ∀(i:Nat) (s:Nat),ss[i]? =some s->Same (l s) (l' s)/\ ∃o,os[i]? =some o/\Stp o (l' s)):
  Good P A (E.back E' ss) l' pend/\Zo E.w E.Pr (E.back E' ss).w (E.back E' ss).Pr/\ ∀s,Zi E (E.back E' ss) l l' s:=by
 have hx:Zo E.w E.Pr (E.back E' ss).w (E.back E' ss).Pr:=hG'.pr0;have hk: ∀s,Zi E (E.back E' ss) l l' s:=by
  intro s;by_cases hm:s∈ss
  ·obtain⟨i,hi,e⟩:=Znp.1 hm;obtain⟨h1,h2⟩:=hthese i s (by rw[Zm0 hi,e]);exact .inr ⟨λhd=>(by rw[hd]at h1;cases h1),rfl,rfl,h1.sh,h1.rk⟩
  ·by_cases hd:l s= .dead
   ·exact .inl ((hother s hm).trans hd)
   ·exact .inr ⟨hd,rfl,rfl, .same (hother s hm), .same (hother s hm) (Xz hm).1 (Xz hm).2⟩
 have hM: ∀b,(Xc pt (E.callee ss) (E.calleeJ ss)).M b->(∃s∈ss,E.rho s=some b)\/ ∃s∈ss,∃j,E.rb s j=some b:=by
  rintro b (⟨s,hs⟩|⟨s,j,hs⟩)
  ·obtain⟨i,a,rfl,ha,hg⟩:=Yw hs;exact .inl ⟨a,Zm4 ha,hg⟩
  ·obtain⟨i,a,rfl,ha,hg⟩:=U7 hs;exact .inr ⟨a,Zm4 ha,j,hg⟩
 have hold: ∀b,b<E.w.heap.size->(∀s∈ss,E.rho s≠some b)->(∀s∈ss,∀j,E.rb s j≠some b)->E'.w.heap[b]? =E.w.heap[b]? :=by
  intro b hb hno hno2;exact(hG'.jf.2 b ⟨hb,hno,hno2⟩).2
 have hrow: ∀i s j g,ss[i]? =some s->E'.rb (OUT+i) j=some g->E.w.heap.size<=g\/ ∃a∈ss,∃j',E.rb a j'=some g:=by
  intro i s j g hi hg;have h0:=hG'.rbo _ _ _ hg;rcases h0.base with h|h
  ·exact .inl h
  ·rcases h with⟨s',hs'⟩|⟨s',j',hs'⟩
   ·obtain⟨i',a,rfl,ha,_⟩:=Yw hs';have hi':i'<ss.length:=(Zmx.1 ha).1;exact absurd (hrho i' hi' g hs').1 (h0.rho _)
   ·obtain⟨i',a,rfl,ha,hga⟩:=U7 hs';exact .inr ⟨a,Zm4 ha,j',hga⟩
 have hrbo: ∀s j g,(E.back E' ss).rb s j=some g->RbOk A (E.back E' ss) s j g:=by
  intro s j g hg;by_cases hm:s∈ss
  ·obtain⟨i,hi,e⟩:=Znp.1 hm;have hi':ss[i]? =some s:=by rw[Zm0 hi,e]
   rw[(Q3 hn hi').1]at hg;have h0:=hG'.rbo _ _ _ hg;have hb:=hrow i s j g hi' hg;refine⟨h0.cells,λs' e'=> ?_,λs2 j2 e2=> ?_,h0.pr,λhy=> ?_, ?_⟩
   ·have e':E.rho s'=some g:=e';rcases hb with h|⟨a,_,j',h⟩
    ·have:=hG.lt e';omega
    ·exact(hG.rbo _ _ _ h).rho s' e'
   ·by_cases hm2:s2∈ss
    ·obtain⟨i2,hi2,e3⟩:=Znp.1 hm2;have hi2':ss[i2]? =some s2:=by rw[Zm0 hi2,e3]
     rw[(Q3 hn hi2').1]at e2;obtain⟨q1,q2⟩:=h0.one _ _ e2;have:i2=i:=by omega
     subst this;rw[hi']at hi2';injection hi2' with hi2'
     exact⟨hi2'.symm,q2⟩
    ·rw[(Xz hm2).1]at e2;rcases hb with h|⟨a,ha,j',h⟩
     ·have:=(hG.rbo _ _ _ e2).lt;omega
     ·have:=((hG.rbo _ _ _ h).one _ _ e2).1;exact absurd (this▸ha) hm2
   ·have hy:E.Y g:=hy;rcases hb with h|⟨a,_,j',h⟩
    ·have:=hG.ylt g hy;omega
    ·exact(hG.rbo _ _ _ h).y hy
   ·rcases hb with h|⟨a,_,j',h⟩
    ·exact .inl (Zni hG.size h)
    ·exact(hG.rbo _ _ _ h).base
  ·rw[(Xz hm).1]at hg;have h0:=hG.rbo s j g hg;have hns: ∀a∈ss,∀j',E.rb a j'≠some g:=λa ha j' e=>hm ((h0.one a j' e).1▸ha);refine⟨?_,h0.rho,λs2 j2 e2=> ?_,λk hp=> ?_,h0.y,h0.base⟩
   ·obtain⟨c,t,e⟩:=h0.cells;exact⟨c,t,(hold g h0.lt (λs' _=>h0.rho s') hns).trans e⟩
   ·by_cases hm2:s2∈ss
    ·obtain⟨i2,hi2,e3⟩:=Znp.1 hm2;have hi2':ss[i2]? =some s2:=by rw[Zm0 hi2,e3]
     rw[(Q3 hn hi2').1]at e2;rcases hrow i2 s2 j2 g hi2' e2 with h|⟨a,ha,j',h⟩
     ·have:=h0.lt;omega
     ·exact absurd h (hns a ha j')
    ·rw[(Xz hm2).1]at e2;exact h0.one _ _ e2
   ·rcases hG'.prN g k hp with h|h|h
    ·exact h0.pr k h
    ·exact absurd h (Nat.not_le.2 h0.lt)
    ·rcases hM g h with⟨a,_,hga⟩|⟨a,ha,j',hga⟩
     ·exact h0.rho a hga
     ·exact hns a ha j' hga
 refine⟨⟨λs hp=> ?_,λs hp=> ?_,hG.inj,hG.base,λb k hp=>⟨(hG'.prot b k hp).1,λs hs=> ?_⟩,hG.jstep rfl hlog hx (λb k hp=> ?_) (λb hb=>hold b (hG.ylt b hb) (λs _ hg=>hG.yown s b hg hb) (λs _ j hg=>(hG.rbo s j b hg).y hb)) hG'.size hG'.os hG'.tape hG'.output hG'.dr,hG.pr0.trans hx,λb k hp=> ?_,Zni hG.size hG'.size,hG'.os.trans hG.os,hG'.tape.trans hG.tape,hG'.output.trans hG.output,Zni hG.dr hG'.dr,hG.yok,hG.yown,λb hb=>Zne (hG.ylt b hb) hG'.size,λr hr=>⟨(hold r (Zmy.1 (hG.dm r hr).1).1 (λs _=>hG.dmno hr s) (λs _ j e=>by
   obtain⟨_,_,h3⟩:=(hG.rbo s j r e).cells;have h4:=(hG.dm r hr).1;rw[h3]at h4;cases h4)).trans (hG.dm r hr).1,(hG.dm r hr).2⟩,hrbo⟩,hx,hk⟩
 ·by_cases hm:s∈ss
  ·obtain⟨i,hi,e⟩:=Znp.1 hm;have hi':ss[i]? =some s:=by rw[Zm0 hi,e]
   obtain⟨h1,o2,h2,h2s⟩:=hthese i s hi';have h0:=hG'.obj (OUT+i) (λh=>h);rw[Yc,h2]at h0;have h0:=h2s.obj h0;have q0:=h1.hb.1;have q:=h1.hb.2;cases hg:E.rho s with
   |none=>
    have h3:=hG.obj s hp;generalize l s=o at h1 h3 q0;generalize l' s=o' at h1;cases h3 with
    |dead h=>exact absurd rfl q0.ne
    |ob h _ _=>rw[hg]at h;cases h
    |sbNil h=>
     cases h1 with
     | @sb _ _ fz2 _ cs2 hl hf=>
      obtain rfl:cs2=[]:=Zna (by simpa using hl);obtain rfl:fz2=0:=by rcases hf with hf|hf<;>simpa using hf
      exact .sbNil hg
    |sb h _ _=>rw[hg]at h;cases h
    |mx h _ _ _ _=>rw[hg]at h;cases h
    |mp h _ _ _=>rw[hg]at h;cases h
    |cl h _=>rw[hg]at h;cases h
    |mr h _ _ _ _ _=>rw[hg]at h;cases h
    |mf h _ _ _ _ _ _ _=>rw[hg]at h;cases h
    |it h _ _=>rw[hg]at h;cases h
    |ir h _ _=>rw[hg]at h;cases h
    |pk h _ _ _ _ _=>rw[hg]at h;cases h
   |some g=>
   obtain⟨e1,e2⟩:=hrho i hi g (by rw[Un hi'];exact hg);rw[<-hg]at e1;rw[Ko hi']at e2;exact ObjOk.ren (E:=E') (E':=E.back E' ss) (a:=OUT+i) (s':=s) rfl rfl e1.symm e2.symm (λj=>congrFun (Q3 hn hi').1 j) (λj=>congrFun (Q3 hn hi').2 j) q h0
  ·rw[hother s hm];refine(hG.obj s hp).keep hx rfl rfl (λg hg=>hold g (hG.lt hg) (λa ha hga=>hm (hG.inj s a g hg hga▸ha)) (λa _ j e=>(hG.rbo a j g e).rho s hg)) (λ_ _ _ hu=>hu.mono0 hx hk) (λj=>⟨congrFun (Xz hm).1 j,λg hg=>hold g (hG.rbo _ _ _ hg).lt (λa _=>(hG.rbo _ _ _ hg).rho a) (λa ha j' e=>hm (((hG.rbo _ _ _ hg).one a j' e).1▸ha))⟩) (Xz hm).2
 ·obtain⟨h1,cs,hz,ho⟩:=hG.pnd s hp;exact⟨h1,cs,hz,(hother s λhm=>hnp s hm hp).trans ho⟩
 ·by_cases hm:s∈ss
  ·obtain⟨i,hi,e⟩:=Znp.1 hm;have hi':ss[i]? =some s:=by rw[Zm0 hi,e]
   obtain⟨h1,o2,h2,h2s⟩:=hthese i s hi';have e1:=(hrho i hi b (by rw[Un hi'];exact hs)).1;have h4:=(hG'.prot b k hp).2 (OUT+i) e1;rw[Yc,h2]at h4;rw[h2s.fz];exact h4
  ·rw[hother s hm];rcases hG'.prN b k hp with h|h|h
   ·exact(hG.prot b k h).2 s hs
   ·have h1:E.w.heap.size<=b:=h;have h2:=hG.lt (s:=s) hs;omega
   ·rcases hM b h with⟨a,ha,hga⟩|⟨a,ha,j,hga⟩
    ·exact absurd (hG.inj s a b hs hga▸ha) hm
    ·exact absurd hs ((hG.rbo a j b hga).rho s)
 ·rcases hG'.prN b k hp with h|h|h
  ·exact .inl h
  ·exact .inr λhy=>Zpe _ (Zne (hG.ylt b hy) h)
  ·rcases hM b h with⟨a,_,hga⟩|⟨a,_,j,hga⟩
   ·exact .inr (hG.yown a b hga)
   ·exact .inr (hG.rbo a j b hga).y
 ·rcases hG'.prN b k hp with h|h|h
  ·exact hG.prN b k h
  ·exact .inr (.inl (Zni hG.size h))
  ·rcases hM b h with⟨a,ha,hga⟩|⟨a,_,j,hga⟩
   ·exact .inr (hG.base a b hga)
   ·exact .inr (hG.rbo a j b hga).base
theorem Ze3 {ys:List V} (h:noYl ys=true):He ys=none:=by
 cases ys with
 |nil=>rfl
 |cons y ys=>
  cases y with
  |c c=>cases c<;>first|rfl|(cases h;done)
  |_=>rfl
theorem Ze4 (hG:Good P A E l pend) {w':World} (hx:Zo E.w E.Pr w' E.Pr) (hh: ∀b,b<E.w.heap.size->w'.heap[b]? =E.w.heap[b]?) (hs:E.w.heap.size<=w'.heap.size) (ho:w'.os=E.w.os) (ht:w'.tape=E.w.tape) (hu:w'.output=E.w.output) (hd:E.w.drawn<=w'.drawn):
  Good P A {E with w:=w'} l pend/\ ∀s,Zi E {E with w:=w'} l l s:=by
 have hk: ∀s,Zi E {E with w:=w'} l l s:=λs=>by
  by_cases hd:l s= .dead
  ·exact .inl hd
  ·exact .inr ⟨hd,rfl,rfl, .same rfl, .same rfl⟩
 refine⟨⟨λs hp=> ?_,hG.pnd,hG.inj,hG.base,λb k hp=>⟨?_,(hG.prot b k hp).2⟩,hG.jstep rfl rfl hx (λ_ _ h=> .inl h) (λb hb=>hh b (hG.ylt b hb)) hs ho ht hu hd,hG.pr0.trans hx,hG.prN,Zni hG.size hs,ho.trans hG.os,ht.trans hG.tape,hu.trans hG.output,Zni hG.dr hd,hG.yok,hG.yown,λb hb=>Zne (hG.ylt b hb) hs,λr hr=>⟨(hh r (Zmy.1 (hG.dm r hr).1).1).trans (hG.dm r hr).1,(hG.dm r hr).2⟩,Uy hG.rbo (λ_ _ _ e=>e) (λ_ _ e=> .inl e) (λ_ _ e=> .inl e) (λ_ e=> .inl e) λb hb _ _=>hh b hb⟩,hk⟩
 ·exact(hG.obj s hp).keep hx rfl rfl (λg hg=>hh g (hG.lt hg)) (λ_ _ _ hu=>hu.mono0 hx hk) λj=>⟨rfl,λg hg=>hh g (hG.rbo _ _ _ hg).lt⟩
 ·exact Zne (hG.prot b k hp).1 hs
def Ry (c:C):Prop:= ∃x,c= .v x
inductive FlatV:V->Prop
 |c {c:C} (h:Ry c):FlatV (.c c)
 |agg {cs:List C} (h: ∀c∈cs,Ry c):FlatV (.agg cs)
 |tup {vs:List V} (h: ∀x∈vs,(∃c,x= .c c/\Ry c)\/ ∃cs,x= .agg cs/\ ∀c∈cs,Ry c):FlatV (.tup vs)
 |und:FlatV .und
theorem Ry.rc {w w':World} {Pr Pr':Nat->Nat->Prop} {c:C} {u:Value} (hc:Ry c) (h:RC w Pr c u):RC w' Pr' c u:=by
 obtain⟨x,rfl⟩:=hc;cases h with|v h=>exact .v h
theorem FlatV.rv {E E':Env} {l l':Loc} {y:V} (hp:FlatV y) {u:Value} (h:RV P E l y u):RV P E' l' y u:=by
 cases hp with
 |c hc=>cases h with|c h=>exact .c (hc.rc h)
 |agg hc=>cases h with|agg h=>exact .agg ⟨h.1,λj c u hj hu=>(hc c (Zm4 hj)).rc (h.2 j c u hj hu)⟩
 |tup hv=>
  cases h with
  |tup hs h=>
   refine .tup hs λj x u hx' hu=> ?_;have h1:=h j x u hx' hu;rcases hv x (Zm4 hx')with⟨c,rfl,hc⟩|⟨cs,rfl,hc⟩
   ·cases h1 with|c h=>exact .c (hc.rc h)
   ·cases h1 with|agg h=>exact .agg ⟨h.1,λj c u hj hu=>(hc c (Zm4 hj)).rc (h.2 j c u hj hu)⟩
 |und=>exact .und
theorem Gs {lf:Lf} (hf:lf.isO=false) {c:C} {k:C->Option R} (h:Ub lf c k=some r):Ry c:=by
 cases lf with
 |o=>cases hf
 |i kd=>
  simp only[Ub,asI]at h;split at h
  ·exact⟨_,rfl⟩
  ·cases h
 |b=>
  simp only[Ub,asB]at h;split at h
  ·exact⟨_,rfl⟩
  ·cases h
 |s=>
  simp only[Ub,asS]at h;split at h
  ·exact⟨_,rfl⟩
  ·cases h
theorem Jp: ∀{ls:List Lf} {cs:List C} {k:List C->Option R} (_:(ls.all λl=> !l.isO)=true) (_:U3 ls cs k=some r),∀c∈cs.take ls.length,Ry c
 | [],cs,k,_,h=>by simp
 |lf::ls,[],k,_,h=>by cases h
 |lf::ls,c::cs,k,hf,h=>by
  simp only[Zoq,Zmq,Znn]at hf;have h1:Ub lf c (λc'=>U3 ls cs λcs'=>k (c'::cs'))=some r:=h;have h2:=Jp (ls:=ls) (by simpa using hf.2) (Tn h1);intro x hx;simp only[Zms,Zn4,Znl]at hx;rcases hx with rfl|hx
  ·exact Gs hf.1 h1
  ·exact h2 x hx
theorem Ds {t:TypeId} (hf:Dg P t=true) {x:V} {k:V->Option R} (h:Mi P t x k=some r):(∃c,x= .c c/\Ry c)\/ ∃cs,x= .agg cs/\ ∀c∈cs,Ry c:=by
 unfold Dg at hf;unfold Mi at h;split at h
 ·unfold rA at h;split at h
  ·rename_i cs;refine .inr ⟨cs,rfl, ?_⟩;split at h
   ·rename_i ls hls;rw[hls]at hf;obtain⟨hb,h⟩:=Za h;have h2:=Zmp hb;have h1:=Jp hf h;rw[<-h2,Zow]at h1;exact h1
   ·rename_i hls;rw[hls]at hf;cases hf
  ·cases h
 ·split at h
  ·rename_i lf hls;rw[hls]at hf;unfold rC at h;split at h
   ·rename_i c;exact .inl ⟨c,rfl,Gs (by simpa using hf) (k:=λc'=>k (.c c')) h⟩
   ·cases h
  ·cases h
theorem Dt: ∀{ts:List TypeId} (_:ts.all (Dg P)=true) {xs:List V} {k:List V->Option R} (_:Mj P ts xs k=some r),∀x∈xs,(∃c,x= .c c/\Ry c)\/ ∃cs,x= .agg cs/\ ∀c∈cs,Ry c
 | [],_,xs,k,h=>by
  unfold Mj at h;split at h
  ·simp
  ·cases h
 |t::ts,hf,xs,k,h=>by
  simp only[Zoq,Zmq]at hf;unfold Mj uncV at h;split at h
  ·cases h
  ·rename_i x ys;have h1:=Ds hf.1 h;obtain⟨_,h2⟩:=P6 h;have h3:=Dt (ts:=ts) hf.2 h2;intro z hz;rcases Znl.1 hz with rfl|hz
   ·exact h1
   ·exact h3 z hz
theorem Ze5 {t:TypeId} (hf:Dh P t=true) {x:V} {k:V->Option R} (h:Mk P t x k=some r): ∃y,FlatV y/\k y=some r/\(y=x\/y= .und):=by
 unfold Dh at hf;unfold Mk at h;split at h
 ·rename_i ts hts;rw[hts]at hf;split at h
  ·exact⟨.und, .und,h, .inr rfl⟩
  ·unfold rT at h;split at h
   ·rename_i vs;have h1:=Dt hf h;exact⟨_, .tup h1,(Ht h).2, .inl rfl⟩
   ·cases h
 ·rename_i hne;have hf':Dg P t=true:=by
   split at hf
   ·rename_i ts hts;exact absurd hts (hne ts)
   ·exact hf
  have h1:=Ds hf' h;have h2:=(P6 h).2;rcases h1 with⟨c,rfl,hc⟩|⟨cs,rfl,hc⟩
  ·exact⟨_, .c hc,h2, .inl rfl⟩
  ·exact⟨_, .agg hc,h2, .inl rfl⟩
structure Tk (A:Fr) (pend:Nat->Prop) (E1 E2:Env) (m:Nat) (objs:List Obj) (Ec:Env) (lc:Loc) (os:List Obj) (i:Nat):Prop where
 good:Good P A Ec lc pend
 w:Ec.w=E2.w
 Pr:Ec.Pr=E2.Pr
 D:Ec.D=E1.D
 Y:Ec.Y=E1.Y
 rb:Ec.rb=E1.rb
 os:os=objs.drop (m+i)
 no: ∀i',i<=i' -> ∀g,E2.rho (OUT+(m+i'))=some g-> ∀a,Ec.rho a≠some g
structure Cal (A:Fr) (E1 E2:Env) (m:Nat) (objs:List Obj) (lg:Option Log):Prop where
 obj: ∀s,ObjOk P E2 (Zs objs lg) s (Zs objs lg s)
 inj: ∀s s' g,E2.rho s=some g->E2.rho s'=some g->s=s'
 prot: ∀b k,E2.Pr b k-> ∀s,E2.rho s=some b->k<(Zs objs lg s).fz
 base: ∀i g,E2.rho (OUT+(m+i))=some g->A.w0.heap.size<=g\/A.M g
 ny: ∀i g,E2.rho (OUT+(m+i))=some g-> ¬E1.Y g
 nr: ∀i g,E2.rho (OUT+(m+i))=some g-> ∀a j,E1.rb a j≠some g
theorem Tk.adopt {E1 E2:Env} {m:Nat} {objs:List Obj} {lg:Option Log} (hC:Cal (P:=P) A E1 E2 m objs lg) {Ec:Env} {lc:Loc} {o:Obj} {os:List Obj} {i:Nat} (hT:Tk (P:=P) A pend E1 E2 m objs Ec lc (o::os) i) {site g:Nat} (hp: ¬pend site)
  (hr:E2.rho (OUT+(m+i))=some g) {te:TypeId} {cs:List C} (ho:o= .ob te 0 cs\/o= .sb te 0 cs):
  ∃Ec2,Tk (P:=P) A pend E1 E2 m objs Ec2 ((lc.kill site).put site o) os (i+1)/\Ec2.rho site=some g/\Ec2.bs site=E2.bs (OUT+(m+i))/\ ∀z v,RV P Ec lc z v->z.at site=false->RV P Ec2 ((lc.kill site).put site o) z v:=by
 have hox:objs[m+i]? =some o:=by
  have:(objs.drop (m+i))[0]? =some o:=by rw[<-hT.os];rfl
  rwa [Znd,Znz]at this
 have hlx:Zs objs lg (OUT+(m+i))=o:=by rw[Yc,hox];rfl
 have h0:=hC.obj (OUT+(m+i));rw[hlx]at h0;have hblk:Blk E2 (OUT+(m+i)) g te cs:=by
  rcases ho with rfl|rfl
  ·cases h0 with|ob h1 h2 _=>rw[hr]at h1;injection h1 with h1;subst h1;exact h2
  ·cases h0 with
   |sbNil h1=>rw[h1]at hr;cases hr
   |sb h1 h2 _=>rw[hr]at h1;injection h1 with h1;subst h1;exact h2
 obtain⟨cur,c1,c2,c3,c4⟩:=hblk;have hofz:o.fz=0:=by rcases ho with rfl|rfl<;>rfl
 have hq:=hT.good.kill hp;have hsame:=setRow_self E2.w g cur te (0,0) c1;have hw':(Ec.kill lc site).w=E2.w:=hT.w;have hPr':(Ec.kill lc site).Pr=E2.Pr:=hT.Pr;obtain⟨a1,a2,a3⟩:=Gk (P:=P) (A:=A) hq (d:=site) (g:=g) (Ur site lc) hp (λa ha=>hT.no i (Zm8 _) g hr a (Pb ha)) (λa j e=>hC.nr i g hr a j (by rw[<-hT.rb];exact e)) (by show ¬Ec.Y g;rw[hT.Y];exact hC.ny i g hr) (hC.base i g hr) (cur:=cur) (cur':=cur) (t:=te) (by rw[hw'];exact c1) rfl (fz:=0) (λk hk=>by
   rw[hPr']at hk;have:=hC.prot g k hk _ hr;rw[hlx,hofz]at this;exact this) (λ_ _=>rfl) (cs:=cs) (ob:=o) ho (Znv _) c3 (by rw[hw',hPr'];exact c4) (Xq site lc)
 refine⟨(Ec.kill lc site).adopt site g cur,⟨a1, ?_,hPr',hT.D,hT.Y,hT.rb, ?_,λi' hi g' hg' a ha=> ?_⟩,by simp[Env.adopt],by simp[Env.adopt];exact c2,λz v hz hk=> ?_⟩
 ·show(Ec.kill lc site).w.setRow g cur=E2.w;rw[hw',hsame]
 ·have h1:=hT.os;have h2:os=(objs.drop (m+i)).drop 1:=by rw[<-h1];rfl
  rw[h2,Zqc];congr 1
 ·by_cases e:a=site
  ·subst e;have e1:g=g':=by simpa[Env.adopt]using ha
   subst e1;have:=hC.inj _ _ g hr hg';omega
  ·have h1:(Ec.kill lc site).rho a=some g':=by simpa[Env.adopt,e]using ha
   exact hT.no i' (by omega) g' hg' a (Pb h1)
 ·exact(U1 site hz).mono (λs=>s=site) a2 (λs hs=>a3 s hs) (λs hs=>by subst hs;exact hk)
theorem Tk.nil {E1 E2:Env} {m:Nat} {objs:List Obj} {Ec:Env} {lc:Loc} {o:Obj} {os:List Obj} {i:Nat} (hT:Tk (P:=P) A pend E1 E2 m objs Ec lc (o::os) i) {site:Nat} (hp: ¬pend site) (te:TypeId):
  ∃Ec2,Tk (P:=P) A pend E1 E2 m objs Ec2 ((lc.kill site).put site (.sb te 0 [])) os (i+1)/\Ec2.rho site=none/\ ∀z v,RV P Ec lc z v->z.at site=false->RV P Ec2 ((lc.kill site).put site (.sb te 0 [])) z v:=by
 have hq:=hT.good.kill hp;obtain⟨q1,q2⟩:=Wk hq (Ur site lc) hp te (Xq site lc);refine⟨Ec.kill lc site,⟨q1,hT.w,hT.Pr,hT.D,hT.Y,hT.rb, ?_,λi' hi g' hg' a ha=>hT.no i' (by omega) g' hg' a (Pb ha)⟩,Se Ec lc site,λz v hz hk=> ?_⟩
 ·have h1:=hT.os;have h2:os=(objs.drop (m+i)).drop 1:=by rw[<-h1];rfl
  rw[h2,Zqc];congr 1
 ·exact(U1 site hz).mono (λs=>s=site) (.refl _ _) (λs hs=>q2 s hs) (λs hs=>by subst hs;exact hk)
def Only (y:V) (site:Nat):Prop:=((∃off,y= .ptr site off)\/ ∃f,y= .clo f site)\/(∃off n,y= .own site off n)\/(∃c,y= .c c)\/ ∃cs,y= .agg cs
theorem Only.at {y:V} {site s:Nat} (h:Only y site) (hs:s≠site):y.at s=false:=by
 have hb:Zqv site s=false:=by
  cases e:Zqv site s
  ·rfl
  ·exact absurd (Zmp e).symm hs
 rcases h with(⟨off,rfl⟩|⟨f,rfl⟩)|⟨off,n,rfl⟩|⟨c,rfl⟩|⟨cs,rfl⟩<;>simp[V.at,hb]
theorem Pg {E1 E2:Env} {m:Nat} {objs:List Obj} {lg:Option Log} (hC:Cal (P:=P) A E1 E2 m objs lg) {Ec:Env} {lc:Loc} {os:List Obj} {i:Nat} (hT:Tk (P:=P) A pend E1 E2 m objs Ec lc os i) {site:Nat} (hp: ¬pend site)
  {x:Option TypeId} {ty:TypeId} {v:V} {u:Value} (hv:RV P E2 (Zs objs lg) v u) {k:V->Nat->List Obj->Loc->List Nat->Option R} (h:take1 P m site i x ty v os lc k=some r):
  ∃y i2 os2 l2 ks Ec2,k y i2 os2 l2 ks=some r/\Tk (P:=P) A pend E1 E2 m objs Ec2 l2 os2 i2/\RV P Ec2 l2 y u/\Only y site/\(∀s∈ks,s=site)/\ ∀z w,RV P Ec lc z w->(∀s∈ks,z.at s=false)->RV P Ec2 l2 z w:=by
 unfold take1 at h;split at h
 ·obtain⟨h1,h2⟩:=P6 h;refine⟨v,i,os,lc,[],Ec,h2,hT, ?_, ?_,by simp,λz w hz _=>hz⟩
  ·have hw:Zo E2.w E2.Pr Ec.w Ec.Pr:=by rw[hT.w,hT.Pr];exact .refl _ _
   rcases h1 with⟨c,rfl⟩|⟨cs,rfl⟩
   ·cases hv with|c h=>exact .c (h.held hw)
   ·cases hv with|agg h=>exact .agg (h.held hw)
  ·rcases h1 with⟨c,rfl⟩|⟨cs,rfl⟩
   ·exact .inr (.inr (.inl ⟨c,rfl⟩))
   ·exact .inr (.inr (.inr ⟨cs,rfl⟩))
 ·rename_i te;obtain⟨_,h⟩:=Za h;split at h
  ·obtain⟨rfl,h1⟩:=Zli h;obtain⟨o,os',rfl,h2⟩:=Yp h1;obtain⟨cs,rfl,h3⟩:=Gp h2;have h4:k (.ptr site 0) (i+1) os' ((lc.kill site).put site (.ob te 0 cs)) [site]=some r:=by
    split at h3
    ·obtain⟨hb,h7⟩:=Za h3;have h8:=Qa h7;rw[<-Zmp hb,Zow]at h8;exact h8.2
    ·exact h3
   have hox:objs[m+i]? =some (.ob te 0 cs):=by
    have:(objs.drop (m+i))[0]? =some (.ob te 0 cs):=by rw[<-hT.os];rfl
    rwa [Znd,Znz]at this
   have hlx:Zs objs lg (OUT+(m+i))= .ob te 0 cs:=by rw[Yc,hox];rfl
   cases hv with
   |ptrDead hd=>rw[hlx]at hd;cases hd
   | @ptr _ _ g hr=>
    obtain⟨Ec2,t1,t2,t3,t4⟩:=hT.adopt hC hp hr (.inl rfl);exact⟨_,_,_,_,_,Ec2,h4,t1, .ptr t2, .inl (.inl ⟨0,rfl⟩),by simp,λz w hz hk=>t4 z w hz (hk site (by simp))⟩
  ·obtain⟨n,rfl,h1⟩:=Zdz h;obtain⟨o,os',rfl,h2⟩:=Yp h1;obtain⟨cs,rfl,h3⟩:=Gq h2;obtain⟨hb,h4⟩:=Za h3;rw[Zmq]at hb;have hn:=Zmp hb.1;have hox:objs[m+i]? =some (.sb te 0 cs):=by
    have:(objs.drop (m+i))[0]? =some (.sb te 0 cs):=by rw[<-hT.os];rfl
    rwa [Znd,Znz]at this
   have hlx:Zs objs lg (OUT+(m+i))= .sb te 0 cs:=by rw[Yc,hox];rfl
   cases hv with
   |ownDead hd=>rw[hlx]at hd;cases hd
   |ownMx hd=>rw[hlx]at hd;cases hd
   |own0 _ _ hoff=>exact absurd rfl hoff
   |ownNil hr hl=>
    rw[hlx]at hl;injection hl with e1 e2 e3
    subst e1 e3;obtain⟨Ec2,t1,t2,t3⟩:=hT.nil hp te;exact⟨_,_,_,_,_,Ec2,h4,t1, .ownNil (fz:=0) t2 (Zf _ _ _), .inr (.inl ⟨0,0,rfl⟩),by simp,λz w hz hk=>t3 z w hz (hk site (by simp))⟩
   | @own _ _ _ g cap t' fz' cs' hr hl hn' hc hs=>
    rw[hlx]at hl;injection hl with hl;injection hl with e1 e2;injection e2 with e2 e3
    subst e1 e2 e3;obtain⟨Ec2,t1,t2,t3,t4⟩:=hT.adopt hC hp hr (.inr rfl);exact⟨_,_,_,_,_,Ec2,h4,t1, .own (t:=te) (fz:=0) (cs:=cs) t2 (by rw[Zf];rfl) hn' hc (hs.trans t3.symm), .inr (.inl ⟨0,n,rfl⟩),by simp,λz w hz hk=>t4 z w hz (hk site (by simp))⟩
  ·obtain⟨rfl,h1⟩:=Zhj h;obtain⟨o,os',rfl,h2⟩:=Yp h1;obtain⟨cs,rfl,h3⟩:=Gp h2;have h4:k (.clo (Zgy te) site) (i+1) os' ((lc.kill site).put site (.ob (C7 te) 0 cs)) [site]=some r:=by
    split at h3
    ·obtain⟨hb,h7⟩:=Za h3;have h8:=Qa h7;rw[<-Zmp hb,Zow]at h8;exact h8.2
    ·exact h3
   have hox:objs[m+i]? =some (.ob (C7 te) 0 cs):=by
    have:(objs.drop (m+i))[0]? =some (.ob (C7 te) 0 cs):=by rw[<-hT.os];rfl
    rwa [Znd,Znz]at this
   have hlx:Zs objs lg (OUT+(m+i))= .ob (C7 te) 0 cs:=by rw[Yc,hox];rfl
   cases hv with
   |cloDead hd=>rw[hlx]at hd;cases hd
   | @clo _ _ g hr=>
    obtain⟨Ec2,t1,t2,t3,t4⟩:=hT.adopt hC hp hr (.inl rfl);exact⟨_,_,_,_,_,Ec2,h4,t1, .clo t2, .inl (.inr ⟨_,rfl⟩),by simp,λz w hz hk=>t4 z w hz (hk site (by simp))⟩
  ·cases h
theorem Du {d i j:Nat} (h:Xy d i=Xy d j):i=j:=by unfold Xy at h;omega
theorem Vq {E1 E2:Env} {m d:Nat} {objs:List Obj} {lg:Option Log} (hC:Cal (P:=P) A E1 E2 m objs lg): ∀{ts:List (TypeId×Option TypeId)} {xs:List V} {j i:Nat} {us:List Value} {os:List Obj} {Ec:Env} {lc:Loc}
  (_:Tk (P:=P) A pend E1 E2 m objs Ec lc os i) (_:us.length=xs.length) (_: ∀(j:Nat) (x:V) (u:Value),xs[j]? =some x->us[j]? =some u->RV P E2 (Zs objs lg) x u)
  {k:List V->Loc->List Nat->Option R} (_:T2 P m d j i ts xs os lc k=some r),
  ∃ys l2 ks Ec2,k ys l2 ks=some r/\(Good P A Ec2 l2 pend/\Ec2.w=E2.w/\Ec2.Pr=E2.Pr/\Ec2.D=E1.D)/\ys.length=us.length/\(∀(q:Nat) (y:V) (u:Value),ys[q]? =some y->us[q]? =some u->RV P Ec2 l2 y u)/\(∀s∈ks,∃q,j<=q/\s=Xy d q)/\
   ∀z w,RV P Ec lc z w->(∀s∈ks,z.at s=false)->RV P Ec2 l2 z w
 | [],xs,j,i,us,os,Ec,lc,hT,hl,hx,k,h=>by
  unfold T2 at h;split at h
  ·exact⟨[],lc,[],Ec,h,⟨hT.good,hT.w,hT.Pr,hT.D⟩,by simpa using hl.symm,by simp,by simp,λz w hz _=>hz⟩
  ·cases h
 |q::ts,[],j,i,us,os,Ec,lc,hT,hl,hx,k,h=>by cases h
 |q::ts,x::xs,j,i,[],os,Ec,lc,hT,hl,hx,k,h=>by simp at hl
 |q::ts,x::xs,j,i,u::us,os,Ec,lc,hT,hl,hx,k,h=>by
  have hv:=hx 0 x u rfl rfl;have hxt: ∀(q:Nat) (y:V) (v:Value),xs[q]? =some y->us[q]? =some v->RV P E2 (Zs objs lg) y v:=λq y v h1 h2=>hx (q+1) y v (by simpa using h1) (by simpa using h2);unfold T2 uncV at h;simp only at h;split at h
  ·obtain⟨hp,h⟩:=P6 h;obtain⟨ys,l2,ks,Ec2,h1,⟨g1,g2,g3,g4⟩,hl2,hx2,hks,hp2⟩:=Vq hC (ts:=ts) (xs:=xs) hT (us:=us) (by simpa using hl) hxt h;refine⟨x::ys,l2,ks,Ec2,h1,⟨g1,g2,g3,g4⟩,by simp[hl2],λq y v hy hu=> ?_,hks,hp2⟩;cases q with
   |zero=>
    simp at hy hu;subst hy hu;rcases hp with⟨c,rfl⟩|⟨cs,rfl⟩
    ·cases hv with|c h=>exact .c (by rw[g2,g3];exact h)
    ·cases hv with|agg h=>exact .agg (by rw[g2,g3];exact h)
   |succ q=>exact hx2 q y v (by simpa using hy) (by simpa using hu)
  ·rename_i te _;obtain⟨hlv,h⟩:=Za h;rw[Zmq]at hlv;have hlv:=hlv.1;obtain⟨n0,rfl,h1⟩:=Zdz h;obtain⟨o,os',rfl,h2⟩:=Yp h1;obtain⟨cs,rfl,h3⟩:=Gq h2;obtain⟨hb,h4⟩:=Za h3;have hpj: ¬pend (Xy d j):=λhp=>by
    obtain⟨_,cs,_,e⟩:=hT.good.pnd _ hp;rw[e]at hlv;cases hlv
   rw[Zmq]at hb;have hn:=Zmp hb.1;have hox:objs[m+i]? =some (.sb te 0 cs):=by
    have:(objs.drop (m+i))[0]? =some (.sb te 0 cs):=by rw[<-hT.os];rfl
    rwa [Znd,Znz]at this
   have hlx:Zs objs lg (OUT+(m+i))= .sb te 0 cs:=by rw[Yc,hox];rfl
   have step: ∃Ec3,Tk (P:=P) A pend E1 E2 m objs Ec3 ((lc.kill (Xy d j)).put (Xy d j) (.sb te 0 cs)) os' (i+1)/\RV P Ec3 ((lc.kill (Xy d j)).put (Xy d j) (.sb te 0 cs)) (.own (Xy d j) 0 n0) u/\ ∀z w,RV P Ec lc z w->z.at (Xy d j)=false->RV P Ec3 ((lc.kill (Xy d j)).put (Xy d j) (.sb te 0 cs)) z w:=by
    cases hv with
    |ownDead hd=>rw[hlx]at hd;cases hd
    |ownMx hd=>rw[hlx]at hd;cases hd
    |own0 _ _ hoff=>exact absurd rfl hoff
    |ownNil hr hl9=>
     rw[hlx]at hl9;injection hl9 with e1 e2 e3
     subst e1 e3;obtain⟨Ec2,t1,t2,t3⟩:=hT.nil hpj te;exact⟨Ec2,t1, .ownNil (fz:=0) t2 (Zf _ _ _),t3⟩
    | @own _ _ _ g cap t' fz' cs' hr hl9 hn' hc hs=>
     rw[hlx]at hl9;injection hl9 with hl9;injection hl9 with e1 e2;injection e2 with e2 e3
     subst e1 e2 e3;obtain⟨Ec2,t1,t2,t3,t4⟩:=hT.adopt hC hpj hr (.inr rfl);exact⟨Ec2,t1, .own (t:=te) (fz:=0) (cs:=cs) t2 (by rw[Zf];rfl) hn' hc (hs.trans t3.symm),t4⟩
   obtain⟨Ec3,hT3,hy3,hp3⟩:=step;obtain⟨ys,l2,ks,Ec2,h1,g1,hl2,hx2,hks,hp⟩:=Vq hC (ts:=ts) (xs:=xs) hT3 (us:=us) (by simpa using hl) hxt h4;refine⟨.own (Xy d j) 0 n0::ys,l2,Xy d j::ks,Ec2,h1,g1,by simp[hl2],λq y v hy hu=> ?_,λs hs=> ?_,λz w hz hk=>hp z w (hp3 z w hz (hk _ (by simp))) λs hs=>hk s (by simp[hs])⟩
   ·cases q with
    |zero=>
     simp at hy hu;subst hy hu;refine hp _ _ hy3 λs hs=> ?_;obtain⟨q,hq,rfl⟩:=hks s hs;exact Only.at (site:=Xy d j) (.inr (.inl ⟨0,n0,rfl⟩)) λe=>by have:=Du e;omega
    |succ q=>exact hx2 q y v (by simpa using hy) (by simpa using hu)
   ·rcases Znl.1 hs with rfl|hs
    ·exact⟨j,Zm8 _,rfl⟩
    ·obtain⟨q,hq,e⟩:=hks s hs;exact⟨q,by omega,e⟩
theorem Ph {E1 E2:Env} {m d:Nat} {objs:List Obj} {lg:Option Log} (hC:Cal (P:=P) A E1 E2 m objs lg): ∀{ts:List TypeId} {j i:Nat} {xo:List (Option TypeId)} {xs:List V} {us:List Value} {os:List Obj} {Ec:Env} {lc:Loc}
  (_:Tk (P:=P) A pend E1 E2 m objs Ec lc os i) (_:us.length=xs.length) (_: ∀(j:Nat) (x:V) (u:Value),xs[j]? =some x->us[j]? =some u->RV P E2 (Zs objs lg) x u)
  {k:List V->Loc->List Nat->Option R} (_:Ru P m d j i xo ts xs os lc k=some r),
  ∃ys l2 ks Ec2,k ys l2 ks=some r/\(Good P A Ec2 l2 pend/\Ec2.w=E2.w/\Ec2.Pr=E2.Pr/\Ec2.D=E1.D)/\ys.length=us.length/\(∀(q:Nat) (y:V) (u:Value),ys[q]? =some y->us[q]? =some u->RV P Ec2 l2 y u)/\(∀s∈ks,∃q,j<=q/\s=Xy d q)/\
   ∀z w,RV P Ec lc z w->(∀s∈ks,z.at s=false)->RV P Ec2 l2 z w
 | [],j,i,xo,xs,us,os,Ec,lc,hT,hl,hx,k,h=>by
  unfold Ru at h;split at h
  ·exact⟨[],lc,[],Ec,h,⟨hT.good,hT.w,hT.Pr,hT.D⟩,by simpa using hl.symm,by simp,by simp,λz w hz _=>hz⟩
  ·cases h
 |t::ts,j,i,xo,xs,us,os,Ec,lc,hT,hl,hx,k,h=>by
  unfold Ru uncV at h;split at h
  ·cases h
  ·rename_i x ys;cases us with
   |nil=>simp at hl
   |cons u us=>
    simp only at h;split at h
    ·rename_i cts h0;obtain⟨zs,rfl,h⟩:=Wm h;have hv:=hx 0 _ u rfl rfl;cases hv with
     | @mag _ vs hs1 hone hrv=>
      obtain⟨zs',l2,ks,Ec2,h1,g1,hl2,hx2,hks,hpres⟩:=Vq hC hT hs1 hrv h;obtain⟨h3,h4⟩:=Ht h1;have hw:Zo E2.w E2.Pr Ec2.w Ec2.Pr:=by rw[g1.2.1,g1.2.2.1];exact .refl _ _
      refine⟨.mag zs'::ys,l2,ks,Ec2,h4,g1,by simpa using hl.symm,λq y' u' hy' hu'=> ?_,hks,hpres⟩;cases q with
      |zero=>
       simp at hy' hu';subst hy' hu';exact .mag hl2.symm hone hx2
      |succ q=>
       have hy2:=hx (q+1) y' u' (by simpa using hy') (by simpa using hu');rcases h3 y' (Zm4 (by simpa using hy'))with⟨c,rfl⟩|⟨cs,rfl⟩
       ·cases hy2 with|c h=>exact .c (h.held hw)
       ·cases hy2 with|agg h=>exact .agg (h.held hw)
    ·obtain⟨hlv,h⟩:=Za h;have hpj: ¬pend (Xy d j):=λhp=>by
      obtain⟨_,cs,_,e⟩:=hT.good.pnd _ hp;rw[e]at hlv;cases hlv
     obtain⟨y,i2,os2,l2,ks,Ec2,h1,hT2,hy,hon,hks,hpres⟩:=Pg hC hT hpj (hx 0 _ u rfl rfl) h;obtain⟨ys2,l3,ks3,Ec3,h3,g3,hl3,hx3,hks3,hpres3⟩:=Ph hC (ts:=ts) hT2 (us:=us) (by simpa using hl) (λq x u hx' hu=>hx (q+1) x u (by simpa using hx') (by simpa using hu)) h1;refine⟨y::ys2,l3,ks++ks3,Ec3,h3,g3,by simp[hl3],λq y' u' hy' hu'=> ?_,λs hs=> ?_,λz w hz hk=> ?_⟩
     ·cases q with
      |zero=>
       simp at hy' hu';subst hy' hu';refine hpres3 _ _ hy λs hs=>hon.at λe=> ?_;obtain⟨q,hq,e2⟩:=hks3 s hs;have:=Du (e.symm.trans e2);omega
      |succ q=>exact hx3 q y' u' (by simpa using hy') (by simpa using hu')
     ·rcases Zoc.1 hs with hs|hs
      ·exact⟨j,Zm8 _,hks s hs⟩
      ·obtain⟨q,hq,e⟩:=hks3 s hs;exact⟨q,by omega,e⟩
     ·exact hpres3 z w (hpres z w hz λs hs=>hk s (by simp[hs])) λs hs=>hk s (by simp[hs])
def Env.lostE (E:Env) (l:Loc) (s:Nat) (E':Env):Env:={E.kill l s with w:=E'.w,Pr:=E'.Pr,rb:=λa=>if a=s then λ_=>none else E.rb a}
theorem Kp {E:Env} {l:Loc} {s a g:Nat} (h:(E.kill l s).rho a=some g):E.rho a=some g/\a≠s:=by
 simp only[Env.kill]at h;split at h
 ·cases h
 ·rename_i hne;refine⟨h,λe=>hne ?_⟩;subst e;simp[Loc.kill]
theorem Ze6 (hG:Good P A E l pend) {s:Nat} (hnp: ¬pend s) {pt:Nat->TypeId} {E':Env} {os:List Obj} {lg:Option Log} (hG':Good P (Xc pt (E.callee [s]) (E.calleeJ [s])) E' (Zs os lg) (λ_=>False)):
  Good P A (E.lostE l s E') (Loc.kill s l) pend/\Zo (E.kill l s).w (E.kill l s).Pr (E.lostE l s E').w (E.lostE l s E').Pr/\ ∀a,Zi (E.kill l s) (E.lostE l s E') (Loc.kill s l) (Loc.kill s l) a:=by
 have hx:Zo E.w E.Pr (E.lostE l s E').w (E.lostE l s E').Pr:=hG'.pr0;have hx0:Zo (E.kill l s).w (E.kill l s).Pr (E.lostE l s E').w (E.lostE l s E').Pr:=hx;have G0:=hG.kill hnp;have hk: ∀a,Zi (E.kill l s) (E.lostE l s E') (Loc.kill s l) (Loc.kill s l) a:=by
  intro a;by_cases hd:Loc.kill s l a= .dead
  ·exact .inl hd
  ·have hne:a≠s:=λe=>hd (by subst e;simp[Loc.kill]);exact .inr ⟨hd,rfl,rfl, .same rfl, .same rfl (by simp[Env.lostE,hne,Env.kill]) rfl⟩
 have hM: ∀b,(Xc pt (E.callee [s]) (E.calleeJ [s])).M b->E.rho s=some b\/ ∃j,E.rb s j=some b:=by
  rintro b (⟨s',hs⟩|⟨s',j,hs⟩)
  ·obtain⟨i,a,rfl,ha,hg⟩:=Yw hs;have ea:a=s:=by simpa using Zm4 ha
   rw[ea]at hg;exact .inl hg
  ·obtain⟨i,a,rfl,ha,hg⟩:=U7 hs;have ea:a=s:=by simpa using Zm4 ha
   rw[ea]at hg;exact .inr ⟨j,hg⟩
 have hold: ∀b,b<E.w.heap.size->E.rho s≠some b->(∀j,E.rb s j≠some b)->E'.w.heap[b]? =E.w.heap[b]? :=by
  intro b hb hno hno2;have one: ∀a∈[s],a=s:=λa ha=>by simpa using ha
  exact(hG'.jf.2 b ⟨hb,λa ha=>one a ha▸hno,λa ha=>one a ha▸hno2⟩).2
 have hrb: ∀a j g,(E.lostE l s E').rb a j=some g->a≠s/\E.rb a j=some g:=by
  intro a j g h;simp only[Env.lostE]at h;split at h
  ·cases h
  ·rename_i hne;exact⟨hne,h⟩
 have hrho2: ∀a g,(E.lostE l s E').rho a=some g->E.rho a=some g/\a≠s:=λa g h=>Kp (l:=l) h;refine⟨⟨λa hp=> ?_,λa hp=>G0.pnd a hp,G0.inj,G0.base,λb k hp=>⟨(hG'.prot b k hp).1,λa ha=> ?_⟩,G0.jstep rfl rfl hx (λb k hp=> ?_) (λb hb=>hold b (hG.ylt b hb) (λhg=>hG.yown s b hg hb) (λj hg=>(hG.rbo s j b hg).y hb)) hG'.size hG'.os hG'.tape hG'.output hG'.dr,G0.pr0.trans hx,λb k hp=> ?_,Zni hG.size hG'.size,hG'.os.trans hG.os,hG'.tape.trans hG.tape,hG'.output.trans hG.output,Zni hG.dr hG'.dr,hG.yok,G0.yown,λb hb=>Zne (hG.ylt b hb) hG'.size,λr hr=>⟨(hold r (Zmy.1 (hG.dm r hr).1).1 (hG.dmno hr s) (λj e=>by
   obtain⟨_,_,h3⟩:=(hG.rbo s j r e).cells;have h4:=(hG.dm r hr).1;rw[h3]at h4;cases h4)).trans (hG.dm r hr).1,(hG.dm r hr).2⟩,λa j g e=> ?_⟩,hx0,hk⟩
 ·by_cases hne:a=s
  ·subst hne;rw[show Loc.kill a l a= .dead from by simp[Loc.kill]];refine .dead ?_;cases h:(E.lostE l a E').rho a with
   |none=>rfl
   |some g=>exact absurd rfl (hrho2 a g h).2
  ·refine(G0.obj a hp).keep hx0 rfl rfl (λg hg=> ?_) (λ_ _ _ hu=>hu.mono0 hx0 hk) (λj=>⟨by simp[Env.lostE,hne,Env.kill],λg hg=> ?_⟩) rfl
   ·obtain⟨hg,_⟩:=Kp hg;exact hold g (hG.lt hg) (λh=>hne (hG.inj a s g hg h)) λj h=>(hG.rbo s j g h).rho a hg
   ·have hg:E.rb a j=some g:=hg;exact hold g (hG.rbo _ _ _ hg).lt ((hG.rbo _ _ _ hg).rho s) λj' h=>hne ((hG.rbo _ _ _ h).one a j hg).1
 ·obtain⟨hr,hne⟩:=hrho2 a b ha;rcases hG'.prN b k hp with h|h|h
  ·exact(G0.prot b k h).2 a ha
  ·have h1:E.w.heap.size<=b:=h;have h2:=hG.lt hr;omega
  ·rcases hM b h with h|⟨j,h⟩
   ·exact absurd (hG.inj a s b hr h) hne
   ·exact absurd hr ((hG.rbo s j b h).rho a)
 ·rcases hG'.prN b k hp with h|h|h
  ·exact .inl h
  ·exact .inr λhy=>Zpe _ (Zne (hG.ylt b hy) h)
  ·rcases hM b h with h|⟨j,h⟩
   ·exact .inr (hG.yown s b h)
   ·exact .inr (hG.rbo s j b h).y
 ·rcases hG'.prN b k hp with h|h|h
  ·exact hG.prN b k h
  ·exact .inr (.inl (Zni hG.size h))
  ·rcases hM b h with h|⟨j,h⟩
   ·exact .inr (hG.base s b h)
   ·exact .inr (hG.rbo s j b h).base
 ·obtain⟨hne,hg⟩:=hrb a j g e;have h0:=hG.rbo a j g hg;have hns: ∀j',E.rb s j'≠some g:=λj' e=>hne ((h0.one s j' e).1).symm;refine⟨?_,λa' h=>h0.rho a' (hrho2 a' g h).1,λa' j' h=>h0.one a' j' (hrb a' j' g h).2,λk hp=> ?_,h0.y,h0.base⟩
  ·obtain⟨c,t,e⟩:=h0.cells;exact⟨c,t,(hold g h0.lt (h0.rho s) hns).trans e⟩
  ·rcases hG'.prN g k hp with h|h|h
   ·exact h0.pr k h
   ·exact absurd h (Nat.not_le.2 h0.lt)
   ·rcases hM g h with h|⟨j',h⟩
    ·exact h0.rho s h
    ·exact hns j' h
theorem Zb3 {E1:Env} {l1:Loc} {cf:Cfg} (hP:cf.P=P) (hG1:Good P A E1 l1 pend) (hM:Mild E E1 l l1) {ss:List Nat} (hnp: ∀s∈ss,¬pend s) {f:FuncId} {us:List Value} {out:Out} {dst:Option Nat} (hd: ∀d,dst=some d-> ¬pend d) {pt:Nat->TypeId} {n:Nat}
  (hC:Calls P f us.toArray E1.w λe w'=> ∃u E',e= .returned u/\E'.w=w'/\Good P (Xc pt (E1.callee ss) (E1.calleeJ ss)) E' (Zs out.objs out.log) (λ_=>False)/\RV P E' (Zs out.objs out.log) out.r u/\
   ∀k,k<n-> ∀g,(E1.callee ss).rho (OUT+k)=some g->out.objs[k]? =some .dead\/(E'.rho (OUT+k)=some g/\E'.bs (OUT+k)=(E1.callee ss).bs (OUT+k)))
  {strict:Bool} {xo:List (Option TypeId)} {ty:TypeId} {k:V->Loc->List Nat->Option R} (h:Je cf strict xo ss out ty dst l1 k=some r):
  ∃x l' ks,k x l' ks=some r/\Calls P f us.toArray E.w λe w'=> ∃u,e= .returned u/\Up P A E l pend x l' ks u w':=by
 unfold Je at h;rw[hP]at h;split at h
 case h_2=>cases h
 rename_i s q qs d;obtain⟨o,rest,ho,h4⟩:=Yp h;have hdp:=hd _ rfl;have hnps:=hnp s (by simp);have hrest:rest=out.objs.drop 1:=by rw[ho];rfl
 have hback: ∀E',Good P (Xc pt (E1.callee [s]) (E1.calleeJ [s])) E' (Zs out.objs out.log) (λ_=>False)->(∀k,k<n-> ∀g,(E1.callee [s]).rho (OUT+k)=some g->out.objs[k]? =some .dead\/(E'.rho (OUT+k)=some g/\E'.bs (OUT+k)=(E1.callee [s]).bs (OUT+k)))->
   (Cal (P:=P) A (E1.lostE l1 s E') E' 1 out.objs out.log/\Tk (P:=P) A pend (E1.lostE l1 s E') E' 1 out.objs (E1.lostE l1 s E') (l1.kill s) rest 0)/\ ∀z v,RV P E l z v->RV P (E1.lostE l1 s E') (l1.kill s) z v:=by
  intro E' hG' _;obtain⟨q1,q2,q3⟩:=Ze6 hG1 hnps hG';have hfresh: ∀i g,E'.rho (OUT+(1+i))=some g->E1.w.heap.size<=g\/E1.rho s=some g\/ ∃j,E1.rb s j=some g:=by
   intro i g hg;rcases hG'.base _ g hg with h|h
   ·exact .inl h
   ·rcases h with⟨s',h⟩|⟨s',j,h⟩
    ·obtain⟨i',x,rfl,hx',hgx⟩:=Yw h;have ex:x=s:=by simpa using Zm4 hx'
     rw[ex]at hgx;exact .inr (.inl hgx)
    ·obtain⟨i',x,rfl,hx',hgx⟩:=U7 h;have ex:x=s:=by simpa using Zm4 hx'
     rw[ex]at hgx;exact .inr (.inr ⟨j,hgx⟩)
  refine⟨⟨⟨λa=>hG'.obj a (λh=>h),hG'.inj,λb k hp a ha=>(hG'.prot b k hp).2 a ha,λi g hg=> ?_,λi g hg hy=> ?_,λi g hg a j e=> ?_⟩,⟨q1,rfl,rfl,rfl,rfl,rfl,by simpa using hrest,λi' _ g hg a ha=> ?_⟩⟩,λz v hz=>(U1 s (hM.rv hz)).mono0 q2 q3⟩
  ·rcases hfresh i g hg with h|h|⟨j,h⟩
   ·exact .inl (Zni hG1.size h)
   ·exact hG1.base s g h
   ·exact(hG1.rbo s j g h).base
  ·have hy:E1.Y g:=hy;rcases hfresh i g hg with h|h|⟨j,h⟩
   ·have:=hG1.ylt g hy;omega
   ·exact hG1.yown s g h hy
   ·exact(hG1.rbo s j g h).y hy
  ·simp only[Env.lostE]at e;split at e
   ·cases e
   ·rename_i hne;rcases hfresh i g hg with h|h|⟨j',h⟩
    ·have:=(hG1.rbo a j g e).lt;omega
    ·exact(hG1.rbo a j g e).rho s h
    ·exact hne ((hG1.rbo s j' g h).one a j e).1
  ·obtain⟨h1,hne⟩:=Kp (l:=l1) (s:=s) (E:=E1) ha;rcases hfresh i' g hg with h|h|⟨j',h⟩
   ·have:=hG1.lt h1;omega
   ·exact hne (hG1.inj a s g h1 h)
   ·exact(hG1.rbo s j' g h).rho a h1
 unfold N4 at h4;split at h4
 ·rename_i ts hts;unfold rT at h4;split at h4
  ·rename_i xs hr0;have hnat:=P5 h4;obtain⟨ys',l3,ks,hnat,hk⟩:=hnat;refine⟨_,_,_,hk, ?_⟩;rw[<-hM.w];refine hC.mono λe w'=> ?_
   rintro ⟨u,E',he,hw,hG',hr,hrho⟩
   obtain⟨⟨hCc,hTk⟩,q3⟩:=hback E' hG' hrho;rw[hr0]at hr;cases hr with
   | @tup _ us hs hxs=>
    obtain⟨ys2,l4,ks4,Ec2,e4,⟨g1,g2,g3,g4⟩,hl4,hx4,_,hpres⟩:=Ph (P:=P) hCc hTk hs hxs (k:=λa b c=>some (a,b,c)) (hnat _);injection e4 with e4
    injection e4 with e5 e4
    injection e4 with e6 e7
    subst e5 e6 e7;exact⟨_,he,Ec2,g2.trans hw,⟨g1,g4.trans hM.D⟩, .tup hl4.symm hx4,λz v hz hks=>hpres z v (q3 z v hz) hks⟩
  ·cases h4
 ·split at h4
  ·rename_i cts h0;obtain⟨zs,hrr,h4⟩:=Wm h4;obtain⟨zs',l3,ks,hnat,hk⟩:=Tc h4;refine⟨_,_,_,hk, ?_⟩;rw[<-hM.w];refine hC.mono λe w'=> ?_
   rintro ⟨u,E',he,hw,hG',hr,hrho⟩
   obtain⟨⟨hCc,hTk⟩,q3⟩:=hback E' hG' hrho;rw[hrr]at hr;cases hr with
   | @mag _ vs hs1 hone hrv=>
    obtain⟨ys2,l4,ks4,Ec2,e4,⟨g1,g2,g3,g4⟩,hl4,hx4,_,hpres⟩:=Vq (P:=P) hCc hTk hs1 hrv (k:=λa b c=>some (a,b,c)) (hnat _);injection e4 with e4
    injection e4 with e5 e4
    injection e4 with e6 e7
    subst e5 e6 e7;exact⟨_,he,Ec2,g2.trans hw,⟨g1,g4.trans hM.D⟩, .mag hl4.symm hone hx4,λz v hz hks=>hpres z v (q3 z v hz) hks⟩
  ·have hnat:=P4 h4;obtain⟨y,i2,os2,l3,ks,hnat,hk⟩:=hnat;refine⟨_,_,_,hk, ?_⟩;rw[<-hM.w];refine hC.mono λe w'=> ?_
   rintro ⟨u,E',he,hw,hG',hr,hrho⟩
   obtain⟨⟨hCc,hTk⟩,q3⟩:=hback E' hG' hrho;obtain⟨y2,i3,os3,l4,ks4,Ec2,e4,hT2,hy2,_,_,hpres⟩:=Pg (P:=P) hCc hTk hdp hr (k:=λa b c d e=>some (a,b,c,d,e)) (hnat _);injection e4 with e4
   injection e4 with e5 e4
   injection e4 with e6 e4
   injection e4 with e7 e4
   injection e4 with e8 e9
   subst e5 e6 e7 e8 e9;exact⟨_,he,Ec2,hT2.w.trans hw,⟨hT2.good,hT2.D.trans hM.D⟩,hy2,λz v hz hks=>hpres z v (q3 z v hz) hks⟩
theorem Wr (hG:Good P A E l pend) {cf:Cfg} (hP:cf.P=P) (hcon: ∀f args objs out,cf.call f args objs=some out->Gr P cf.glob f args objs out) (hgl:GlobOk cf.glob E.w E.Pr) {strict:Bool} {hds:List Nat} {xo:List (Option TypeId)} {f:FuncId} {xs:List V} {us:List Value}
  (hl:us.length=xs.length) (hx: ∀(j:Nat) (x:V) (u:Value),xs[j]? =some x->us[j]? =some u->RV P E l x u) {ty:TypeId} {dst:Option Nat} (hd: ∀d,dst=some d-> ¬pend d) {k:V->Loc->List Nat->Option R}
  (h:Um cf strict hds xo f xs ty dst l k=some r):
  ∃x l' ks,k x l' ks=some r/\Calls P f us.toArray E.w λe w'=> ∃u,e= .returned u/\Up P A E l pend x l' ks u w':=by
 unfold Um at h;simp only[hP]at h;obtain⟨ys,l1,ss,E1,h1,hG1,hM,hyl,⟨rest,hrest⟩,hnd,hy,hst,hpt⟩:=T6 hG hl hx (Zpv) h;obtain⟨hob,h2⟩:=Za h1;rw[Zmq]at hob;have hlg:He ys=none:=Ze3 hob.2;have hob:=hob.1;have hobs:=Lm hob;rw[Zm6]at h2;obtain⟨out,hcall,h3⟩:=h2;have hobs': ∀s∈ss,Hb (l1 s):=λs hs=>hobs s hs;have hnp: ∀s∈ss,¬pend s:=λs hs=>by
  rcases hpt s hs with h|h
  ·cases h
  ·exact h.npend hG1
 have hGc:=Wp hG1 hnd hobs' hnp A.pt;have hargs: ∀(j:Nat) (y:V) (u:Value),ys[j]? =some y->us[j]? =some u->RV P (E1.callee ss) (Zs (ss.map l1) (He ys)) y u:=by
  intro j y u hy' hu';rcases hy j y u hy' hu' with⟨c,rfl,hc⟩|⟨cs,vs,rfl,rfl,hc⟩|⟨i,off,s,rfl,hs,hr⟩|⟨i,off,n,s,rfl,hs,hr⟩|⟨i,n,s,rfl,hs,hr⟩
  ·exact .c hc
  ·exact .agg hc
  ·have e:=hobs s (Zm4 hs);cases hr with
   |ptrDead hd=>exact absurd hd e.ne
   |ptr hr=>exact .ptr ((Un hs).trans hr)
  ·have e:=hobs s (Zm4 hs);have hloc:Zs (ss.map l1) (He ys) (OUT+i)=l1 s:=by rw[Yc,Zm9,hs];rfl
   cases hr with
   |ownDead hd=>exact absurd hd e.ne
   |ownMx hd=>
    rcases e with⟨q,e⟩|⟨_,_,_,e⟩
    ·exact(Uk hd e).elim
    ·rw[e]at hd;cases hd
   |ownNil h1 h2=>exact .ownNil ((Un hs).trans h1) (hloc.trans h2)
   |own h1 h2 h3 h4 h5=>exact .own ((Un hs).trans h1) (by rw[hloc];exact h2) h3 h4 (h5.trans (Ko hs).symm)
   |own0 h1 h2 h3=>exact .own0 ((Un hs).trans h1) (by rw[hloc];exact h2) h3
  ·have e:=hobs s (Zm4 hs);cases hr with
   |wsDead hd=>exact absurd hd e.ne
   |ws hr hn=>exact .ws ((Un hs).trans hr) hn
 have hC:=hcon f ys (ss.map l1) out hcall A.pt (E1.callee ss) us (E1.calleeJ ss) hyl.symm rfl (hgl.held hM.held) (by rw[hlg];exact hGc) hargs;cases hlost:A5 cf hds f with
 |true=>
  rw[hlost]at h3;exact Zb3 hP hG1 hM hnp hd hC h3
 |false=>
 rw[hlost]at h3;obtain⟨l2,ro,h4,hro,hle,hother,hlog,hthese⟩:=Wn hnd h3;have strong: ∀E':Env,(∀k,k<(ss.map l1).length-> ∀g,(E1.callee ss).rho (OUT+k)=some g->out.objs[k]? =some .dead\/(E'.rho (OUT+k)=some g/\E'.bs (OUT+k)=(E1.callee ss).bs (OUT+k)))->
   ∀k,k<ss.length-> ∀g,(E1.callee ss).rho (OUT+k)=some g->E'.rho (OUT+k)=some g/\E'.bs (OUT+k)=(E1.callee ss).bs (OUT+k):=by
  intro E' hrho k hk g hg;rcases hrho k (by simpa using hk) g hg with h|h
  ·obtain⟨h1,o,h2,h3⟩:=hthese k ss[k] (Zm0 hk);rw[h2]at h;injection h with h
   subst h;have hb:=h1.hb.2.ne;rcases h3 with h3|⟨_,_,_,_,h3,_⟩
   ·exact absurd h3 hb
   ·cases h3
  ·exact h
 have hback: ∀E',Good P (Xc A.pt (E1.callee ss) (E1.calleeJ ss)) E' (Zs out.objs out.log) (λ_=>False)->(∀k,k<(ss.map l1).length-> ∀g,(E1.callee ss).rho (OUT+k)=some g->out.objs[k]? =some .dead\/(E'.rho (OUT+k)=some g/\E'.bs (OUT+k)=(E1.callee ss).bs (OUT+k)))->
   Good P A (E1.back E' ss) l2 pend/\Zo E1.w E1.Pr (E1.back E' ss).w (E1.back E' ss).Pr/\ ∀s,Zi E1 (E1.back E' ss) l1 l2 s:=by
  intro E' hG' hrho;exact Ze2 hG1 hnd hnp hG' (strong E' hrho) hlog hother hthese
 have hplain: ∀(y:V),PureV y->(y=out.r\/y= .und)->k y l2 []=some r-> ∃x l' ks,k x l' ks=some r/\Calls P f us.toArray E.w λe w'=> ∃u,e= .returned u/\Up P A E l pend x l' ks u w':=by
  intro y hpy hyo hk;refine⟨y,l2,[],hk, ?_⟩;rw[<-hM.w];refine hC.mono λe w'=> ?_
  rintro ⟨u,E',he,hw,hG',hr,hrho⟩
  obtain⟨q1,q2,q3⟩:=hback E' hG' hrho;refine⟨u,he,E1.back E' ss,hw,⟨q1,hM.D⟩, ?_,λz v hz _=>(hM.rv hz).mono0 q2 q3⟩;rcases hyo with rfl|rfl
  ·exact hpy.rv (E:=E') (E':=E1.back E' ss) (.refl _ _) hr
  ·exact .und
 split at h4
 ·
  rename_i d;have hdp:=hd _ rfl;have hCal: ∀E',Good P (Xc A.pt (E1.callee ss) (E1.calleeJ ss)) E' (Zs out.objs out.log) (λ_=>False)->(∀k,k<(ss.map l1).length-> ∀g,(E1.callee ss).rho (OUT+k)=some g->out.objs[k]? =some .dead\/(E'.rho (OUT+k)=some g/\E'.bs (OUT+k)=(E1.callee ss).bs (OUT+k)))->
    Cal (P:=P) A (E1.back E' ss) E' ss.length out.objs out.log/\Tk (P:=P) A pend (E1.back E' ss) E' ss.length out.objs (E1.back E' ss) l2 ro 0:=by
   intro E' hG' hrho;obtain⟨q1,q2,q3⟩:=hback E' hG' hrho;have hfresh: ∀i g,E'.rho (OUT+(ss.length+i))=some g->E1.w.heap.size<=g\/ ∃a∈ss,∃j,E1.rb a j=some g:=by
    intro i g hg;rcases hG'.base _ g hg with h|h
    ·exact .inl h
    ·rcases h with⟨s,h⟩|⟨s,j,h⟩
     ·obtain⟨i',x,rfl,hx',hgx⟩:=Yw h;have hi:i'<ss.length:=(Zmx.1 hx').1;have e1:=(strong E' hrho i' hi g h).1;have:=hG'.inj _ _ g e1 hg;omega
     ·obtain⟨i',x,rfl,hx',hgx⟩:=U7 h;exact .inr ⟨x,Zm4 hx',j,hgx⟩
   refine⟨⟨λs=>hG'.obj s (λh=>h),hG'.inj,λb k hp s hs=>(hG'.prot b k hp).2 s hs,λi g hg=> ?_,λi g hg hy=> ?_,λi g hg a j e=> ?_⟩,⟨q1,rfl,rfl,rfl,rfl,rfl,by simpa using hro,λi' _ g hg a ha=> ?_⟩⟩
   ·rcases hfresh i g hg with h|⟨a,_,j,h⟩
    ·exact .inl (Zni hG1.size h)
    ·exact(hG1.rbo a j g h).base
   ·rcases hfresh i g hg with h|⟨a,_,j,h⟩
    ·have:=hG1.ylt g hy;omega
    ·exact(hG1.rbo a j g h).y hy
   ·by_cases hm:a∈ss
    ·obtain⟨i2,hi2,e3⟩:=Znp.1 hm;rw[(Q3 hnd (by rw[Zm0 hi2,e3])).1]at e;exact(hG'.rbo _ _ _ e).rho _ hg
    ·rw[(Xz hm).1]at e;rcases hfresh i g hg with h|⟨a',ha',j',h⟩
     ·have:=(hG1.rbo a j g e).lt;omega
     ·exact hm (((hG1.rbo a j g e).one a' j' h).1▸ha')
   ·have h1:E1.rho a=some g:=ha;rcases hfresh i' g hg with h|⟨a',ha',j',h⟩
    ·have:=hG1.lt h1;omega
    ·exact(hG1.rbo a' j' g h).rho a h1
  unfold N4 at h4;split at h4
  ·rename_i ts hts;unfold rT at h4;split at h4
   ·rename_i xs hr0;have hnat:=P5 h4;obtain⟨ys',l3,ks,hnat,hk⟩:=hnat;refine⟨_,_,_,hk, ?_⟩;rw[<-hM.w];refine hC.mono λe w'=> ?_
    rintro ⟨u,E',he,hw,hG',hr,hrho⟩
    obtain⟨hCc,hTk⟩:=hCal E' hG' hrho;obtain⟨q1,q2,q3⟩:=hback E' hG' hrho;rw[hr0]at hr;cases hr with
    | @tup _ us hs hxs=>
     obtain⟨ys2,l4,ks4,Ec2,e4,⟨g1,g2,g3,g4⟩,hl4,hx4,_,hpres⟩:=Ph (P:=P) hCc hTk hs hxs (k:=λa b c=>some (a,b,c)) (hnat _);injection e4 with e4
     injection e4 with e5 e4
     injection e4 with e6 e7
     subst e5 e6 e7;exact⟨_,he,Ec2,g2.trans hw,⟨g1,g4.trans hM.D⟩, .tup hl4.symm hx4,λz v hz hks=>hpres z v ((hM.rv hz).mono0 q2 q3) hks⟩
   ·cases h4
  ·split at h4
   ·rename_i cts h0;obtain⟨zs,hrr,h4⟩:=Wm h4;obtain⟨zs',l3,ks,hnat,hk⟩:=Tc h4;refine⟨_,_,_,hk, ?_⟩;rw[<-hM.w];refine hC.mono λe w'=> ?_
    rintro ⟨u,E',he,hw,hG',hr,hrho⟩
    obtain⟨hCc,hTk⟩:=hCal E' hG' hrho;obtain⟨q1,q2,q3⟩:=hback E' hG' hrho;rw[hrr]at hr;cases hr with
    | @mag _ vs hs1 hone hrv=>
     obtain⟨ys2,l4,ks4,Ec2,e4,⟨g1,g2,g3,g4⟩,hl4,hx4,_,hpres⟩:=Vq (P:=P) hCc hTk hs1 hrv (k:=λa b c=>some (a,b,c)) (hnat _);injection e4 with e4
     injection e4 with e5 e4
     injection e4 with e6 e7
     subst e5 e6 e7;exact⟨_,he,Ec2,g2.trans hw,⟨g1,g4.trans hM.D⟩, .mag hl4.symm hone hx4,λz v hz hks=>hpres z v ((hM.rv hz).mono0 q2 q3) hks⟩
   ·have hnat:=P4 h4;obtain⟨y,i2,os2,l3,ks,hnat,hk⟩:=hnat;refine⟨_,_,_,hk, ?_⟩;rw[<-hM.w];refine hC.mono λe w'=> ?_
    rintro ⟨u,E',he,hw,hG',hr,hrho⟩
    obtain⟨hCc,hTk⟩:=hCal E' hG' hrho;obtain⟨q1,q2,q3⟩:=hback E' hG' hrho;obtain⟨y2,i3,os3,l4,ks4,Ec2,e4,hT2,hy2,_,_,hpres⟩:=Pg (P:=P) hCc hTk hdp hr (k:=λa b c d e=>some (a,b,c,d,e)) (hnat _);injection e4 with e4
    injection e4 with e5 e4
    injection e4 with e6 e4
    injection e4 with e7 e4
    injection e4 with e8 e9
    subst e5 e6 e7 e8 e9;exact⟨_,he,Ec2,hT2.w.trans hw,⟨hT2.good,hT2.D.trans hM.D⟩,hy2,λz v hz hks=>hpres z v ((hM.rv hz).mono0 q2 q3) hks⟩
 ·by_cases hfl:ss=[]/\Dh P ty=true
  ·
   obtain⟨hss,hfl⟩:=hfl;have e:thaw ss (Dh P ty) l l2=l:=by rw[hss,hfl];rfl
   rw[e]at h4;have hthaw: ∀(y:V),FlatV y->(y=out.r\/y= .und)->k y l []=some r-> ∃x l' ks,k x l' ks=some r/\Calls P f us.toArray E.w λe w'=> ∃u,e= .returned u/\Up P A E l pend x l' ks u w':=by
    intro y hfy hyo hk;refine⟨y,l,[],hk, ?_⟩;rw[<-hM.w];refine hC.mono λe w'=> ?_
    rintro ⟨u,E',he,hw,hG',hr,hrho⟩
    have hx1:Zo E.w E.Pr E'.w E.Pr:=λb k hp=>⟨hp,(hG'.pr0 b k (hM.held b k hp).1).2.1.trans (hM.held b k hp).2.1,(hG'.pr0 b k (hM.held b k hp).1).2.2.trans (hM.held b k hp).2.2⟩;have hold: ∀b,b<E.w.heap.size->E'.w.heap[b]? =E.w.heap[b]? :=λb hb=>by
     have h1:=(hG'.jf.2 b ⟨by rw[hM.w];exact hb,by rw[hss];simp,by rw[hss];simp⟩).2;rw[hM.w]at h1;exact h1
    have hsz:E.w.heap.size<=E'.w.heap.size:=by
     have h1:E1.w.heap.size<=E'.w.heap.size:=hG'.size;rw[hM.w]at h1;exact h1
    have ho:E'.w.os=E.w.os:=by have h1:E'.w.os=E1.w.os:=hG'.os;rw[hM.w]at h1;exact h1
    have ht:E'.w.tape=E.w.tape:=by have h1:E'.w.tape=E1.w.tape:=hG'.tape;rw[hM.w]at h1;exact h1
    have hu:E'.w.output=E.w.output:=by have h1:E'.w.output=E1.w.output:=hG'.output;rw[hM.w]at h1;exact h1
    obtain⟨q1,q2⟩:=Ze4 hG hx1 hold hsz ho ht hu (by have h1:E1.w.drawn<=E'.w.drawn:=hG'.dr;rw[hM.w]at h1;exact h1);refine⟨u,he,{E with w:=E'.w},hw,⟨q1,rfl⟩, ?_,λz v hz _=>hz.mono0 hx1 q2⟩;rcases hyo with rfl|rfl
    ·exact hfy.rv hr
    ·exact .und
   obtain⟨y,hfy,hk,hyo⟩:=Ze5 hfl h4;exact hthaw y hfy hyo hk
  ·have e:thaw ss (Dh P ty) l l2=l2:=Zjx hfl;rw[e]at h4;obtain⟨y,hpy,hk,hyo⟩:=Bs h4;exact hplain y hpy hyo hk
end
end Go.PM
