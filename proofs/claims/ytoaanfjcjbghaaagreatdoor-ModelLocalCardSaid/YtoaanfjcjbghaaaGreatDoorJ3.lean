/- Parts put together: PMp, PMpa, PMpb, PMq, PMr, PMs, PMt, PMu. -/
import Derived.Test.YtoaanfjcjbghaaaGreatDoorJ2
import Derived.MapKept
import Derived.Maps.RangeRun
import Derived.Orders
import Derived.Tactics
set_option linter.unusedSimpArgs false
set_option linter.unusedVariables false
/- The pure machine: a call, the operation. -/
namespace Go.PM
open Go
variable {P:Program}
section
variable {A:Fr} {E:Env} {l:Loc} {pend:Nat ->Prop} {R:Type} {r:R}
theorem locOf_out (objs:List Obj) (lg:Option Log) (k:Nat):locOf objs lg (OUT+k)=(objs[k]?).getD .dead:=by
 simp only [locOf];have:Nat.ble OUT (OUT+k)=true:=Nat.ble_eq_true_of_le (by omega);rw [this];simp
theorem locOf_low (objs:List Obj) (lg:Option Log) {s:Nat} (h:s<OUT):locOf objs lg s= .dead:=by
 simp only [locOf];have:Nat.ble OUT s=false:=by
  cases hb:Nat.ble OUT s
  ·rfl
  ·have:=Nat.le_of_ble_eq_true hb;omega
 rw [this];rfl
theorem locOf_ge {objs:List Obj} {lg:Option Log} {s:Nat} (h:locOf objs lg s≠ .dead): ∃k,s=OUT+k/\k<objs.length/\objs[k]? =some (locOf objs lg s):=by
 by_cases hs:s<OUT
 ·exact absurd (locOf_low objs lg hs) h
 ·obtain ⟨k,rfl⟩: ∃k,s=OUT+k:=⟨s-OUT,by omega⟩;rw [locOf_out] at h⊢;cases hk:objs[k]? with
  |none=>rw [hk] at h;simp at h
  |some o=>exact ⟨k,rfl,(List.getElem?_eq_some_iff.1 hk).1,by simp [hk]⟩
theorem nodup_inj: ∀{ss:List Nat} (_:ss.Nodup) {i j x:Nat} (_:ss[i]? =some x) (_:ss[j]? =some x),i=j
 | [],_,i,j,x,h,_=>by simp at h
 |s::ss,hn,i,j,x,hi,hj=>by
  obtain ⟨h1,h2⟩:=List.nodup_cons.1 hn;cases i<;>cases j
  ·rfl
  ·simp at hi hj;subst hi;exact absurd (List.mem_of_getElem? hj) h1
  ·simp at hi hj;subst hj;exact absurd (List.mem_of_getElem? hi) h1
  ·simp at hi hj;rw [nodup_inj h2 hi hj]
def Env.callee (E:Env) (ss:List Nat):Env:=
 {w:=E.w,Pr:=E.Pr,rho:=fun s=>if OUT<=s then (ss[s-OUT]?).bind E.rho else none,bs:=fun s=>if OUT<=s then ((ss[s-OUT]?).map E.bs).getD 0 else 0,Y:=fun b=>b<E.w.heap.size/\(∀s∈ss,E.rho s≠some b)/\ ∀s∈ss,∀j,E.rb s j≠some b,D:=[],rb:=fun s j=>if OUT<=s then (ss[s-OUT]?).bind fun a=>E.rb a j else none,rc:=fun s j=>if OUT<=s then ((ss[s-OUT]?).map fun a=>E.rc a j).getD 0 else 0}
abbrev Env.calleeJ (E:Env) (ss:List Nat):JT:=frJ E.w (E.callee ss).Y
theorem callee_rho {E:Env} {ss:List Nat} {i s:Nat} (h:ss[i]? =some s):(E.callee ss).rho (OUT+i)=E.rho s:=by
 simp [Env.callee,h]
theorem callee_bs {E:Env} {ss:List Nat} {i s:Nat} (h:ss[i]? =some s):(E.callee ss).bs (OUT+i)=E.bs s:=by
 simp [Env.callee,h]
theorem callee_rb {E:Env} {ss:List Nat} {i s:Nat} (h:ss[i]? =some s) (j:Nat):(E.callee ss).rb (OUT+i) j=E.rb s j:=by
 simp [Env.callee,h]
theorem callee_rc {E:Env} {ss:List Nat} {i s:Nat} (h:ss[i]? =some s) (j:Nat):(E.callee ss).rc (OUT+i) j=E.rc s j:=by
 simp [Env.callee,h]
theorem callee_some {E:Env} {ss:List Nat} {s g:Nat} (h:(E.callee ss).rho s=some g): ∃i a,s=OUT+i/\ss[i]? =some a/\E.rho a=some g:=by
 simp only [Env.callee] at h;split at h
 ·rename_i hs;cases ha:ss[s-OUT]? with
  |none=>rw [ha] at h;cases h
  |some a=>rw [ha] at h;exact ⟨s-OUT,a,by omega,ha,h⟩
 ·cases h
theorem callee_rbs {E:Env} {ss:List Nat} {s j g:Nat} (h:(E.callee ss).rb s j=some g): ∃i a,s=OUT+i/\ss[i]? =some a/\E.rb a j=some g:=by
 simp only [Env.callee] at h;split at h
 ·rename_i hs;cases ha:ss[s-OUT]? with
  |none=>rw [ha] at h;cases h
  |some a=>rw [ha] at h;exact ⟨s-OUT,a,by omega,ha,h⟩
 ·cases h
theorem ObjOk.ren {E E':Env} {l l':Loc} {a s':Nat} {o:Obj} (hw:E'.w=E.w) (hPr:E'.Pr=E.Pr) (hr:E'.rho s'=E.rho a) (hb:E'.bs s'=E.bs a) (hrb: ∀j,E'.rb s' j=E.rb a j) (hrc: ∀j,E'.rc s' j=E.rc a j) (hn:Hb o) (h:ObjOk P E l a o):ObjOk P E' l' s' o:=by
 have hblk: ∀{g:Nat} {t:TypeId} {cs:List C},Blk E a g t cs ->Blk E' s' g t cs:=by
  rintro g t cs ⟨cur,c1,c2,c3,c4⟩
  exact ⟨cur,by rw [hw];exact c1,c2.trans hb.symm,c3,by rw [hw,hPr];exact c4⟩
 have hrow: ∀{j:Nat} {te:TypeId} {row:List C} {u:Value},RowAt P E a j te row u ->RowAt P E' s' j te row u:=by
  rintro j te row u ⟨h1,h2⟩
  refine ⟨?_,fun a m cap e=>by rw [hrc];exact h2 a m cap e⟩;rcases h1 with ⟨q1,q2,q3⟩|⟨g,cap,cur,q1,q2,q3,q4,q5⟩
  ·exact .inl ⟨(hrb j).trans q1,q2,q3⟩
  ·exact .inr ⟨g,cap,cur,(hrb j).trans q1,by rw [hw];exact q2,q3,by rw [hw,hPr];exact q4,q5⟩
 cases h with
 |dead h=>exact absurd rfl hn.ne
 |ob h1 h2 h3=>exact .ob (hr.trans h1) (hblk h2) h3
 |sbNil h=>exact .sbNil (hr.trans h)
 |sb h1 h2 h3=>exact .sb (hr.trans h1) (hblk h2) h3
 |pk h1 h2 h3 h4 h5 h6=>
  refine .pk (hr.trans h1) (by rw [hw];exact h2) h3 (hb.trans h4) (fun j p u hp hu=>⟨(h5 j p u hp hu).1,fun e=> ?_⟩) fun j te row e=>⟨(h6 j te row e).1,(h6 j te row e).2.1,(h6 j te row e).2.2.imp fun v hv=>hrow hv⟩;have h0:=(h5 j p u hp hu).2 e;cases p with
  |c c=>show RC E'.w E'.Pr c u;rw [hw,hPr];exact h0
  |r te row=>exact ⟨h0.1,hrow h0.2⟩
 |mx _ _ _ _ _=>rcases hn with ⟨q,e⟩|⟨_,_,_,e⟩<;>cases e
 |mp _ _ _ _=>rcases hn with ⟨q,e⟩|⟨_,_,_,e⟩<;>cases e
 |cl _ _=>rcases hn with ⟨q,e⟩|⟨_,_,_,e⟩<;>cases e
 |mr _ _ _ _ _ _=>rcases hn with ⟨q,e⟩|⟨_,_,_,e⟩<;>cases e
 |mf _ _ _ _ _ _ _ _=>rcases hn with ⟨q,e⟩|⟨_,_,_,e⟩<;>cases e
 |it _ _ _=>rcases hn with ⟨q,e⟩|⟨_,_,_,e⟩<;>cases e
 |ir _ _ _=>rcases hn with ⟨q,e⟩|⟨_,_,_,e⟩<;>cases e
theorem good_callee (hG:Good P A E l pend) {ss:List Nat} (hn:ss.Nodup) (hob: ∀s∈ss,Hb (l s)) (hnp: ∀s∈ss,¬pend s) (pt:Nat ->TypeId):
  Good P (startFr pt (E.callee ss) (E.calleeJ ss)) (E.callee ss) (locOf (ss.map l) none) (fun _=>False):=by
 have hcases: ∀s,(locOf (ss.map l) none s= .dead/\(E.callee ss).rho s=none)\/ ∃i a,s=OUT+i/\ss[i]? =some a/\locOf (ss.map l) none s=l a:=by
  intro s;by_cases hd:locOf (ss.map l) none s= .dead
  ·left;refine ⟨hd, ?_⟩;cases hr:(E.callee ss).rho s with
   |none=>rfl
   |some g=>
    obtain ⟨i,a,rfl,ha,hg⟩:=callee_some hr;rw [locOf_out,List.getElem?_map,ha] at hd;have hd':l a= .dead:=by simpa using hd
    exact absurd hd' (hob a (List.mem_of_getElem? ha)).ne
  ·obtain ⟨k,rfl,hk,hk2⟩:=locOf_ge hd;right;have hk':k<ss.length:=by simpa using hk
   refine ⟨k,ss[k],rfl,List.getElem?_eq_getElem hk', ?_⟩;rw [locOf_out,List.getElem?_map,List.getElem?_eq_getElem hk'];rfl
 refine ⟨fun s _=> ?_,fun s h=>h.elim,fun a b g ha hb=> ?_,fun s g h=> .inr (.inl ⟨s,h⟩),fun b k hp=>⟨(hG.prot b k hp).1,fun s hs=> ?_⟩,⟨rfl,fun _ h=>⟨h,rfl⟩⟩, .refl _ _,fun b k hp=> .inl hp,Nat.le_refl _,rfl,rfl,rfl,Nat.le_refl _,frJ_yok _ _,fun s g hs hy=> ?_,fun b hb=>hb.1,(fun r hr=>by cases hr),fun s j g h=> ?_⟩
 ·rcases hcases s with ⟨h1,h2⟩|⟨i,a,rfl,ha,h1⟩
  ·rw [h1];exact .dead h2
  ·rw [h1];have hm:=List.mem_of_getElem? ha;exact ObjOk.ren (E:=E) (E':=E.callee ss) (a:=a) (s':=OUT+i) rfl rfl (callee_rho ha) (callee_bs ha) (callee_rb ha) (callee_rc ha) (hob a hm) (hG.obj a (hnp a hm))
 ·obtain ⟨i,x,rfl,hx,h1⟩:=callee_some ha;obtain ⟨j,y,rfl,hy,h2⟩:=callee_some hb;have hxy:=hG.inj x y g h1 h2;subst hxy;rw [nodup_inj hn hx hy]
 ·obtain ⟨i,a,rfl,ha,h1⟩:=callee_some hs;rw [locOf_out,List.getElem?_map,ha];exact (hG.prot b k hp).2 a h1
 ·obtain ⟨i,a,rfl,ha,h1⟩:=callee_some hs;exact hy.2.1 a (List.mem_of_getElem? ha) h1
 ·obtain ⟨i,a,rfl,ha,h1⟩:=callee_rbs h;have h0:=hG.rbo a j g h1;refine ⟨h0.cells,fun s' e=> ?_,fun s' j' e=> ?_,h0.pr,fun hy=>hy.2.2 a (List.mem_of_getElem? ha) j h1, .inr (.inr ⟨_,_,h⟩)⟩
  ·obtain ⟨_,a',_,_,h2⟩:=callee_some e;exact h0.rho a' h2
  ·obtain ⟨i',a',rfl,ha',h2⟩:=callee_rbs e;obtain ⟨e1,e2⟩:=h0.one a' j' h2;subst e1;exact ⟨by rw [nodup_inj hn ha ha'],e2⟩
def Env.back (E E':Env) (ss:List Nat):Env:=
 {E with w:=E'.w,Pr:=E'.Pr,rb:=fun s=>match siteIdx ss s 0 with|some i=>E'.rb (OUT+i)|none=>E.rb s,rc:=fun s=>match siteIdx ss s 0 with|some i=>E'.rc (OUT+i)|none=>E.rc s}
theorem siteIdx_at {ss:List Nat} (hn:ss.Nodup) {i s:Nat} (h:ss[i]? =some s):siteIdx ss s 0=some i:=by
 cases hq:siteIdx ss s 0 with
 |none=>exact absurd (List.mem_of_getElem? h) (siteIdx_none hq)
 |some n=>
  obtain ⟨j,e,hj⟩:=siteIdx_some hq;rw [nodup_inj hn h hj,e];simp
theorem siteIdx_out {ss:List Nat} {s:Nat} (h:s∉ss):siteIdx ss s 0=none:=by
 cases hq:siteIdx ss s 0 with
 |none=>rfl
 |some n=>
  obtain ⟨j,_,hj⟩:=siteIdx_some hq;exact absurd (List.mem_of_getElem? hj) h
theorem back_rb_in {E E':Env} {ss:List Nat} (hn:ss.Nodup) {i s:Nat} (h:ss[i]? =some s):(E.back E' ss).rb s=E'.rb (OUT+i)/\(E.back E' ss).rc s=E'.rc (OUT+i):=by
 simp [Env.back,siteIdx_at hn h]
theorem back_rb_out {E E':Env} {ss:List Nat} {s:Nat} (h:s∉ss):(E.back E' ss).rb s=E.rb s/\(E.back E' ss).rc s=E.rc s:=by
 simp [Env.back,siteIdx_out h]
theorem good_back (hG:Good P A E l pend) {ss:List Nat} (hn:ss.Nodup) (hnp: ∀s∈ss,¬pend s) {pt:Nat ->TypeId} {E':Env} {os:List Obj} {lg:Option Log} (hG':Good P (startFr pt (E.callee ss) (E.calleeJ ss)) E' (locOf os lg) (fun _=>False))
  (hrho: ∀k,k<ss.length -> ∀g,(E.callee ss).rho (OUT+k)=some g ->E'.rho (OUT+k)=some g/\E'.bs (OUT+k)=(E.callee ss).bs (OUT+k)) {l':Loc} (hlog:l'.log=l.log) (hother: ∀s,s∉ss ->l' s=l s)
  (hthese: ∀(i:Nat) (s:Nat),ss[i]? =some s ->Same (l s) (l' s)/\ ∃o,os[i]? =some o/\Stp o (l' s)):
  Good P A (E.back E' ss) l' pend/\Held E.w E.Pr (E.back E' ss).w (E.back E' ss).Pr/\ ∀s,Keeps1 E (E.back E' ss) l l' s:=by
 have hx:Held E.w E.Pr (E.back E' ss).w (E.back E' ss).Pr:=hG'.pr0;have hk: ∀s,Keeps1 E (E.back E' ss) l l' s:=by
  intro s;by_cases hm:s∈ss
  ·obtain ⟨i,hi,e⟩:=List.mem_iff_getElem.1 hm;obtain ⟨h1,h2⟩:=hthese i s (by rw [List.getElem?_eq_getElem hi,e]);exact .inr ⟨fun hd=>(by rw [hd] at h1;cases h1),rfl,rfl,h1.sh,h1.rk⟩
  ·by_cases hd:l s= .dead
   ·exact .inl ((hother s hm).trans hd)
   ·exact .inr ⟨hd,rfl,rfl, .same (hother s hm), .same (hother s hm) (back_rb_out hm).1 (back_rb_out hm).2⟩
 have hM: ∀b,(startFr pt (E.callee ss) (E.calleeJ ss)).M b ->(∃s∈ss,E.rho s=some b)\/ ∃s∈ss,∃j,E.rb s j=some b:=by
  rintro b (⟨s,hs⟩|⟨s,j,hs⟩)
  ·obtain ⟨i,a,rfl,ha,hg⟩:=callee_some hs;exact .inl ⟨a,List.mem_of_getElem? ha,hg⟩
  ·obtain ⟨i,a,rfl,ha,hg⟩:=callee_rbs hs;exact .inr ⟨a,List.mem_of_getElem? ha,j,hg⟩
 have hold: ∀b,b<E.w.heap.size ->(∀s∈ss,E.rho s≠some b)->(∀s∈ss,∀j,E.rb s j≠some b)->E'.w.heap[b]? =E.w.heap[b]? :=by
  intro b hb hno hno2;exact (hG'.jf.2 b ⟨hb,hno,hno2⟩).2
 have hrow: ∀i s j g,ss[i]? =some s ->E'.rb (OUT+i) j=some g ->E.w.heap.size<=g\/ ∃a∈ss,∃j',E.rb a j'=some g:=by
  intro i s j g hi hg;have h0:=hG'.rbo _ _ _ hg;rcases h0.base with h|h
  ·exact .inl h
  ·rcases h with ⟨s',hs'⟩|⟨s',j',hs'⟩
   ·obtain ⟨i',a,rfl,ha,_⟩:=callee_some hs';have hi':i'<ss.length:=(List.getElem?_eq_some_iff.1 ha).1;exact absurd (hrho i' hi' g hs').1 (h0.rho _)
   ·obtain ⟨i',a,rfl,ha,hga⟩:=callee_rbs hs';exact .inr ⟨a,List.mem_of_getElem? ha,j',hga⟩
 have hrbo: ∀s j g,(E.back E' ss).rb s j=some g ->RbOk A (E.back E' ss) s j g:=by
  intro s j g hg;by_cases hm:s∈ss
  ·obtain ⟨i,hi,e⟩:=List.mem_iff_getElem.1 hm;have hi':ss[i]? =some s:=by rw [List.getElem?_eq_getElem hi,e]
   rw [(back_rb_in hn hi').1] at hg;have h0:=hG'.rbo _ _ _ hg;have hb:=hrow i s j g hi' hg;refine ⟨h0.cells,fun s' e'=> ?_,fun s2 j2 e2=> ?_,h0.pr,fun hy=> ?_, ?_⟩
   ·have e':E.rho s'=some g:=e';rcases hb with h|⟨a,_,j',h⟩
    ·have:=hG.lt e';omega
    ·exact (hG.rbo _ _ _ h).rho s' e'
   ·by_cases hm2:s2∈ss
    ·obtain ⟨i2,hi2,e3⟩:=List.mem_iff_getElem.1 hm2;have hi2':ss[i2]? =some s2:=by rw [List.getElem?_eq_getElem hi2,e3]
     rw [(back_rb_in hn hi2').1] at e2;obtain ⟨q1,q2⟩:=h0.one _ _ e2;have:i2=i:=by omega
     subst this;rw [hi'] at hi2';injection hi2' with hi2'
     exact ⟨hi2'.symm,q2⟩
    ·rw [(back_rb_out hm2).1] at e2;rcases hb with h|⟨a,ha,j',h⟩
     ·have:=(hG.rbo _ _ _ e2).lt;omega
     ·have:=((hG.rbo _ _ _ h).one _ _ e2).1;exact absurd (this▸ha) hm2
   ·have hy:E.Y g:=hy;rcases hb with h|⟨a,_,j',h⟩
    ·have:=hG.ylt g hy;omega
    ·exact (hG.rbo _ _ _ h).y hy
   ·rcases hb with h|⟨a,_,j',h⟩
    ·exact .inl (Nat.le_trans hG.size h)
    ·exact (hG.rbo _ _ _ h).base
  ·rw [(back_rb_out hm).1] at hg;have h0:=hG.rbo s j g hg;have hns: ∀a∈ss,∀j',E.rb a j'≠some g:=fun a ha j' e=>hm ((h0.one a j' e).1▸ha);refine ⟨?_,h0.rho,fun s2 j2 e2=> ?_,fun k hp=> ?_,h0.y,h0.base⟩
   ·obtain ⟨c,t,e⟩:=h0.cells;exact ⟨c,t,(hold g h0.lt (fun s' _=>h0.rho s') hns).trans e⟩
   ·by_cases hm2:s2∈ss
    ·obtain ⟨i2,hi2,e3⟩:=List.mem_iff_getElem.1 hm2;have hi2':ss[i2]? =some s2:=by rw [List.getElem?_eq_getElem hi2,e3]
     rw [(back_rb_in hn hi2').1] at e2;rcases hrow i2 s2 j2 g hi2' e2 with h|⟨a,ha,j',h⟩
     ·have:=h0.lt;omega
     ·exact absurd h (hns a ha j')
    ·rw [(back_rb_out hm2).1] at e2;exact h0.one _ _ e2
   ·rcases hG'.prN g k hp with h|h|h
    ·exact h0.pr k h
    ·exact absurd h (Nat.not_le.2 h0.lt)
    ·rcases hM g h with ⟨a,_,hga⟩|⟨a,ha,j',hga⟩
     ·exact h0.rho a hga
     ·exact hns a ha j' hga
 refine ⟨⟨fun s hp=> ?_,fun s hp=> ?_,hG.inj,hG.base,fun b k hp=>⟨(hG'.prot b k hp).1,fun s hs=> ?_⟩,hG.jstep rfl hlog hx (fun b k hp=> ?_) (fun b hb=>hold b (hG.ylt b hb) (fun s _ hg=>hG.yown s b hg hb) (fun s _ j hg=>(hG.rbo s j b hg).y hb)) hG'.size hG'.os hG'.tape hG'.output hG'.dr,hG.pr0.trans hx,fun b k hp=> ?_,Nat.le_trans hG.size hG'.size,hG'.os.trans hG.os,hG'.tape.trans hG.tape,hG'.output.trans hG.output,Nat.le_trans hG.dr hG'.dr,hG.yok,hG.yown,fun b hb=>Nat.lt_of_lt_of_le (hG.ylt b hb) hG'.size,fun r hr=>⟨(hold r (Array.getElem?_eq_some_iff.1 (hG.dm r hr).1).1 (fun s _=>hG.dmno hr s) (fun s _ j e=>by
   obtain ⟨_,_,h3⟩:=(hG.rbo s j r e).cells;have h4:=(hG.dm r hr).1;rw [h3] at h4;cases h4)).trans (hG.dm r hr).1,(hG.dm r hr).2⟩,hrbo⟩,hx,hk⟩
 ·by_cases hm:s∈ss
  ·obtain ⟨i,hi,e⟩:=List.mem_iff_getElem.1 hm;have hi':ss[i]? =some s:=by rw [List.getElem?_eq_getElem hi,e]
   obtain ⟨h1,o2,h2,h2s⟩:=hthese i s hi';have h0:=hG'.obj (OUT+i) (fun h=>h);rw [locOf_out,h2] at h0;have h0:=h2s.obj h0;have q0:=h1.hb.1;have q:=h1.hb.2;cases hg:E.rho s with
   |none=>
    have h3:=hG.obj s hp;generalize l s=o at h1 h3 q0;generalize l' s=o' at h1;cases h3 with
    |dead h=>exact absurd rfl q0.ne
    |ob h _ _=>rw [hg] at h;cases h
    |sbNil h=>
     cases h1 with
     | @sb _ _ fz2 _ cs2 hl hf=>
      obtain rfl:cs2=[]:=List.eq_nil_of_length_eq_zero (by simpa using hl);obtain rfl:fz2=0:=by rcases hf with hf|hf<;>simpa using hf
      exact .sbNil hg
    |sb h _ _=>rw [hg] at h;cases h
    |mx h _ _ _ _=>rw [hg] at h;cases h
    |mp h _ _ _=>rw [hg] at h;cases h
    |cl h _=>rw [hg] at h;cases h
    |mr h _ _ _ _ _=>rw [hg] at h;cases h
    |mf h _ _ _ _ _ _ _=>rw [hg] at h;cases h
    |it h _ _=>rw [hg] at h;cases h
    |ir h _ _=>rw [hg] at h;cases h
    |pk h _ _ _ _ _=>rw [hg] at h;cases h
   |some g=>
   obtain ⟨e1,e2⟩:=hrho i hi g (by rw [callee_rho hi'];exact hg);rw [<-hg] at e1;rw [callee_bs hi'] at e2;exact ObjOk.ren (E:=E') (E':=E.back E' ss) (a:=OUT+i) (s':=s) rfl rfl e1.symm e2.symm (fun j=>congrFun (back_rb_in hn hi').1 j) (fun j=>congrFun (back_rb_in hn hi').2 j) q h0
  ·rw [hother s hm];refine (hG.obj s hp).keep hx rfl rfl (fun g hg=>hold g (hG.lt hg) (fun a ha hga=>hm (hG.inj s a g hg hga▸ha)) (fun a _ j e=>(hG.rbo a j g e).rho s hg)) (fun _ _ _ hu=>hu.mono0 hx hk) (fun j=>⟨congrFun (back_rb_out hm).1 j,fun g hg=>hold g (hG.rbo _ _ _ hg).lt (fun a _=>(hG.rbo _ _ _ hg).rho a) (fun a ha j' e=>hm (((hG.rbo _ _ _ hg).one a j' e).1▸ha))⟩) (back_rb_out hm).2
 ·obtain ⟨h1,cs,hz,ho⟩:=hG.pnd s hp;exact ⟨h1,cs,hz,(hother s fun hm=>hnp s hm hp).trans ho⟩
 ·by_cases hm:s∈ss
  ·obtain ⟨i,hi,e⟩:=List.mem_iff_getElem.1 hm;have hi':ss[i]? =some s:=by rw [List.getElem?_eq_getElem hi,e]
   obtain ⟨h1,o2,h2,h2s⟩:=hthese i s hi';have e1:=(hrho i hi b (by rw [callee_rho hi'];exact hs)).1;have h4:=(hG'.prot b k hp).2 (OUT+i) e1;rw [locOf_out,h2] at h4;rw [h2s.fz];exact h4
  ·rw [hother s hm];rcases hG'.prN b k hp with h|h|h
   ·exact (hG.prot b k h).2 s hs
   ·have h1:E.w.heap.size<=b:=h;have h2:=hG.lt (s:=s) hs;omega
   ·rcases hM b h with ⟨a,ha,hga⟩|⟨a,ha,j,hga⟩
    ·exact absurd (hG.inj s a b hs hga▸ha) hm
    ·exact absurd hs ((hG.rbo a j b hga).rho s)
 ·rcases hG'.prN b k hp with h|h|h
  ·exact .inl h
  ·exact .inr fun hy=>Nat.lt_irrefl _ (Nat.lt_of_lt_of_le (hG.ylt b hy) h)
  ·rcases hM b h with ⟨a,_,hga⟩|⟨a,_,j,hga⟩
   ·exact .inr (hG.yown a b hga)
   ·exact .inr (hG.rbo a j b hga).y
 ·rcases hG'.prN b k hp with h|h|h
  ·exact hG.prN b k h
  ·exact .inr (.inl (Nat.le_trans hG.size h))
  ·rcases hM b h with ⟨a,ha,hga⟩|⟨a,_,j,hga⟩
   ·exact .inr (hG.base a b hga)
   ·exact .inr (hG.rbo a j b hga).base
theorem log0_none {ys:List V} (h:noYl ys=true):log0 ys=none:=by
 cases ys with
 |nil=>rfl
 |cons y ys=>
  cases y with
  |c c=>cases c<;>first|rfl|(cases h;done)
  |_=>rfl
theorem good_grow (hG:Good P A E l pend) {w':World} (hx:Held E.w E.Pr w' E.Pr) (hh: ∀b,b<E.w.heap.size ->w'.heap[b]? =E.w.heap[b]?) (hs:E.w.heap.size<=w'.heap.size) (ho:w'.os=E.w.os) (ht:w'.tape=E.w.tape) (hu:w'.output=E.w.output) (hd:E.w.drawn<=w'.drawn):
  Good P A {E with w:=w'} l pend/\ ∀s,Keeps1 E {E with w:=w'} l l s:=by
 have hk: ∀s,Keeps1 E {E with w:=w'} l l s:=fun s=>by
  by_cases hd:l s= .dead
  ·exact .inl hd
  ·exact .inr ⟨hd,rfl,rfl, .same rfl, .same rfl⟩
 refine ⟨⟨fun s hp=> ?_,hG.pnd,hG.inj,hG.base,fun b k hp=>⟨?_,(hG.prot b k hp).2⟩,hG.jstep rfl rfl hx (fun _ _ h=> .inl h) (fun b hb=>hh b (hG.ylt b hb)) hs ho ht hu hd,hG.pr0.trans hx,hG.prN,Nat.le_trans hG.size hs,ho.trans hG.os,ht.trans hG.tape,hu.trans hG.output,Nat.le_trans hG.dr hd,hG.yok,hG.yown,fun b hb=>Nat.lt_of_lt_of_le (hG.ylt b hb) hs,fun r hr=>⟨(hh r (Array.getElem?_eq_some_iff.1 (hG.dm r hr).1).1).trans (hG.dm r hr).1,(hG.dm r hr).2⟩,rbo_step hG.rbo (fun _ _ _ e=>e) (fun _ _ e=> .inl e) (fun _ _ e=> .inl e) (fun _ e=> .inl e) fun b hb _ _=>hh b hb⟩,hk⟩
 ·exact (hG.obj s hp).keep hx rfl rfl (fun g hg=>hh g (hG.lt hg)) (fun _ _ _ hu=>hu.mono0 hx hk) fun j=>⟨rfl,fun g hg=>hh g (hG.rbo _ _ _ hg).lt⟩
 ·exact Nat.lt_of_lt_of_le (hG.prot b k hp).1 hs
def FlatC (c:C):Prop:= ∃x,c= .v x
inductive FlatV:V ->Prop
 |c {c:C} (h:FlatC c):FlatV (.c c)
 |agg {cs:List C} (h: ∀c∈cs,FlatC c):FlatV (.agg cs)
 |tup {vs:List V} (h: ∀x∈vs,(∃c,x= .c c/\FlatC c)\/ ∃cs,x= .agg cs/\ ∀c∈cs,FlatC c):FlatV (.tup vs)
 |und:FlatV .und
theorem FlatC.rc {w w':World} {Pr Pr':Nat ->Nat ->Prop} {c:C} {u:Value} (hc:FlatC c) (h:RC w Pr c u):RC w' Pr' c u:=by
 obtain ⟨x,rfl⟩:=hc;cases h with|v h=>exact .v h
theorem FlatV.rv {E E':Env} {l l':Loc} {y:V} (hp:FlatV y) {u:Value} (h:RV P E l y u):RV P E' l' y u:=by
 cases hp with
 |c hc=>cases h with|c h=>exact .c (hc.rc h)
 |agg hc=>cases h with|agg h=>exact .agg ⟨h.1,fun j c u hj hu=>(hc c (List.mem_of_getElem? hj)).rc (h.2 j c u hj hu)⟩
 |tup hv=>
  cases h with
  |tup hs h=>
   refine .tup hs fun j x u hx' hu=> ?_;have h1:=h j x u hx' hu;rcases hv x (List.mem_of_getElem? hx') with ⟨c,rfl,hc⟩|⟨cs,rfl,hc⟩
   ·cases h1 with|c h=>exact .c (hc.rc h)
   ·cases h1 with|agg h=>exact .agg ⟨h.1,fun j c u hj hu=>(hc c (List.mem_of_getElem? hj)).rc (h.2 j c u hj hu)⟩
 |und=>exact .und
theorem getLf_flat {lf:Lf} (hf:lf.isO=false) {c:C} {k:C ->Option R} (h:getLf lf c k=some r):FlatC c:=by
 cases lf with
 |o=>cases hf
 |i kd=>
  simp only [getLf,asI] at h;split at h
  ·exact ⟨_,rfl⟩
  ·cases h
 |b=>
  simp only [getLf,asB] at h;split at h
  ·exact ⟨_,rfl⟩
  ·cases h
 |s=>
  simp only [getLf,asS] at h;split at h
  ·exact ⟨_,rfl⟩
  ·cases h
theorem getLfs_flat: ∀{ls:List Lf} {cs:List C} {k:List C ->Option R} (_:(ls.all fun l=> !l.isO)=true) (_:getLfs ls cs k=some r),∀c∈cs.take ls.length,FlatC c
 | [],cs,k,_,h=>by simp
 |lf::ls,[],k,_,h=>by cases h
 |lf::ls,c::cs,k,hf,h=>by
  simp only [List.all_cons,Bool.and_eq_true,Bool.not_eq_true'] at hf;have h1:getLf lf c (fun c'=>getLfs ls cs fun cs'=>k (c'::cs'))=some r:=h;have h2:=getLfs_flat (ls:=ls) (by simpa using hf.2) (getLf_eq h1);intro x hx;simp only [List.length_cons,List.take_succ_cons,List.mem_cons] at hx;rcases hx with rfl|hx
  ·exact getLf_flat hf.1 h1
  ·exact h2 x hx
theorem retV_flat {t:TypeId} (hf:flatT P t=true) {x:V} {k:V ->Option R} (h:retV P t x k=some r):(∃c,x= .c c/\FlatC c)\/ ∃cs,x= .agg cs/\ ∀c∈cs,FlatC c:=by
 unfold flatT at hf;unfold retV at h;split at h
 ·unfold rA at h;split at h
  ·rename_i cs;refine .inr ⟨cs,rfl, ?_⟩;split at h
   ·rename_i ls hls;rw [hls] at hf;obtain ⟨hb,h⟩:=need_some h;have h2:=Nat.eq_of_beq_eq_true hb;have h1:=getLfs_flat hf h;rw [<-h2,List.take_length] at h1;exact h1
   ·rename_i hls;rw [hls] at hf;cases hf
  ·cases h
 ·split at h
  ·rename_i lf hls;rw [hls] at hf;unfold rC at h;split at h
   ·rename_i c;exact .inl ⟨c,rfl,getLf_flat (by simpa using hf) (k:=fun c'=>k (.c c')) h⟩
   ·cases h
  ·cases h
theorem retL_flat: ∀{ts:List TypeId} (_:ts.all (flatT P)=true) {xs:List V} {k:List V ->Option R} (_:retL P ts xs k=some r),∀x∈xs,(∃c,x= .c c/\FlatC c)\/ ∃cs,x= .agg cs/\ ∀c∈cs,FlatC c
 | [],_,xs,k,h=>by
  unfold retL at h;split at h
  ·simp
  ·cases h
 |t::ts,hf,xs,k,h=>by
  simp only [List.all_cons,Bool.and_eq_true] at hf;unfold retL uncV at h;split at h
  ·cases h
  ·rename_i x ys;have h1:=retV_flat hf.1 h;obtain ⟨_,h2⟩:=retV_eq h;have h3:=retL_flat (ts:=ts) hf.2 h2;intro z hz;rcases List.mem_cons.1 hz with rfl|hz
   ·exact h1
   ·exact h3 z hz
theorem retK_flat {t:TypeId} (hf:flatR P t=true) {x:V} {k:V ->Option R} (h:retK P t x k=some r): ∃y,FlatV y/\k y=some r/\(y=x\/y= .und):=by
 unfold flatR at hf;unfold retK at h;split at h
 ·rename_i ts hts;rw [hts] at hf;split at h
  ·exact ⟨.und, .und,h, .inr rfl⟩
  ·unfold rT at h;split at h
   ·rename_i vs;have h1:=retL_flat hf h;exact ⟨_, .tup h1,(retL_eq h).2, .inl rfl⟩
   ·cases h
 ·rename_i hne;have hf':flatT P t=true:=by
   split at hf
   ·rename_i ts hts;exact absurd hts (hne ts)
   ·exact hf
  have h1:=retV_flat hf' h;have h2:=(retV_eq h).2;rcases h1 with ⟨c,rfl,hc⟩|⟨cs,rfl,hc⟩
  ·exact ⟨_, .c hc,h2, .inl rfl⟩
  ·exact ⟨_, .agg hc,h2, .inl rfl⟩
structure Tk (A:Fr) (pend:Nat ->Prop) (E1 E2:Env) (m:Nat) (objs:List Obj) (Ec:Env) (lc:Loc) (os:List Obj) (i:Nat):Prop where
 good:Good P A Ec lc pend
 w:Ec.w=E2.w
 Pr:Ec.Pr=E2.Pr
 D:Ec.D=E1.D
 Y:Ec.Y=E1.Y
 rb:Ec.rb=E1.rb
 os:os=objs.drop (m+i)
 no: ∀i',i<=i' -> ∀g,E2.rho (OUT+(m+i'))=some g -> ∀a,Ec.rho a≠some g
structure Cal (A:Fr) (E1 E2:Env) (m:Nat) (objs:List Obj) (lg:Option Log):Prop where
 obj: ∀s,ObjOk P E2 (locOf objs lg) s (locOf objs lg s)
 inj: ∀s s' g,E2.rho s=some g ->E2.rho s'=some g ->s=s'
 prot: ∀b k,E2.Pr b k -> ∀s,E2.rho s=some b ->k<(locOf objs lg s).fz
 base: ∀i g,E2.rho (OUT+(m+i))=some g ->A.w0.heap.size<=g\/A.M g
 ny: ∀i g,E2.rho (OUT+(m+i))=some g -> ¬E1.Y g
 nr: ∀i g,E2.rho (OUT+(m+i))=some g -> ∀a j,E1.rb a j≠some g
theorem Tk.adopt {E1 E2:Env} {m:Nat} {objs:List Obj} {lg:Option Log} (hC:Cal (P:=P) A E1 E2 m objs lg) {Ec:Env} {lc:Loc} {o:Obj} {os:List Obj} {i:Nat} (hT:Tk (P:=P) A pend E1 E2 m objs Ec lc (o::os) i) {site g:Nat} (hp: ¬pend site)
  (hr:E2.rho (OUT+(m+i))=some g) {te:TypeId} {cs:List C} (ho:o= .ob te 0 cs\/o= .sb te 0 cs):
  ∃Ec2,Tk (P:=P) A pend E1 E2 m objs Ec2 ((lc.kill site).put site o) os (i+1)/\Ec2.rho site=some g/\Ec2.bs site=E2.bs (OUT+(m+i))/\ ∀z v,RV P Ec lc z v ->z.at site=false ->RV P Ec2 ((lc.kill site).put site o) z v:=by
 have hox:objs[m+i]? =some o:=by
  have:(objs.drop (m+i))[0]? =some o:=by rw [<-hT.os];rfl
  rwa [List.getElem?_drop,Nat.add_zero] at this
 have hlx:locOf objs lg (OUT+(m+i))=o:=by rw [locOf_out,hox];rfl
 have h0:=hC.obj (OUT+(m+i));rw [hlx] at h0;have hblk:Blk E2 (OUT+(m+i)) g te cs:=by
  rcases ho with rfl|rfl
  ·cases h0 with|ob h1 h2 _=>rw [hr] at h1;injection h1 with h1;subst h1;exact h2
  ·cases h0 with
   |sbNil h1=>rw [h1] at hr;cases hr
   |sb h1 h2 _=>rw [hr] at h1;injection h1 with h1;subst h1;exact h2
 obtain ⟨cur,c1,c2,c3,c4⟩:=hblk;have hofz:o.fz=0:=by rcases ho with rfl|rfl<;>rfl
 have hq:=hT.good.kill hp;have hsame:=setRow_self E2.w g cur te (0,0) c1;have hw':(Ec.kill lc site).w=E2.w:=hT.w;have hPr':(Ec.kill lc site).Pr=E2.Pr:=hT.Pr;obtain ⟨a1,a2,a3⟩:=good_adopt (P:=P) (A:=A) hq (d:=site) (g:=g) (kill_at site lc) hp (fun a ha=>hT.no i (Nat.le_refl _) g hr a (kill_rho ha)) (fun a j e=>hC.nr i g hr a j (by rw [<-hT.rb];exact e)) (by show ¬Ec.Y g;rw [hT.Y];exact hC.ny i g hr) (hC.base i g hr) (cur:=cur) (cur':=cur) (t:=te) (by rw [hw'];exact c1) rfl (fz:=0) (fun k hk=>by
   rw [hPr'] at hk;have:=hC.prot g k hk _ hr;rw [hlx,hofz] at this;exact this) (fun _ _=>rfl) (cs:=cs) (ob:=o) ho (Nat.zero_le _) c3 (by rw [hw',hPr'];exact c4) (kill_ref site lc)
 refine ⟨(Ec.kill lc site).adopt site g cur,⟨a1, ?_,hPr',hT.D,hT.Y,hT.rb, ?_,fun i' hi g' hg' a ha=> ?_⟩,by simp [Env.adopt],by simp [Env.adopt];exact c2,fun z v hz hk=> ?_⟩
 ·show (Ec.kill lc site).w.setRow g cur=E2.w;rw [hw',hsame]
 ·have h1:=hT.os;have h2:os=(objs.drop (m+i)).drop 1:=by rw [<-h1];rfl
  rw [h2,List.drop_drop];congr 1
 ·by_cases e:a=site
  ·subst e;have e1:g=g':=by simpa [Env.adopt] using ha
   subst e1;have:=hC.inj _ _ g hr hg';omega
  ·have h1:(Ec.kill lc site).rho a=some g':=by simpa [Env.adopt,e] using ha
   exact hT.no i' (by omega) g' hg' a (kill_rho h1)
 ·exact (rv_kill site hz).mono (fun s=>s=site) a2 (fun s hs=>a3 s hs) (fun s hs=>by subst hs;exact hk)
theorem Tk.nil {E1 E2:Env} {m:Nat} {objs:List Obj} {Ec:Env} {lc:Loc} {o:Obj} {os:List Obj} {i:Nat} (hT:Tk (P:=P) A pend E1 E2 m objs Ec lc (o::os) i) {site:Nat} (hp: ¬pend site) (te:TypeId):
  ∃Ec2,Tk (P:=P) A pend E1 E2 m objs Ec2 ((lc.kill site).put site (.sb te 0 [])) os (i+1)/\Ec2.rho site=none/\ ∀z v,RV P Ec lc z v ->z.at site=false ->RV P Ec2 ((lc.kill site).put site (.sb te 0 [])) z v:=by
 have hq:=hT.good.kill hp;obtain ⟨q1,q2⟩:=good_nil hq (kill_at site lc) hp te (kill_ref site lc);refine ⟨Ec.kill lc site,⟨q1,hT.w,hT.Pr,hT.D,hT.Y,hT.rb, ?_,fun i' hi g' hg' a ha=>hT.no i' (by omega) g' hg' a (kill_rho ha)⟩,kill_rho_self Ec lc site,fun z v hz hk=> ?_⟩
 ·have h1:=hT.os;have h2:os=(objs.drop (m+i)).drop 1:=by rw [<-h1];rfl
  rw [h2,List.drop_drop];congr 1
 ·exact (rv_kill site hz).mono (fun s=>s=site) (.refl _ _) (fun s hs=>q2 s hs) (fun s hs=>by subst hs;exact hk)
def Only (y:V) (site:Nat):Prop:=(∃off,y= .ptr site off)\/(∃off n,y= .own site off n)\/(∃c,y= .c c)\/ ∃cs,y= .agg cs
theorem Only.at {y:V} {site s:Nat} (h:Only y site) (hs:s≠site):y.at s=false:=by
 have hb:Nat.beq site s=false:=by
  cases e:Nat.beq site s
  ·rfl
  ·exact absurd (Nat.eq_of_beq_eq_true e).symm hs
 rcases h with ⟨off,rfl⟩|⟨off,n,rfl⟩|⟨c,rfl⟩|⟨cs,rfl⟩<;>simp [V.at,hb]
theorem take1_sound {E1 E2:Env} {m:Nat} {objs:List Obj} {lg:Option Log} (hC:Cal (P:=P) A E1 E2 m objs lg) {Ec:Env} {lc:Loc} {os:List Obj} {i:Nat} (hT:Tk (P:=P) A pend E1 E2 m objs Ec lc os i) {site:Nat} (hp: ¬pend site)
  {x:Option TypeId} {ty:TypeId} {v:V} {u:Value} (hv:RV P E2 (locOf objs lg) v u) {k:V ->Nat ->List Obj ->Loc ->List Nat ->Option R} (h:take1 P m site i x ty v os lc k=some r):
  ∃y i2 os2 l2 ks Ec2,k y i2 os2 l2 ks=some r/\Tk (P:=P) A pend E1 E2 m objs Ec2 l2 os2 i2/\RV P Ec2 l2 y u/\Only y site/\(∀s∈ks,s=site)/\ ∀z w,RV P Ec lc z w ->(∀s∈ks,z.at s=false)->RV P Ec2 l2 z w:=by
 unfold take1 at h;split at h
 ·obtain ⟨h1,h2⟩:=retV_eq h;refine ⟨v,i,os,lc,[],Ec,h2,hT, ?_, ?_,by simp,fun z w hz _=>hz⟩
  ·have hw:Held E2.w E2.Pr Ec.w Ec.Pr:=by rw [hT.w,hT.Pr];exact .refl _ _
   rcases h1 with ⟨c,rfl⟩|⟨cs,rfl⟩
   ·cases hv with|c h=>exact .c (h.held hw)
   ·cases hv with|agg h=>exact .agg (h.held hw)
  ·rcases h1 with ⟨c,rfl⟩|⟨cs,rfl⟩
   ·exact .inr (.inr (.inl ⟨c,rfl⟩))
   ·exact .inr (.inr (.inr ⟨cs,rfl⟩))
 ·rename_i te;obtain ⟨_,h⟩:=need_some h;split at h
  ·obtain ⟨rfl,h1⟩:=rP_eq h;obtain ⟨o,os',rfl,h2⟩:=uncO_eq h1;obtain ⟨cs,rfl,h3⟩:=rO_eq h2;have h4:k (.ptr site 0) (i+1) os' ((lc.kill site).put site (.ob te 0 cs)) [site]=some r:=by
    split at h3
    ·obtain ⟨hb,h7⟩:=need_some h3;have h8:=getLfs_eq h7;rw [<-Nat.eq_of_beq_eq_true hb,List.take_length] at h8;exact h8.2
    ·exact h3
   have hox:objs[m+i]? =some (.ob te 0 cs):=by
    have:(objs.drop (m+i))[0]? =some (.ob te 0 cs):=by rw [<-hT.os];rfl
    rwa [List.getElem?_drop,Nat.add_zero] at this
   have hlx:locOf objs lg (OUT+(m+i))= .ob te 0 cs:=by rw [locOf_out,hox];rfl
   cases hv with
   |ptrDead hd=>rw [hlx] at hd;cases hd
   | @ptr _ _ g hr=>
    obtain ⟨Ec2,t1,t2,t3,t4⟩:=hT.adopt hC hp hr (.inl rfl);exact ⟨_,_,_,_,_,Ec2,h4,t1, .ptr t2, .inl ⟨0,rfl⟩,by simp,fun z w hz hk=>t4 z w hz (hk site (by simp))⟩
  ·obtain ⟨n,rfl,h1⟩:=rW_eq h;obtain ⟨o,os',rfl,h2⟩:=uncO_eq h1;obtain ⟨cs,rfl,h3⟩:=rS_eq h2;obtain ⟨hb,h4⟩:=need_some h3;rw [Bool.and_eq_true] at hb;have hn:=Nat.eq_of_beq_eq_true hb.1;have hox:objs[m+i]? =some (.sb te 0 cs):=by
    have:(objs.drop (m+i))[0]? =some (.sb te 0 cs):=by rw [<-hT.os];rfl
    rwa [List.getElem?_drop,Nat.add_zero] at this
   have hlx:locOf objs lg (OUT+(m+i))= .sb te 0 cs:=by rw [locOf_out,hox];rfl
   cases hv with
   |ownDead hd=>rw [hlx] at hd;cases hd
   |ownMx hd=>rw [hlx] at hd;cases hd
   |own0 _ _ hoff=>exact absurd rfl hoff
   |ownNil hr hl=>
    rw [hlx] at hl;injection hl with e1 e2 e3
    subst e1 e3;obtain ⟨Ec2,t1,t2,t3⟩:=hT.nil hp te;exact ⟨_,_,_,_,_,Ec2,h4,t1, .ownNil (fz:=0) t2 (put_same _ _ _), .inr (.inl ⟨0,0,rfl⟩),by simp,fun z w hz hk=>t3 z w hz (hk site (by simp))⟩
   | @own _ _ _ g cap t' fz' cs' hr hl hn' hc hs=>
    rw [hlx] at hl;injection hl with hl;injection hl with e1 e2;injection e2 with e2 e3
    subst e1 e2 e3;obtain ⟨Ec2,t1,t2,t3,t4⟩:=hT.adopt hC hp hr (.inr rfl);exact ⟨_,_,_,_,_,Ec2,h4,t1, .own (t:=te) (fz:=0) (cs:=cs) t2 (by rw [put_same];rfl) hn' hc (hs.trans t3.symm), .inr (.inl ⟨0,n,rfl⟩),by simp,fun z w hz hk=>t4 z w hz (hk site (by simp))⟩
  ·cases h
theorem nsite_inj {d i j:Nat} (h:nsite d i=nsite d j):i=j:=by unfold nsite at h;omega
theorem takeM_sound {E1 E2:Env} {m d:Nat} {objs:List Obj} {lg:Option Log} (hC:Cal (P:=P) A E1 E2 m objs lg): ∀{ts:List (TypeId×Option TypeId)} {xs:List V} {j i:Nat} {us:List Value} {os:List Obj} {Ec:Env} {lc:Loc}
  (_:Tk (P:=P) A pend E1 E2 m objs Ec lc os i) (_:us.length=xs.length) (_: ∀(j:Nat) (x:V) (u:Value),xs[j]? =some x ->us[j]? =some u ->RV P E2 (locOf objs lg) x u)
  {k:List V ->Loc ->List Nat ->Option R} (_:takeM P m d j i ts xs os lc k=some r),
  ∃ys l2 ks Ec2,k ys l2 ks=some r/\(Good P A Ec2 l2 pend/\Ec2.w=E2.w/\Ec2.Pr=E2.Pr/\Ec2.D=E1.D)/\ys.length=us.length/\(∀(q:Nat) (y:V) (u:Value),ys[q]? =some y ->us[q]? =some u ->RV P Ec2 l2 y u)/\(∀s∈ks,∃q,j<=q/\s=nsite d q)/\
   ∀z w,RV P Ec lc z w ->(∀s∈ks,z.at s=false)->RV P Ec2 l2 z w
 | [],xs,j,i,us,os,Ec,lc,hT,hl,hx,k,h=>by
  unfold takeM at h;split at h
  ·exact ⟨[],lc,[],Ec,h,⟨hT.good,hT.w,hT.Pr,hT.D⟩,by simpa using hl.symm,by simp,by simp,fun z w hz _=>hz⟩
  ·cases h
 |q::ts,[],j,i,us,os,Ec,lc,hT,hl,hx,k,h=>by cases h
 |q::ts,x::xs,j,i,[],os,Ec,lc,hT,hl,hx,k,h=>by simp at hl
 |q::ts,x::xs,j,i,u::us,os,Ec,lc,hT,hl,hx,k,h=>by
  have hv:=hx 0 x u rfl rfl;have hxt: ∀(q:Nat) (y:V) (v:Value),xs[q]? =some y ->us[q]? =some v ->RV P E2 (locOf objs lg) y v:=fun q y v h1 h2=>hx (q+1) y v (by simpa using h1) (by simpa using h2);unfold takeM uncV at h;simp only at h;split at h
  ·obtain ⟨hp,h⟩:=retV_eq h;obtain ⟨ys,l2,ks,Ec2,h1,⟨g1,g2,g3,g4⟩,hl2,hx2,hks,hp2⟩:=takeM_sound hC (ts:=ts) (xs:=xs) hT (us:=us) (by simpa using hl) hxt h;refine ⟨x::ys,l2,ks,Ec2,h1,⟨g1,g2,g3,g4⟩,by simp [hl2],fun q y v hy hu=> ?_,hks,hp2⟩;cases q with
   |zero=>
    simp at hy hu;subst hy hu;rcases hp with ⟨c,rfl⟩|⟨cs,rfl⟩
    ·cases hv with|c h=>exact .c (by rw [g2,g3];exact h)
    ·cases hv with|agg h=>exact .agg (by rw [g2,g3];exact h)
   |succ q=>exact hx2 q y v (by simpa using hy) (by simpa using hu)
  ·rename_i te _;obtain ⟨hlv,h⟩:=need_some h;rw [Bool.and_eq_true] at hlv;have hlv:=hlv.1;obtain ⟨n0,rfl,h1⟩:=rW_eq h;obtain ⟨o,os',rfl,h2⟩:=uncO_eq h1;obtain ⟨cs,rfl,h3⟩:=rS_eq h2;obtain ⟨hb,h4⟩:=need_some h3;have hpj: ¬pend (nsite d j):=fun hp=>by
    obtain ⟨_,cs,_,e⟩:=hT.good.pnd _ hp;rw [e] at hlv;cases hlv
   rw [Bool.and_eq_true] at hb;have hn:=Nat.eq_of_beq_eq_true hb.1;have hox:objs[m+i]? =some (.sb te 0 cs):=by
    have:(objs.drop (m+i))[0]? =some (.sb te 0 cs):=by rw [<-hT.os];rfl
    rwa [List.getElem?_drop,Nat.add_zero] at this
   have hlx:locOf objs lg (OUT+(m+i))= .sb te 0 cs:=by rw [locOf_out,hox];rfl
   have step: ∃Ec3,Tk (P:=P) A pend E1 E2 m objs Ec3 ((lc.kill (nsite d j)).put (nsite d j) (.sb te 0 cs)) os' (i+1)/\RV P Ec3 ((lc.kill (nsite d j)).put (nsite d j) (.sb te 0 cs)) (.own (nsite d j) 0 n0) u/\ ∀z w,RV P Ec lc z w ->z.at (nsite d j)=false ->RV P Ec3 ((lc.kill (nsite d j)).put (nsite d j) (.sb te 0 cs)) z w:=by
    cases hv with
    |ownDead hd=>rw [hlx] at hd;cases hd
    |ownMx hd=>rw [hlx] at hd;cases hd
    |own0 _ _ hoff=>exact absurd rfl hoff
    |ownNil hr hl9=>
     rw [hlx] at hl9;injection hl9 with e1 e2 e3
     subst e1 e3;obtain ⟨Ec2,t1,t2,t3⟩:=hT.nil hpj te;exact ⟨Ec2,t1, .ownNil (fz:=0) t2 (put_same _ _ _),t3⟩
    | @own _ _ _ g cap t' fz' cs' hr hl9 hn' hc hs=>
     rw [hlx] at hl9;injection hl9 with hl9;injection hl9 with e1 e2;injection e2 with e2 e3
     subst e1 e2 e3;obtain ⟨Ec2,t1,t2,t3,t4⟩:=hT.adopt hC hpj hr (.inr rfl);exact ⟨Ec2,t1, .own (t:=te) (fz:=0) (cs:=cs) t2 (by rw [put_same];rfl) hn' hc (hs.trans t3.symm),t4⟩
   obtain ⟨Ec3,hT3,hy3,hp3⟩:=step;obtain ⟨ys,l2,ks,Ec2,h1,g1,hl2,hx2,hks,hp⟩:=takeM_sound hC (ts:=ts) (xs:=xs) hT3 (us:=us) (by simpa using hl) hxt h4;refine ⟨.own (nsite d j) 0 n0::ys,l2,nsite d j::ks,Ec2,h1,g1,by simp [hl2],fun q y v hy hu=> ?_,fun s hs=> ?_,fun z w hz hk=>hp z w (hp3 z w hz (hk _ (by simp))) fun s hs=>hk s (by simp [hs])⟩
   ·cases q with
    |zero=>
     simp at hy hu;subst hy hu;refine hp _ _ hy3 fun s hs=> ?_;obtain ⟨q,hq,rfl⟩:=hks s hs;exact Only.at (site:=nsite d j) (.inr (.inl ⟨0,n0,rfl⟩)) fun e=>by have:=nsite_inj e;omega
    |succ q=>exact hx2 q y v (by simpa using hy) (by simpa using hu)
   ·rcases List.mem_cons.1 hs with rfl|hs
    ·exact ⟨j,Nat.le_refl _,rfl⟩
    ·obtain ⟨q,hq,e⟩:=hks s hs;exact ⟨q,by omega,e⟩
theorem takeL_sound {E1 E2:Env} {m d:Nat} {objs:List Obj} {lg:Option Log} (hC:Cal (P:=P) A E1 E2 m objs lg): ∀{ts:List TypeId} {j i:Nat} {xo:List (Option TypeId)} {xs:List V} {us:List Value} {os:List Obj} {Ec:Env} {lc:Loc}
  (_:Tk (P:=P) A pend E1 E2 m objs Ec lc os i) (_:us.length=xs.length) (_: ∀(j:Nat) (x:V) (u:Value),xs[j]? =some x ->us[j]? =some u ->RV P E2 (locOf objs lg) x u)
  {k:List V ->Loc ->List Nat ->Option R} (_:takeL P m d j i xo ts xs os lc k=some r),
  ∃ys l2 ks Ec2,k ys l2 ks=some r/\(Good P A Ec2 l2 pend/\Ec2.w=E2.w/\Ec2.Pr=E2.Pr/\Ec2.D=E1.D)/\ys.length=us.length/\(∀(q:Nat) (y:V) (u:Value),ys[q]? =some y ->us[q]? =some u ->RV P Ec2 l2 y u)/\(∀s∈ks,∃q,j<=q/\s=nsite d q)/\
   ∀z w,RV P Ec lc z w ->(∀s∈ks,z.at s=false)->RV P Ec2 l2 z w
 | [],j,i,xo,xs,us,os,Ec,lc,hT,hl,hx,k,h=>by
  unfold takeL at h;split at h
  ·exact ⟨[],lc,[],Ec,h,⟨hT.good,hT.w,hT.Pr,hT.D⟩,by simpa using hl.symm,by simp,by simp,fun z w hz _=>hz⟩
  ·cases h
 |t::ts,j,i,xo,xs,us,os,Ec,lc,hT,hl,hx,k,h=>by
  unfold takeL uncV at h;split at h
  ·cases h
  ·rename_i x ys;cases us with
   |nil=>simp at hl
   |cons u us=>
    simp only at h;split at h
    ·rename_i cts h0;obtain ⟨zs,rfl,h⟩:=rG_eq h;have hv:=hx 0 _ u rfl rfl;cases hv with
     | @mag _ vs hs1 hone hrv=>
      obtain ⟨zs',l2,ks,Ec2,h1,g1,hl2,hx2,hks,hpres⟩:=takeM_sound hC hT hs1 hrv h;obtain ⟨h3,h4⟩:=retL_eq h1;have hw:Held E2.w E2.Pr Ec2.w Ec2.Pr:=by rw [g1.2.1,g1.2.2.1];exact .refl _ _
      refine ⟨.mag zs'::ys,l2,ks,Ec2,h4,g1,by simpa using hl.symm,fun q y' u' hy' hu'=> ?_,hks,hpres⟩;cases q with
      |zero=>
       simp at hy' hu';subst hy' hu';exact .mag hl2.symm hone hx2
      |succ q=>
       have hy2:=hx (q+1) y' u' (by simpa using hy') (by simpa using hu');rcases h3 y' (List.mem_of_getElem? (by simpa using hy')) with ⟨c,rfl⟩|⟨cs,rfl⟩
       ·cases hy2 with|c h=>exact .c (h.held hw)
       ·cases hy2 with|agg h=>exact .agg (h.held hw)
    ·obtain ⟨hlv,h⟩:=need_some h;have hpj: ¬pend (nsite d j):=fun hp=>by
      obtain ⟨_,cs,_,e⟩:=hT.good.pnd _ hp;rw [e] at hlv;cases hlv
     obtain ⟨y,i2,os2,l2,ks,Ec2,h1,hT2,hy,hon,hks,hpres⟩:=take1_sound hC hT hpj (hx 0 _ u rfl rfl) h;obtain ⟨ys2,l3,ks3,Ec3,h3,g3,hl3,hx3,hks3,hpres3⟩:=takeL_sound hC (ts:=ts) hT2 (us:=us) (by simpa using hl) (fun q x u hx' hu=>hx (q+1) x u (by simpa using hx') (by simpa using hu)) h1;refine ⟨y::ys2,l3,ks++ks3,Ec3,h3,g3,by simp [hl3],fun q y' u' hy' hu'=> ?_,fun s hs=> ?_,fun z w hz hk=> ?_⟩
     ·cases q with
      |zero=>
       simp at hy' hu';subst hy' hu';refine hpres3 _ _ hy fun s hs=>hon.at fun e=> ?_;obtain ⟨q,hq,e2⟩:=hks3 s hs;have:=nsite_inj (e.symm.trans e2);omega
      |succ q=>exact hx3 q y' u' (by simpa using hy') (by simpa using hu')
     ·rcases List.mem_append.1 hs with hs|hs
      ·exact ⟨j,Nat.le_refl _,hks s hs⟩
      ·obtain ⟨q,hq,e⟩:=hks3 s hs;exact ⟨q,by omega,e⟩
     ·exact hpres3 z w (hpres z w hz fun s hs=>hk s (by simp [hs])) fun s hs=>hk s (by simp [hs])
def Env.lostE (E:Env) (l:Loc) (s:Nat) (E':Env):Env:={E.kill l s with w:=E'.w,Pr:=E'.Pr,rb:=fun a=>if a=s then fun _=>none else E.rb a}
theorem kill_rhoL {E:Env} {l:Loc} {s a g:Nat} (h:(E.kill l s).rho a=some g):E.rho a=some g/\a≠s:=by
 simp only [Env.kill] at h;split at h
 ·cases h
 ·rename_i hne;refine ⟨h,fun e=>hne ?_⟩;subst e;simp [Loc.kill]
theorem good_lost (hG:Good P A E l pend) {s:Nat} (hnp: ¬pend s) {pt:Nat ->TypeId} {E':Env} {os:List Obj} {lg:Option Log} (hG':Good P (startFr pt (E.callee [s]) (E.calleeJ [s])) E' (locOf os lg) (fun _=>False)):
  Good P A (E.lostE l s E') (Loc.kill s l) pend/\Held (E.kill l s).w (E.kill l s).Pr (E.lostE l s E').w (E.lostE l s E').Pr/\ ∀a,Keeps1 (E.kill l s) (E.lostE l s E') (Loc.kill s l) (Loc.kill s l) a:=by
 have hx:Held E.w E.Pr (E.lostE l s E').w (E.lostE l s E').Pr:=hG'.pr0;have hx0:Held (E.kill l s).w (E.kill l s).Pr (E.lostE l s E').w (E.lostE l s E').Pr:=hx;have G0:=hG.kill hnp;have hk: ∀a,Keeps1 (E.kill l s) (E.lostE l s E') (Loc.kill s l) (Loc.kill s l) a:=by
  intro a;by_cases hd:Loc.kill s l a= .dead
  ·exact .inl hd
  ·have hne:a≠s:=fun e=>hd (by subst e;simp [Loc.kill]);exact .inr ⟨hd,rfl,rfl, .same rfl, .same rfl (by simp [Env.lostE,hne,Env.kill]) rfl⟩
 have hM: ∀b,(startFr pt (E.callee [s]) (E.calleeJ [s])).M b ->E.rho s=some b\/ ∃j,E.rb s j=some b:=by
  rintro b (⟨s',hs⟩|⟨s',j,hs⟩)
  ·obtain ⟨i,a,rfl,ha,hg⟩:=callee_some hs;have ea:a=s:=by simpa using List.mem_of_getElem? ha
   rw [ea] at hg;exact .inl hg
  ·obtain ⟨i,a,rfl,ha,hg⟩:=callee_rbs hs;have ea:a=s:=by simpa using List.mem_of_getElem? ha
   rw [ea] at hg;exact .inr ⟨j,hg⟩
 have hold: ∀b,b<E.w.heap.size ->E.rho s≠some b ->(∀j,E.rb s j≠some b)->E'.w.heap[b]? =E.w.heap[b]? :=by
  intro b hb hno hno2;have one: ∀a∈[s],a=s:=fun a ha=>by simpa using ha
  exact (hG'.jf.2 b ⟨hb,fun a ha=>one a ha▸hno,fun a ha=>one a ha▸hno2⟩).2
 have hrb: ∀a j g,(E.lostE l s E').rb a j=some g ->a≠s/\E.rb a j=some g:=by
  intro a j g h;simp only [Env.lostE] at h;split at h
  ·cases h
  ·rename_i hne;exact ⟨hne,h⟩
 have hrho2: ∀a g,(E.lostE l s E').rho a=some g ->E.rho a=some g/\a≠s:=fun a g h=>kill_rhoL (l:=l) h;refine ⟨⟨fun a hp=> ?_,fun a hp=>G0.pnd a hp,G0.inj,G0.base,fun b k hp=>⟨(hG'.prot b k hp).1,fun a ha=> ?_⟩,G0.jstep rfl rfl hx (fun b k hp=> ?_) (fun b hb=>hold b (hG.ylt b hb) (fun hg=>hG.yown s b hg hb) (fun j hg=>(hG.rbo s j b hg).y hb)) hG'.size hG'.os hG'.tape hG'.output hG'.dr,G0.pr0.trans hx,fun b k hp=> ?_,Nat.le_trans hG.size hG'.size,hG'.os.trans hG.os,hG'.tape.trans hG.tape,hG'.output.trans hG.output,Nat.le_trans hG.dr hG'.dr,hG.yok,G0.yown,fun b hb=>Nat.lt_of_lt_of_le (hG.ylt b hb) hG'.size,fun r hr=>⟨(hold r (Array.getElem?_eq_some_iff.1 (hG.dm r hr).1).1 (hG.dmno hr s) (fun j e=>by
   obtain ⟨_,_,h3⟩:=(hG.rbo s j r e).cells;have h4:=(hG.dm r hr).1;rw [h3] at h4;cases h4)).trans (hG.dm r hr).1,(hG.dm r hr).2⟩,fun a j g e=> ?_⟩,hx0,hk⟩
 ·by_cases hne:a=s
  ·subst hne;rw [show Loc.kill a l a= .dead from by simp [Loc.kill]];refine .dead ?_;cases h:(E.lostE l a E').rho a with
   |none=>rfl
   |some g=>exact absurd rfl (hrho2 a g h).2
  ·refine (G0.obj a hp).keep hx0 rfl rfl (fun g hg=> ?_) (fun _ _ _ hu=>hu.mono0 hx0 hk) (fun j=>⟨by simp [Env.lostE,hne,Env.kill],fun g hg=> ?_⟩) rfl
   ·obtain ⟨hg,_⟩:=kill_rhoL hg;exact hold g (hG.lt hg) (fun h=>hne (hG.inj a s g hg h)) fun j h=>(hG.rbo s j g h).rho a hg
   ·have hg:E.rb a j=some g:=hg;exact hold g (hG.rbo _ _ _ hg).lt ((hG.rbo _ _ _ hg).rho s) fun j' h=>hne ((hG.rbo _ _ _ h).one a j hg).1
 ·obtain ⟨hr,hne⟩:=hrho2 a b ha;rcases hG'.prN b k hp with h|h|h
  ·exact (G0.prot b k h).2 a ha
  ·have h1:E.w.heap.size<=b:=h;have h2:=hG.lt hr;omega
  ·rcases hM b h with h|⟨j,h⟩
   ·exact absurd (hG.inj a s b hr h) hne
   ·exact absurd hr ((hG.rbo s j b h).rho a)
 ·rcases hG'.prN b k hp with h|h|h
  ·exact .inl h
  ·exact .inr fun hy=>Nat.lt_irrefl _ (Nat.lt_of_lt_of_le (hG.ylt b hy) h)
  ·rcases hM b h with h|⟨j,h⟩
   ·exact .inr (hG.yown s b h)
   ·exact .inr (hG.rbo s j b h).y
 ·rcases hG'.prN b k hp with h|h|h
  ·exact hG.prN b k h
  ·exact .inr (.inl (Nat.le_trans hG.size h))
  ·rcases hM b h with h|⟨j,h⟩
   ·exact .inr (hG.base s b h)
   ·exact .inr (hG.rbo s j b h).base
 ·obtain ⟨hne,hg⟩:=hrb a j g e;have h0:=hG.rbo a j g hg;have hns: ∀j',E.rb s j'≠some g:=fun j' e=>hne ((h0.one s j' e).1).symm;refine ⟨?_,fun a' h=>h0.rho a' (hrho2 a' g h).1,fun a' j' h=>h0.one a' j' (hrb a' j' g h).2,fun k hp=> ?_,h0.y,h0.base⟩
  ·obtain ⟨c,t,e⟩:=h0.cells;exact ⟨c,t,(hold g h0.lt (h0.rho s) hns).trans e⟩
  ·rcases hG'.prN g k hp with h|h|h
   ·exact h0.pr k h
   ·exact absurd h (Nat.not_le.2 h0.lt)
   ·rcases hM g h with h|⟨j',h⟩
    ·exact h0.rho s h
    ·exact hns j' h
theorem lost_sound {E1:Env} {l1:Loc} {cf:Cfg} (hP:cf.P=P) (hG1:Good P A E1 l1 pend) (hM:Mild E E1 l l1) {ss:List Nat} (hnp: ∀s∈ss,¬pend s) {f:FuncId} {us:List Value} {out:Out} {dst:Option Nat} (hd: ∀d,dst=some d -> ¬pend d) {pt:Nat ->TypeId} {n:Nat}
  (hC:Calls P f us.toArray E1.w fun e w'=> ∃u E',e= .returned u/\E'.w=w'/\Good P (startFr pt (E1.callee ss) (E1.calleeJ ss)) E' (locOf out.objs out.log) (fun _=>False)/\RV P E' (locOf out.objs out.log) out.r u/\
   ∀k,k<n -> ∀g,(E1.callee ss).rho (OUT+k)=some g ->out.objs[k]? =some .dead\/(E'.rho (OUT+k)=some g/\E'.bs (OUT+k)=(E1.callee ss).bs (OUT+k)))
  {strict:Bool} {xo:List (Option TypeId)} {ty:TypeId} {k:V ->Loc ->List Nat ->Option R} (h:lostK cf strict xo ss out ty dst l1 k=some r):
  ∃x l' ks,k x l' ks=some r/\Calls P f us.toArray E.w fun e w'=> ∃u,e= .returned u/\Up P A E l pend x l' ks u w':=by
 unfold lostK at h;rw [hP] at h;split at h
 case h_2=>cases h
 rename_i s q qs d;obtain ⟨o,rest,ho,h4⟩:=uncO_eq h;have hdp:=hd _ rfl;have hnps:=hnp s (by simp);have hrest:rest=out.objs.drop 1:=by rw [ho];rfl
 have hback: ∀E',Good P (startFr pt (E1.callee [s]) (E1.calleeJ [s])) E' (locOf out.objs out.log) (fun _=>False)->(∀k,k<n -> ∀g,(E1.callee [s]).rho (OUT+k)=some g ->out.objs[k]? =some .dead\/(E'.rho (OUT+k)=some g/\E'.bs (OUT+k)=(E1.callee [s]).bs (OUT+k)))->
   (Cal (P:=P) A (E1.lostE l1 s E') E' 1 out.objs out.log/\Tk (P:=P) A pend (E1.lostE l1 s E') E' 1 out.objs (E1.lostE l1 s E') (l1.kill s) rest 0)/\ ∀z v,RV P E l z v ->RV P (E1.lostE l1 s E') (l1.kill s) z v:=by
  intro E' hG' _;obtain ⟨q1,q2,q3⟩:=good_lost hG1 hnps hG';have hfresh: ∀i g,E'.rho (OUT+(1+i))=some g ->E1.w.heap.size<=g\/E1.rho s=some g\/ ∃j,E1.rb s j=some g:=by
   intro i g hg;rcases hG'.base _ g hg with h|h
   ·exact .inl h
   ·rcases h with ⟨s',h⟩|⟨s',j,h⟩
    ·obtain ⟨i',x,rfl,hx',hgx⟩:=callee_some h;have ex:x=s:=by simpa using List.mem_of_getElem? hx'
     rw [ex] at hgx;exact .inr (.inl hgx)
    ·obtain ⟨i',x,rfl,hx',hgx⟩:=callee_rbs h;have ex:x=s:=by simpa using List.mem_of_getElem? hx'
     rw [ex] at hgx;exact .inr (.inr ⟨j,hgx⟩)
  refine ⟨⟨⟨fun a=>hG'.obj a (fun h=>h),hG'.inj,fun b k hp a ha=>(hG'.prot b k hp).2 a ha,fun i g hg=> ?_,fun i g hg hy=> ?_,fun i g hg a j e=> ?_⟩,⟨q1,rfl,rfl,rfl,rfl,rfl,by simpa using hrest,fun i' _ g hg a ha=> ?_⟩⟩,fun z v hz=>(rv_kill s (hM.rv hz)).mono0 q2 q3⟩
  ·rcases hfresh i g hg with h|h|⟨j,h⟩
   ·exact .inl (Nat.le_trans hG1.size h)
   ·exact hG1.base s g h
   ·exact (hG1.rbo s j g h).base
  ·have hy:E1.Y g:=hy;rcases hfresh i g hg with h|h|⟨j,h⟩
   ·have:=hG1.ylt g hy;omega
   ·exact hG1.yown s g h hy
   ·exact (hG1.rbo s j g h).y hy
  ·simp only [Env.lostE] at e;split at e
   ·cases e
   ·rename_i hne;rcases hfresh i g hg with h|h|⟨j',h⟩
    ·have:=(hG1.rbo a j g e).lt;omega
    ·exact (hG1.rbo a j g e).rho s h
    ·exact hne ((hG1.rbo s j' g h).one a j e).1
  ·obtain ⟨h1,hne⟩:=kill_rhoL (l:=l1) (s:=s) (E:=E1) ha;rcases hfresh i' g hg with h|h|⟨j',h⟩
   ·have:=hG1.lt h1;omega
   ·exact hne (hG1.inj a s g h1 h)
   ·exact (hG1.rbo s j' g h).rho a h1
 unfold takeK at h4;split at h4
 ·rename_i ts hts;unfold rT at h4;split at h4
  ·rename_i xs hr0;have hnat:=takeL_nat h4;obtain ⟨ys',l3,ks,hnat,hk⟩:=hnat;refine ⟨_,_,_,hk, ?_⟩;rw [<-hM.w];refine hC.mono fun e w'=> ?_
   rintro ⟨u,E',he,hw,hG',hr,hrho⟩
   obtain ⟨⟨hCc,hTk⟩,q3⟩:=hback E' hG' hrho;rw [hr0] at hr;cases hr with
   | @tup _ us hs hxs=>
    obtain ⟨ys2,l4,ks4,Ec2,e4,⟨g1,g2,g3,g4⟩,hl4,hx4,_,hpres⟩:=takeL_sound (P:=P) hCc hTk hs hxs (k:=fun a b c=>some (a,b,c)) (hnat _);injection e4 with e4
    injection e4 with e5 e4
    injection e4 with e6 e7
    subst e5 e6 e7;exact ⟨_,he,Ec2,g2.trans hw,⟨g1,g4.trans hM.D⟩, .tup hl4.symm hx4,fun z v hz hks=>hpres z v (q3 z v hz) hks⟩
  ·cases h4
 ·split at h4
  ·rename_i cts h0;obtain ⟨zs,hrr,h4⟩:=rG_eq h4;obtain ⟨zs',l3,ks,hnat,hk⟩:=takeM_nat h4;refine ⟨_,_,_,hk, ?_⟩;rw [<-hM.w];refine hC.mono fun e w'=> ?_
   rintro ⟨u,E',he,hw,hG',hr,hrho⟩
   obtain ⟨⟨hCc,hTk⟩,q3⟩:=hback E' hG' hrho;rw [hrr] at hr;cases hr with
   | @mag _ vs hs1 hone hrv=>
    obtain ⟨ys2,l4,ks4,Ec2,e4,⟨g1,g2,g3,g4⟩,hl4,hx4,_,hpres⟩:=takeM_sound (P:=P) hCc hTk hs1 hrv (k:=fun a b c=>some (a,b,c)) (hnat _);injection e4 with e4
    injection e4 with e5 e4
    injection e4 with e6 e7
    subst e5 e6 e7;exact ⟨_,he,Ec2,g2.trans hw,⟨g1,g4.trans hM.D⟩, .mag hl4.symm hone hx4,fun z v hz hks=>hpres z v (q3 z v hz) hks⟩
  ·have hnat:=take1_nat h4;obtain ⟨y,i2,os2,l3,ks,hnat,hk⟩:=hnat;refine ⟨_,_,_,hk, ?_⟩;rw [<-hM.w];refine hC.mono fun e w'=> ?_
   rintro ⟨u,E',he,hw,hG',hr,hrho⟩
   obtain ⟨⟨hCc,hTk⟩,q3⟩:=hback E' hG' hrho;obtain ⟨y2,i3,os3,l4,ks4,Ec2,e4,hT2,hy2,_,_,hpres⟩:=take1_sound (P:=P) hCc hTk hdp hr (k:=fun a b c d e=>some (a,b,c,d,e)) (hnat _);injection e4 with e4
   injection e4 with e5 e4
   injection e4 with e6 e4
   injection e4 with e7 e4
   injection e4 with e8 e9
   subst e5 e6 e7 e8 e9;exact ⟨_,he,Ec2,hT2.w.trans hw,⟨hT2.good,hT2.D.trans hM.D⟩,hy2,fun z v hz hks=>hpres z v (q3 z v hz) hks⟩
theorem callK_sound (hG:Good P A E l pend) {cf:Cfg} (hP:cf.P=P) (hcon: ∀f args objs out,cf.call f args objs=some out ->ConAt P cf.glob f args objs out) (hgl:GlobOk cf.glob E.w E.Pr) {strict:Bool} {hds:List Nat} {xo:List (Option TypeId)} {f:FuncId} {xs:List V} {us:List Value}
  (hl:us.length=xs.length) (hx: ∀(j:Nat) (x:V) (u:Value),xs[j]? =some x ->us[j]? =some u ->RV P E l x u) {ty:TypeId} {dst:Option Nat} (hd: ∀d,dst=some d -> ¬pend d) {k:V ->Loc ->List Nat ->Option R}
  (h:callK cf strict hds xo f xs ty dst l k=some r):
  ∃x l' ks,k x l' ks=some r/\Calls P f us.toArray E.w fun e w'=> ∃u,e= .returned u/\Up P A E l pend x l' ks u w':=by
 unfold callK at h;simp only [hP] at h;obtain ⟨ys,l1,ss,E1,h1,hG1,hM,hyl,⟨rest,hrest⟩,hnd,hy,hst,hpt⟩:=marsh_sound hG hl hx (List.nodup_nil) h;obtain ⟨hob,h2⟩:=need_some h1;rw [Bool.and_eq_true] at hob;have hlg:log0 ys=none:=log0_none hob.2;have hob:=hob.1;have hobs:=allOb_eq hob;rw [Option.bind_eq_some_iff] at h2;obtain ⟨out,hcall,h3⟩:=h2;have hobs': ∀s∈ss,Hb (l1 s):=fun s hs=>hobs s hs;have hnp: ∀s∈ss,¬pend s:=fun s hs=>by
  rcases hpt s hs with h|h
  ·cases h
  ·exact h.npend hG1
 have hGc:=good_callee hG1 hnd hobs' hnp A.pt;have hargs: ∀(j:Nat) (y:V) (u:Value),ys[j]? =some y ->us[j]? =some u ->RV P (E1.callee ss) (locOf (ss.map l1) (log0 ys)) y u:=by
  intro j y u hy' hu';rcases hy j y u hy' hu' with ⟨c,rfl,hc⟩|⟨cs,vs,rfl,rfl,hc⟩|⟨i,off,s,rfl,hs,hr⟩|⟨i,off,n,s,rfl,hs,hr⟩|⟨i,n,s,rfl,hs,hr⟩
  ·exact .c hc
  ·exact .agg hc
  ·have e:=hobs s (List.mem_of_getElem? hs);cases hr with
   |ptrDead hd=>exact absurd hd e.ne
   |ptr hr=>exact .ptr ((callee_rho hs).trans hr)
  ·have e:=hobs s (List.mem_of_getElem? hs);have hloc:locOf (ss.map l1) (log0 ys) (OUT+i)=l1 s:=by rw [locOf_out,List.getElem?_map,hs];rfl
   cases hr with
   |ownDead hd=>exact absurd hd e.ne
   |ownMx hd=>
    rcases e with ⟨q,e⟩|⟨_,_,_,e⟩
    ·exact (noTC_no hd e).elim
    ·rw [e] at hd;cases hd
   |ownNil h1 h2=>exact .ownNil ((callee_rho hs).trans h1) (hloc.trans h2)
   |own h1 h2 h3 h4 h5=>exact .own ((callee_rho hs).trans h1) (by rw [hloc];exact h2) h3 h4 (h5.trans (callee_bs hs).symm)
   |own0 h1 h2 h3=>exact .own0 ((callee_rho hs).trans h1) (by rw [hloc];exact h2) h3
  ·have e:=hobs s (List.mem_of_getElem? hs);cases hr with
   |wsDead hd=>exact absurd hd e.ne
   |ws hr hn=>exact .ws ((callee_rho hs).trans hr) hn
 have hC:=hcon f ys (ss.map l1) out hcall A.pt (E1.callee ss) us (E1.calleeJ ss) hyl.symm rfl (hgl.held hM.held) (by rw [hlg];exact hGc) hargs;cases hlost:lostB cf hds f with
 |true=>
  rw [hlost] at h3;exact lost_sound hP hG1 hM hnp hd hC h3
 |false=>
 rw [hlost] at h3;obtain ⟨l2,ro,h4,hro,hle,hother,hlog,hthese⟩:=backK_eq hnd h3;have strong: ∀E':Env,(∀k,k<(ss.map l1).length -> ∀g,(E1.callee ss).rho (OUT+k)=some g ->out.objs[k]? =some .dead\/(E'.rho (OUT+k)=some g/\E'.bs (OUT+k)=(E1.callee ss).bs (OUT+k)))->
   ∀k,k<ss.length -> ∀g,(E1.callee ss).rho (OUT+k)=some g ->E'.rho (OUT+k)=some g/\E'.bs (OUT+k)=(E1.callee ss).bs (OUT+k):=by
  intro E' hrho k hk g hg;rcases hrho k (by simpa using hk) g hg with h|h
  ·obtain ⟨h1,o,h2,h3⟩:=hthese k ss[k] (List.getElem?_eq_getElem hk);rw [h2] at h;injection h with h
   subst h;have hb:=h1.hb.2.ne;rcases h3 with h3|⟨_,_,_,_,h3,_⟩
   ·exact absurd h3 hb
   ·cases h3
  ·exact h
 have hback: ∀E',Good P (startFr A.pt (E1.callee ss) (E1.calleeJ ss)) E' (locOf out.objs out.log) (fun _=>False)->(∀k,k<(ss.map l1).length -> ∀g,(E1.callee ss).rho (OUT+k)=some g ->out.objs[k]? =some .dead\/(E'.rho (OUT+k)=some g/\E'.bs (OUT+k)=(E1.callee ss).bs (OUT+k)))->
   Good P A (E1.back E' ss) l2 pend/\Held E1.w E1.Pr (E1.back E' ss).w (E1.back E' ss).Pr/\ ∀s,Keeps1 E1 (E1.back E' ss) l1 l2 s:=by
  intro E' hG' hrho;exact good_back hG1 hnd hnp hG' (strong E' hrho) hlog hother hthese
 have hplain: ∀(y:V),PureV y ->(y=out.r\/y= .und)->k y l2 []=some r -> ∃x l' ks,k x l' ks=some r/\Calls P f us.toArray E.w fun e w'=> ∃u,e= .returned u/\Up P A E l pend x l' ks u w':=by
  intro y hpy hyo hk;refine ⟨y,l2,[],hk, ?_⟩;rw [<-hM.w];refine hC.mono fun e w'=> ?_
  rintro ⟨u,E',he,hw,hG',hr,hrho⟩
  obtain ⟨q1,q2,q3⟩:=hback E' hG' hrho;refine ⟨u,he,E1.back E' ss,hw,⟨q1,hM.D⟩, ?_,fun z v hz _=>(hM.rv hz).mono0 q2 q3⟩;rcases hyo with rfl|rfl
  ·exact hpy.rv (E:=E') (E':=E1.back E' ss) (.refl _ _) hr
  ·exact .und
 split at h4
 ·
  rename_i d;have hdp:=hd _ rfl;have hCal: ∀E',Good P (startFr A.pt (E1.callee ss) (E1.calleeJ ss)) E' (locOf out.objs out.log) (fun _=>False)->(∀k,k<(ss.map l1).length -> ∀g,(E1.callee ss).rho (OUT+k)=some g ->out.objs[k]? =some .dead\/(E'.rho (OUT+k)=some g/\E'.bs (OUT+k)=(E1.callee ss).bs (OUT+k)))->
    Cal (P:=P) A (E1.back E' ss) E' ss.length out.objs out.log/\Tk (P:=P) A pend (E1.back E' ss) E' ss.length out.objs (E1.back E' ss) l2 ro 0:=by
   intro E' hG' hrho;obtain ⟨q1,q2,q3⟩:=hback E' hG' hrho;have hfresh: ∀i g,E'.rho (OUT+(ss.length+i))=some g ->E1.w.heap.size<=g\/ ∃a∈ss,∃j,E1.rb a j=some g:=by
    intro i g hg;rcases hG'.base _ g hg with h|h
    ·exact .inl h
    ·rcases h with ⟨s,h⟩|⟨s,j,h⟩
     ·obtain ⟨i',x,rfl,hx',hgx⟩:=callee_some h;have hi:i'<ss.length:=(List.getElem?_eq_some_iff.1 hx').1;have e1:=(strong E' hrho i' hi g h).1;have:=hG'.inj _ _ g e1 hg;omega
     ·obtain ⟨i',x,rfl,hx',hgx⟩:=callee_rbs h;exact .inr ⟨x,List.mem_of_getElem? hx',j,hgx⟩
   refine ⟨⟨fun s=>hG'.obj s (fun h=>h),hG'.inj,fun b k hp s hs=>(hG'.prot b k hp).2 s hs,fun i g hg=> ?_,fun i g hg hy=> ?_,fun i g hg a j e=> ?_⟩,⟨q1,rfl,rfl,rfl,rfl,rfl,by simpa using hro,fun i' _ g hg a ha=> ?_⟩⟩
   ·rcases hfresh i g hg with h|⟨a,_,j,h⟩
    ·exact .inl (Nat.le_trans hG1.size h)
    ·exact (hG1.rbo a j g h).base
   ·rcases hfresh i g hg with h|⟨a,_,j,h⟩
    ·have:=hG1.ylt g hy;omega
    ·exact (hG1.rbo a j g h).y hy
   ·by_cases hm:a∈ss
    ·obtain ⟨i2,hi2,e3⟩:=List.mem_iff_getElem.1 hm;rw [(back_rb_in hnd (by rw [List.getElem?_eq_getElem hi2,e3])).1] at e;exact (hG'.rbo _ _ _ e).rho _ hg
    ·rw [(back_rb_out hm).1] at e;rcases hfresh i g hg with h|⟨a',ha',j',h⟩
     ·have:=(hG1.rbo a j g e).lt;omega
     ·exact hm (((hG1.rbo a j g e).one a' j' h).1▸ha')
   ·have h1:E1.rho a=some g:=ha;rcases hfresh i' g hg with h|⟨a',ha',j',h⟩
    ·have:=hG1.lt h1;omega
    ·exact (hG1.rbo a' j' g h).rho a h1
  unfold takeK at h4;split at h4
  ·rename_i ts hts;unfold rT at h4;split at h4
   ·rename_i xs hr0;have hnat:=takeL_nat h4;obtain ⟨ys',l3,ks,hnat,hk⟩:=hnat;refine ⟨_,_,_,hk, ?_⟩;rw [<-hM.w];refine hC.mono fun e w'=> ?_
    rintro ⟨u,E',he,hw,hG',hr,hrho⟩
    obtain ⟨hCc,hTk⟩:=hCal E' hG' hrho;obtain ⟨q1,q2,q3⟩:=hback E' hG' hrho;rw [hr0] at hr;cases hr with
    | @tup _ us hs hxs=>
     obtain ⟨ys2,l4,ks4,Ec2,e4,⟨g1,g2,g3,g4⟩,hl4,hx4,_,hpres⟩:=takeL_sound (P:=P) hCc hTk hs hxs (k:=fun a b c=>some (a,b,c)) (hnat _);injection e4 with e4
     injection e4 with e5 e4
     injection e4 with e6 e7
     subst e5 e6 e7;exact ⟨_,he,Ec2,g2.trans hw,⟨g1,g4.trans hM.D⟩, .tup hl4.symm hx4,fun z v hz hks=>hpres z v ((hM.rv hz).mono0 q2 q3) hks⟩
   ·cases h4
  ·split at h4
   ·rename_i cts h0;obtain ⟨zs,hrr,h4⟩:=rG_eq h4;obtain ⟨zs',l3,ks,hnat,hk⟩:=takeM_nat h4;refine ⟨_,_,_,hk, ?_⟩;rw [<-hM.w];refine hC.mono fun e w'=> ?_
    rintro ⟨u,E',he,hw,hG',hr,hrho⟩
    obtain ⟨hCc,hTk⟩:=hCal E' hG' hrho;obtain ⟨q1,q2,q3⟩:=hback E' hG' hrho;rw [hrr] at hr;cases hr with
    | @mag _ vs hs1 hone hrv=>
     obtain ⟨ys2,l4,ks4,Ec2,e4,⟨g1,g2,g3,g4⟩,hl4,hx4,_,hpres⟩:=takeM_sound (P:=P) hCc hTk hs1 hrv (k:=fun a b c=>some (a,b,c)) (hnat _);injection e4 with e4
     injection e4 with e5 e4
     injection e4 with e6 e7
     subst e5 e6 e7;exact ⟨_,he,Ec2,g2.trans hw,⟨g1,g4.trans hM.D⟩, .mag hl4.symm hone hx4,fun z v hz hks=>hpres z v ((hM.rv hz).mono0 q2 q3) hks⟩
   ·have hnat:=take1_nat h4;obtain ⟨y,i2,os2,l3,ks,hnat,hk⟩:=hnat;refine ⟨_,_,_,hk, ?_⟩;rw [<-hM.w];refine hC.mono fun e w'=> ?_
    rintro ⟨u,E',he,hw,hG',hr,hrho⟩
    obtain ⟨hCc,hTk⟩:=hCal E' hG' hrho;obtain ⟨q1,q2,q3⟩:=hback E' hG' hrho;obtain ⟨y2,i3,os3,l4,ks4,Ec2,e4,hT2,hy2,_,_,hpres⟩:=take1_sound (P:=P) hCc hTk hdp hr (k:=fun a b c d e=>some (a,b,c,d,e)) (hnat _);injection e4 with e4
    injection e4 with e5 e4
    injection e4 with e6 e4
    injection e4 with e7 e4
    injection e4 with e8 e9
    subst e5 e6 e7 e8 e9;exact ⟨_,he,Ec2,hT2.w.trans hw,⟨hT2.good,hT2.D.trans hM.D⟩,hy2,fun z v hz hks=>hpres z v ((hM.rv hz).mono0 q2 q3) hks⟩
 ·by_cases hfl:ss=[]/\flatR P ty=true
  ·
   obtain ⟨hss,hfl⟩:=hfl;have e:thaw ss (flatR P ty) l l2=l:=by rw [hss,hfl];rfl
   rw [e] at h4;have hthaw: ∀(y:V),FlatV y ->(y=out.r\/y= .und)->k y l []=some r -> ∃x l' ks,k x l' ks=some r/\Calls P f us.toArray E.w fun e w'=> ∃u,e= .returned u/\Up P A E l pend x l' ks u w':=by
    intro y hfy hyo hk;refine ⟨y,l,[],hk, ?_⟩;rw [<-hM.w];refine hC.mono fun e w'=> ?_
    rintro ⟨u,E',he,hw,hG',hr,hrho⟩
    have hx1:Held E.w E.Pr E'.w E.Pr:=fun b k hp=>⟨hp,(hG'.pr0 b k (hM.held b k hp).1).2.1.trans (hM.held b k hp).2.1,(hG'.pr0 b k (hM.held b k hp).1).2.2.trans (hM.held b k hp).2.2⟩;have hold: ∀b,b<E.w.heap.size ->E'.w.heap[b]? =E.w.heap[b]? :=fun b hb=>by
     have h1:=(hG'.jf.2 b ⟨by rw [hM.w];exact hb,by rw [hss];simp,by rw [hss];simp⟩).2;rw [hM.w] at h1;exact h1
    have hsz:E.w.heap.size<=E'.w.heap.size:=by
     have h1:E1.w.heap.size<=E'.w.heap.size:=hG'.size;rw [hM.w] at h1;exact h1
    have ho:E'.w.os=E.w.os:=by have h1:E'.w.os=E1.w.os:=hG'.os;rw [hM.w] at h1;exact h1
    have ht:E'.w.tape=E.w.tape:=by have h1:E'.w.tape=E1.w.tape:=hG'.tape;rw [hM.w] at h1;exact h1
    have hu:E'.w.output=E.w.output:=by have h1:E'.w.output=E1.w.output:=hG'.output;rw [hM.w] at h1;exact h1
    obtain ⟨q1,q2⟩:=good_grow hG hx1 hold hsz ho ht hu (by have h1:E1.w.drawn<=E'.w.drawn:=hG'.dr;rw [hM.w] at h1;exact h1);refine ⟨u,he,{E with w:=E'.w},hw,⟨q1,rfl⟩, ?_,fun z v hz _=>hz.mono0 hx1 q2⟩;rcases hyo with rfl|rfl
    ·exact hfy.rv hr
    ·exact .und
   obtain ⟨y,hfy,hk,hyo⟩:=retK_flat hfl h4;exact hthaw y hfy hyo hk
  ·have e:thaw ss (flatR P ty) l l2=l2:=thaw_eq hfl;rw [e] at h4;obtain ⟨y,hpy,hk,hyo⟩:=retK_eq h4;exact hplain y hpy hyo hk
end
end Go.PM
/- The pure machine: maps. -/
namespace Go.PM
open Go
variable {P:Program}
section
variable {A:Fr} {E:Env} {l:Loc} {pend:Nat ->Prop} {R:Type} {k:V ->Loc ->List Nat ->Option R} {r:R} {o:Oper} {ρ:Operand ->Value}
theorem ceq_eq {a b:C} (h:ceq a b=true) {w:World} {Pr:Nat ->Nat ->Prop} {u v:Value} (hu:RC w Pr a u) (hv:RC w Pr b v):u=v/\ ∀n,Instr.sameBits n u u=true:=by
 unfold ceq at h;split at h
 ·cases hu with|v _=>cases hv with|v _=>
  simp only [Bool.and_eq_true,decide_eq_true_eq] at h;obtain ⟨rfl,rfl⟩:=h;exact ⟨rfl,fun n=>by simp [Instr.sameBits]⟩
 ·cases hu with|v _=>cases hv with|v _=>
  simp only [decide_eq_true_eq] at h;subst h;exact ⟨rfl,fun n=>by simp [Instr.sameBits]⟩
 ·cases hu with|v _=>cases hv with|v _=>
  simp only [decide_eq_true_eq] at h;subst h;exact ⟨rfl,fun n=>by simp [Instr.sameBits,MapKept.bytes_beq]⟩
 ·cases h
theorem ceqs_eq {w:World} {Pr:Nat ->Nat ->Prop}: ∀{a b:List C} {us vs:List Value},ceqs a b=true ->RCs w Pr a us ->RCs w Pr b vs ->us=vs/\ ∀n,∀u∈us,Instr.sameBits n u u=true
 | [],[],us,vs,_,hu,hv=>by
  obtain rfl:us=[]:=List.eq_nil_of_length_eq_zero hu.1;obtain rfl:vs=[]:=List.eq_nil_of_length_eq_zero hv.1;exact ⟨rfl,by simp⟩
 |a::as,b::bs,us,vs,h,hu,hv=>by
  simp only [ceqs,Bool.and_eq_true] at h;obtain ⟨u,us',rfl,h1,h2⟩:=hu.uncons;obtain ⟨v,vs',rfl,h3,h4⟩:=hv.uncons;obtain ⟨rfl,e2⟩:=ceq_eq h.1 h1 h3;obtain ⟨rfl,e4⟩:=ceqs_eq h.2 h2 h4;exact ⟨rfl,fun n x hx=>by rcases List.mem_cons.1 hx with rfl|hx;exact e2 n;exact e4 n x hx⟩
 | [],_::_,_,_,h,_,_=>by cases h
 |_::_,[],_,_,h,_,_=>by cases h
theorem ValOf.vals {w:World} {Pr:Nat ->Nat ->Prop} {t:TypeId} {cs:List C} {u:Value} (h:ValOf P w Pr t cs u): ∃us,RCs w Pr cs us/\IsVal P t us u/\u.cells.toList=us:=by
 rcases h with ⟨h1,h0,us,rfl,h3⟩|⟨h1,c,rfl,h3⟩
 ·exact ⟨us,h3, .inl ⟨h1,rfl⟩,by simp [Value.cells]⟩
 ·exact ⟨[u], .one h3, .inr ⟨h1,[],rfl⟩,by rw [cells_one h3.one]⟩
theorem IsVal.uniq {t:TypeId} {us:List Value} {a b:Value} (h:IsVal P t us a) (h':IsVal P t us b):a=b:=by
 rcases h with ⟨h1,rfl⟩|⟨h1,q,e⟩<;>rcases h' with ⟨h2,rfl⟩|⟨h2,q',e'⟩
 ·rfl
 ·rw [h1] at h2;cases h2
 ·rw [h1] at h2;cases h2
 ·rw [e] at e';injection e'
theorem key_same {w:World} {Pr:Nat ->Nat ->Prop} {t:TypeId} {a b:List C} {u v:Value} (h:ceqs a b=true) (hu:ValOf P w Pr t a u) (hv:ValOf P w Pr t b v):u=v/\Instr.sameBits 10000 u u=true:=by
 obtain ⟨us,h1,h2,h3⟩:=hu.vals;obtain ⟨vs,h4,h5,h6⟩:=hv.vals;obtain ⟨rfl,hs⟩:=ceqs_eq h h1 h4;obtain rfl:=h2.uniq h5;refine ⟨rfl, ?_⟩;rcases h2 with ⟨ha,rfl⟩|⟨ha,q,rfl⟩
 ·show (us.toArray.size==us.toArray.size&&(us.toArray.toList.zip us.toArray.toList).all fun (x,y)=>Instr.sameBits 9999 x y)=true;simp only [beq_self_eq_true,Bool.true_and,List.all_eq_true]
  rintro ⟨x,y⟩ hxy
  have hxy:(x,y)∈us.zip us:=by simpa using hxy
  obtain ⟨j,hj,e⟩:=List.mem_iff_getElem.1 hxy;rw [List.getElem_zip] at e;injection e with e1 e2
  show Instr.sameBits 9999 x y=true;rw [<-e2,<-e1];exact hs 9999 _ (List.getElem_mem _)
 ·exact hs 10000 _ (by simp)
theorem run_checkKey {e:Bool} (w:World): ∀(d:Nat) (t:TypeId) (v:Value),keyOkB P d t=true ->(aggB P t=true -> ∃us:List Value,v= .agg us.toArray/\us.length=szOf P t)-> ∀n,d<=n ->(Instr.checkKey e n t v).run P w= .ok () w
 |0,t,v,h,_,_,_=>by cases h
 |d+1,t,v,h,hv,n,hn=>by
  obtain ⟨n,rfl⟩: ∃m,n=m+1:=⟨n-1,by omega⟩;unfold keyOkB at h;unfold Instr.checkKey;cases hu:P.underlying t with
  |none=>rw [hu] at h;cases h
  |some D=>
   rw [hu] at h;rw [Sem.run_bind,run_underlying hu,Result.andThen_ok];cases D<;>simp only at h<;>try (cases h;done)
   case struct fs=>
    obtain ⟨us,rfl,hl⟩:=hv (by simp [aggB,hu]);simp only;rw [<-Array.forIn_toList];generalize fs.toList=L at h
    induction L with
    |nil=>simp
    |cons f L ih=>
     rw [List.all_cons,Bool.and_eq_true] at h;obtain ⟨hf,h2⟩:=h;simp only [Bool.and_eq_true,Bool.not_eq_true',beq_eq_false_iff_ne] at hf;obtain ⟨⟨f1,f2⟩,f3⟩:=hf;have f3:=Nat.le_of_ble_eq_true f3;have hpart: ∃a,(part f.type us.toArray f.offset).run P w= .ok a w/\(aggB P f.type=true -> ∃vs:List Value,a= .agg vs.toArray/\vs.length=szOf P f.type):=by
      have hD: ∃D,P.underlying f.type=some D:=by
       cases d with
       |zero=>cases f2
       |succ d=>
        unfold keyOkB at f2;cases hD:P.underlying f.type with
        |none=>rw [hD] at f2;cases f2
        |some D=>exact ⟨D,rfl⟩
      obtain ⟨D,hD⟩:=hD;obtain ⟨i,hi⟩:=info_of_underlying hD;have hs:=szOf_info hi;cases ha:aggB P f.type with
      |true=>
       refine ⟨.agg (us.toArray.extract f.offset (f.offset+i.size)),by simp [part,aggB_run f.type w D hD,ha,run_sizeOf hi],fun _=>⟨(us.drop f.offset).take i.size, ?_, ?_⟩⟩
       ·congr 1;apply Array.ext';simp [List.take_drop,Nat.add_comm]
       ·simp;omega
      |false=>
       have hne:szOf P f.type≠0:=by
        intro hz;cases d with
        |zero=>cases f2
        |succ d=>
         unfold keyOkB at f2;rw [hD] at f2;cases D<;>simp only at f2<;>try (cases f2;done)
         all_goals first
          |(have:=Nat.eq_of_beq_eq_true f2;omega)
          |(revert ha;simp [aggB,hD];done)
       have hlt:f.offset<us.length:=by omega
       exact ⟨us[f.offset],by simp [part,aggB_run f.type w D hD,ha,hlt],fun h=>by cases h⟩
     obtain ⟨a,p1,p2⟩:=hpart;have:=ih h2;simp only [List.forIn_cons,Sem.run_bind,f1,ne_eq,not_false_eq_true,if_true,Result.andThen_ok,p1,run_checkKey w d f.type a f2 p2 n (by omega),Sem.run_pure] at this⊢;exact this
   all_goals simp
theorem toList_inj {a b:ByteArray}:a.toList=b.toList↔a=b:=by
 refine ⟨fun h=> ?_,fun h=>by rw [h]⟩;have h1:a.data.toList=b.data.toList:=by simpa [ByteArray.toList_eq] using h
 cases a;cases b
 congr
 exact Array.ext' h1
theorem mfind_sound {w:World} {Pr:Nat ->Nat ->Prop} {kt:TypeId} {kc:List C} {key:Value} (hk:ValOf P w Pr kt kc key): ∀{es:List (List C×List C)} {ms:List MapEntry} {i:Nat} {q:Option (Nat×List C)},mfind P kt kc es i=some q ->ms.length=es.length ->
  (∀(j:Nat) (a b:List C) (m:MapEntry),es[j]? =some (a,b)->ms[j]? =some m ->ValOf P w Pr kt a m.key)->
  ((Instr.findAsking kt key ms i).run P w= .ok (q.map fun p=>(p.1,(ms[p.1-i]?.map (·.val)).getD undef)) w/\
   (∀x,Instr.findNow (match P.underlying kt with|some D=>D|none=> .bool) key ms i=some x ->x=q.map fun p=>(p.1,(ms[p.1-i]?.map (·.val)).getD undef)))/\
  (∀j v,q=some (j,v)->i<=j/\ ∃a m,es[j-i]? =some (a,v)/\ms[j-i]? =some m/\m.key=key/\Instr.sameBits 10000 m.key key=true)
 | [],ms,i,q,h,hl,_=>by
  obtain rfl:ms=[]:=List.eq_nil_of_length_eq_zero (by simpa using hl);injection h with h;subst h
  exact ⟨⟨by simp [Instr.findAsking],fun x hx=>by simp [Instr.findNow] at hx;simp [<-hx]⟩,fun j v h=>by cases h⟩
 |e::es,[],i,q,h,hl,_=>by simp at hl
 |e::es,m::ms,i,q,h,hl,hms=>by
  obtain ⟨a0,b0⟩:=e;have hm:=hms 0 a0 b0 m rfl rfl;obtain ⟨us,k1,k2,_⟩:=hk.vals;obtain ⟨vs,k3,k4,_⟩:=hm.vals;unfold mfind at h;split at h
  case h_2=>cases h
  case h_1 b hb=>
   obtain ⟨⟨D,hD⟩,a,a',ha,ha',heq⟩:=eqT_sound (P:=P) (w0:=w) (Pr:=Pr) w 20 kt kc a0 us vs k1 k3 b hb 10000 (by omega);obtain rfl:=k2.uniq ha;have ek:=k4.uniq ha';subst ek;have heq':(Op.equal kt key m.key).run P w= .ok b w:=heq;have hnow: ∀y,Instr.sameNow D key m.key=some y ->y=b:=by
    intro y hy;have h2:=hb;unfold eqT at h2;rw [hD] at h2;cases D<;>simp only at h2<;>try (cases h2;done)
    case int kd=>
     have hna:aggB P kt=false:=by simp [aggB,hD]
     split at h2
     ·rename_i k x _ k' y' _;obtain ⟨u,us',rfl,r1,_⟩:=k1.uncons;obtain ⟨v,vs',rfl,r2,_⟩:=k3.uncons;cases r1 with|v _=>cases r2 with|v _=>
      have e1:key= .int k x:=by rcases k2 with ⟨h,_⟩|⟨_,q,e⟩;(rw [hna] at h;cases h);injection e with e;exact e.symm
      have e2:m.key= .int k' y':=by rcases k4 with ⟨h,_⟩|⟨_,q,e⟩;(rw [hna] at h;cases h);injection e with e;exact e.symm
      rw [e1,e2] at hy;simp only [Instr.sameNow] at hy;split at h2
      ·rename_i hkk;subst hkk;simp at hy;injection h2 with h2
       rw [<-hy,<-h2]
      ·cases h2
     ·cases h2
    case bool=>
     have hna:aggB P kt=false:=by simp [aggB,hD]
     split at h2
     ·rename_i x _ y' _;obtain ⟨u,us',rfl,r1,_⟩:=k1.uncons;obtain ⟨v,vs',rfl,r2,_⟩:=k3.uncons;cases r1 with|v _=>cases r2 with|v _=>
      have e1:key= .bool x:=by rcases k2 with ⟨h,_⟩|⟨_,q,e⟩;(rw [hna] at h;cases h);injection e with e;exact e.symm
      have e2:m.key= .bool y':=by rcases k4 with ⟨h,_⟩|⟨_,q,e⟩;(rw [hna] at h;cases h);injection e with e;exact e.symm
      rw [e1,e2] at hy;simp only [Instr.sameNow] at hy;injection hy with hy
      injection h2 with h2
      rw [<-hy,<-h2]
     ·cases h2
    case string=>
     have hna:aggB P kt=false:=by simp [aggB,hD]
     split at h2
     ·rename_i x _ y' _;obtain ⟨u,us',rfl,r1,_⟩:=k1.uncons;obtain ⟨v,vs',rfl,r2,_⟩:=k3.uncons;cases r1 with|v _=>cases r2 with|v _=>
      have e1:key= .string x:=by rcases k2 with ⟨h,_⟩|⟨_,q,e⟩;(rw [hna] at h;cases h);injection e with e;exact e.symm
      have e2:m.key= .string y':=by rcases k4 with ⟨h,_⟩|⟨_,q,e⟩;(rw [hna] at h;cases h);injection e with e;exact e.symm
      rw [e1,e2] at hy;simp only [Instr.sameNow] at hy;injection hy with hy
      injection h2 with h2
      rw [<-hy,<-h2];rw [Bool.eq_iff_iff,MapKept.bytes_beq,beq_iff_eq,toList_inj]
     ·cases h2
    case struct fs=>simp [Instr.sameNow] at hy
   cases b with
   |true=>
    obtain ⟨h1,h2⟩:=need_some h;injection h2 with h2;subst h2
    obtain ⟨e1,e2⟩:=key_same h1 hk hm;refine ⟨⟨?_,fun x hx=> ?_⟩,fun j v hj=> ?_⟩
    ·simp [Instr.findAsking,heq']
    ·simp only [hD,Instr.findNow] at hx;split at hx
     ·injection hx with hx;rw [<-hx];simp
     ·rename_i hn;have:=hnow _ hn;cases this
     ·cases hx
    ·injection hj with hj;injection hj with e3 e4;subst e3 e4
     exact ⟨Nat.le_refl _,a0,m,by simp,by simp,e1.symm,by rw [<-e1];exact e2⟩
   |false=>
    simp only [cond_false] at h;obtain ⟨⟨i1,i2⟩,i3⟩:=mfind_sound hk (es:=es) (ms:=ms) h (by simpa using hl) (fun j a b m' ha hm'=>hms (j+1) a b m' (by simpa using ha) (by simpa using hm'));have hget: ∀j v,q=some (j,v)->ms[j-(i+1)]? =(m::ms)[j-i]? :=fun j v hq=>by
     have:=(i3 j v hq).1;rw [show j-i=(j-(i+1))+1 by omega];simp
    have hq:(q.map fun p=>(p.1,(ms[p.1-(i+1)]?.map (·.val)).getD undef))=q.map fun p=>(p.1,((m::ms)[p.1-i]?.map (·.val)).getD undef):=by
     cases q with
     |none=>rfl
     |some p=>obtain ⟨j,v⟩:=p;simp only [Option.map_some];rw [hget j v rfl]
    refine ⟨⟨?_,fun x hx=> ?_⟩,fun j v hj=> ?_⟩
    ·simp only [Instr.findAsking,Sem.run_bind,heq',Result.andThen_ok,Bool.false_eq_true,if_false];rw [i1,hq]
    ·simp only [hD,Instr.findNow] at hx;split at hx
     ·rename_i hn;have:=hnow _ hn;cases this
     ·rw [<-hq];exact i2 x (by rw [hD];exact hx)
     ·cases hx
    ·obtain ⟨j1,a,m',j2,j3,j4,j5⟩:=i3 j v hj;refine ⟨by omega,a,m', ?_, ?_,j4,j5⟩
     ·rw [show j-i=(j-(i+1))+1 by omega];simpa using j2
     ·rw [show j-i=(j-(i+1))+1 by omega];simpa using j3
theorem fitV_val {x:V} {u:Value} (hx:RV P E l x u) {t:TypeId} (hf:fitV P t x=true) {kk:List C ->Option R} (h:cellsV x kk=some r): ∃kc,kk kc=some r/\ValOf P E.w E.Pr t kc u:=by
 unfold cellsV at h;split at h
 ·cases hx with|c hc=>
  exact ⟨_,h, .inr ⟨by simpa [fitV] using hf,_,rfl,hc⟩⟩
 ·cases hx with|agg hc=>
  simp only [fitV,Bool.and_eq_true] at hf;exact ⟨_,h, .inl ⟨hf.1,Nat.eq_of_beq_eq_true hf.2,_,rfl,hc⟩⟩
 ·cases h
theorem ValOf.agg_len {w:World} {Pr:Nat ->Nat ->Prop} {t:TypeId} {cs:List C} {u:Value} (h:ValOf P w Pr t cs u) (ha:aggB P t=true): ∃us:List Value,u= .agg us.toArray/\us.length=szOf P t:=by
 rcases h with ⟨_,h0,us,rfl,h3⟩|⟨h1,_⟩
 ·exact ⟨us,rfl,by rw [h3.len,h0]⟩
 ·rw [ha] at h1;cases h1
theorem ValOf.ld {t:TypeId} {cs:List C} {u:Value} (h:ValOf P E.w E.Pr t cs u) {kk:V ->Option R} (h0:ldC P t cs kk=some r): ∃v,kk v=some r/\RV P E l v u:=by
 obtain ⟨i,hi,⟨ha,hle,hk⟩|⟨ha,c,rest,e,hk⟩⟩:=ldC_eq h0
 ·rcases h with ⟨_,hlen,us,rfl,h3⟩|⟨h1,_⟩
  ·refine ⟨_,hk, ?_⟩;rw [szOf_info hi] at hlen;rw [<-hlen,List.take_length];exact .agg h3
  ·rw [ha] at h1;cases h1
 ·rcases h with ⟨h1,_⟩|⟨_,c',rfl,h3⟩
  ·rw [ha] at h1;cases h1
  ·injection e with e _;subst e
   exact ⟨_,hk, .c h3⟩
theorem run_findKey_of {w:World} {Pr:Nat ->Nat ->Prop} {kt:TypeId} {kc:List C} {key:Value} (hk:ValOf P w Pr kt kc key) {es:List (List C×List C)} {ms:Array MapEntry} {q:Option (Nat×List C)} (hq:mfind P kt kc es 0=some q) (hl:ms.size=es.length)
  (hms: ∀(j:Nat) (a b:List C) (m:MapEntry),es[j]? =some (a,b)->ms[j]? =some m ->ValOf P w Pr kt a m.key) (hD: ∃D,P.underlying kt=some D):
  (Instr.findKey kt key ms.toList).run P w= .ok (q.map fun p=>(p.1,(ms[p.1]?.map (·.val)).getD undef)) w/\(∀j v,q=some (j,v)-> ∃a m,es[j]? =some (a,v)/\ms[j]? =some m/\m.key=key/\Instr.sameBits 10000 m.key key=true):=by
 obtain ⟨⟨h1,h2⟩,h3⟩:=mfind_sound (ms:=ms.toList) hk hq (by rw [Array.length_toList];exact hl) (fun j a b m ha hm=>hms j a b m ha (by simpa using hm));obtain ⟨D,hD⟩:=hD;rw [hD] at h2;simp only [Nat.sub_zero,Array.getElem?_toList] at h1 h2 h3;refine ⟨?_,fun j v hj=> ?_⟩
 ·unfold Instr.findKey;rw [Sem.run_bind,run_underlying hD,Result.andThen_ok];cases hn:Instr.findNow D key ms.toList 0 with
  |some x=>simp only [Sem.run_pure];rw [h2 x hn]
  |none=>exact h1
 ·exact (h3 j v hj).2
theorem keyOk_desc {d:Nat} {t:TypeId} (h:keyOkB P d t=true): ∃D,P.underlying t=some D:=by
 cases d with
 |zero=>cases h
 |succ d=>
  unfold keyOkB at h;cases hD:P.underlying t with
  |none=>rw [hD] at h;cases h
  |some D=>exact ⟨D,rfl⟩
theorem lookup_core (hG:Good P A E l pend) {T kt et:TypeId} {a b:Operand} {ok:Bool} (ho:o.op= .lookup T a b ok) {y:V} {v:Value} {g:Nat} (hy:RV P E l y v) (hu:ρ a= .map (some g)) (hv:ρ b=v) (hT:P.underlying T=some (.map kt et))
  {es:List (List C×List C)} {ms:Array MapEntry} (hg:E.w.heap[g]? =some (.map ms es.length)) (hlen:ms.size=es.length)
  (hms: ∀(j:Nat) (k v:List C) (m:MapEntry),es[j]? =some (k,v)->ms[j]? =some m ->m.born=j/\ValOf P E.w E.Pr kt k m.key/\ValOf P E.w E.Pr et v m.val)
  (e3:fitV P kt y=true) (e4:keyOkB P 20 kt=true) (e6:zeroFit P et=true) (h1:lookupM P l k kt et es y ok=some r):Sound P A E l pend ((execOp ρ o).run P E.w) k r:=by
 unfold lookupM at h1;obtain ⟨kc,h2,hkc⟩:=fitV_val hy e3 h1;obtain ⟨q,hq,h3⟩:=Option.bind_eq_some_iff.1 h2;split at h3
 case h_2=>cases h3
 case h_1 zs hz=>
  have hgo:(getObj g).run P E.w= .ok (.map ms es.length) E.w:=by simp [getObj,Sem.run,hg]
  obtain ⟨i,z,hi,hiz,hzr,hzl,hrc⟩:=zeroCs_run hz E.w;obtain ⟨f1,f2⟩:=run_findKey_of hkc hq hlen (fun j a b m ha hm=>(hms j a b m ha hm).2.1) (keyOk_desc e4);have hck:=run_checkKey (P:=P) (e:=ms.isEmpty) E.w 20 kt v e4 (fun ha=>hkc.agg_len ha) 10000 (by omega);have hzv:ValOf P E.w E.Pr et zs z:=by
   have h1:=hrc E.w E.Pr;unfold zeroFit at e6;rw [hi] at e6;simp only [hiz] at e6;split at e6
   ·rename_i ws e7;injection e7 with e7;subst e7
    exact .inl ⟨e6,by rw [szOf_info hi];exact hzl,ws.toList,by simp,by simpa [Value.cells] using h1⟩
   ·rename_i z' _ e7;injection e7 with e7;subst e7
    simp only [Bool.and_eq_true,Bool.not_eq_true'] at e6;rw [cells_one e6.2] at h1
    match zs,h1 with
    | [c],h1=>exact .inr ⟨e6.1,c,rfl,h1.2 0 c z rfl rfl⟩
    | [],h1=>exact absurd h1.1 (by simp)
    |_::_::_,h1=>exact absurd h1.1 (by simp)
   ·cases e6
  have hval: ∀{w':Value} {cs:List C},ValOf P E.w E.Pr et cs w' ->orZ q zs=cs ->(Instr.lookup T (.map (some g)) v ok).run P E.w= .ok (if ok then .tuple #[w', .bool q.isSome] else w') E.w ->Sound P A E l pend ((execOp ρ o).run P E.w) k r:=by
   intro w' cs hw hcs hrun;have hrun':(execOp ρ o).run P E.w= .ok (.value (if ok then .tuple #[w', .bool q.isSome] else w')) E.w:=by simp [execOp,ho,hu,hv,hrun]
   rw [hrun'];rw [hcs] at h3;cases ok with
   |false=>
    obtain ⟨v1,k1,k2⟩:=hw.ld (l:=l) h3;exact .quiet hG k1 k2
   |true=>
    obtain ⟨v1,k1,k2⟩:=hw.ld (l:=l) h3;refine .quiet hG k1 ?_;refine .tup (us:=[w', .bool q.isSome]) rfl fun j x u hx hu=> ?_
    match j,hx,hu with
    |0,hx,hu=>cases hx;cases hu;exact k2
    |1,hx,hu=>cases hx;cases hu;exact .c (.v rfl)
    |j+2,hx,hu=>simp at hx
  cases q with
  |none=>
   refine hval hzv rfl ?_;simp [Instr.lookup,run_underlying hT,hgo,hck,f1,hzr]
  |some p=>
   obtain ⟨j,vc⟩:=p;obtain ⟨a',m,g1,g2,_,_⟩:=f2 j vc rfl;refine hval (hms j a' vc m g1 g2).2.2 rfl ?_;simp [Instr.lookup,run_underlying hT,hgo,hck,f1,g2]
theorem op_lookup (hG:Good P A E l pend) {T:TypeId} {a b:Operand} {ok:Bool} (ho:o.op= .lookup T a b ok) {x y:V} {u v:Value} (hx:RV P E l x u) (hy:RV P E l y v) (hu:ρ a=u) (hv:ρ b=v)
  (h0:lookupK P l k T x y ok=some r):Sound P A E l pend ((execOp ρ o).run P E.w) k r:=by
 unfold lookupK at h0;split at h0
 case h_3=>cases h0
 case h_1 kt et s hT=>
  split at h0
  case h_2=>cases h0
  case h_1 kt' et' es hl=>
   obtain ⟨hb,h1⟩:=need_some h0;simp only [Bool.and_eq_true] at hb;obtain ⟨⟨⟨⟨e1,e2⟩,e3⟩,e4⟩,e6⟩:=hb;have e1:=Nat.eq_of_beq_eq_true e1;have e2:=Nat.eq_of_beq_eq_true e2;subst e1 e2;cases hx with
   |mpDead hd=>rw [hd] at hl;cases hl
   | @mp _ g hr=>
    obtain ⟨ms,hg,hlen,hms⟩:=mp_of hG hl hr;exact lookup_core hG ho hy hu hv hT hg hlen hms e3 e4 e6 h1
 case h_2 kt et c hT=>
  unfold asMp at h0;split at h0
  case h_2=>cases h0
  rename_i kt' et' ka va es;obtain ⟨hb0,h0⟩:=need_some h0;obtain ⟨hb,h1⟩:=need_some h0;simp only [Bool.and_eq_true] at hb hb0;obtain ⟨⟨e3,e4⟩,e6⟩:=hb;obtain ⟨⟨⟨e1,e2⟩,e7⟩,e8⟩:=hb0;have e1:=Nat.eq_of_beq_eq_true e1;have e2:=Nat.eq_of_beq_eq_true e2;subst e1 e2;have same: ∀{p q:Option Nat},sameO p q=true ->p=q:=by
   intro p q h;cases p<;>cases q<;>simp [sameO] at h⊢;exact h
  obtain rfl:=same e7;obtain rfl:=same e8;cases hx with|c hc=>
  cases hc with
  | @mp _ _ _ _ _ g ms kus vus hg hp hs hk h2 h3=>
   refine lookup_core hG ho hy hu hv hT ((mapAt_map).1 hg) hs (fun j a b m ha hm=> ?_) e3 e4 e6 h1;obtain ⟨q1,q2,q3,q4,q5⟩:=hk j (a,b) m ha hm;exact ⟨q1, .of_cells q2 ⟨q4,fun i c u hc hu=>h2 j (a,b) i c u ha hc hu⟩, .of_cells q3 ⟨q5,fun i c u hc hu=>h3 j (a,b) i c u ha hc hu⟩⟩
theorem good_obj (hG:Good P A E l pend) {s g:Nat} (hr:E.rho s=some g) {w':World} (hsame: ∀b,b≠g ->w'.heap[b]? =E.w.heap[b]?) (hs:w'.heap.size=E.w.heap.size) (hos:w'.os=E.w.os) (htp:w'.tape=E.w.tape) (hou:w'.output=E.w.output)
  (hfz:(l s).fz=0) {ob:Obj} (hof:ob.fz=0) (hob:Held E.w E.Pr w' E.Pr ->(∀s',Keeps1 E {E with w:=w'} l (l.put s ob) s')->ObjOk P {E with w:=w'} (l.put s ob) s ob) (hsh:Sh l (l.put s ob) s) (hdr:E.w.drawn<=w'.drawn:=by exact Nat.le_refl _) (hgn:gen ob=none/\isOb ob=false:=by exact ⟨rfl,rfl⟩):
  Good P A {E with w:=w'} (l.put s ob) pend/\Held E.w E.Pr w' E.Pr/\ ∀s',Keeps1 E {E with w:=w'} l (l.put s ob) s':=by
 have hpg: ∀b k,E.Pr b k ->b≠g:=fun b k hp e=>by
  subst e;have:=(hG.prot b k hp).2 s hr;omega
 have hx:Held E.w E.Pr w' E.Pr:=fun b k hp=>⟨hp,World.cell?_of_block (w:=E.w) (hsame b (hpg b k hp)),mapAt_block (hsame b (hpg b k hp))⟩;have hk: ∀s',Keeps1 E {E with w:=w'} l (l.put s ob) s':=by
  intro s';by_cases hne:s'=s
  ·subst hne;exact .inr ⟨hG.ne_dead hr,rfl,rfl,hsh, .no (put_same _ _ _) hgn.1 hgn.2⟩
  ·by_cases hd:l s'= .dead
   ·exact .inl ((put_other l ob hne).trans hd)
   ·exact .inr ⟨hd,rfl,rfl, .same (put_other l ob hne), .same (put_other l ob hne)⟩
 have hps: ¬pend s:=fun hp=>by rw [(hG.pnd s hp).1] at hr;cases hr
 refine ⟨⟨fun s' hp=> ?_,fun s' hp=> ?_,hG.inj,hG.base,fun b k hp=>⟨?_,fun a ha=> ?_⟩,hG.jstep rfl rfl hx (fun _ _ h=> .inl h) (fun b hb=>hsame b (fun e=>hG.yown s g hr (e▸hb))) (Nat.le_of_eq hs.symm) hos htp hou hdr,hG.pr0.trans hx,hG.prN, ?_,hos.trans hG.os,htp.trans hG.tape,hou.trans hG.output,Nat.le_trans hG.dr hdr,hG.yok,hG.yown,fun b hb=>by have:=hG.ylt b hb;simp only [hs];exact this,fun r hr'=>⟨(hsame r (fun e=>hG.dmno hr' s (e▸hr))).trans (hG.dm r hr').1,(hG.dm r hr').2⟩,rbo_step hG.rbo (fun _ _ _ e=>e) (fun _ _ e=> .inl e) (fun _ _ e=> .inl e) (fun _ e=> .inl e) fun b _ hb _=>hsame b fun e=>hb s (e▸hr)⟩,hx,hk⟩
 ·by_cases hne:s'=s
  ·subst hne;rw [put_same];exact hob hx hk
  ·rw [put_other l ob hne];refine (hG.obj s' hp).keep hx rfl rfl (fun g' hg'=> ?_) (fun _ _ _ hu=>hu.mono0 hx hk) fun j=>⟨rfl,fun g' hg'=> ?_⟩
   ·exact hsame g' (fun e=>hne (hG.inj s' s g (e▸hg') hr))
   ·exact hsame g' (fun e=>(hG.rbo _ _ _ hg').rho s (e▸hr))
 ·obtain ⟨h1,cs',hz,ho'⟩:=hG.pnd s' hp;exact ⟨h1,cs',hz,(put_other l ob (fun (e:s'=s)=>hps (e▸hp))).trans ho'⟩
 ·have:=(hG.prot b k hp).1;simp only [hs];exact this
 ·by_cases hne:a=s
  ·subst hne;rw [put_same,hof];have:=(hG.prot b k hp).2 a ha;omega
  ·rw [put_other l ob hne];exact (hG.prot b k hp).2 a ha
 ·simp only [hs];exact hG.size
theorem op_mapUpdate (hG:Good P A E l pend) {T:TypeId} {a b c:Operand} (ho:o.op= .mapUpdate T a b c) {x y z:V} {u v t:Value} (hx:RV P E l x u) (hy:RV P E l y v) (hz:RV P E l z t) (hu:ρ a=u) (hv:ρ b=v) (ht:ρ c=t)
  (h0:mapUpdateK P l k T x y z=some r):Sound P A E l pend ((execOp ρ o).run P E.w) k r:=by
 unfold mapUpdateK at h0;split at h0
 case h_2=>cases h0
 case h_1 kt et s hT=>
  split at h0
  case h_2=>cases h0
  case h_1 kt' et' es hl=>
   obtain ⟨hb,h1⟩:=need_some h0;simp only [Bool.and_eq_true] at hb;obtain ⟨⟨⟨⟨e1,e2⟩,e3⟩,e4⟩,e5⟩:=hb;have e1:=Nat.eq_of_beq_eq_true e1;have e2:=Nat.eq_of_beq_eq_true e2;subst e1 e2;obtain ⟨kc,h2,hkc⟩:=fitV_val hy e3 h1;obtain ⟨vc,h2,hvc⟩:=fitV_val hz e5 h2;obtain ⟨q,hq,hk⟩:=Option.bind_eq_some_iff.1 h2;cases hx with
   |mpDead hd=>rw [hd] at hl;cases hl
   | @mp _ g hr=>
    obtain ⟨ms,hg,hlen,hms⟩:=mp_of hG hl hr;have hgl:g<E.w.heap.size:=(Array.getElem?_eq_some_iff.1 hg).1;have hgo:(getObj g).run P E.w= .ok (.map ms es.length) E.w:=by simp [getObj,Sem.run,hg]
    have hso: ∀ob,(setObj g ob).run P E.w= .ok () {E.w with heap:=E.w.heap.setIfInBounds g ob}:=fun ob=>by simp [setObj,Sem.run,hg]
    obtain ⟨f1,f2⟩:=run_findKey_of hkc hq hlen (fun j a b m ha hm=>(hms j a b m ha hm).2.1) (keyOk_desc e4);have hck:=run_checkKey (P:=P) (e:=false) E.w 20 kt' v e4 (fun ha=>hkc.agg_len ha) 10000 (by omega);have fin: ∀(ms':Array MapEntry) (es':List (List C×List C)),ms'.size=es'.length ->(∀(j:Nat) (k v:List C) (m:MapEntry),es'[j]? =some (k,v)->ms'[j]? =some m ->m.born=j/\ValOf P E.w E.Pr kt' k m.key/\ValOf P E.w E.Pr et' v m.val)->
      (Instr.mapUpdate T (.map (some g)) v t).run P E.w= .ok () {E.w with heap:=E.w.heap.setIfInBounds g (.map ms' es'.length)}->k .und (l.put s (.mp kt' et' es')) []=some r ->Sound P A E l pend ((execOp ρ o).run P E.w) k r:=by
     intro ms' es' hl' hms' hrun hk;have hrun':(execOp ρ o).run P E.w= .ok .skip {E.w with heap:=E.w.heap.setIfInBounds g (.map ms' es'.length)}:=by simp [execOp,ho,hu,hv,ht,hrun]
     rw [hrun'];obtain ⟨q1,q2,q3⟩:=good_obj hG (s:=s) hr (w':={E.w with heap:=E.w.heap.setIfInBounds g (.map ms' es'.length)}) (ob:= .mp kt' et' es') (fun b hb=>by simp [Array.getElem?_setIfInBounds_ne (Ne.symm hb)]) (by simp) rfl rfl rfl (by rw [hl];rfl) rfl
      (fun hx' _=> .mp hr (by simp [hgl]) hl' fun j k v m he hm=>⟨(hms' j k v m he hm).1,(hms' j k v m he hm).2.1.held hx',(hms' j k v m he hm).2.2.held hx'⟩)
      ⟨(fun _ _ e=>by rw [hl] at e;cases e),(fun _ _ _ e=>by rw [hl] at e;cases e),(fun e=>by rw [hl] at e;cases e)⟩
     exact ⟨_,_,_,hk,_,rfl,⟨q1,rfl⟩, .und,fun z v' hz' _=>hz'.mono0 q2 q3⟩
    cases q with
    |none=>
     refine fin (ms.push {key:=v,val:=t,born:=es.length}) (mput es none kc vc) (by simp [mput,hlen]) (fun j k' v' m he hm=> ?_) ?_ hk
     ·simp only [mput] at he;rw [List.getElem?_append] at he;rw [Array.getElem?_push] at hm;by_cases hj:j<es.length
      ·rw [if_pos hj] at he;rw [if_neg (by omega)] at hm;exact hms j k' v' m he hm
      ·rw [if_neg hj] at he;have hj0:j-es.length=0:=by
        have:=(List.getElem?_eq_some_iff.1 he).1;simp at this;omega
       rw [hj0] at he;rw [if_pos (by omega)] at hm;simp at he;obtain ⟨rfl,rfl⟩:=he;injection hm with hm;subst hm
       exact ⟨by show es.length=j;omega,hkc,hvc⟩
     ·simp [Instr.mapUpdate,run_underlying hT,hgo,hck,f1,hso,mput]
    |some p=>
     obtain ⟨j,v0⟩:=p;obtain ⟨a',m0,g1,g2,g3,g4⟩:=f2 j v0 rfl;have hjl:j<es.length:=(List.getElem?_eq_some_iff.1 g1).1;refine fin (ms.modify j fun e=>{e with key:=v,val:=t}) (mput es (some (j,v0)) kc vc) (by simp [mput,hlen]) (fun j' k' v' m he hm=> ?_) ?_ hk
     ·simp only [mput] at he;rw [List.getElem?_set] at he;rw [Array.getElem?_modify] at hm;by_cases hj:j=j'
      ·subst hj;rw [if_pos rfl,if_pos hjl] at he;rw [if_pos rfl,g2] at hm;injection he with he;injection he with he1 he2
       subst he1 he2;simp only [Option.map_some,Option.some.injEq] at hm;subst hm;exact ⟨(hms j a' v0 m0 g1 g2).1,hkc,hvc⟩
      ·rw [if_neg hj] at he;rw [if_neg hj] at hm;exact hms j' k' v' m he hm
     ·have hkts:(Instr.keyThatStays m0.key v).run P E.w= .ok v E.w:=by simp [Instr.keyThatStays,g4]
      simp [Instr.mapUpdate,run_underlying hT,hgo,hck,f1,g2,hkts,hso,mput]
def Env.newM (E:Env) (s:Nat) (mo:Go.Obj) (n:Nat:=0):Env:=
 {E with w:=E.w.alloc mo,rho:=fun s'=>if s'=s then some E.w.heap.size else E.rho s',bs:=fun s'=>if s'=s then n else E.bs s',rb:=fun s' j=>if s'=s then none else E.rb s' j}
theorem Keeps1.newM {E:Env} {l:Loc} {mo:Go.Obj} {n:Nat} (s:Nat) (o:Obj) {s':Nat} (hne:s'≠s):Keeps1 E (E.newM s mo n) l (l.put s o) s':=by
 by_cases hd:l s'= .dead
 ·exact .inl ((put_other l o hne).trans hd)
 ·exact .inr ⟨hd,by simp [Env.newM,hne],by simp [Env.newM,hne], .same (put_other l o hne), .same (put_other l o hne) (by funext j;simp [Env.newM,hne])⟩
theorem Good.newM (h:Good P A E l pend) {s:Nat} {mo:Go.Obj} {n:Nat} (hd:l s= .dead) (hps: ¬pend s) {ob:Obj} (hob:(E.newM s mo n).rho s=some E.w.heap.size ->(E.newM s mo n).w.heap[E.w.heap.size]? =some mo ->ObjOk P (E.newM s mo n) (l.put s ob) s ob) (href: ∀s',∀x∈(l s').refs,x.at s=false):Good P A (E.newM s mo n) (l.put s ob) pend:=by
 have hx:Held E.w E.Pr (E.newM s mo n).w (E.newM s mo n).Pr:=held_alloc _ _ _ fun b k hp=>(h.prot b k hp).1;have hrn:(E.newM s mo n).rho s=some E.w.heap.size:=by simp [Env.newM]
 have hro: ∀s',s'≠s ->(E.newM s mo n).rho s'=E.rho s':=fun s' hne=>by simp [Env.newM,hne]
 refine ⟨fun s' hp=> ?_,fun s' hp=> ?_,fun a b g ha hb=> ?_,fun a g ha=> ?_,fun b k hp=>⟨?_,fun a ha=> ?_⟩,h.jstep rfl rfl hx (fun _ _ h=> .inl h) (fun b hb=>Go.RowKit.Below.heap_alloc _ _ _ (h.ylt b hb)) ?_ rfl rfl rfl,h.pr0.trans hx,h.prN, ?_,h.os,h.tape,h.output,h.dr,h.yok,fun a g ha hy=> ?_,fun b hb=> ?_,fun r hr=>⟨(Go.RowKit.Below.heap_alloc _ _ _ (Array.getElem?_eq_some_iff.1 (h.dm r hr).1).1).trans (h.dm r hr).1,(h.dm r hr).2⟩,rbo_step h.rbo (fun s' j g e=>by
  simp only [Env.newM] at e;split at e
  ·cases e
  ·exact e) (fun a g ha=>by
  by_cases e:a=s
  ·subst e;rw [hrn] at ha;cases ha;exact .inr (Nat.le_refl _)
  ·rw [hro a e] at ha;exact .inl ha) (fun _ _ e=> .inl e) (fun _ e=> .inl e) fun b hb _ _=>Go.RowKit.Below.heap_alloc _ _ _ hb⟩
 ·by_cases hne:s'=s
  ·subst hne;rw [put_same];exact hob hrn (heap_alloc_new _ _)
  ·rw [put_other l _ hne];exact (h.obj s' hp).keep hx (hro s' hne) (by simp [Env.newM,hne]) (fun g hg=>Go.RowKit.Below.heap_alloc _ _ _ (h.lt hg)) (fun x u hm hu=>
    hu.mono (fun a=>a=s) hx (fun a ha=>Keeps1.newM s _ ha) (fun a ha=>by subst ha;exact href s' x hm)) fun j=>⟨by simp [Env.newM,hne],fun g hg=>Go.RowKit.Below.heap_alloc _ _ _ (h.rbo _ _ _ hg).lt⟩
 ·have hne:s'≠s:=fun e=>hps (e▸hp);obtain ⟨h1,cs',hz,ho'⟩:=h.pnd s' hp;exact ⟨(hro s' hne).trans h1,cs',hz,(put_other l _ hne).trans ho'⟩
 ·by_cases ea:a=s<;>by_cases eb:b=s
  ·rw [ea,eb]
  ·subst ea;rw [hrn] at ha;rw [hro b eb] at hb;have:=h.lt hb;cases ha;omega
  ·subst eb;rw [hrn] at hb;rw [hro a ea] at ha;have:=h.lt ha;cases hb;omega
  ·rw [hro a ea] at ha;rw [hro b eb] at hb;exact h.inj a b g ha hb
 ·by_cases ea:a=s
  ·subst ea;rw [hrn] at ha;cases ha;exact .inl h.size
  ·rw [hro a ea] at ha;exact h.base a g ha
 ·have:=(h.prot b k hp).1;simp [Env.newM];omega
 ·by_cases ea:a=s
  ·subst ea;rw [hrn] at ha;have:=(h.prot b k hp).1;cases ha;omega
  ·rw [hro a ea] at ha;rw [put_other l _ ea];exact (h.prot b k hp).2 a ha
 ·simp [Env.newM]
 ·have:=h.size;simp [Env.newM];omega
 ·by_cases ea:a=s
  ·subst ea;rw [hrn] at ha;cases ha;have:=h.ylt _ hy;omega
  ·rw [hro a ea] at ha;exact h.yown a g ha hy
 ·have:=h.ylt b hb;simp [Env.newM];omega
theorem op_makeMap (hG:Good P A E l pend) {t:TypeId} {d:Nat} {rs:Option Operand} {own:Bool} (ho:o.op= .makeMap t rs) (hd: ¬pend d) {e:Operand ->V} (h0:makeMapK P l k own t d (rs.map e)=some r):Sound P A E l pend ((execOp ρ o).run P E.w) k r:=by
 have fin: ∀(ob:Obj),rs.map e=none ->(((E.kill l d).newM d (.map #[] 0)).rho d=some E.w.heap.size ->((E.kill l d).newM d (.map #[] 0)).w.heap[E.w.heap.size]? =some (.map #[] 0)->ObjOk P ((E.kill l d).newM d (.map #[] 0)) ((l.kill d).put d ob) d ob)->k (.mp d) ((l.kill d).put d ob) [d]=some r ->Sound P A E l pend ((execOp ρ o).run P E.w) k r:=by
  intro ob hrs hob hk;have hrs:rs=none:=by simpa using hrs
  subst hrs;have hrun:(execOp ρ o).run P E.w= .ok (.value (.map (some E.w.heap.size))) (E.w.alloc (.map #[] 0)):=by
   simp [execOp,ho,Instr.makeMap]
  rw [hrun];have hG1:=hG.kill hd;have hG2:=hG1.newM (s:=d) (kill_at d l) hd (ob:=ob) hob (kill_ref d l);refine ⟨_,_,_,hk,_,rfl,⟨hG2,rfl⟩, .mp (by simp [Env.newM,Env.kill]),fun y v hy hks=> ?_⟩;have hy1:RV P (E.kill l d) (Loc.kill d l) y v:=hy.mono0 (E':=E.kill l d) (Held.refl E.w E.Pr) fun s=>Keeps1.kill E l d s;exact hy1.mono (fun s=>s=d) (held_alloc _ _ _ fun b k hp=>(hG.prot b k hp).1) (fun s hs=>Keeps1.newM d _ hs) (fun s hs=>by subst hs;exact hks s (by simp))
 unfold makeMapK at h0;split at h0
 ·rename_i kt et hT hrs;obtain ⟨_,hk⟩:=need_some h0;exact fin (.mp kt et []) hrs (fun h1 h2=> .mp (ms:= #[]) h1 h2 rfl (fun j k v m he _=>by simp at he)) hk
 ·rename_i kt et hT hrs;split at h0
  ·rename_i te hte;obtain ⟨hz,hk⟩:=need_some h0;simp only [Bool.and_eq_true,Bool.not_eq_true'] at hz;exact fin (.mr kt et te []) hrs (fun h1 h2=> .mr (ms:= #[]) h1 h2 rfl hte (fun e=>by have:=hz.2;rw [e] at this;cases this) (fun j k v m he _=>by simp at he)) hk
  ·cases h0
 ·cases h0
theorem nilZ_zero {el:TypeId} (hn:nilZ P el=true) (w:World): ∃z:Value,∃i:TypeInfo,P.info? el=some i/\i.zero=some z/\z.cells= #[.slice none 0 0]/\(zeroValue el).run P w= .ok z w:=by
 unfold nilZ at hn;rw [Bool.and_eq_true,Bool.and_eq_true] at hn;obtain ⟨_,hn⟩:=hn;split at hn
 ·rename_i c hz;obtain ⟨i,z,hi,hiz,hrun,hlen,hrc⟩:=zeroCs_run hz w;have h1:=hrc w (fun _ _=>True);cases c with
  |nl=>
   obtain ⟨u,us,e,hu,hnil⟩:=h1.uncons;have hus:us=[]:=List.eq_nil_of_length_eq_zero (by have:=hnil.1;simpa using this);subst hus;cases hu with
   |nl=>exact ⟨z,i,hi,hiz,by apply Array.ext';simpa using e,hrun⟩
  |_=>cases hn
 ·cases hn
theorem op_makeRows (hG:Good P A E l pend) {t:TypeId} {d:Nat} {a b:Operand} (ho:o.op= .makeSlice t a b) (hd: ¬pend d) {x y:V} {u v:Value} (hx:RV P E l x u) (hy:RV P E l y v) (hu:ρ a=u) (hv:ρ b=v)
  (h0:makeRowsK P l k t d x y=some r):Sound P A E l pend ((execOp ρ o).run P E.w) k r:=by
 unfold makeRowsK at h0;split at h0
 case h_2=>cases h0
 case h_1 el n c hT hn hc=>
  obtain ⟨kd,rfl⟩:=idxI_eq hn hx;obtain ⟨kd',rfl⟩:=idxI_eq hc hy;split at h0
  case h_2=>cases h0
  case h_1 te i hte hi=>
   obtain ⟨hb,hk⟩:=need_some h0;simp only [Bool.and_eq_true,decide_eq_true_iff,Bool.not_eq_true'] at hb;obtain ⟨⟨⟨⟨⟨⟨hnz,hb1⟩,hb2⟩,hb3⟩,hb4⟩,hb5⟩,hb6⟩:=hb;have hs1:i.size=1:=Nat.eq_of_beq_eq_true hb5;have hte0:szOf P te≠0:=fun e=>by rw [e] at hb6;cases hb6
   subst hb2;obtain ⟨z,i',hi',hiz,hzc,hrun⟩:=nilZ_zero hnz E.w;rw [hi] at hi';injection hi' with hi';subst hi'
   have w1:=wrap_small hb1 hb4;have hnot: ¬((decide (n<0)||decide ((i.bytes:Int)*n>2^48))||decide (n<0)||decide (n>n))=true:=by
    simp only [Bool.or_eq_true,decide_eq_true_iff,not_or];refine ⟨⟨⟨by omega, ?_⟩,by omega⟩,by omega⟩;have:(2:Int)^48=281474976710656:=by decide
    rw [this];omega
   let cur:Array Value:=(Array.range (n.toNat*i.size)).map (z.cells[· %z.cells.size]!)
   have hrun2:(execOp ρ o).run P E.w= .ok (.value (.slice (some ⟨E.w.heap.size,0,none⟩) n.toNat n.toNat)) (E.w.alloc (.cells cur el)):=by
    simp only [execOp,ho,hu,hv,Instr.makeSlice,Sem.run_bind,run_underlying hT,Result.andThen_ok,asInt,asIntOf,Sem.run_pure,typeInfo,run_program,hi,w1];rw [if_neg hnot];simp only [Sem.run_bind,run_askRoom,Result.andThen_ok,run_sizeOf hi];by_cases h:n.toNat*i.size=0
    ·rw [if_pos h];have hb0:(Array.range (n.toNat*i.size)).map ((#[]:Array Value)[· %(#[]:Array Value).size]!)=cur:=by simp [h,cur]
     simp only [Sem.run_bind,Sem.run_pure,Result.andThen_ok];rw [hb0];simp [newRow]
    ·rw [if_neg h];simp only [Sem.run_bind,Sem.run_pure,Result.andThen_ok,hrun];simp [newRow,cur]
   have hsz:cur.size=n.toNat:=by simp [cur,hs1]
   have hcell: ∀(j:Nat) (w:Value),cur[j]? =some w ->w= .slice none 0 0:=by
    intro j w hj;simp only [cur,hzc,Array.getElem?_map] at hj;obtain ⟨q,_,rfl⟩:=Option.map_eq_some_iff.1 hj;have:q%1=0:=Nat.mod_one q;simp [this]
   rw [hrun2];have hG1:=hG.kill hd;have hG2:=hG1.newM (s:=d) (mo:= .cells cur el) (n:=cur.size) (kill_at d l) hd (ob:= .pk 0 el (.rs te (List.replicate n.toNat [])) none) (fun h1 h2=> .pk h1 h2 (by simp [Rws.len,hsz]) (by simp [Env.newM]) (fun j p w hp hw=>by
    obtain ⟨row,hrow,rfl⟩:=Option.map_eq_some_iff.1 (show ((List.replicate n.toNat ([]:List C))[j]?).map (PC.r te)=some p from hp);have hr0:row=[]:=by
     rw [List.getElem?_replicate] at hrow;split at hrow
     ·injection hrow with hrow;exact hrow.symm
     ·cases hrow
    subst hr0;have hw0:=hcell j w hw;subst hw0;exact ⟨rfl,fun _=>⟨hte0, .inl ⟨by simp [Env.newM],rfl,rfl⟩,fun _ _ _ e=>by cases e⟩⟩) fun _ _ _ e=>by cases e) (kill_ref d l)
   refine ⟨_,_,_,hk,_,rfl,⟨hG2,rfl⟩, .ws (by simp [Env.newM,Env.kill]) (by unfold maxLen;omega),fun y v hy hks=> ?_⟩;have hy1:RV P (E.kill l d) (Loc.kill d l) y v:=hy.mono0 (E':=E.kill l d) (Held.refl E.w E.Pr) fun s=>Keeps1.kill E l d s;exact hy1.mono (fun s=>s=d) (held_alloc _ _ _ fun b k hp=>(hG.prot b k hp).1) (fun s hs=>Keeps1.newM d _ hs) (fun s hs=>by subst hs;exact hks s (by simp))
theorem op_makeSliceD (hG:Good P A E l pend) {mix:Bool} {t:TypeId} {d:Nat} {a b:Operand} (ho:o.op= .makeSlice t a b) (hd: ¬pend d) {x y:V} {u v:Value} (hx:RV P E l x u) (hy:RV P E l y v) (hu:ρ a=u) (hv:ρ b=v)
  (h0:makeSliceD P l k mix t d x y=some r):Sound P A E l pend ((execOp ρ o).run P E.w) k r:=by
 cases mix with
 |true=>exact op_makeRows hG ho hd hx hy hu hv h0
 |false=>exact op_makeSlice hG ho hd hx hy hu hv h0
end
end Go.PM
/- The pure machine: maps whose values are slices in blocks of their own. -/
namespace Go.PM
open Go
variable {P:Program}
section
variable {A:Fr} {E:Env} {l:Loc} {pend:Nat ->Prop} {R:Type} {k:V ->Loc ->List Nat ->Option R} {r:R} {o:Oper} {ρ:Operand ->Value}
end
end Go.PM
/- The pure machine: one operation, whatever it is. -/
namespace Go.PM
open Go
variable {P:Program}
section
variable {A:Fr} {E:Env} {l:Loc} {pend:Nat ->Prop} {R:Type} {k:V ->Loc ->List Nat ->Option R} {r:R} {o:Oper} {ρ:Operand ->Value} {cf:Cfg} {strict:Bool} {e:Operand ->V}
def pendAfter (pend:Nat ->Prop) (o:Oper):Nat ->Prop:=fun s=>pend s/\ ¬(isAlloc o=true/\o.dst=some s)
theorem pendAfter_eq {pend:Nat ->Prop} {o:Oper} (h:isAlloc o=false):pendAfter pend o=pend:=by
 funext s;simp [pendAfter,h]
theorem args_rel {xs:List Operand} (hop: ∀y∈xs,RV P E l (e y) (ρ y)): ∀(j:Nat) (x:V) (u:Value),(xs.map e)[j]? =some x ->(xs.map ρ)[j]? =some u ->RV P E l x u:=rel_map hop
theorem noref_rv (hG:Good P A E l pend) {d:Nat} (hr:E.rho d=none) {cs:List C} {t:TypeId} {fz:Nat} (hd:l d= .ob t fz cs) {x:V} {u:Value} (h4:RV P E l x u) (h5:(∀ys,x≠ .tup ys)/\ ∀ys,x≠ .mag ys):x.at d=false:=by
 cases hx:x.at d with
 |false=>rfl
 |true=>
  have own: ∀{s off n:Nat} {u:Value},RV P E l (.own s off n) u ->(V.own s off n).at d=true ->False:=by
   intro s off n u h hx;have e:=Nat.eq_of_beq_eq_true hx;subst e;cases h with
   |ownDead hd'=>rw [hd] at hd';cases hd'
   |ownNil _ hl'=>rw [hd] at hl';cases hl'
   |own hr' _ _ _ _=>rw [hr] at hr';cases hr'
   |own0 hr' _ _=>rw [hr] at hr';cases hr'
   |ownMx hl'=>rw [hd] at hl';cases hl'
  cases x with
  |own s off n=>exact (own h4 hx).elim
  |ent s n j=>cases h4 with|ent h=>exact (own h hx).elim
  |tup ys=>exact absurd rfl (h5.1 ys)
  |mag ys=>exact absurd rfl (h5.2 ys)
  |ptr s off=>
   have e:=Nat.eq_of_beq_eq_true hx;subst e;cases h4 with
   |ptrDead hd'=>rw [hd] at hd';cases hd'
   |ptr hr'=>rw [hr] at hr';cases hr'
  |mp s=>
   have e:=Nat.eq_of_beq_eq_true hx;subst e;cases h4 with
   |mpDead hd'=>rw [hd] at hd';cases hd'
   |mp hr'=>rw [hr] at hr';cases hr'
  |ws s n=>
   have e:=Nat.eq_of_beq_eq_true hx;subst e;cases h4 with
   |wsDead hd'=>rw [hd] at hd';cases hd'
   |ws hr' _=>rw [hr] at hr';cases hr'
  |rw s g j n=>
   have e:=Nat.eq_of_beq_eq_true hx;subst e;cases h4 with
   |rwOff h=>have:=h.1;rw [hd] at this;cases this
   |rw h _=>rw [hd] at h;cases h
  |rp s g j n=>
   have e:=Nat.eq_of_beq_eq_true hx;subst e;cases h4 with
   |rpOff h=>have:=h.1;rw [hd] at this;cases this
   |rp h _=>rw [hd] at h;cases h
  |gh s=>
   have e:=Nat.eq_of_beq_eq_true hx;subst e;cases h4 with
   |ghDead hd'=>rw [hd] at hd';cases hd'
   |gh hr' _=>rw [hr] at hr';cases hr'
  |_=>cases hx
theorem noref_pend (hG:Good P A E l pend) {d:Nat} (hp:pend d): ∀s',∀x∈(l s').refs,x.at d=false:=by
 intro s' x hxm;obtain ⟨hr,cs,_,hd⟩:=hG.pnd d hp;have hps: ¬pend s':=fun h=>by
  obtain ⟨_,_,_,h2⟩:=hG.pnd s' h;rw [h2] at hxm;simp [Obj.refs] at hxm
 have h0:=hG.obj s' hps;generalize hl:l s'=ob at h0 hxm;cases h0 with
 | @mx _ xs g cur h1 h2 h3 h4 h6=>
  obtain ⟨j,hj,rfl⟩:=List.mem_iff_getElem.1 hxm;have hj:j<xs.length:=hj;obtain ⟨h4,h5⟩:=h4 j xs[j] cur[j] (List.getElem?_eq_getElem hj) (by simp);refine noref_rv hG hr hd h4 ⟨fun ys e=> ?_,fun ys e=> ?_⟩
  ·have e:xs[j]= .tup ys:=e;generalize xs[j]=x at h4 e;subst e;generalize cur[j]=u at h4 h5;cases h4;cases h5
  ·have e:xs[j]= .mag ys:=e;generalize xs[j]=x at h4 e;subst e;generalize cur[j]=u at h4 h5;cases h4;cases h5
 | @mf _ _ _ es q kc x0 g ms h1 h2 h3 h4 h5 h6 h7 h8=>
  simp [Obj.refs] at hxm;subst hxm;obtain ⟨k',row,he⟩: ∃k' row,(mput es q kc [])[entAt q es]? =some (k',row):=⟨_,_,List.getElem?_eq_getElem h6⟩;obtain ⟨m,hm⟩: ∃m,ms[entAt q es]? =some m:=⟨_,Array.getElem?_eq_getElem (by rw [h3];exact h6)⟩;obtain ⟨h9,h10⟩:=(h8 _ _ _ m he hm).2.2.2 rfl;refine noref_rv hG hr hd h9 ⟨fun ys e=> ?_,fun ys e=> ?_⟩
  ·subst e;generalize m.val=u at h9 h10;cases h9;cases h10
  ·subst e;generalize m.val=u at h9 h10;cases h9;cases h10
 | @ir n x0 g bm h1 h2 h3=>
  simp [Obj.refs] at hxm;subst hxm;refine noref_rv hG hr hd h3 ⟨fun ys e=> ?_,fun ys e=> ?_⟩
  ·subst e;generalize hv:Value.map (some bm)=u at h3;cases h3;cases hv
  ·subst e;generalize hv:Value.map (some bm)=u at h3;cases h3;cases hv
 |_=>simp [Obj.refs] at hxm
theorem call_run {c : Call} {f : FuncId} {fn : Func} (ho : o.op = .call c) {g : Operand} (hc : c.callee = .value g) {caps : List Value} (hg : ρ g = .func (.func f) #[] caps.toArray) (hf : P.funcs[f]? = some fn) (hb : fn.body ≠ none) (hn : (fn.name == "runtime.NumGoroutine") = false) :
  (execOp ρ o).run P E.w= .ok (.enter f (c.args.toList.map ρ++caps).toArray) E.w:=by
 have hb':fn.body.isNone=false:=by cases h:fn.body<;>simp_all
 have e1:(#[]:Array Value)++c.args.map ρ++caps.toArray=(c.args.toList.map ρ++caps).toArray:=by
  apply Array.ext';simp
 simp only [execOp,ho,resolve,hc,hg,Deferred.ofValue,Sem.run_bind,Sem.run_pure,Result.andThen_ok,invoke,callFunc,run_program,hf,hn,hb',Bool.false_eq_true,if_false];rw [e1]
theorem args_rel2 {xs:List Operand} {e:Operand ->V} (h: ∀y∈xs,RV P E l (e y) (ρ y)): ∀(j:Nat) (x:V) (u:Value),(xs.map e)[j]? =some x ->(xs.map ρ)[j]? =some u ->RV P E l x u:=by
 intro j x u hx hu;rw [List.getElem?_map] at hx hu;cases hj:xs[j]? with
 |none=>rw [hj] at hx;cases hx
 |some y=>
  rw [hj] at hx hu;injection hx with hx;injection hu with hu
  subst hx hu;exact h y (List.mem_of_getElem? hj)
theorem rowBack_eq {te:TypeId} {row:List C} {fb:Bool} {os:List Obj} {kk:List C ->Option R} (h:rowBack te row fb os kk=some r): ∃fz cs,os=[.sb te fz cs]/\cs.length=row.length/\fz=(bif fb then cs.length else 0)/\kk cs=some r:=by
 unfold rowBack at h;obtain ⟨o,os',e0,h2⟩:=uncO_eq h;clear h;subst e0;split at h2
 ·rename_i te' fz cs;obtain ⟨hb,h3⟩:=need_some h2;simp only [Bool.and_eq_true] at hb;have e1:=Nat.eq_of_beq_eq_true hb.1.1;subst e1;exact ⟨fz,cs,rfl,Nat.eq_of_beq_eq_true hb.1.2,Nat.eq_of_beq_eq_true hb.2,h3⟩
 ·cases h2
def Env.rowC (E:Env) (s j n:Nat):Env:=
 {w:=E.w,Pr:=E.Pr,rho:=fun a=>if a=OUT then E.rb s j else none,bs:=fun a=>if a=OUT then n else 0,Y:=fun b=>b<E.w.heap.size/\E.rb s j≠some b,D:=[]}
theorem rowCallK_sound (hG:Good P A E l pend) {cf:Cfg} (hP:cf.P=P) (hcon: ∀f args objs out,cf.call f args objs=some out ->ConAt P cf.glob f args objs out) (hgl:GlobOk cf.glob E.w E.Pr) {f:FuncId} {s g j n:Nat} {rest:List V} {u:Value} {us:List Value}
  (hl:us.length=rest.length) (hx:RV P E l (.rw s g j n) u) (hr: ∀(j:Nat) (x:V) (u:Value),rest[j]? =some x ->us[j]? =some u ->RV P E l x u) {ty:TypeId}
  (h:rowCallK cf f s g j n rest ty l k=some r):
  ∃x l' ks,k x l' ks=some r/\(∃out,cf.call f (.own OUT 0 n::rest) (match l s with| .pk _ _ q _=>(match q.at j with|some (.r te row)=>[.sb te 0 row]|_=>[])|_=>[])=some out)/\Calls P f (u::us).toArray E.w fun e w'=> ∃u,e= .returned u/\Up P A E l pend x l' ks u w':=by
 unfold rowCallK at h;simp only [hP] at h;split at h
 case h_2=>cases h
 case h_1 g' t q hls=>
 obtain ⟨hb0,h⟩:=need_some h;rw [Bool.and_eq_true] at hb0;obtain ⟨hg,hpl⟩:=hb0;obtain ⟨p,hp,h⟩:=Rws.look_eq h;cases p with
 |c _=>cases h
 |r te row=>
 obtain ⟨hb1,h⟩:=need_some h;simp only [Bool.and_eq_true,Bool.not_eq_true'] at hb1;have hn:=Nat.eq_of_beq_eq_true hb1.1;have hz:szOf P te≠0:=fun e=>by rw [e] at hb1;cases hb1.2
 rw [Option.bind_eq_some_iff] at h;obtain ⟨out,hcall,h⟩:=h;obtain ⟨fz,cs,hobjs,hcl,hfz,h⟩:=rowBack_eq h;obtain ⟨gb,cur,hrho,hps,hc,hlen,hbs,hcs,_⟩:=pk_of hG hls;have hv:=rw_on hx hls hg;have e1:=Nat.eq_of_beq_eq_true hg;subst e1;have hjc:j<cur.size:=Nat.lt_of_lt_of_le (Rws.at_lt hp) hlen;obtain ⟨_,hpc⟩:=hcs j (.r te row) cur[j] hp (Array.getElem?_eq_getElem hjc);obtain ⟨_,hrow⟩:=hpc (fun e he=>by cases he);have hu:=hv.eq hrow hz hn;have hcurj:cur[j]? =some u:=by rw [Array.getElem?_eq_getElem hjc,<-hu]
 rw [<-hu] at hrow;have hdiv:row.length/szOf P te=n:=by rw [<-hn];exact Nat.mul_div_cancel _ (Nat.pos_of_ne_zero hz)
 let Ec:=E.rowC s j (E.rc s j*szOf P te)
 let J:=frJ E.w Ec.Y
 have hOr:Ec.rho OUT=E.rb s j:=by simp [Ec,Env.rowC]
 have hOb:Ec.bs OUT=E.rc s j*szOf P te:=by simp [Ec,Env.rowC]
 have hrs: ∀a g2,Ec.rho a=some g2 ->a=OUT/\E.rb s j=some g2:=by
  intro a g2 e;simp only [Ec,Env.rowC] at e;split at e
  ·rename_i ea;exact ⟨ea,e⟩
  ·cases e
 have hlo:locOf [.sb te 0 row] none OUT= .sb te 0 row:=locOf_out [.sb te 0 row] none 0;have hlo2: ∀a,a≠OUT ->locOf [.sb te 0 row] none a= .dead:=fun a ha=>by
  cases hd:locOf [.sb te 0 row] none a with
  |dead=>rfl
  |_=>
   obtain ⟨k0,rfl,hk0,_⟩:=locOf_ge (objs:=[.sb te 0 row]) (lg:=none) (s:=a) (by rw [hd];simp);simp at hk0;subst hk0;exact absurd rfl ha
 have hGc:Good P (startFr A.pt Ec J) Ec (locOf [.sb te 0 row] none) (fun _=>False):=by
  refine ⟨fun a _=> ?_,fun a h=>h.elim,fun a b g2 ha hb=>(hrs a g2 ha).1.trans (hrs b g2 hb).1.symm,fun a g2 ha=> .inr (.inl ⟨a,ha⟩),fun b k0 hp=>⟨(hG.prot b k0 hp).1,fun a ha=>absurd hp ((hG.rbo s j b (hrs a b ha).2).pr k0)⟩,⟨rfl,fun _ h=>⟨h,rfl⟩⟩, .refl _ _,fun b k0 hp=> .inl hp,Nat.le_refl _,rfl,rfl,rfl,Nat.le_refl _,frJ_yok _ _,fun a g2 ha hy=>hy.2 (hrs a g2 ha).2,fun b hb=>hb.1,(fun r0 hr0=>by cases hr0),fun a i g2 e=>by cases e⟩;by_cases ha:a=OUT
  ·subst ha;rw [hlo];rcases hrow.1 with ⟨q1,q2,_⟩|⟨g2,cap,cr,q1,q2,q3,q4,q5,_,_,_,q9⟩
   ·subst q2;exact .sbNil (hOr.trans q1)
   ·have:=hrow.2 _ _ _ q5;subst this;exact .sb (hOr.trans q1) ⟨cr,q2,by rw [hOb];exact q9.symm,q3,q4⟩ (Nat.zero_le _)
  ·rw [hlo2 a ha];refine .dead ?_;simp [Ec,Env.rowC,ha]
 have hargs: ∀(i:Nat) (x:V) (v:Value),(V.own OUT 0 n::rest)[i]? =some x ->(u::us)[i]? =some v ->RV P Ec (locOf [.sb te 0 row] none) x v:=by
  intro i x v hx' hv';cases i with
  |zero=>
   simp at hx' hv';subst hx' hv';rcases hrow.1 with ⟨q1,q2,q3⟩|⟨g2,cap,cr,q1,q2,q3,q4,q5,q6,q7,q8,q9⟩
   ·subst q2 q3;have hn0:n=0:=by rw [<-hdiv];simp
    subst hn0;exact .ownNil (hOr.trans q1) hlo
   ·have hcap:=hrow.2 _ _ _ q5;rw [hdiv] at q5 q7;rw [q5];exact .own (hOr.trans q1) (by rw [hlo];rfl) q7 q8 (by rw [hOb,<-hcap];simp)
  |succ i=>
   have h1:=hr i x v (by simpa using hx') (by simpa using hv');have h2:=List.all_eq_true.1 hpl x (List.mem_of_getElem? (by simpa using hx'));cases x with
   |c c=>cases h1 with|c h1=>exact .c h1
   |agg cs=>cases h1 with|agg h1=>exact .agg h1
   |_=>cases h2
 have hC:=hcon f _ _ out hcall A.pt Ec (u::us) J (by simp [hl]) rfl hgl hGc hargs;have fin: ∀(y:V) (l':Loc),PureV y ->(y=out.r\/y= .und)->k y l' []=some r ->(∀E':Env,Good P (startFr A.pt Ec J) E' (locOf out.objs out.log) (fun _=>False)->(∀g2,E.rb s j=some g2 ->E'.rho OUT=some g2/\E'.bs OUT=E.rc s j*szOf P te)->
   ∃E2:Env,E2.w=E'.w/\E2.D=E.D/\Good P A E2 l' pend/\Held E.w E.Pr E2.w E2.Pr/\Held E'.w E'.Pr E2.w E2.Pr/\ ∀a,Keeps1 E E2 l l' a)->
   ∃x l' ks,k x l' ks=some r/\(∃out,cf.call f (.own OUT 0 n::rest) [.sb te 0 row]=some out)/\Calls P f (u::us).toArray E.w fun e w'=> ∃u,e= .returned u/\Up P A E l pend x l' ks u w':=by
  intro y l' hpy hyo hk hall;refine ⟨y,l',[],hk,⟨out,hcall⟩,hC.mono fun e w'=> ?_⟩
  rintro ⟨u2,E',he,hw,hG',hr2,hrho2⟩
  obtain ⟨E2,p1,p2,p3,p4,p5,p6⟩:=hall E' hG' (fun g2 hg2=>by
   rcases hrho2 0 (by simp) g2 (hOr.trans hg2) with this|this
   ·rw [hobjs] at this;cases this
   ·exact ⟨this.1,this.2.trans hOb⟩)
  refine ⟨u2,he,E2,p1.trans hw,⟨p3,p2⟩, ?_,fun z v hz _=>hz.mono0 p4 p6⟩;rcases hyo with rfl|rfl
  ·exact hpy.rv p5 hr2
  ·exact .und
 have hobjs':(match l s with| .pk _ _ q _=>(match q.at j with|some (.r te row)=>[.sb te 0 row]|_=>[])|_=>([]:List Obj))=[.sb te 0 row]:=by rw [hls];simp only [hp]
 rw [hobjs'];have hafter: ∀E':Env,Good P (startFr A.pt Ec J) E' (locOf out.objs out.log) (fun _=>False)->(∀g2,E.rb s j=some g2 ->E'.rho OUT=some g2/\E'.bs OUT=E.rc s j*szOf P te)->
   (∀b',b'<E.w.heap.size ->E.rb s j≠some b' ->E'.w.heap[b']? =E.w.heap[b']?)/\(∀b' k0,E'.Pr b' k0 ->b'<E'.w.heap.size/\(E.Pr b' k0\/E.w.heap.size<=b'\/E.rb s j=some b'))/\
   (∀g2,E.rb s j=some g2 -> ∃cr:Array Value,E'.w.heap[g2]? =some (.cells cr te (0,0))/\cr.size=E.rc s j*szOf P te/\cs.length<=cr.size/\RCs E'.w E'.Pr cs (cr.toList.take cs.length)/\ ∀k0,E'.Pr g2 k0 ->k0<fz):=by
  intro E' hG' hrho2;refine ⟨fun b' hb' hne=>(hG'.jf.2 b' ⟨hb',hne⟩).2,fun b' k0 hp0=>⟨(hG'.prot b' k0 hp0).1, ?_⟩,fun g2 hg2=> ?_⟩
  ·rcases hG'.prN b' k0 hp0 with h|h|h
   ·exact .inl h
   ·exact .inr (.inl h)
   ·rcases h with ⟨a,ha⟩|⟨a,i,ha⟩
    ·exact .inr (.inr (hrs a b' ha).2)
    ·cases ha
  ·obtain ⟨e2,e3⟩:=hrho2 g2 hg2;have h0:=hG'.obj OUT (fun h=>h);have hl0:locOf out.objs out.log OUT= .sb te fz cs:=by rw [hobjs];exact locOf_out _ _ 0
   rw [hl0] at h0;cases h0 with
   |sbNil h9=>rw [h9] at e2;cases e2
   |sb h1 h2 h3=>
    rw [e2] at h1;injection h1 with h1;subst h1
    obtain ⟨cr,c1,c2,c3,c4⟩:=h2;refine ⟨cr,c1,c2.trans e3,c3,c4,fun k0 hp0=> ?_⟩;have:=(hG'.prot g2 k0 hp0).2 OUT e2;rw [hl0] at this;exact this
 cases hfb:cf.fzb f with
 |false=>
  rw [hfb] at h hfz;obtain ⟨y,hpy,hk,hyo⟩:=retK_eq h;refine fin y _ hpy hyo hk fun E' hG' hrho2=> ?_;obtain ⟨a1,a2,a3⟩:=hafter E' hG' hrho2;obtain ⟨q1,q2,q3⟩:=good_row (P:=P) (A:=A) (c:=E.rc s j) (b:=E.rb s j) (ob:= .pk g t (q.put j te cs) none) (Pr':=E'.Pr) (w':=E'.w) (j:=j) hG hrho (by rw [hls];rfl) rfl (by rw [hls];rfl) (by rw [hls];rfl) a1 hG'.size hG'.os hG'.tape hG'.output hG'.dr (fun b' k0 hp0=>(hG'.pr0 b' k0 hp0).1) a2
   (fun g2 hg2=>by
    obtain ⟨cr,c1,_,_,_,c5⟩:=a3 g2 hg2;refine ⟨⟨_,_,c1⟩, .inl hg2,fun k0 hp0=> ?_⟩;have h5:=c5 k0 hp0;rw [show fz=0 from hfz] at h5;omega)
   (.inr (.inl ⟨by rw [put_same,hls];rfl,by rw [put_same,hls];rfl,by funext i;by_cases e:i=j<;>simp [Env.row,e],by funext i;by_cases e:i=j<;>simp [Env.row,e]⟩))
   (fun hx' hgb hkp=> .pk hrho (hgb.trans hc) (by rw [Rws.len_put];exact hlen) hbs (fun i p w hp' hw=>by
    rw [Rws.at_put hp] at hp';by_cases e:i=j
    ·subst e;rw [if_pos rfl] at hp';injection hp' with hp';subst hp'
     rw [hcurj] at hw;injection hw with hw;subst hw
     refine ⟨hrow.1.one,fun _=>⟨hz, ?_,fun a m cap e2=>by simp only [Env.row];rw [if_pos ⟨trivial,trivial⟩];exact hrow.2 a m cap e2⟩⟩;have hrbi:(E.row E'.w E'.Pr s i (E.rb s i) (E.rc s i)).rb s i=E.rb s i:=by simp [Env.row]
     rcases hrow.1 with ⟨b1,b2,b3⟩|⟨g2,cap,cr0,b1,b2,b3,b4,b5,b6,b7,b8,b9⟩
     ·exact .inl ⟨hrbi.trans b1,List.eq_nil_of_length_eq_zero (by rw [hcl,b2];rfl),b3⟩
     ·obtain ⟨cr,c1,c2,c3,c4,_⟩:=a3 g2 b1;have hcap:=hrow.2 _ _ _ b5;exact .inr ⟨g2,cap,cr,hrbi.trans b1,c1,c3,c4,by rw [hcl];exact b5,by rw [hcl];exact b6,by rw [hcl];exact b7,b8,by rw [c2,hcap]⟩
    ·rw [if_neg e] at hp';exact ⟨(hcs i p w hp' hw).1,fun _=>((hcs i p w hp' hw).2 fun e he=>by cases he).keep hx' (hkp i e) (by simp [Env.row,e])⟩) fun _ _ _ e=>by cases e)
  exact ⟨E.row E'.w E'.Pr s j (E.rb s j) (E.rc s j),rfl,rfl,q1,q2, .refl _ _,q3⟩
 |true=>
  rw [hfb] at h hfz;cases q with
  |rs _ _=>cases h
  |ps ps=>
  obtain ⟨y,hpy,hk,hyo⟩:=retK_eq (show retK P ty out.r (fun v=>k v (l.put s (.pk (Nat.succ g) t (.ps (ps.set j (.c (.sl n cs)))) none)) [])=some r from h);have hjl:j<ps.length:=Rws.at_lt hp;refine fin y _ hpy hyo hk fun E' hG' hrho2=> ?_;obtain ⟨a1,a2,a3⟩:=hafter E' hG' hrho2;have hsub2:Held E'.w E'.Pr E'.w (fun b' k0=>E'.Pr b' k0\/(E.rb s j=some b'/\k0<row.length)):=fun b' k0 hp0=>⟨.inl hp0,rfl,rfl⟩;obtain ⟨q1,q2,q3⟩:=good_row (P:=P) (A:=A) (c:=E.rc s j) (b:=none) (ob:= .pk (Nat.succ g) t (.ps (ps.set j (.c (.sl n cs)))) none) (Pr':=fun b' k0=>E'.Pr b' k0\/(E.rb s j=some b'/\k0<row.length)) (w':=E'.w) (j:=j) hG hrho (by rw [hls];rfl) rfl (by rw [hls];rfl) (by rw [hls];rfl) a1 hG'.size hG'.os hG'.tape hG'.output hG'.dr (fun b' k0 hp0=> .inl (hG'.pr0 b' k0 hp0).1)
   (fun b' k0 hp0=>by
    rcases hp0 with hp0|⟨hp0,_⟩
    ·exact a2 b' k0 hp0
    ·exact ⟨Nat.lt_of_lt_of_le (hG.rbo s j b' hp0).lt hG'.size, .inr (.inr hp0)⟩)
   (fun g2 hg2=>by cases hg2)
   (.inr (.inr (.inr ⟨g,Nat.succ g,false,false,by rw [hls];rfl,by rw [put_same];rfl,Nat.lt_succ_self _⟩)))
   (fun hx' hgb hkp=> .pk hrho (hgb.trans hc) (by simpa [Rws.len] using hlen) hbs (fun i p w hp' hw=>by
    have hp':(ps.set j (.c (.sl n cs)))[i]? =some p:=hp';by_cases e:i=j
    ·subst e;rw [List.getElem?_set_self hjl] at hp';injection hp' with hp';subst hp'
     rw [hcurj] at hw;injection hw with hw;subst hw
     refine ⟨hrow.1.one,fun _=> ?_⟩;show RC _ _ (.sl n cs) u;rcases hrow.1 with ⟨b1,b2,b3⟩|⟨g2,cap,cr0,b1,b2,b3,b4,b5,b6,b7,b8,b9⟩
     ·have hcs0:cs=[]:=List.eq_nil_of_length_eq_zero (by rw [hcl,b2];rfl);have hn0:n=0:=by rw [<-hdiv,b2];simp
      rw [hcs0,hn0,b3];exact .sl0 (Nat.zero_le _)
     ·obtain ⟨cr,c1,c2,c3,c4,_⟩:=a3 g2 b1;rw [hdiv] at b5 b7;rw [b5];have hlt: ∀i,i<cs.length ->i<cr.size:=fun i hi=>by omega
      refine .sl (us:=fun i=>cr.getD i undef) b7 b8 (fun i c hi=> ?_) fun i c hi=> ?_
      ·have hl2:=(List.getElem?_eq_some_iff.1 hi).1;refine ⟨?_, .inr ⟨by rw [b1],by rw [Nat.zero_add];omega⟩⟩;show E'.w.cell? _=_;rw [Nat.zero_add,cell_of_row _ g2 i cr te (0,0) c1];simp [Array.getD_eq_getD_getElem?,hlt i hl2]
      ·have hl2:=(List.getElem?_eq_some_iff.1 hi).1;have:=c4.2 i c cr[i] hi (by rw [List.getElem?_take,if_pos hl2];simp [hlt i hl2]);simp only [Array.getD_eq_getD_getElem?,Array.getElem?_eq_getElem (hlt i hl2),Option.getD_some];exact this.held hsub2
    ·rw [List.getElem?_set_ne (Ne.symm e)] at hp';exact ⟨(hcs i p w hp' hw).1,fun _=>((hcs i p w hp' hw).2 fun e he=>by cases he).keep hx' (hkp i e) (by simp [Env.row,e])⟩) fun _ _ _ e=>by cases e)
  exact ⟨E.row E'.w (fun b' k0=>E'.Pr b' k0\/(E.rb s j=some b'/\k0<row.length)) s j none (E.rc s j),rfl,rfl,q1,q2,hsub2,q3⟩
theorem good_yield (hG:Good P A E l pend) {lg:Log} (_:l.log=some lg) {rest:List (List V)} {e:Ending} {w':World} (hy:YPost A.jt E.Y E.Pr lg rest E.w e w'):
  ∃E',E'.w=w'/\(Good P A E' ⟨l.fn,some ⟨lg.l,lg.go,Nat.succ lg.i,rest, !(lg.go lg.i)⟩⟩ pend/\E'.D=E.D)/\ ∀y v,RV P E l y v ->RV P E' ⟨l.fn,some ⟨lg.l,lg.go,Nat.succ lg.i,rest, !(lg.go lg.i)⟩⟩ y v:=by
 obtain ⟨_,Y',y1,y2,y3,hx,hj,hsame,hsz,hos,htp,hout,hdr⟩:=hy
 let E':Env:={E with w:=w',Y:=Y'}
 let l':Loc:=⟨l.fn,some ⟨lg.l,lg.go,Nat.succ lg.i,rest, !(lg.go lg.i)⟩⟩
 have hx':Held E.w E.Pr E'.w E'.Pr:=hx;have hk: ∀s,Keeps1 E E' l l' s:=fun s=>by
  by_cases hd:l s= .dead
  ·exact .inl hd
  ·exact .inr ⟨hd,rfl,rfl, .same rfl, .same rfl⟩
 refine ⟨E',rfl,⟨⟨fun s hp=> ?_,hG.pnd,hG.inj,hG.base,fun b k hp=>⟨Nat.lt_of_lt_of_le (hG.prot b k hp).1 hsz,(hG.prot b k hp).2⟩,hj,hG.pr0.trans hx',hG.prN,Nat.le_trans hG.size hsz,hos.trans hG.os,htp.trans hG.tape,hout.trans hG.output,Nat.le_trans hG.dr hdr,hG.yok,fun s g hs hy=> ?_,y3,fun r hr=>⟨?_,fun hy=> ?_⟩,rbo_step hG.rbo (fun _ _ _ e=>e) (fun _ _ e=> .inl e) (fun _ _ e=> .inl e) y2 fun b hb _ hy=>hsame b hb hy⟩,rfl⟩,fun y v h=>h.mono0 hx' hk⟩
 ·exact (hG.obj s hp).keep hx' rfl rfl (fun g hg=>hsame g (hG.lt hg) (hG.yown s g hg)) (fun _ _ _ h=>h.mono0 hx' hk) fun j=>⟨rfl,fun g hg=>hsame g (hG.rbo _ _ _ hg).lt (hG.rbo _ _ _ hg).y⟩
 ·rcases y2 g hy with h|h
  ·exact hG.yown s g hs h
  ·have:=hG.lt (s:=s) hs;omega
 ·exact (hsame r (Array.getElem?_eq_some_iff.1 (hG.dm r hr).1).1 (hG.dm r hr).2).trans (hG.dm r hr).1
 ·rcases y2 r hy with h|h
  ·exact (hG.dm r hr).2 h
  ·have:=(Array.getElem?_eq_some_iff.1 (hG.dm r hr).1).1;omega
theorem op_yield (hG:Good P A E l pend) {cf:Cfg} (hP:cf.P=P) {strict:Bool} {c:Call} (ho:o.op= .call c) {g:Operand} (hc:c.callee= .value g) {n:Nat} (hg:ρ g= .func (.yield n) #[] #[]) {e:Operand ->V}
  (hargs: ∀y∈c.args.toList,RV P E l (e y) (ρ y)) (h:yieldK cf.P strict n (c.args.toList.map e) l k=some r):Sound P A E l pend ((execOp ρ o).run P E.w) k r:=by
 unfold yieldK at h;split at h
 ·cases h
 rw [hP] at h;obtain ⟨ys,l1,ss,E1,h1,hG1,hM,hyl,_,_,hy,_,_⟩:=marsh_sound hG (us:=c.args.toList.map ρ) (by simp) (args_rel2 hargs) List.nodup_nil h;cases ss with
 |cons s ss=>cases h1
 |nil=>
  cases hlog:l1.log with
  |none=>rw [hlog] at h1;cases h1
  |some lg=>
   rw [hlog] at h1
   dsimp only at h1
   obtain ⟨hb,h2⟩:=need_some h1;simp only [Bool.and_eq_true,Bool.not_eq_true'] at hb;have hln:lg.l=n:=Nat.eq_of_beq_eq_true hb.1;have hJ:A.jt.J E1.Y E1.Pr (some lg) E1.w:=by rw [<-hlog];exact hG1.jf
   cases hrest:lg.rest with
   |nil=>rw [hrest] at h2;cases h2
   |cons it rest=>
   rw [hrest] at h2
   dsimp only at h2
   obtain ⟨hit,h2⟩:=need_some h2;have hit:ys=it:=by simpa [eqV] using hit
   obtain ⟨fn,tmps,assign,body,hrun,hR⟩:=hG1.yok E1.Y E1.Pr lg E1.w it rest (c.args.toList.map ρ) hJ hb.2 hrest (by rw [<-hyl,hit]) (fun i x u hx hu=>by
    rw [<-hit] at hx;rcases hy i x u hx hu with ⟨c,rfl,hc⟩|⟨cs,vs,rfl,rfl,hc⟩|⟨i,off,s,_,hs,_⟩|⟨i,off,n,s,_,hs,_⟩|⟨i,n,s,_,hs,_⟩
    ·exact .c hc
    ·exact .agg hc
    ·simp at hs
    ·simp at hs
    ·simp at hs) (fun b k hp=>(hG1.prot b k hp).1) hG1.ylt
   rw [hM.w,hln] at hrun;have e1:(#[]:Array Value)++c.args.map ρ=(c.args.toList.map ρ).toArray:=by apply Array.ext';simp
   have hrun':(execOp ρ o).run P E.w= .ok (.round n fn tmps assign body) E.w:=by
    simp only [execOp,ho,resolve,hc,hg,Deferred.ofValue,Sem.run_bind,Sem.run_pure,Result.andThen_ok,invoke];rw [e1];exact hrun
   rw [hrun'];refine ⟨_,_,_,h2, ?_⟩;show RoundIn Fence.wide 0 P n fn tmps assign body E.w _;rw [hM.w,hln] at hR;refine hR.mono fun e w' he=> ?_;obtain ⟨E',e1,q1,q2⟩:=good_yield hG1 hlog (by rw [hM.w];exact he);exact ⟨_,he.1,E',e1,⟨q1.1,q1.2.trans hM.D⟩, .c (.v rfl),fun y v hy _=>q2 y v (hM.rv hy)⟩
def EntV (P:Program) (E:Env) (l:Loc) (vv:V) (vu:Value):Prop:=match vv with| .ent s n te=> ∀fz cs,l s= .sb te fz cs ->RV P E l (.own s 0 n) vu|v=>RV P E l v vu
theorem opK_sound (hG:Good P A E l pend) (hP:cf.P=P) (hcon: ∀f args objs out,cf.call f args objs=some out ->ConAt P cf.glob f args objs out) (hgl:GlobOk cf.glob E.w E.Pr)
  (hfn : ∀ f args objs out, cf.call f args objs = some out -> ∃ fn, P.funcs[f]? = some fn /\ fn.body ≠ none /\ (fn.name == "runtime.NumGoroutine") = false)
  (hop: ∀y∈o.op.operands,RV P E l (e y) (ρ y)) (hfv: ∀f,ρ (.func f)= .func (.func f) #[] #[])
  (hal: ∀t d,o.op= .alloc t ->o.dst=some d ->pend d/\A.pt d=t) (hnd:isAlloc o=false -> ∀d,o.dst=some d -> ¬pend d)
  (hent: ∀t kv vv,cf.ent=some (t,kv,vv)-> ∃ku vu,(Instr.entry (ρ (.tmp t))).run P E.w= .ok (.tuple #[ku,vu]) E.w/\RV P E l kv ku/\EntV P E l vv vu) (h:opK cf strict o e l k=some r):
  Sound P A E l (pendAfter pend o) ((execOp ρ o).run P E.w) k r:=by
 unfold opK at h;split at h
 case h_1 x ho=>rw [pendAfter_eq (by simp [isAlloc,ho])];exact op_move hG (.inl ho) (hop x (by simp [ho,Op.operands])) h
 case h_2 x ho=>rw [pendAfter_eq (by simp [isAlloc,ho])];exact op_move hG (.inr ho) (hop x (by simp [ho,Op.operands])) h
 case h_3 c a b ho=>
  rw [pendAfter_eq (by simp [isAlloc,ho])];unfold pickK at h;split at h
  ·rename_i q hq;exact op_pick hG ho (hop c (by simp [ho,Op.operands])) (hop a (by simp [ho,Op.operands])) (hop b (by simp [ho,Op.operands])) hq h
  ·cases h
 case h_4 t ho=>
  split at h
  case h_2=>cases h
  case h_1 d hd=>
   obtain ⟨hp,ht⟩:=hal t d ho hd;have h1:=op_alloc (ρ:=ρ) hG ho hp ht (noref_pend hG hp) h;have e1:pendAfter pend o=fun s=>pend s/\s≠d:=by
    funext s
    simp only [pendAfter,isAlloc,ho,hd];simp only [true_and,Option.some.injEq];rw [eq_comm (a:=d)]
   rw [e1];exact h1
 case h_5 t x ho=>
  rw [pendAfter_eq (by simp [isAlloc,ho])];split at h
  case h_2=>cases h
  case h_1 d hd=>rw [hP] at h;exact op_box hG ho (hnd (by simp [isAlloc,ho]) d hd) (hop x (by simp [ho,Op.operands])) rfl h
 case h_6 t parts ho=>
  rw [pendAfter_eq (by simp [isAlloc,ho])];rw [hP] at h;split at h
  ·split at h
   ·exact op_buildMx hG ho (fun p hp=>hop p.2 (by simp [ho,Op.operands];exact ⟨p.1,by simpa using hp⟩)) h
   ·cases h
  ·exact op_build hG ho (fun p hp=>hop p.2 (by simp [ho,Op.operands];exact ⟨p.1,by simpa using hp⟩)) h
 case h_7 t n parts ho=>
  rw [pendAfter_eq (by simp [isAlloc,ho])];split at h
  case h_2=>cases h
  case h_1 d hd=>
   rw [hP] at h;exact op_buildSliceD hG ho (hnd (by simp [isAlloc,ho]) d hd) (fun p hp=>hop p.2 (by simp [ho,Op.operands];exact ⟨p.1,by simpa using hp⟩)) h
 case h_8 t a ho=>rw [pendAfter_eq (by simp [isAlloc,ho])];rw [hP] at h;obtain ⟨_,h⟩:=need_some h;exact op_loadD hG ho (hop a (by simp [ho,Op.operands])) rfl h
 case h_9 t a x ho=>rw [pendAfter_eq (by simp [isAlloc,ho])];rw [hP] at h;exact op_store hG ho (hop a (by simp [ho,Op.operands])) (hop x (by simp [ho,Op.operands])) rfl rfl h
 case h_10 x ho=>rw [pendAfter_eq (by simp [isAlloc,ho])];exact op_nil hG ho (hop x (by simp [ho,Op.operands])) rfl h
 case h_11 op t x y yt ho=>rw [pendAfter_eq (by simp [isAlloc,ho])];rw [hP] at h;exact op_bin hG ho (hop x (by simp [ho,Op.operands])) (hop y (by simp [ho,Op.operands])) h
 case h_12 op t x ho=>rw [pendAfter_eq (by simp [isAlloc,ho])];exact op_un hG ho (hop x (by simp [ho,Op.operands])) h
 case h_13 src dst x ho=>rw [pendAfter_eq (by simp [isAlloc,ho])];rw [hP] at h;exact op_conv hG ho (hop x (by simp [ho,Op.operands])) h
 case h_14 fn first cap ho=>
  rw [pendAfter_eq (by simp [isAlloc,ho])];split at h
  case h_2=>cases h
  case h_1 f hf=>
   obtain ⟨h1,h2⟩:=need_some h;rw [hP] at h2;exact op_makeFunc hG ho hf (fun y hy=>hop y (by simp [ho,Op.operands];exact .inr (by simpa using hy))) h1 h2
 case h_15 t rs ho=>
  rw [pendAfter_eq (by simp [isAlloc,ho])];split at h
  case h_2=>cases h
  case h_1 d hd=>rw [hP] at h;exact op_makeMap hG ho (hnd (by simp [isAlloc,ho]) d hd) h
 case h_16 t x i ok ho=>
  rw [pendAfter_eq (by simp [isAlloc,ho])];split at h
  case h_2=>
   rw [hP] at h;unfold lookupC at h;split at h
   ·rename_i c hc;rw [<-hc] at h;exact op_lookup hG ho (hop x (by simp [ho,Op.operands])) (hop i (by simp [ho,Op.operands])) rfl rfl h
   ·cases h
  case h_1=>rw [hP] at h;exact op_lookup hG ho (hop x (by simp [ho,Op.operands])) (hop i (by simp [ho,Op.operands])) rfl rfl h
 case h_17 t x i v ho=>
  rw [pendAfter_eq (by simp [isAlloc,ho])];split at h
  case h_2=>cases h
  case h_1=>rw [hP] at h;exact op_mapUpdate hG ho (hop x (by simp [ho,Op.operands])) (hop i (by simp [ho,Op.operands])) (hop v (by simp [ho,Op.operands])) rfl rfl rfl h
 case h_18 t n c ho=>
  rw [pendAfter_eq (by simp [isAlloc,ho])];split at h
  case h_3=>cases h
  case h_2 d hd=>rw [hP] at h;exact op_makePure hG ho (d:=d) (hop n (by simp [ho,Op.operands])) (hop c (by simp [ho,Op.operands])) rfl rfl h
  case h_1 d hd=>rw [hP] at h;exact op_makeSliceD hG ho (hnd (by simp [isAlloc,ho]) d hd) (hop n (by simp [ho,Op.operands])) (hop c (by simp [ho,Op.operands])) rfl rfl h
 case h_19 t x lo hi mx ho=>
  rw [pendAfter_eq (by simp [isAlloc,ho])];split at h
  ·rename_i m;rw [hP] at h;unfold slice3D at h;split at h
   ·exact op_slice3 hG ho (hop x (by simp [ho,Op.operands])) rfl (fun y hy=>hop y (by simp [ho,Op.operands,hy])) (hop m (by simp [ho,Op.operands])) h
   ·split at h
    ·rename_i c hc;rw [<-hc] at h;exact op_slice3 hG ho (hop x (by simp [ho,Op.operands])) rfl (fun y hy=>hop y (by simp [ho,Op.operands,hy])) (hop m (by simp [ho,Op.operands])) h
    ·cases h
  ·rw [hP] at h;exact op_slice hG ho (hop x (by simp [ho,Op.operands])) rfl (fun y hy=>hop y (by simp [ho,Op.operands,hy])) (fun y hy=>hop y (by simp [ho,Op.operands,hy])) h
 case h_20 T x f ho=>rw [pendAfter_eq (by simp [isAlloc,ho])];rw [hP] at h;obtain ⟨_,h⟩:=need_some h;exact op_fieldAddr hG ho (hop x (by simp [ho,Op.operands])) rfl h
 case h_21 T x f ho=>rw [pendAfter_eq (by simp [isAlloc,ho])];rw [hP] at h;exact op_field hG ho (hop x (by simp [ho,Op.operands])) rfl h
 case h_22 T x i ho=>rw [pendAfter_eq (by simp [isAlloc,ho])];rw [hP] at h;exact op_indexAddr hG ho (hop x (by simp [ho,Op.operands])) (hop i (by simp [ho,Op.operands])) rfl rfl h
 case h_23 T x i ho=>rw [pendAfter_eq (by simp [isAlloc,ho])];rw [hP] at h;exact op_index hG ho (hop x (by simp [ho,Op.operands])) (hop i (by simp [ho,Op.operands])) rfl rfl h
 case h_24 x i ho=>rw [pendAfter_eq (by simp [isAlloc,ho])];exact op_extract hG ho (hop x (by simp [ho,Op.operands])) rfl h
 case h_25 c ho=>
  rw [pendAfter_eq (by simp [isAlloc,ho])];have hargs: ∀y∈c.args.toList,RV P E l (e y) (ρ y):=fun y hy=>hop y (by simp [ho,Op.operands,Call.operands];exact .inr (by simpa using hy));have hna:isAlloc o=false:=by simp [isAlloc,ho]
  split at h
  case h_1 hc=>
   split at h
   case h_2=>cases h
   case h_1 x T ha hT=>
    rw [hP] at h;exact op_len hG ho hc (by apply Array.ext';simpa using ha) (by apply Array.ext';simpa using hT) (hargs x (by simp [ha])) rfl h
  case h_2 hc=>
   split at h
   case h_2=>cases h
   case h_1 d s x T T' hd ha hT=>
    split at h
    case h_2=>cases h
    cases hb:Nat.beq T T' with
    |false=>
     rw [hb] at h;rw [hP] at h;exact op_appMake hG ho hc (by apply Array.ext';simpa using ha) (by apply Array.ext';simpa using hT) (hnd hna d hd) (hargs s (by simp [ha])) (hargs x (by simp [ha])) rfl rfl h
    |true=>
     rw [hb] at h;have:=Nat.eq_of_beq_eq_true hb;subst this;exact op_append hG hP ho hc (by apply Array.ext';simpa using ha) (by apply Array.ext';simpa using hT) (hnd hna d hd) (hargs s (by simp [ha])) (hargs x (by simp [ha])) rfl rfl h
  case h_3 hc=>
   split at h
   case h_2=>cases h
   case h_1 x T ha hT=>
    rw [hP] at h;exact op_cap hG ho hc (by apply Array.ext';simpa using ha) (by apply Array.ext';simpa using hT) (hargs x (by simp [ha])) rfl h
  case h_4 hc=>
   split at h
   case h_2=>cases h
   case h_1 x y T T' ha hT=>
    rw [hP] at h;exact op_copy hG ho hc (by apply Array.ext';simpa using ha) (by apply Array.ext';simpa using hT) (hargs x (by simp [ha])) (hargs y (by simp [ha])) rfl rfl h
  case h_5 hc=>exact op_max (lt:=false) hG ho hc hargs h
  case h_6 hc=>exact op_max (lt:=true) hG ho hc hargs h
  case h_7=>cases h
  case h_8=>cases h
  case h_9 f hc=>
   have hcallee: ∀g,c.callee= .value g ->RV P E l (e g) (ρ g):=fun g hg=>hop g (by simp [ho,Op.operands,Call.operands,hg]);have hgo: ∀(hds:List Nat) (xo:List (Option TypeId)) (f:FuncId) (caps:List C) (cvs:List Value) (g:Operand),c.callee= .value g ->ρ g= .func (.func f) #[] cvs.toArray ->RCs E.w E.Pr caps cvs ->
     callK cf strict hds xo f (c.args.toList.map e++caps.map .c) o.type o.dst l k=some r ->Sound P A E l pend ((execOp ρ o).run P E.w) k r:=by
    intro hds xo f caps cvs g hg hρ hcaps h;have hrel: ∀(j:Nat) (x:V) (u:Value),(c.args.toList.map e++caps.map .c)[j]? =some x ->(c.args.toList.map ρ++cvs)[j]? =some u ->RV P E l x u:=by
     intro j x u hx hu;rw [List.getElem?_append] at hx hu;simp only [List.length_map] at hx hu;split at hx
     ·rename_i hlt;rw [if_pos hlt] at hu;exact args_rel hargs j x u hx hu
     ·rename_i hge;rw [if_neg hge] at hu;rw [List.getElem?_map] at hx;cases hcj:caps[j-c.args.toList.length]? with
      |none=>rw [hcj] at hx;cases hx
      |some cc=>
       rw [hcj] at hx;injection hx with hx;subst hx
       exact .c (hcaps.2 _ cc u hcj hu)
    obtain ⟨x,l',ks,hk,hC⟩:=callK_sound hG hP hcon hgl (us:=c.args.toList.map ρ++cvs) (by simp [hcaps.len]) hrel (fun d hd=>hnd hna d hd) h;have hfun : ∃ fn, P.funcs[f]? = some fn /\ fn.body ≠ none /\ (fn.name == "runtime.NumGoroutine") = false := by
     unfold callK at h;simp only [hP] at h;obtain ⟨ys,l1,ss,E1,h1,_⟩:=marsh_sound hG (us:=c.args.toList.map ρ++cvs) (by simp [hcaps.len]) hrel List.nodup_nil h;obtain ⟨_,h2⟩:=need_some h1;rw [Option.bind_eq_some_iff] at h2;obtain ⟨out,hcall,_⟩:=h2;exact hfn _ _ _ _ hcall
    obtain ⟨fn,h1,h2,h3⟩:=hfun;rw [call_run ho hg hρ h1 h2 h3];exact ⟨x,l',ks,hk,hC⟩
   split at h
   case h_1 f'=>
    unfold callD at h;split at h
    ·rename_i s g j n rest hst;cases har:c.args.toList with
     |nil=>rw [har] at hst;cases hst
     |cons a0 as=>
      rw [har] at hst;simp only [List.map_cons,List.cons.injEq] at hst;obtain ⟨e1,e2⟩:=hst;have hx0:=hargs a0 (by rw [har];simp);rw [e1] at hx0;obtain ⟨x,l',ks,hk,⟨out,hcall⟩,hC⟩:=rowCallK_sound hG hP hcon hgl (u:=ρ a0) (us:=as.map ρ) (by rw [<-e2];simp) hx0 (by rw [<-e2];exact args_rel2 fun y hy=>hargs y (by rw [har];exact List.mem_cons_of_mem _ hy)) h;obtain ⟨fn,h1,h2,h3⟩:=hfn _ _ _ _ hcall;have hrun:=call_run (E:=E) (P:=P) (ρ:=ρ) (caps:=[]) ho hc (by rw [hfv]) h1 h2 h3;rw [har] at hrun;simp only [List.map_cons,List.append_nil] at hrun;rw [hrun];exact ⟨x,l',ks,hk,hC⟩
    ·exact hgo _ _ f' [] [] _ hc (by rw [hfv]) .nil (by simpa using h)
   case h_2=>
    split at h
    case h_2=>cases h
    case h_1 c' hx=>
     have h1:=hcallee _ hc;rw [hx] at h1;generalize hu:ρ f=u at h1;cases h1 with|c hcc=>
     unfold asYF at h;split at h
     ·rename_i f' caps;cases hcc with
      | @fn _ _ cvs q1 q2=>exact hgo _ _ f' caps cvs _ hc hu ⟨q1,q2⟩ h
     ·rename_i n go xs;cases hcc;exact op_yield hG hP ho hc hu hargs h
     ·cases h
 case h_26=>cases h
end
end Go.PM
/- The pure machine: what an operation hands on does not depend on what is done with it. -/
namespace Go.PM
open Go
variable {P:Program} {R:Type} {r:R}
theorem ldC_nat {t:TypeId} {cs:List C} {k:V ->Option R} (h:ldC P t cs k=some r): ∃v,(∀{S:Type} (k':V ->Option S),ldC P t cs k'=k' v)/\k v=some r:=by
 unfold ldC at h;cases hi:P.info? t with
 |none=>rw [hi] at h;cases h
 |some i=>
  rw [hi] at h;cases ha:aggB P t with
  |true=>
   rw [ha] at h;cases hl:leaves P 20 t with
   |none=>
    rw [hl] at h;obtain ⟨h1,h2⟩:=need_nat h;exact ⟨_,fun k'=>by simp only [ldC,hi,ha,hl,h1],h2⟩
   |some ls=>
    rw [hl] at h;obtain ⟨h1,h2⟩:=need_nat h;obtain ⟨cs',h3,h4⟩:=getLfs_nat h2;exact ⟨_,fun k'=>by simp only [ldC,hi,ha,hl,h1,h3],h4⟩
  |false=>
   rw [ha] at h;cases hl:leaves P 20 t with
   |none=>rw [hl] at h;cases h
   |some ls=>
    rw [hl] at h
    match ls,hl,h with
    | [],_,h=>cases h
    |_::_::_,_,h=>cases h
    | [f],hl,h=>
     cases cs with
     |nil=>cases h
     |cons c rest=>
      obtain ⟨c',h1,h2⟩:=getLf_nat (show getLf f c (fun c'=>k (.c c'))=some r from h);exact ⟨_,fun k'=>by simp only [ldC,hi,ha,hl,unc,h1],h2⟩
theorem pur0_nat {strict:Bool} {x:V} {l:Loc} {k:List C ->Loc ->Option R} (h:pur0 P strict x l k=some r): ∃cs l',(∀{S:Type} (k':List C ->Loc ->Option S),pur0 P strict x l k'=k' cs l')/\k cs l'=some r:=by
 cases x with
 |c c=>exact ⟨_,_,fun k'=>rfl,h⟩
 |agg cs=>exact ⟨_,_,fun k'=>rfl,h⟩
 |own s off n=>
  simp only [pur0] at h;split at h
  ·rename_i t fz cs ho;obtain ⟨h1,h2⟩:=need_nat h;exact ⟨_,_,fun k'=>by simp only [pur0,ho,h1],h2⟩
  ·cases h
 |ptr s off=>
  simp only [pur0] at h;split at h
  ·rename_i t fz cs ho;exact ⟨_,_,fun k'=>by simp only [pur0,ho],h⟩
  ·cases h
 |mp s=>
  simp only [pur0] at h;split at h
  ·rename_i ho;exact ⟨_,_,fun k'=>by simp only [pur0,ho],h⟩
  ·rename_i ho;obtain ⟨h1,h2⟩:=need_nat h;exact ⟨_,_,fun k'=>by simp only [pur0,ho,h1],h2⟩
  ·cases h
 |rw s g j n=>
  simp only [pur0] at h;split at h
  ·rename_i g' t ps hl;obtain ⟨h1,h2⟩:=need_nat h;split at h2
   ·rename_i te row hp;obtain ⟨h3,h4⟩:=need_nat h2;exact ⟨_,_,fun k'=>by simp only [pur0,hl,h1,hp,h3],h4⟩
   ·cases h2
  ·cases h
 |ws s n=>
  simp only [pur0] at h;split at h
  ·rename_i g t te rows hl;obtain ⟨h1,h2⟩:=need_nat h;exact ⟨_,_,fun k'=>by simp only [pur0,hl,h1],h2⟩
  ·cases h
 |_=>cases h
theorem purs_nat {strict:Bool}: ∀{xs:List V} {l:Loc} {k:List C ->Loc ->Option R} (_:purs P strict xs l k=some r),∃cs l',(∀{S:Type} (k':List C ->Loc ->Option S),purs P strict xs l k'=k' cs l')/\k cs l'=some r
 | [],l,k,h=>⟨[],l,fun k'=>rfl,h⟩
 |x::xs,l,k,h=>by
  cases x with
  |c c=>
   obtain ⟨cs,l',h1,h2⟩:=purs_nat (xs:=xs) (k:=fun cs l2=>k (c::cs) l2) h;exact ⟨c::cs,l',fun k'=>by simp only [purs,h1],h2⟩
  |own s off n=>
   simp only [purs] at h;obtain ⟨cs,l1,h1,h2⟩:=pur0_nat h;split at h2
   ·rename_i c;obtain ⟨cs2,l',h3,h4⟩:=purs_nat (xs:=xs) (k:=fun cs l2=>k (c::cs) l2) h2;exact ⟨c::cs2,l',fun k'=>by simp only [purs,h1,h3],h4⟩
   ·cases h2
  |mp s=>
   simp only [purs] at h;obtain ⟨cs,l1,h1,h2⟩:=pur0_nat h;split at h2
   ·rename_i c;obtain ⟨cs2,l',h3,h4⟩:=purs_nat (xs:=xs) (k:=fun cs l2=>k (c::cs) l2) h2;exact ⟨c::cs2,l',fun k'=>by simp only [purs,h1,h3],h4⟩
   ·cases h2
  |ws s n=>
   simp only [purs] at h;obtain ⟨cs,l1,h1,h2⟩:=pur0_nat h;split at h2
   ·rename_i c;obtain ⟨cs2,l',h3,h4⟩:=purs_nat (xs:=xs) (k:=fun cs l2=>k (c::cs) l2) h2;exact ⟨c::cs2,l',fun k'=>by simp only [purs,h1,h3],h4⟩
   ·cases h2
  |_=>cases h
theorem pur_nat {strict:Bool} {x:V} {l:Loc} {k:List C ->Loc ->Option R} (h:pur P strict x l k=some r): ∃cs l',(∀{S:Type} (k':List C ->Loc ->Option S),pur P strict x l k'=k' cs l')/\k cs l'=some r:=by
 cases x with
 |ptr s off=>
  unfold pur at h;simp only at h;split at h
  ·rename_i t xs hl;cases strict with
   |true=>cases h
   |false=>
    simp only at h;obtain ⟨cs,l1,h1,h2⟩:=purs_nat h;split at h2
    ·rename_i hl1;exact ⟨_,_,fun k'=>by simp only [pur,hl,h1,hl1],h2⟩
    ·cases h2
  ·rename_i hno;obtain ⟨cs,l1,h1,h2⟩:=pur0_nat h;refine ⟨cs,l1,fun {S} k'=> ?_,h2⟩;have e:pur P strict (.ptr s off) l k'=pur0 P strict (.ptr s off) l k':=by
    unfold pur;simp only
   rw [e];exact h1 k'
 |c c=>exact ⟨_,_,fun k'=>rfl,h⟩
 |agg cs=>exact ⟨_,_,fun k'=>rfl,h⟩
 |own s off n=>exact pur0_nat (show pur0 P strict (.own s off n) l k=some r from h)
 |mp s=>exact pur0_nat (show pur0 P strict (.mp s) l k=some r from h)
 |rw s g j n=>exact pur0_nat (show pur0 P strict (.rw s g j n) l k=some r from h)
 |ws s n=>exact pur0_nat (show pur0 P strict (.ws s n) l k=some r from h)
 |_=>cases h
theorem purL_nat {strict:Bool}: ∀{xs:List V} {l:Loc} {k:List (List C)->Loc ->Option R} (_:purL P strict xs l k=some r),∃ps l',(∀{S:Type} (k':List (List C)->Loc ->Option S),purL P strict xs l k'=k' ps l')/\k ps l'=some r
 | [],l,k,h=>⟨[],l,fun k'=>rfl,h⟩
 |x::xs,l,k,h=>by
  obtain ⟨cs,l1,h1,h2⟩:=pur_nat (show pur P strict x l (fun cs l1=>purL P strict xs l1 fun ps l2=>k (cs::ps) l2)=some r from h);obtain ⟨ps,l2,h3,h4⟩:=purL_nat h2;exact ⟨cs::ps,l2,fun k'=>by show pur P strict x l _=_;rw [h1,h3],h4⟩
theorem fillK_nat {place:Nat ->Option (Nat×Nat)}: ∀{is:List Nat} {ps:List (List C)} {cs:List C} {k:List C ->Option R} (_:fillK place is ps cs k=some r),∃cs',(∀{S:Type} (k':List C ->Option S),fillK place is ps cs k'=k' cs')/\k cs'=some r
 | [],ps,cs,k,h=>⟨cs,fun k'=>by simp [fillK],by simpa [fillK] using h⟩
 |i::is,[],cs,k,h=>⟨cs,fun k'=>by simp [fillK],by simpa [fillK] using h⟩
 |i::is,p::ps,cs,k,h=>by
  simp only [fillK] at h;split at h
  ·cases h
  ·rename_i off sz hp;obtain ⟨h1,h2⟩:=need_nat h;obtain ⟨cs',h3,h4⟩:=fillK_nat h2;exact ⟨cs',fun k'=>by simp only [fillK,hp,h1,h3],h4⟩
theorem fillV_nat {place:Nat ->Option (Nat×Nat)}: ∀{is:List Nat} {ps:List (List V)} {cs:List V} {k:List V ->Option R} (_:fillV place is ps cs k=some r),∃cs',(∀{S:Type} (k':List V ->Option S),fillV place is ps cs k'=k' cs')/\k cs'=some r
 | [],ps,cs,k,h=>⟨cs,fun k'=>by simp [fillV],by simpa [fillV] using h⟩
 |i::is,[],cs,k,h=>⟨cs,fun k'=>by simp [fillV],by simpa [fillV] using h⟩
 |i::is,p::ps,cs,k,h=>by
  simp only [fillV] at h;split at h
  ·cases h
  ·rename_i off sz hp;obtain ⟨h1,h2⟩:=need_nat h;obtain ⟨cs',h3,h4⟩:=fillV_nat h2;exact ⟨cs',fun k'=>by simp only [fillV,hp,h1,h3],h4⟩
theorem marsh_nat {strict:Bool}: ∀{hd:List Nat} {xs:List V} {l:Loc} {ss:List Nat} {k:List V ->Loc ->List Nat ->Option R} (_:marsh P strict hd xs l ss k=some r),
  ∃ys l' ss',(∀{S:Type} (k':List V ->Loc ->List Nat ->Option S),marsh P strict hd xs l ss k'=k' ys l' ss')/\k ys l' ss'=some r
 |hd,[],l,ss,k,h=>⟨[],l,ss,fun k'=>by simp [marsh],by simpa [marsh] using h⟩
 |hd,x::xs,l,ss,k,h=>by
  unfold marsh at h;cases x with
  |c c=>
   obtain ⟨ys,l',ss',h1,h2⟩:=marsh_nat h;exact ⟨_,_,_,fun k'=>by simp only [marsh,h1],h2⟩
  |agg cs=>
   obtain ⟨ys,l',ss',h1,h2⟩:=marsh_nat h;exact ⟨_,_,_,fun k'=>by simp only [marsh,h1],h2⟩
  |own s off n=>
   simp only at h;cases hh:hand1 strict hd with
   |true=>
    rw [hh] at h;simp only at h;split at h
    ·rename_i i hi;obtain ⟨ys,l',ss',h3,h4⟩:=marsh_nat h;exact ⟨_,_,_,fun k'=>by simp only [marsh,hh,hi,h3],h4⟩
    ·rename_i hi;obtain ⟨ys,l',ss',h3,h4⟩:=marsh_nat h;exact ⟨_,_,_,fun k'=>by simp only [marsh,hh,hi,h3],h4⟩
   |false=>
    rw [hh] at h;simp only at h;obtain ⟨cs,l1,h1,h2⟩:=pur_nat h;split at h2
    ·obtain ⟨ys,l',ss',h3,h4⟩:=marsh_nat h2;exact ⟨_,_,_,fun k'=>by simp only [marsh,hh,h1,h3],h4⟩
    ·cases h2
  |ptr s off=>
   simp only at h;cases strict with
   |true=>cases h
   |false=>
    simp only at h;split at h
    ·rename_i i hi;obtain ⟨ys,l',ss',h3,h4⟩:=marsh_nat h;exact ⟨_,_,_,fun k'=>by simp only [marsh,hi,h3],h4⟩
    ·rename_i hi;obtain ⟨ys,l',ss',h3,h4⟩:=marsh_nat h;exact ⟨_,_,_,fun k'=>by simp only [marsh,hi,h3],h4⟩
  |ws s n=>
   simp only at h;cases hh:hand1 strict hd with
   |false=>rw [hh] at h;cases h
   |true=>
    rw [hh] at h;simp only at h;split at h
    ·rename_i i hi;obtain ⟨ys,l',ss',h3,h4⟩:=marsh_nat h;exact ⟨_,_,_,fun k'=>by simp only [marsh,hh,hi,h3],h4⟩
    ·rename_i hi;obtain ⟨ys,l',ss',h3,h4⟩:=marsh_nat h;exact ⟨_,_,_,fun k'=>by simp only [marsh,hh,hi,h3],h4⟩
  |_=>cases h
theorem backP_nat: ∀{ls:List Lf} {os ps:List PC} {k:List PC ->Option R} (_:backP ls os ps k=some r),(∀{S:Type} (k':List PC ->Option S),backP ls os ps k'=k' ps)/\k ps=some r
 | [],[],ps,k,h=>by
  unfold backP at h;split at h
  ·exact ⟨fun k'=>by simp [backP],h⟩
  ·cases h
 | [],_::_,ps,k,h=>by simp [backP] at h
 |_::_,[],ps,k,h=>by simp [backP] at h
 |l::ls,o::os,[],k,h=>by simp [backP,uncP] at h
 |l::ls,o::os,p::ps,k,h=>by
  cases o with
  |c c0=>
   cases p with
   |r te row=>cases h
   |c c=>
    have h0:getLf l c (fun c'=>backP ls os ps fun qs=>k (.c c'::qs))=some r:=h;obtain ⟨c',h1,h2⟩:=getLf_nat h0;obtain ⟨h3,h4⟩:=backP_nat (k:=fun qs=>k (.c c'::qs)) h2;have e:c'=c:=by
     have:=getLf_eq (show getLf l c (fun c''=>(some c'':Option C))=some c' from h1 _);injection this with this;exact this.symm
    subst e;refine ⟨fun {S} k'=> ?_,h4⟩;show getLf l c' (fun c'=>backP ls os ps fun qs=>k' (.c c'::qs))=_;rw [h1,h3]
  |r te row0=>
   cases p with
   |c c=>cases h
   |r te' row=>
    have h0:need (Nat.beq te' te) (backP ls os ps fun qs=>k (.r te row::qs))=some r:=h;obtain ⟨h1,h2⟩:=need_nat h0;have e:=Nat.eq_of_beq_eq_true (need_some h0).1;subst e;obtain ⟨h3,h4⟩:=backP_nat (k:=fun qs=>k (.r te' row::qs)) h2;refine ⟨fun {S} k'=> ?_,h4⟩;show need (Nat.beq te' te') (backP ls os ps fun qs=>k' (.r te' row::qs))=_;rw [h1,h3]
theorem rPk_self {g:Nat} {t:TypeId} {ps:List PC} {k:List PC ->Option R}:rPk (.pk g t (.ps ps) none) t k=k ps:=by simp [rPk,need]
theorem backK_nat {fb:Bool}: ∀{ss:List Nat} {os:List Obj} {l:Loc} {k:List Obj ->Loc ->Option R} (_:backK P fb ss os l k=some r),
  ∃rest l',(∀{S:Type} (k':List Obj ->Loc ->Option S),backK P fb ss os l k'=k' rest l')/\k rest l'=some r
 | [],os,l,k,h=>⟨os,l,fun k'=>rfl,h⟩
 |s::ss,os,l,k,h=>by
  unfold backK at h;split at h
  case h_4=>cases h
  case h_3 g t ps hl=>
   obtain ⟨o,os',rfl,h1⟩:=uncO_eq h;obtain ⟨g2,ps',rfl,h2⟩:=rPk_eq h1;split at h2
   ·rename_i ls hls;obtain ⟨h3,h4⟩:=need_nat h2;obtain ⟨h5,h6⟩:=backP_nat h4;obtain ⟨rest,l',h7,h8⟩:=backK_nat h6;exact ⟨rest,l',fun k'=>by simp only [backK,hl,uncO,rPk_self,hls,h3,h5,h7],h8⟩
   ·cases h2
  case h_2 t fz cs hl=>
   obtain ⟨o,os',rfl,h1⟩:=uncO_eq h;cases fb with
   |false=>
    obtain ⟨cs',rfl,h2⟩:=rS_eq h1;obtain ⟨h3,h4⟩:=need_nat h2;obtain ⟨rest,l',h7,h8⟩:=backK_nat h4;exact ⟨rest,l',fun k'=>by simp only [backK,hl,uncO,rS_self,h7,h3],h8⟩
   |true=>
    obtain ⟨fz',cs',rfl,hle,h2⟩:=rF_eq h1;obtain ⟨h3,h4⟩:=need_nat h2;obtain ⟨rest,l',h7,h8⟩:=backK_nat h4;exact ⟨rest,l',fun k'=>by simp only [backK,hl,uncO,rF_self hle,h7,h3],h8⟩
  case h_1 t fz cs hl=>
   obtain ⟨o,os',rfl,h1⟩:=uncO_eq h;obtain ⟨cs',rfl,h2⟩:=rO_eq h1;split at h2
   ·rename_i ls hls;obtain ⟨h3,h4⟩:=need_nat h2;obtain ⟨cs2,h5,h6⟩:=getLfs_nat h4;obtain ⟨rest,l',h7,h8⟩:=backK_nat h6;exact ⟨rest,l',fun k'=>by simp only [backK,hl,uncO,rO,hls,h3,h5,h7,Nat.beq_refl,Bool.and_self,need,cond_true]<;>simp only [<-need.eq_1,h3],h8⟩
   ·rename_i hls;obtain ⟨h3,h4⟩:=need_nat h2;obtain ⟨rest,l',h7,h8⟩:=backK_nat h4;exact ⟨rest,l',fun k'=>by simp only [backK,hl,uncO,rO,hls,h7,Nat.beq_refl,Bool.and_self,need,cond_true]<;>simp only [<-need.eq_1,h3],h8⟩
theorem foldMax_nat {lt:Bool}: ∀{xs:List V} {kd:IntKind} {a:Int} {k:V ->Option R} (_:foldMax lt xs kd a k=some r),∃v,(∀{S:Type} (k':V ->Option S),foldMax lt xs kd a k'=k' v)/\k v=some r
 | [],kd,a,k,h=>⟨_,fun k'=>rfl,h⟩
 |x::xs,kd,a,k,h=>by
  match x,h with
  | .c (.v (.int kd' b)),h=>
   simp only [foldMax] at h;cases hk:decide (kd'=kd) with
   |false=>rw [hk] at h;cases h
   |true=>
    rw [hk] at h;obtain ⟨v,h1,h2⟩:=foldMax_nat h;exact ⟨v,fun k'=>by simp only [foldMax,hk,cond_true,h1],h2⟩
theorem bound_nat {x:Option V} {d y:Nat} {k:Nat ->Option R} (h:bound x d y k=some r): ∃n,(∀{S:Type} (k':Nat ->Option S),bound x d y k'=k' n)/\k n=some r:=by
 unfold bound at h;split at h
 ·exact ⟨d,fun k'=>rfl,h⟩
 ·split at h
  ·obtain ⟨h1,h2⟩:=need_nat h;exact ⟨_,fun k'=>by simp only [bound,h1],h2⟩
  ·cases h
 ·cases h
theorem newsK_nat {e:TypeId} {x:V} {l:Loc} {k:Nat ->List C ->Option R} (h:newsK P e x l k=some r): ∃m cs,(∀{S:Type} (k':Nat ->List C ->Option S),newsK P e x l k'=k' m cs)/\k m cs=some r:=by
 unfold newsK at h;split at h
 ·obtain ⟨m,cs,h1,h2⟩:=asSl_nat h;obtain ⟨h3,h4⟩:=need_nat h2;exact ⟨m,cs,fun k'=>by simp only [newsK,h1,h3],h4⟩
 ·split at h
  ·rename_i ho;obtain ⟨h3,h4⟩:=need_nat h;exact ⟨_,_,fun k'=>by simp only [newsK,ho,h3],h4⟩
  ·cases h
 ·cases h
theorem binInt_nat {op:BinOp} {kd:IntKind} {a b:Int} {k:V ->Option R} (h:binInt op kd a b k=some r): ∃v,(∀{S:Type} (k':V ->Option S),binInt op kd a b k'=k' v)/\k v=some r:=by
 cases op<;>simp only [binInt] at h⊢ <;>first
  |(cases h;done)
  |exact ⟨_,fun k'=>rfl,h⟩
  |(obtain ⟨h1,h2⟩:=need_nat h;exact ⟨_,fun k'=>h1 _,h2⟩)
theorem shInt_nat {op:BinOp} {kd:IntKind} {a b:Int} {k:V ->Option R} (h:shInt op kd a b k=some r): ∃v,(∀{S:Type} (k':V ->Option S),shInt op kd a b k'=k' v)/\k v=some r:=by
 cases op<;>simp only [shInt] at h⊢ <;>first
  |(cases h;done)
  |(obtain ⟨h1,h2⟩:=need_nat h;exact ⟨_,fun k'=>h1 _,h2⟩)
theorem binStr_nat {op:BinOp} {a b:ByteArray} {k:V ->Option R} (h:binStr op a b k=some r): ∃v,(∀{S:Type} (k':V ->Option S),binStr op a b k'=k' v)/\k v=some r:=by
 cases op<;>simp only [binStr] at h⊢ <;>first
  |(cases h;done)
  |exact ⟨_,fun k'=>rfl,h⟩
  |(obtain ⟨h1,h2⟩:=need_nat h;exact ⟨_,fun k'=>h1 _,h2⟩)
theorem binV_nat {op:BinOp} {t:TypeId} {x y:V} {k:V ->Option R} (h:binV P op t x y k=some r): ∃v,(∀{S:Type} (k':V ->Option S),binV P op t x y k'=k' v)/\k v=some r:=by
 unfold binV at h;split at h
 ·split at h
  ·obtain ⟨v,h1,h2⟩:=shInt_nat h;exact ⟨v,fun k'=>by simp only [binV,h1],h2⟩
  ·obtain ⟨v,h1,h2⟩:=shInt_nat h;exact ⟨v,fun k'=>by simp only [binV,h1],h2⟩
  ·rename_i n1 n2;split at h
   ·rename_i hk;obtain ⟨v,h1,h2⟩:=binInt_nat h;refine ⟨v,fun k'=> ?_,h2⟩;cases op<;>first
     |exact absurd rfl n1
     |exact absurd rfl n2
     |(simp only [binV,if_pos hk];exact h1 k')
   ·cases h
 ·obtain ⟨v,h1,h2⟩:=binStr_nat h;exact ⟨v,fun k'=>by simp only [binV,h1],h2⟩
 ·split at h
  ·rename_i hu;exact ⟨_,fun k'=>by simp only [binV,hu],h⟩
  ·rename_i hu;exact ⟨_,fun k'=>by simp only [binV,hu],h⟩
  ·cases h
 ·split at h
  ·rename_i b h1 h2 h3;split at h
   ·exact ⟨_,fun k'=>by simp only [binV,h1,h2,h3],h⟩
   ·exact ⟨_,fun k'=>by simp only [binV,h1,h2,h3],h⟩
   ·cases h
  ·cases h
 ·split at h
  ·rename_i hu;exact ⟨_,fun k'=>by simp only [binV,hu],h⟩
  ·rename_i hu;exact ⟨_,fun k'=>by simp only [binV,hu],h⟩
  ·cases h
 ·split at h
  ·rename_i hu;exact ⟨_,fun k'=>by simp only [binV,hu],h⟩
  ·rename_i hu;exact ⟨_,fun k'=>by simp only [binV,hu],h⟩
  ·cases h
 ·cases h
theorem unV_nat {op:UnOp} {x:V} {k:V ->Option R} (h:unV op x k=some r): ∃v,(∀{S:Type} (k':V ->Option S),unV op x k'=k' v)/\k v=some r:=by
 unfold unV at h;split at h
 ·exact ⟨_,fun k'=>rfl,h⟩
 ·exact ⟨_,fun k'=>rfl,h⟩
 ·exact ⟨_,fun k'=>rfl,h⟩
 ·cases h
theorem convV_nat {src dst:TypeId} {x:V} {k:V ->Option R} (h:convV P src dst x k=some r): ∃v,(∀{S:Type} (k':V ->Option S),convV P src dst x k'=k' v)/\k v=some r:=by
 unfold convV at h;split at h
 ·rename_i h1 h2;exact ⟨_,fun k'=>by simp only [convV,h1,h2],h⟩
 ·rename_i h1 h2;exact ⟨_,fun k'=>by simp only [convV,h1,h2],h⟩
 ·rename_i h1 h2;exact ⟨_,fun k'=>by simp only [convV,h1,h2],h⟩
 ·cases h
end Go.PM
/- The pure machine: what an operation hands on, continued. -/
namespace Go.PM
open Go
variable {P:Program} {R:Type} {r:R}
def Nat3 {R:Type} (F:{S:Type}->(V ->Loc ->List Nat ->Option S)->Option S) (k:V ->Loc ->List Nat ->Option R) (r:R):Prop:=
 ∃x l ks,(∀{S:Type} (k':V ->Loc ->List Nat ->Option S),F k'=k' x l ks)/\k x l ks=some r
section
variable {l:Loc} {k:V ->Loc ->List Nat ->Option R}
theorem pickK_nat {c a b:V} (h:pickK l k c a b=some r):Nat3 (fun k'=>pickK l k' c a b) k r:=by
 unfold pickK at h;split at h
 ·exact ⟨_,_,_,fun k'=>rfl,h⟩
 ·cases h
theorem boxK_nat {strict own:Bool} {t:TypeId} {d:Nat} {x:V} (h:boxK P l k strict own t d x=some r):Nat3 (fun k'=>boxK P l k' strict own t d x) k r:=by
 unfold boxK at h;split at h
 ·split at h
  ·exact ⟨_,_,_,fun k'=>by simp only [boxK],h⟩
  ·rename_i hno;obtain ⟨cs,l',h1,h2⟩:=pur_nat h;obtain ⟨h3,h4⟩:=need_nat h2;refine ⟨_,_,_,fun {S} k'=> ?_,h4⟩;unfold boxK;simp only;rw [h1];simp only [h3]
 ·cases h
 ·obtain ⟨cs,l',h1,h2⟩:=pur_nat h;exact ⟨_,_,_,fun k'=>by simp only [boxK,h1],h2⟩
theorem buildK_nat {strict:Bool} {t:TypeId} {is:List Nat} {xs:List V} (h:buildK P l k strict t is xs=some r):Nat3 (fun k'=>buildK P l k' strict t is xs) k r:=by
 unfold buildK at h;split at h
 ·rename_i hT hz;obtain ⟨h0,h⟩:=need_nat h;obtain ⟨ps,l',h1,h2⟩:=purL_nat h;obtain ⟨cs,h3,h4⟩:=fillK_nat h2;exact ⟨_,_,_,fun k'=>by simp only [buildK,hT,hz,h0,h1,h3],h4⟩
 ·rename_i hT hz;obtain ⟨h0,h⟩:=need_nat h;obtain ⟨ps,l',h1,h2⟩:=purL_nat h;obtain ⟨cs,h3,h4⟩:=fillK_nat h2;exact ⟨_,_,_,fun k'=>by simp only [buildK,hT,hz,h0,h1,h3],h4⟩
 ·cases h
theorem buildMx_nat {t:TypeId} {is:List Nat} {xs:List V} (h:buildMx P l k t is xs=some r):Nat3 (fun k'=>buildMx P l k' t is xs) k r:=by
 unfold buildMx at h;split at h
 ·rename_i hT hz hp;obtain ⟨h0,h⟩:=need_nat h;obtain ⟨cs,h3,h4⟩:=fillV_nat h;exact ⟨_,_,_,fun k'=>by simp only [buildMx,hT,hz,hp,h0,h3],h4⟩
 ·cases h
theorem buildSliceK_nat {strict own full:Bool} {t:TypeId} {n d:Nat} {is:List Nat} {xs:List V} (h:buildSliceK P l k strict own full t n d is xs=some r):Nat3 (fun k'=>buildSliceK P l k' strict own full t n d is xs) k r:=by
 unfold buildSliceK at h;split at h
 ·rename_i hT;split at h
  ·rename_i hz;obtain ⟨ps,l',h1,h2⟩:=purL_nat h;obtain ⟨cs,h3,h4⟩:=fillK_nat h2;obtain ⟨h5,h6⟩:=need_nat h4;split at h6
   ·exact ⟨_,_,_,fun k'=>by simp only [buildSliceK,hT,hz,h1,h3,h5],h6⟩
   ·cases h6
   ·exact ⟨_,_,_,fun k'=>by simp only [buildSliceK,hT,hz,h1,h3,h5],h6⟩
  ·cases h
 ·cases h
theorem buildSliceM_nat {t:TypeId} {n d:Nat} {is:List Nat} {xs:List V} (h:buildSliceM P l k t n d is xs=some r):Nat3 (fun k'=>buildSliceM P l k' t n d is xs) k r:=by
 unfold buildSliceM at h;split at h
 ·rename_i hT;split at h
  ·rename_i hz hp;obtain ⟨cs,h3,h4⟩:=fillV_nat h;obtain ⟨h5,h6⟩:=need_nat h4;exact ⟨_,_,_,fun k'=>by simp only [buildSliceM,hT,hz,hp,h3,h5],h6⟩
  ·cases h
 ·cases h
theorem buildSliceD_nat {strict own full:Bool} {t:TypeId} {n d:Nat} {is:List Nat} {xs:List V} (h:buildSliceD P l k strict own full t n d is xs=some r):Nat3 (fun k'=>buildSliceD P l k' strict own full t n d is xs) k r:=by
 cases own<;>cases full<;>cases strict
 case true.true.false=>simp only [buildSliceD] at h⊢;exact buildSliceM_nat h
 all_goals (simp only [buildSliceD] at h⊢;exact buildSliceK_nat h)
theorem oneK_nat {t:TypeId} {x:V} (h:oneK P l k t x=some r):Nat3 (fun k'=>oneK P l k' t x) k r:=by
 unfold oneK at h;split at h
 ·obtain ⟨v,h3,h4⟩:=ldC_nat h;exact ⟨_,_,_,fun k'=>by simp only [oneK,h3],h4⟩
 ·obtain ⟨h3,h4⟩:=need_nat h;exact ⟨_,_,_,fun k'=>by simp only [oneK,h3],h4⟩
 ·obtain ⟨h3,h4⟩:=need_nat h;exact ⟨_,_,_,fun k'=>by simp only [oneK,h3],h4⟩
 ·obtain ⟨h3,h4⟩:=need_nat h;exact ⟨_,_,_,fun k'=>by simp only [oneK,h3],h4⟩
 ·cases h
theorem look_nat {q:Rws} {j:Nat} {k:PC ->Option R} (h:q.look j k=some r): ∃p,(∀{S:Type} (k':PC ->Option S),q.look j k'=k' p)/\k p=some r:=by
 cases q with
 |ps l=>
  simp only [Rws.look] at h;split at h
  ·rename_i p hp;exact ⟨p,fun k'=>by simp only [Rws.look,hp],h⟩
  ·cases h
 |rs te rows=>
  obtain ⟨h1,h2⟩:=need_nat (show need (Nat.blt j rows.length) (k (.r te (rows.getD j [])))=some r from h);exact ⟨_,fun k'=>by simp only [Rws.look,h1],h2⟩
theorem loadK_nat {strict:Bool} {t:TypeId} {a:V} (h:loadK P l k strict t a=some r):Nat3 (fun k'=>loadK P l k' strict t a) k r:=by
 unfold loadK at h;split at h
 ·obtain ⟨cs,h1,h2⟩:=asP_nat h;obtain ⟨v,h3,h4⟩:=ldC_nat h2;exact ⟨_,_,_,fun k'=>by simp only [loadK,h1,h3],h4⟩
 ·split at h
  ·rename_i hl;obtain ⟨v,h3,h4⟩:=ldC_nat h;exact ⟨_,_,_,fun k'=>by simp only [loadK,hl,h3],h4⟩
  ·rename_i hl;obtain ⟨v,h3,h4⟩:=ldC_nat h;exact ⟨_,_,_,fun k'=>by simp only [loadK,hl,h3],h4⟩
  ·rename_i hl;split at h
   ·rename_i ha;obtain ⟨h1,h2⟩:=need_nat h;obtain ⟨cs,l',h3,h4⟩:=purs_nat h2;obtain ⟨v,h5,h6⟩:=ldC_nat h4;exact ⟨_,_,_,fun k'=>by simp only [loadK,hl,ha,h1,h3,h5],h6⟩
   ·rename_i ha;split at h
    ·rename_i hx;obtain ⟨v,l',ks,h1,h2⟩:=oneK_nat h;exact ⟨v,l',ks,fun k'=>by simp only [loadK,hl,ha,hx];exact h1 k',h2⟩
    ·cases h
  ·rename_i hl;obtain ⟨h1,h2⟩:=need_nat h;obtain ⟨p,h3,h4⟩:=look_nat h2;cases p with
   |c c=>
    obtain ⟨v,h5,h6⟩:=ldC_nat h4;exact ⟨_,_,_,fun k'=>by simp only [loadK,hl,h1,h3,h5],h6⟩
   |r te row=>exact ⟨_,_,_,fun k'=>by simp only [loadK,hl,h1,h3],h4⟩
  ·cases h
 ·cases h
theorem loadM_nat {t:TypeId} {a:V} (h:loadM P l k t a=some r):Nat3 (fun k'=>loadM P l k' t a) k r:=by
 unfold loadM at h;split at h
 ·split at h
  ·rename_i hl;obtain ⟨h3,h4⟩:=need_nat h;exact ⟨_,_,_,fun k'=>by simp only [loadM,hl,h3],h4⟩
  ·cases h
 ·cases h
theorem loadD_nat {mag strict:Bool} {t:TypeId} {a:V} (h:loadD P l k mag strict t a=some r):Nat3 (fun k'=>loadD P l k' mag strict t a) k r:=by
 cases mag<;>cases strict
 ·exact loadK_nat (show loadK P l k false t a=some r from h)
 ·exact loadK_nat (show loadK P l k true t a=some r from h)
 ·exact loadM_nat (show loadM P l k t a=some r from h)
 ·exact loadK_nat (show loadK P l k true t a=some r from h)
theorem storeMx_nat {t:TypeId} {s off:Nat} {t':TypeId} {xs:List V} {x:V} (h:storeMx P l k t s off t' xs x=some r):Nat3 (fun k'=>storeMx P l k' t s off t' xs x) k r:=by
 unfold storeMx at h;split at h
 ·obtain ⟨h3,h4⟩:=need_nat h;exact ⟨_,_,_,fun k'=>by simp only [storeMx,h3],h4⟩
 ·obtain ⟨h3,h4⟩:=need_nat h;exact ⟨_,_,_,fun k'=>by simp only [storeMx,h3],h4⟩
 ·obtain ⟨h3,h4⟩:=need_nat h;exact ⟨_,_,_,fun k'=>by simp only [storeMx,h3],h4⟩
 ·obtain ⟨h3,h4⟩:=need_nat h;exact ⟨_,_,_,fun k'=>by simp only [storeMx,h3],h4⟩
 ·obtain ⟨h3,h4⟩:=need_nat h;exact ⟨_,_,_,fun k'=>by simp only [storeMx,h3],h4⟩
 ·cases h
theorem storeOb_nat {strict:Bool} {t:TypeId} {s off:Nat} {x:V} (h:storeOb P l k strict t s off x=some r):Nat3 (fun k'=>storeOb P l k' strict t s off x) k r:=by
 unfold storeOb at h;obtain ⟨cs,l',h1,h2⟩:=pur_nat h;split at h2
 ·rename_i hl;obtain ⟨h3,h4⟩:=need_nat h2;exact ⟨_,_,_,fun k'=>by simp only [storeOb,h1,hl,h3],h4⟩
 ·rename_i hl;obtain ⟨h3,h4⟩:=need_nat h2;exact ⟨_,_,_,fun k'=>by simp only [storeOb,h1,hl,h3],h4⟩
 ·cases h2
theorem storePk_nat {t:TypeId} {s off g:Nat} {t':TypeId} {q:Rws} {pe:Option (Nat×TypeId×List C)} {x:V} (h:storePk P l k t s off g t' q pe x=some r):Nat3 (fun k'=>storePk P l k' t s off g t' q pe x) k r:=by
 unfold storePk at h;obtain ⟨h1,h2⟩:=need_nat h;cases x with
 |rp s2 g2 j2 n=>
  cases pe with
  |none=>cases h2
  |some e=>
   obtain ⟨j,te,row⟩:=e;obtain ⟨h3,h4⟩:=need_nat h2;exact ⟨_,_,_,fun k'=>by simp only [storePk,h1,h3],h4⟩
 |c c=>
  cases pe with
  |some e=>cases h2
  |none=>
  cases q with
  |rs te rows=>cases h2
  |ps ps=>
   obtain ⟨h3,h4⟩:=need_nat h2;exact ⟨_,_,_,fun k'=>by simp only [storePk,h1,h3],h4⟩
 |ws s2 n2=>
  cases pe with
  |some e=>cases h2
  |none=>
  cases q with
  |rs te rows=>cases h2
  |ps ps=>
   simp only at h2;split at h2
   ·rename_i cs hcs;obtain ⟨h3,h4⟩:=need_nat h2;exact ⟨_,_,_,fun k'=>by simp only [storePk,h1,hcs,h3],h4⟩
   ·cases h2
 |_=>cases pe<;>cases h2
theorem storeK_nat {strict mix:Bool} {t:TypeId} {a x:V} (h:storeK P l k strict mix t a x=some r):Nat3 (fun k'=>storeK P l k' strict mix t a x) k r:=by
 unfold storeK at h;split at h
 ·split at h
  ·rename_i t' fz cs hl;cases hb:(isOwn x&&(Nat.beq cs.length 1||mix)&&Nat.beq fz 0) with
   |true=>
    rw [hb] at h;obtain ⟨y,l',ks,h1,h2⟩:=storeMx_nat h;exact ⟨y,l',ks,fun k'=>by simp only [storeK,hl,hb,cond_true];exact h1 k',h2⟩
   |false=>
    rw [hb] at h;obtain ⟨y,l',ks,h1,h2⟩:=storeOb_nat h;exact ⟨y,l',ks,fun k'=>by simp only [storeK,hl,hb,cond_false];exact h1 k',h2⟩
  ·rename_i hl;obtain ⟨y,l',ks,h1,h2⟩:=storeOb_nat h;exact ⟨y,l',ks,fun k'=>by simp only [storeK,hl];exact h1 k',h2⟩
  ·rename_i hl;obtain ⟨y,l',ks,h1,h2⟩:=storeMx_nat h;exact ⟨y,l',ks,fun k'=>by simp only [storeK,hl];exact h1 k',h2⟩
  ·rename_i hl;obtain ⟨y,l',ks,h1,h2⟩:=storePk_nat h;exact ⟨y,l',ks,fun k'=>by simp only [storeK,hl];exact h1 k',h2⟩
  ·cases h
 ·cases h
theorem cellsV_nat {x:V} {k:List C ->Option R} (h:cellsV x k=some r): ∃cs,(∀{S:Type} (k':List C ->Option S),cellsV x k'=k' cs)/\k cs=some r:=by
 unfold cellsV at h;split at h
 ·exact ⟨_,fun k'=>rfl,h⟩
 ·exact ⟨_,fun k'=>rfl,h⟩
 ·cases h
theorem makeMapK_nat {own:Bool} {t:TypeId} {d:Nat} {q:Option V} (h:makeMapK P l k own t d q=some r):Nat3 (fun k'=>makeMapK P l k' own t d q) k r:=by
 unfold makeMapK at h;split at h
 ·rename_i h1;obtain ⟨h3,h4⟩:=need_nat h;exact ⟨_,_,_,fun k'=>by simp only [makeMapK,h1,h3],h4⟩
 ·rename_i h1;split at h
  ·rename_i h2;obtain ⟨h3,h4⟩:=need_nat h;exact ⟨_,_,_,fun k'=>by simp only [makeMapK,h1,h2,h3],h4⟩
  ·cases h
 ·cases h
theorem lookupM_nat {kt et:TypeId} {es:List (List C×List C)} {i:V} {ok:Bool} (h:lookupM P l k kt et es i ok=some r): ∃x,(∀{S:Type} (l2:Loc) (k':V ->Loc ->List Nat ->Option S),lookupM P l2 k' kt et es i ok=k' x l2 [])/\k x l []=some r:=by
 unfold lookupM at h;obtain ⟨kc,h3,h4⟩:=cellsV_nat h;obtain ⟨q,hq,h5⟩:=Option.bind_eq_some_iff.1 h4;split at h5
 ·rename_i hz;cases ok with
  |false=>
   obtain ⟨v,h7,h8⟩:=ldC_nat h5;exact ⟨_,fun l2 k'=>by simp only [lookupM,h3,hq,Option.bind_some,hz,h7],h8⟩
  |true=>
   obtain ⟨v,h7,h8⟩:=ldC_nat h5;exact ⟨_,fun l2 k'=>by simp only [lookupM,h3,hq,Option.bind_some,hz,h7],h8⟩
 ·cases h5
theorem lookupK_nat {T:TypeId} {x i:V} {ok:Bool} (h:lookupK P l k T x i ok=some r):Nat3 (fun k'=>lookupK P l k' T x i ok) k r:=by
 unfold lookupK at h;split at h
 ·rename_i hT;split at h
  ·rename_i hl;obtain ⟨h1,h2⟩:=need_nat h;obtain ⟨x,h3,h4⟩:=lookupM_nat h2;exact ⟨_,_,_,fun k'=>by simp only [lookupK,hT,hl,h1,h3],h4⟩
  ·cases h
 ·rename_i hT;unfold asMp at h;split at h
  ·obtain ⟨h0,h⟩:=need_nat h;obtain ⟨h1,h2⟩:=need_nat h;obtain ⟨x,h3,h4⟩:=lookupM_nat h2;exact ⟨_,_,_,fun k'=>by simp only [lookupK,hT,asMp,h0,h1,h3],h4⟩
  ·cases h
 ·cases h
theorem lookupC_nat {T:TypeId} {x i:V} {ok:Bool} (h:lookupC P l k T x i ok=some r): ∃x',(∀{S:Type} (l2:Loc) (k':V ->Loc ->List Nat ->Option S),lookupC P l2 k' T x i ok=k' x' l2 [])/\k x' l []=some r:=by
 unfold lookupC at h;split at h
 ·unfold lookupK at h;split at h
  ·rename_i e;cases e
  ·rename_i hT e;injection e with e;subst e
   unfold asMp at h;split at h
   ·obtain ⟨h0,h⟩:=need_nat h;obtain ⟨h1,h2⟩:=need_nat h;obtain ⟨x,h3,h4⟩:=lookupM_nat h2;exact ⟨_,fun l2 k'=>by simp only [lookupC,lookupK,hT,asMp,h0,h1,h3],h4⟩
   ·cases h
  ·cases h
 ·cases h
theorem mapUpdateK_nat {T:TypeId} {x i v:V} (h:mapUpdateK P l k T x i v=some r):Nat3 (fun k'=>mapUpdateK P l k' T x i v) k r:=by
 unfold mapUpdateK at h;split at h
 ·rename_i hT;split at h
  ·rename_i hl;obtain ⟨h1,h2⟩:=need_nat h;obtain ⟨kc,h3,h4⟩:=cellsV_nat h2;obtain ⟨vc,h5,h6⟩:=cellsV_nat h4;obtain ⟨q,hq,h7⟩:=Option.bind_eq_some_iff.1 h6;exact ⟨_,_,_,fun k'=>by simp only [mapUpdateK,hT,hl,h1,h3,h5,hq,Option.bind_some],h7⟩
  ·cases h
 ·cases h
theorem nilK_nat {x:V} (h:nilK l k x=some r):Nat3 (fun k'=>nilK l k' x) k r:=by
 unfold nilK at h;split at h
 ·obtain ⟨h3,h4⟩:=need_nat h;exact ⟨_,_,_,fun k'=>by simp only [nilK,h3],h4⟩
 ·split at h
  ·exact ⟨_,_,_,fun k'=>rfl,h⟩
  ·exact ⟨_,_,_,fun k'=>rfl,h⟩
  ·cases h
 ·cases h
theorem makeSliceK_nat {t:TypeId} {d:Nat} {n c:V} (h:makeSliceK P l k t d n c=some r):Nat3 (fun k'=>makeSliceK P l k' t d n c) k r:=by
 unfold makeSliceK at h;split at h
 ·rename_i h1 h2 h3;split at h
  ·rename_i h4 h5;obtain ⟨h6,h7⟩:=need_nat h;exact ⟨_,_,_,fun k'=>by simp only [makeSliceK,h1,h2,h3,h4,h5,h6],h7⟩
  ·cases h
 ·cases h
theorem makeRowsK_nat {t:TypeId} {d:Nat} {n c:V} (h:makeRowsK P l k t d n c=some r):Nat3 (fun k'=>makeRowsK P l k' t d n c) k r:=by
 unfold makeRowsK at h;split at h
 ·rename_i h1 h2 h3;split at h
  ·rename_i h4 h5;obtain ⟨h6,h7⟩:=need_nat h;exact ⟨_,_,_,fun k'=>by simp only [makeRowsK,h1,h2,h3,h4,h5,h6],h7⟩
  ·cases h
 ·cases h
theorem makePureK_nat {t:TypeId} {n c:V} (h:makePureK P l k t n c=some r):Nat3 (fun k'=>makePureK P l k' t n c) k r:=by
 unfold makePureK at h;split at h
 ·rename_i h1 h2 h3;split at h
  ·rename_i h4 h5;obtain ⟨h6,h7⟩:=need_nat h;exact ⟨_,_,_,fun k'=>by simp only [makePureK,h1,h2,h3,h4,h5,h6],h7⟩
  ·cases h
 ·cases h
theorem makeSliceD_nat {mix:Bool} {t:TypeId} {d:Nat} {n c:V} (h:makeSliceD P l k mix t d n c=some r):Nat3 (fun k'=>makeSliceD P l k' mix t d n c) k r:=by
 cases mix with
 |true=>exact makeRowsK_nat h
 |false=>exact makeSliceK_nat h
theorem sliceC_nat {sz:Nat} {c:C} {lo hi:Option V} {k:C ->Option R} (h:sliceC sz lo hi c k=some r): ∃c',(∀{S:Type} (k':C ->Option S),sliceC sz lo hi c k'=k' c')/\k c'=some r:=by
 unfold sliceC at h;split at h
 ·obtain ⟨a,h3,h4⟩:=bound_nat h;obtain ⟨b,h5,h6⟩:=bound_nat h4;exact ⟨_,fun k'=>by simp only [sliceC,h3,h5],h6⟩
 ·obtain ⟨a,h3,h4⟩:=bound_nat h;obtain ⟨b,h5,h6⟩:=bound_nat h4;exact ⟨_,fun k'=>by simp only [sliceC,h3,h5],h6⟩
 ·cases h
theorem sliceK_nat {t:TypeId} {x:V} {lo hi:Option V} (h:sliceK P l k t x lo hi=some r):Nat3 (fun k'=>sliceK P l k' t x lo hi) k r:=by
 unfold sliceK at h;split at h
 ·rename_i hT;split at h
  ·obtain ⟨s,h1,h2⟩:=asS_nat h;obtain ⟨a,h3,h4⟩:=bound_nat h2;obtain ⟨b,h5,h6⟩:=bound_nat h4;exact ⟨_,_,_,fun k'=>by simp only [sliceK,hT,h1,h3,h5],h6⟩
  ·cases h
 ·rename_i hT;split at h
  ·rename_i hi';split at h
   ·obtain ⟨c',h1,h2⟩:=sliceC_nat h;exact ⟨_,_,_,fun k'=>by simp only [sliceK,hT,hi',h1],h2⟩
   ·split at h
    ·rename_i hl;obtain ⟨h1,h2⟩:=need_nat h;obtain ⟨a,h3,h4⟩:=bound_nat h2;obtain ⟨b,h5,h6⟩:=bound_nat h4;exact ⟨_,_,_,fun k'=>by simp only [sliceK,hT,hi',hl,h1,h3,h5],h6⟩
    ·cases h
   ·cases h
  ·cases h
 ·rename_i hT;split at h
  ·rename_i h1;obtain ⟨cs,h2,h3⟩:=asP_nat h;obtain ⟨h4,h5⟩:=need_nat h3;exact ⟨_,_,_,fun k'=>by simp only [sliceK,hT,h1,h2,h4],h5⟩
  ·rename_i h1;split at h
   ·rename_i hl;obtain ⟨h4,h5⟩:=need_nat h;exact ⟨_,_,_,fun k'=>by simp only [sliceK,hT,h1,hl,h4],h5⟩
   ·cases h
  ·cases h
 ·cases h
theorem fieldAddrK_nat {T:TypeId} {f:Nat} {x:V} (h:fieldAddrK P l k T f x=some r):Nat3 (fun k'=>fieldAddrK P l k' T f x) k r:=by
 unfold fieldAddrK at h;split at h
 ·rename_i hf;obtain ⟨h1,h2⟩:=need_nat h;split at h2
  ·obtain ⟨h3,h4⟩:=need_nat h2;exact ⟨_,_,_,fun k'=>by simp only [fieldAddrK,hf,h1,h3],h4⟩
  ·obtain ⟨cs,h3,h4⟩:=asP_nat h2;exact ⟨_,_,_,fun k'=>by simp only [fieldAddrK,hf,h1,h3],h4⟩
  ·cases h2
 ·cases h
theorem fieldK_nat {T:TypeId} {f:Nat} {x:V} (h:fieldK P l k T f x=some r):Nat3 (fun k'=>fieldK P l k' T f x) k r:=by
 unfold fieldK at h;split at h
 ·rename_i hf;obtain ⟨v,h3,h4⟩:=ldC_nat h;exact ⟨_,_,_,fun k'=>by simp only [fieldK,hf,h3],h4⟩
 ·cases h
theorem indexAddrK_nat {T:TypeId} {x i:V} (h:indexAddrK P l k T x i=some r):Nat3 (fun k'=>indexAddrK P l k' T x i) k r:=by
 unfold indexAddrK at h;split at h
 ·rename_i h1 h2;split at h
  ·rename_i h3;split at h
   ·obtain ⟨n,cs,h4,h5⟩:=asSl_nat h;obtain ⟨h6,h7⟩:=need_nat h5;exact ⟨_,_,_,fun k'=>by simp only [indexAddrK,h1,h2,h3,h4,h6],h7⟩
   ·split at h
    ·rename_i hl;obtain ⟨h6,h7⟩:=need_nat h;exact ⟨_,_,_,fun k'=>by simp only [indexAddrK,h1,h2,h3,hl,h6],h7⟩
    ·cases h
   ·obtain ⟨h6,h7⟩:=need_nat h;exact ⟨_,_,_,fun k'=>by simp only [indexAddrK,h1,h2,h3,h6],h7⟩
   ·cases h
  ·cases h
 ·rename_i h1 h2;split at h
  ·rename_i h3;split at h
   ·obtain ⟨h6,h7⟩:=need_nat h;exact ⟨_,_,_,fun k'=>by simp only [indexAddrK,h1,h2,h3,h6],h7⟩
   ·obtain ⟨cs,h4,h5⟩:=asP_nat h;obtain ⟨h6,h7⟩:=need_nat h5;exact ⟨_,_,_,fun k'=>by simp only [indexAddrK,h1,h2,h3,h4,h6],h7⟩
   ·cases h
  ·cases h
 ·cases h
theorem indexK_nat {T:TypeId} {x i:V} (h:indexK P l k T x i=some r):Nat3 (fun k'=>indexK P l k' T x i) k r:=by
 unfold indexK at h;split at h
 ·rename_i h1 h2;split at h
  ·rename_i h3;split at h
   ·obtain ⟨h6,h7⟩:=need_nat h;obtain ⟨v,h8,h9⟩:=ldC_nat h7;exact ⟨_,_,_,fun k'=>by simp only [indexK,h1,h2,h3,h6,h8],h9⟩
   ·cases h
  ·cases h
 ·rename_i h1 h2;split at h
  ·obtain ⟨s,h3,h4⟩:=asS_nat h;obtain ⟨h6,h7⟩:=need_nat h4;exact ⟨_,_,_,fun k'=>by simp only [indexK,h1,h2,h3,h6],h7⟩
  ·cases h
 ·cases h
theorem extractK_nat {i:Nat} {x:V} (h:extractK l k i x=some r):Nat3 (fun k'=>extractK l k' i x) k r:=by
 unfold extractK at h;split at h
 ·split at h
  ·exact ⟨_,_,_,fun k'=>rfl,h⟩
  ·exact ⟨_,_,_,fun k'=>rfl,h⟩
  ·cases h
 ·split at h
  ·exact ⟨_,_,_,fun k'=>rfl,h⟩
  ·cases h
 ·split at h
  ·rename_i h1;exact ⟨_,_,_,fun k'=>by simp only [extractK,h1],h⟩
  ·cases h
 ·cases h
theorem capK_nat {T:TypeId} {x:V} (h:capK P l k T x=some r):Nat3 (fun k'=>capK P l k' T x) k r:=by
 unfold capK at h;split at h
 ·rename_i hT;exact ⟨_,_,_,fun k'=>by simp only [capK,hT],h⟩
 ·cases h
theorem lenK_nat {T:TypeId} {x:V} (h:lenK P l k T x=some r):Nat3 (fun k'=>lenK P l k' T x) k r:=by
 unfold lenK at h;split at h
 ·rename_i hT;obtain ⟨n,cs,h1,h2⟩:=asSl_nat h;exact ⟨_,_,_,fun k'=>by simp only [lenK,hT,h1],h2⟩
 ·rename_i hT;obtain ⟨s,h1,h2⟩:=asS_nat h;exact ⟨_,_,_,fun k'=>by simp only [lenK,hT,h1],h2⟩
 ·rename_i hT;split at h
  ·rename_i hl;exact ⟨_,_,_,fun k'=>by simp only [lenK,hT,hl],h⟩
  ·cases h
 ·rename_i hT;split at h
  ·rename_i hl;exact ⟨_,_,_,fun k'=>by simp only [lenK,hT,hl],h⟩
  ·rename_i hl;exact ⟨_,_,_,fun k'=>by simp only [lenK,hT,hl],h⟩
  ·cases h
 ·rename_i hT;split at h
  ·exact ⟨_,_,_,fun k'=>by simp only [lenK,hT],h⟩
  ·cases h
 ·rename_i hT;obtain ⟨h6,h7⟩:=need_nat h;exact ⟨_,_,_,fun k'=>by simp only [lenK,hT,h6],h7⟩
 ·rename_i hT;split at h
  ·rename_i hg;obtain ⟨h6,h7⟩:=need_nat h;exact ⟨_,_,_,fun k'=>by simp only [lenK,hT,hg,h6],h7⟩
  ·cases h
 ·rename_i x1 x2 n el hT;refine ⟨_,_,_,fun k'=> ?_,h⟩;cases x1<;>simp only [lenK,hT]
 ·cases h
theorem makeFuncK_nat {strict:Bool} {f:FuncId} {xs:List V} (h:makeFuncK P l k strict f xs=some r):Nat3 (fun k'=>makeFuncK P l k' strict f xs) k r:=by
 unfold makeFuncK at h;obtain ⟨ps,l',h1,h2⟩:=purL_nat h;obtain ⟨h3,h4⟩:=need_nat h2;exact ⟨_,_,_,fun k'=>by simp only [makeFuncK,h1,h3],h4⟩
theorem maxK_nat {lt:Bool} {xs:List V} (h:maxK l k lt xs=some r):Nat3 (fun k'=>maxK l k' lt xs) k r:=by
 unfold maxK at h;split at h
 ·obtain ⟨v,h1,h2⟩:=foldMax_nat h;exact ⟨_,_,_,fun k'=>by simp only [maxK,h1],h2⟩
 ·cases h
theorem appendK_nat {cf:Cfg} {T:TypeId} {s x:V} {d:Nat} (h:appendK cf T s x d l k=some r):Nat3 (fun k'=>appendK cf T s x d l k') k r:=by
 unfold appendK at h;split at h
 ·rename_i hT;split at h
  ·rename_i hi hz;obtain ⟨m,cs,h1,h2⟩:=newsK_nat h;split at h2
   ·obtain ⟨h3,h4⟩:=need_nat h2;exact ⟨_,_,_,fun k'=>by simp only [appendK,hT,hi,hz,h1,h3],h4⟩
   ·split at h2
    ·rename_i hl;obtain ⟨h3,h4⟩:=need_nat h2;exact ⟨_,_,_,fun k'=>by simp only [appendK,hT,hi,hz,h1,hl,h3],h4⟩
    ·rename_i hl;obtain ⟨h3,h4⟩:=need_nat h2;exact ⟨_,_,_,fun k'=>by simp only [appendK,hT,hi,hz,h1,hl,h3],h4⟩
    ·cases h2
   ·split at h2
    ·rename_i hl;obtain ⟨h3,h4⟩:=need_nat h2;obtain ⟨p,h5,h6⟩:=look_nat h4;cases p with
     |c c=>cases h6
     |r te row=>
      obtain ⟨h7,h8⟩:=need_nat h6;exact ⟨_,_,_,fun k'=>by simp only [appendK,hT,hi,hz,h1,hl,h3,h5,h7],h8⟩
    ·cases h2
   ·obtain ⟨n1,olds,h3,h4⟩:=newsK_nat h2;split at h4
    ·rename_i ho;obtain ⟨h5,h6⟩:=need_nat h4;exact ⟨_,_,_,fun k'=>by simp only [appendK,hT,hi,hz,h1,h3,ho,h5],h6⟩
    ·rename_i ho;obtain ⟨h5,h6⟩:=need_nat h4;exact ⟨_,_,_,fun k'=>by simp only [appendK,hT,hi,hz,h1,h3,ho,h5],h6⟩
   ·cases h2
  ·cases h
 ·cases h
theorem slice3K_nat {strict:Bool} {t:TypeId} {x:V} {lo hi m:Option V} (h:slice3K P l k strict t x lo hi m=some r):Nat3 (fun k'=>slice3K P l k' strict t x lo hi m) k r:=by
 unfold slice3K at h;split at h
 ·rename_i hT;split at h
  ·rename_i h1 h2 h3;obtain ⟨h4,h5⟩:=need_nat h;obtain ⟨cs,l',h6,h7⟩:=pur_nat h5;split at h7
   ·obtain ⟨n,cs',h8,h9⟩:=asSl_nat h7;obtain ⟨h10,h11⟩:=need_nat h9;exact ⟨_,_,_,fun k'=>by simp only [slice3K,hT,h1,h2,h3,h4,h6,h8,h10],h11⟩
   ·cases h7
  ·cases h
 ·cases h
theorem copyK_nat {T:TypeId} {x y:V} (h:copyK P l k T x y=some r):Nat3 (fun k'=>copyK P l k' T x y) k r:=by
 unfold copyK at h;split at h
 case h_2=>cases h
 rename_i hT;split at h
 case h_3=>cases h
 case h_2 hi=>
  obtain ⟨m,ds,hm,h⟩:=asSl_nat h;split at h
  case h_2=>cases h
  rename_i hl;split at h
  ·rename_i hz;exact ⟨_,_,_,fun k'=>by simp only [copyK,hT,hi,hm,hl,hz],h⟩
  ·rename_i hz;obtain ⟨h3,h4⟩:=need_nat h;exact ⟨_,_,_,fun k'=>by simp only [copyK,hT,hi,hm,hl,hz,h3],h4⟩
 rename_i hi;split at h
 case h_2=>cases h
 rename_i h1 h2;split at h
 ·rename_i hz;exact ⟨_,_,_,fun k'=>by simp only [copyK,hT,hi,h1,h2,hz],h⟩
 ·rename_i hz;split at h
  case h_2=>cases h
  rename_i hl;obtain ⟨h3,h4⟩:=need_nat h;have h1':=h1;rw [hl] at h1';exact ⟨_,_,_,fun k'=>by simp only [copyK,hT,hi,h1',h2,hz,hl,h3],h4⟩
theorem slice3D_nat {strict:Bool} {t:TypeId} {x:V} {lo hi m:Option V} (h:slice3D P l k strict t x lo hi m=some r):Nat3 (fun k'=>slice3D P l k' strict t x lo hi m) k r:=by
 cases strict with
 |false=>exact slice3K_nat h
 |true=>
  cases x with
  |c c=>exact slice3K_nat (show slice3K P l k true t (.c c) lo hi m=some r from h)
  |_=>cases h
theorem appMakeK_nat {P:Program} {T T':TypeId} {s x:V} {d:Nat} (h:appMakeK P l k T T' s x d=some r):Nat3 (fun k'=>appMakeK P l k' T T' s x d) k r:=by
 unfold appMakeK at h;split at h
 ·rename_i h1 h2 h3;split at h
  ·rename_i h4 h5;obtain ⟨h6,h7⟩:=need_nat h;exact ⟨_,_,_,fun k'=>by simp only [appMakeK,h1,h2,h3,h4,h5,h6],h7⟩
  ·cases h
 ·cases h
theorem takeK_nat {m d:Nat} {xo:List (Option TypeId)} {ty:TypeId} {v:V} {os:List Obj} {l:Loc} (h:takeK P m d xo ty v os l k=some r):Nat3 (fun k'=>takeK P m d xo ty v os l k') k r:=by
 unfold takeK at h;split at h
 ·rename_i ts hts;unfold rT at h;split at h
  ·obtain ⟨ys,l2,ks,h1,h2⟩:=takeL_nat h;exact ⟨_,_,_,fun k'=>by simp only [takeK,hts,rT,h1],h2⟩
  ·cases h
 ·rename_i hne;split at h
  ·rename_i cts h0;obtain ⟨zs,rfl,h⟩:=rG_eq h;obtain ⟨zs,l2,ks,h1,h2⟩:=takeM_nat h;refine ⟨_,_,_,fun k'=> ?_,h2⟩;simp only [takeK,h0,rG];exact h1 _
  ·rename_i hno;obtain ⟨y,i2,os2,l2,ks,h1,h2⟩:=take1_nat h;refine ⟨_,_,_,fun k'=> ?_,h2⟩;simp only [takeK,hno];exact h1 _
theorem lostK_nat {cf:Cfg} {strict:Bool} {xo:List (Option TypeId)} {ss:List Nat} {out:Out} {ty:TypeId} {dst:Option Nat} {l1:Loc} (h:lostK cf strict xo ss out ty dst l1 k=some r):Nat3 (fun k'=>lostK cf strict xo ss out ty dst l1 k') k r:=by
 unfold lostK at h;split at h
 case h_2=>cases h
 rename_i s q qs d;obtain ⟨o,rest,ho,h4⟩:=uncO_eq h;obtain ⟨x,l3,ks,h9,h10⟩:=takeK_nat h4;exact ⟨x,l3,ks,fun k'=>by simp only [lostK,ho,uncO];exact h9 k',h10⟩
theorem callK_nat {cf:Cfg} {strict:Bool} {hd:List Nat} {xo:List (Option TypeId)} {f:FuncId} {xs:List V} {ty:TypeId} {dst:Option Nat} (h:callK cf strict hd xo f xs ty dst l k=some r):Nat3 (fun k'=>callK cf strict hd xo f xs ty dst l k') k r:=by
 unfold callK at h;obtain ⟨ys,l1,ss,h1,h2⟩:=marsh_nat h;obtain ⟨h3,h4⟩:=need_nat h2;rw [Option.bind_eq_some_iff] at h4;obtain ⟨out,h5,h6⟩:=h4;cases hlost:lostB cf hd f with
 |true=>
  rw [hlost] at h6;obtain ⟨x,l3,ks,h9,h10⟩:=lostK_nat h6;exact ⟨x,l3,ks,fun k'=>by simp only [callK,h1,h3,h5,Option.bind_some,hlost];exact h9 k',h10⟩
 |false=>
 rw [hlost] at h6;obtain ⟨ro,l2,h7,h8⟩:=backK_nat h6;split at h8
 ·obtain ⟨x,l3,ks,h9,h10⟩:=takeK_nat h8;exact ⟨x,l3,ks,fun k'=>by simp only [callK,h1,h3,h5,Option.bind_some,hlost,h7];exact h9 k',h10⟩
 ·rename_i hne;obtain ⟨v,h9,h10⟩:=retK_nat h8;refine ⟨_,_,_,fun k'=> ?_,h10⟩;simp only [callK,h1,h3,h5,Option.bind_some,hlost,h7];exact h9 _
theorem rowBack_nat {te:TypeId} {row:List C} {fb:Bool} {os:List Obj} {kk:List C ->Option R} (h:rowBack te row fb os kk=some r): ∃cs,(∀{S:Type} (k':List C ->Option S),rowBack te row fb os k'=k' cs)/\kk cs=some r:=by
 unfold rowBack at h;obtain ⟨o,os',e0,h2⟩:=uncO_eq h;clear h;subst e0;split at h2
 ·rename_i te' fz cs;obtain ⟨h3,h4⟩:=need_nat h2;exact ⟨cs,fun k'=>by simp only [rowBack,uncO,h3],h4⟩
 ·cases h2
theorem rowCallK_nat {cf:Cfg} {f:FuncId} {s g j n:Nat} {rest:List V} {ty:TypeId} (h:rowCallK cf f s g j n rest ty l k=some r):Nat3 (fun k'=>rowCallK cf f s g j n rest ty l k') k r:=by
 unfold rowCallK at h;split at h
 case h_2=>cases h
 case h_1 hl=>
 obtain ⟨h1,h2⟩:=need_nat h;obtain ⟨p,h3,h4⟩:=look_nat h2;cases p with
 |c c=>cases h4
 |r te row=>
 obtain ⟨h5,h6⟩:=need_nat h4;rw [Option.bind_eq_some_iff] at h6;obtain ⟨out,h7,h8⟩:=h6;obtain ⟨cs,h9,h10⟩:=rowBack_nat h8;cases hfb:cf.fzb f with
 |false=>
  rw [hfb] at h9 h10;obtain ⟨v,h11,h12⟩:=retK_nat h10;exact ⟨_,_,_,fun k'=>by simp only [rowCallK,hl,h1,h3,h5,h7,Option.bind_some,hfb,h9,h11],h12⟩
 |true=>
  rw [hfb] at h9 h10
  dsimp only at h10
  split at h10
  ·obtain ⟨v,h11,h12⟩:=retK_nat h10;exact ⟨_,_,_,fun k'=>by simp only [rowCallK,hl,h1,h3,h5,h7,Option.bind_some,hfb,h9,h11],h12⟩
  ·cases h10
theorem callD_nat {cf:Cfg} {strict:Bool} {hd:List Nat} {xo:List (Option TypeId)} {f:FuncId} {xs:List V} {ty:TypeId} {dst:Option Nat} (h:callD cf strict hd xo f xs ty dst l k=some r):Nat3 (fun k'=>callD cf strict hd xo f xs ty dst l k') k r:=by
 unfold callD at h;split at h
 ·obtain ⟨v,l',ks,h1,h2⟩:=rowCallK_nat h;exact ⟨v,l',ks,fun k'=>by simp only [callD];exact h1 k',h2⟩
 ·rename_i hne;obtain ⟨v,l',ks,h1,h2⟩:=callK_nat h;refine ⟨v,l',ks,fun {S} k'=> ?_,h2⟩;have e:callD cf strict hd xo f xs ty dst l k'=callK cf strict hd xo f xs ty dst l k':=by
   unfold callD;split
   ·exact (hne _ _ _ _ _ rfl rfl).elim
   ·rfl
  exact e.trans (h1 k')
theorem yieldK_nat {P:Program} {strict:Bool} {n:Nat} {xs:List V} (h:yieldK P strict n xs l k=some r):Nat3 (fun k'=>yieldK P strict n xs l k') k r:=by
 unfold yieldK at h;split at h
 ·cases h
 obtain ⟨ys,l1,ss,h1,h2⟩:=marsh_nat h;cases ss with
 |cons s ss=>cases h2
 |nil=>
  cases hlog:l1.log with
  |none=>rw [hlog] at h2;cases h2
  |some lg=>
   rw [hlog] at h2;obtain ⟨h3,h4⟩:=need_nat h2;cases hrest:lg.rest with
   |nil=>rw [hrest] at h4;cases h4
   |cons x rest=>
    rw [hrest] at h4
    dsimp only at h4
    obtain ⟨h5,h6⟩:=need_nat h4;exact ⟨_,_,_,fun k'=>by simp only [yieldK,h1,hlog,h3,hrest,h5],h6⟩
theorem opK_nat {cf:Cfg} {strict:Bool} {o:Oper} {e:Operand ->V} (h:opK cf strict o e l k=some r):Nat3 (fun k'=>opK cf strict o e l k') k r:=by
 unfold opK at h;have fin: ∀{F:{S:Type}->(V ->Loc ->List Nat ->Option S)->Option S},Nat3 F k r ->(∀{S:Type} (k':V ->Loc ->List Nat ->Option S),opK cf strict o e l k'=F k')->Nat3 (fun k'=>opK cf strict o e l k') k r:=by
  intro F hF he;obtain ⟨x,l',ks,h1,h2⟩:=hF;exact ⟨x,l',ks,fun k'=>by simp only [he,h1],h2⟩
 split at h
 case h_1 x ho=>exact ⟨_,_,_,fun k'=>by simp only [opK,ho],h⟩
 case h_2 x ho=>exact ⟨_,_,_,fun k'=>by simp only [opK,ho],h⟩
 case h_3 c a b ho=>exact fin (pickK_nat h) fun k'=>by simp only [opK,ho]
 case h_4 t ho=>
  split at h
  case h_2=>cases h
  case h_1 d hd=>exact ⟨_,_,_,fun k'=>by simp only [opK,ho,hd],h⟩
 case h_5 t x ho=>
  split at h
  case h_2=>cases h
  case h_1 d hd=>exact fin (boxK_nat h) fun k'=>by simp only [opK,ho,hd]
 case h_6 t parts ho=>
  split at h
  ·rename_i hm;split at h
   ·exact fin (buildMx_nat h) fun k'=>by simp only [opK,ho,hm]
   ·cases h
  ·rename_i hm;exact fin (buildK_nat h) fun k'=>by simp only [opK,ho,hm]
 case h_7 t n parts ho=>
  split at h
  case h_2=>cases h
  case h_1 d hd=>exact fin (buildSliceD_nat h) fun k'=>by simp only [opK,ho,hd]
 case h_8 t a ho=>
  obtain ⟨h1,h2⟩:=need_nat h;exact fin (loadD_nat h2) fun k'=>by simp only [opK,ho,h1]
 case h_9 t a x ho=>exact fin (storeK_nat h) fun k'=>by simp only [opK,ho]
 case h_10 x ho=>exact fin (nilK_nat h) fun k'=>by simp only [opK,ho]
 case h_11 op t x y yt ho=>
  obtain ⟨v,h1,h2⟩:=binV_nat h;exact ⟨_,_,_,fun k'=>by simp only [opK,ho,h1],h2⟩
 case h_12 op t x ho=>
  obtain ⟨v,h1,h2⟩:=unV_nat h;exact ⟨_,_,_,fun k'=>by simp only [opK,ho,h1],h2⟩
 case h_13 src dst x ho=>
  obtain ⟨v,h1,h2⟩:=convV_nat h;exact ⟨_,_,_,fun k'=>by simp only [opK,ho,h1],h2⟩
 case h_14 fn first cap ho=>
  split at h
  case h_2=>cases h
  case h_1 f hf=>
   obtain ⟨h1,h2⟩:=need_nat h;exact fin (makeFuncK_nat h2) fun k'=>by simp only [opK,ho,hf,h1]
 case h_15 t q ho=>
  split at h
  case h_2=>cases h
  case h_1 d hd=>exact fin (makeMapK_nat h) fun k'=>by simp only [opK,ho,hd]
 case h_16 t x i ok ho=>
  split at h
  case h_2=>
   obtain ⟨x',h1,h2⟩:=lookupC_nat h;exact ⟨_,_,_,fun k'=>by simp only [opK,ho];exact h1 l k',h2⟩
  case h_1=>exact fin (lookupK_nat h) fun k'=>by simp only [opK,ho]
 case h_17 t x i v ho=>
  split at h
  case h_2=>cases h
  case h_1=>exact fin (mapUpdateK_nat h) fun k'=>by simp only [opK,ho]
 case h_18 t n c ho=>
  split at h
  case h_3=>cases h
  case h_2 d hd=>exact fin (makePureK_nat h) fun k'=>by simp only [opK,ho,hd]
  case h_1 d hd=>exact fin (makeSliceD_nat h) fun k'=>by simp only [opK,ho,hd]
 case h_19 t x lo hi mx ho=>
  split at h
  ·exact fin (slice3D_nat h) fun k'=>by simp only [opK,ho]
  ·exact fin (sliceK_nat h) fun k'=>by simp only [opK,ho]
 case h_20 T x f ho=>
  obtain ⟨h1,h2⟩:=need_nat h;exact fin (fieldAddrK_nat h2) fun k'=>by simp only [opK,ho,h1]
 case h_21 T x f ho=>exact fin (fieldK_nat h) fun k'=>by simp only [opK,ho]
 case h_22 T x i ho=>exact fin (indexAddrK_nat h) fun k'=>by simp only [opK,ho]
 case h_23 T x i ho=>exact fin (indexK_nat h) fun k'=>by simp only [opK,ho]
 case h_24 x i ho=>exact fin (extractK_nat h) fun k'=>by simp only [opK,ho]
 case h_25 c ho=>
  split at h
  case h_1 hc=>
   split at h
   case h_2=>cases h
   case h_1 x T ha hT=>exact fin (lenK_nat h) fun k'=>by simp only [opK,ho,hc,ha,hT]
  case h_2 hc=>
   split at h
   case h_2=>cases h
   case h_1 d s x T T' hd ha hT=>
    split at h
    case h_2=>cases h
    rename_i hk;cases hb:Nat.beq T T' with
    |false=>rw [hb] at h;exact fin (appMakeK_nat h) fun k'=>by simp only [opK,ho,hc,hd,ha,hT,hk,hb,cond_false]
    |true=>rw [hb] at h;exact fin (appendK_nat h) fun k'=>by simp only [opK,ho,hc,hd,ha,hT,hk,hb,cond_true]
  case h_3 hc=>
   split at h
   case h_2=>cases h
   case h_1 x T ha hT=>exact fin (capK_nat h) fun k'=>by simp only [opK,ho,hc,ha,hT]
  case h_4 hc=>
   split at h
   case h_2=>cases h
   case h_1 x y T T' ha hT=>exact fin (copyK_nat h) fun k'=>by simp only [opK,ho,hc,ha,hT]
  case h_5 hc=>exact fin (maxK_nat h) fun k'=>by simp only [opK,ho,hc]
  case h_6 hc=>exact fin (maxK_nat h) fun k'=>by simp only [opK,ho,hc]
  case h_7=>cases h
  case h_8=>cases h
  case h_9 f hc=>
   split at h
   case h_1 f'=>exact fin (callD_nat h) fun k'=>by simp only [opK,ho,hc]
   case h_2 hne=>
    split at h
    case h_2=>cases h
    case h_1 c' hx=>
     unfold asYF at h;split at h
     ·refine fin (callK_nat h) fun k'=> ?_;cases f with
      |func f''=>exact absurd rfl (hne f'')
      |_=>simp only [opK,ho,hc,hx,asYF]
     ·refine fin (yieldK_nat h) fun k'=> ?_;cases f with
      |func f''=>exact absurd rfl (hne f'')
      |_=>simp only [opK,ho,hc,hx,asYF]
     ·cases h
 case h_26=>cases h
end
end Go.PM
/- The pure machine: a region's operations, in the order of the text and in any order that its edges allow. -/
namespace Go.PM
open Go
variable {P:Program}
noncomputable def gop (cf:Cfg) (strict:Bool) (dsts:Nat ->Option Nat) (o:Oper) (σ:St):Option St:=
 match o.guard with
 |none=>opK cf (cf.str strict o) o (σ.ev cf.glob) σ.loc fun x l ks=>need (okKz (cf.stz strict o) (lz strict l) ks&&sepK cf strict o (σ.ev cf.glob)) (some (σ.after o.dst x l ks))
 |some (j,want)=>
  match dsts j with
  |none=>none
  |some d=>
   match σ.get d with
   | .c (.v (.bool q))=>bif q==want then opK cf (cf.str strict o) o (σ.ev cf.glob) σ.loc (fun x l ks=>need (okKz (cf.stz strict o) (lz strict l) ks&&sepK cf strict o (σ.ev cf.glob)) (some (σ.after o.dst x l ks))) else some (σ.after o.dst .un σ.loc [])
   | .un=>some (σ.after o.dst .un σ.loc [])
   |_=>none
noncomputable def runG (cf:Cfg) (strict:Bool) (dsts:Nat ->Option Nat):List Oper ->St ->Option St
 | [],σ=>some σ
 |o::os,σ=>(gop cf strict dsts o σ).bind (runG cf strict dsts os)
theorem set_get {l:Sl} {d:Nat} {x:V} (h:l.get d=x) (hx:x≠ .und):l.set d x=l:=by
 by_cases hd:d<l.length
 ·rw [Sl.get_lt hd] at h;cases l with
  |mk f n=>
   simp only [Sl.set]
   congr 1
   funext t
   cases e:Nat.beq t d
   ·rfl
   ·rw [Nat.eq_of_beq_eq_true e];exact h.symm
 ·rw [Sl.get_ge hd] at h;exact absurd h.symm hx
theorem put_get {σ:St} {d:Nat} {x:V} (h:σ.get d=x) (hx:x≠ .und):σ.put (some d) x σ.loc=σ:=by
 cases σ with
 |mk sl l=>simp only [St.put];rw [set_get h hx]
theorem opsK_ref {R:Type} {r:R} {cf:Cfg} {strict:Bool} {dsts:Nat ->Option Nat}: ∀{os:List Oper} {σ:St} {k:St ->Option R} (_:opsK cf strict dsts os σ k=some r),∃σ',runG cf strict dsts os σ=some σ'/\k σ'=some r
 | [],σ,k,h=>⟨σ,rfl,h⟩
 |o::os,σ,k,h=>by
  unfold opsK at h;have step: ∀{σ0:St},opK cf (cf.str strict o) o (σ0.ev cf.glob) σ0.loc (fun x l ks=>need (okKz (cf.stz strict o) (lz strict l) ks&&sepK cf strict o (σ0.ev cf.glob)) (opsK cf strict dsts os (σ0.after o.dst x l ks) k))=some r -> ∃σ1,opK cf (cf.str strict o) o (σ0.ev cf.glob) σ0.loc (fun x l ks=>need (okKz (cf.stz strict o) (lz strict l) ks&&sepK cf strict o (σ0.ev cf.glob)) (some (σ0.after o.dst x l ks)))=some σ1/\ ∃σ',runG cf strict dsts os σ1=some σ'/\k σ'=some r:=by
   intro σ0 h;obtain ⟨x,l',ks,h1,h2⟩:=opK_nat h;obtain ⟨h3,h4⟩:=need_some h2;exact ⟨_,(h1 _).trans (by rw [h3];rfl),opsK_ref h4⟩
  split at h
  ·rename_i hg;obtain ⟨σ1,h1,σ',h2,h3⟩:=step h;exact ⟨σ',by simp only [runG,gop,hg,h1,Option.bind_some];exact h2,h3⟩
  ·rename_i j want hg;split at h
   ·cases h
   ·rename_i d hd;split at h
    ·rename_i q hq;have hb: ∀b:Bool,σ.get d=B b ->σ.put (some d) (B b) σ.loc=σ:=fun b hb=>put_get hb (by simp);have yes:q=want ->opK cf (cf.str strict o) o (σ.ev cf.glob) σ.loc (fun x l ks=>need (okKz (cf.stz strict o) (lz strict l) ks&&sepK cf strict o (σ.ev cf.glob)) (opsK cf strict dsts os (σ.after o.dst x l ks) k))=some r -> ∃σ',runG cf strict dsts (o::os) σ=some σ'/\k σ'=some r:=by
      intro hqw h;obtain ⟨σ1,h1,σ',h2,h3⟩:=step h;refine ⟨σ', ?_,h3⟩;have:(q==want)=true:=by simp [hqw]
      simp only [runG,gop,hg,hd,hq,this,cond_true,h1,Option.bind_some];exact h2
     have no:q≠want ->opsK cf strict dsts os (σ.after o.dst .un σ.loc []) k=some r -> ∃σ',runG cf strict dsts (o::os) σ=some σ'/\k σ'=some r:=by
      intro hqw h;obtain ⟨σ',h2,h3⟩:=opsK_ref h;refine ⟨σ', ?_,h3⟩;have:(q==want)=false:=by simp [hqw]
      simp only [runG,gop,hg,hd,hq,this,cond_false,Option.bind_some];exact h2
     cases want<;>cases q<;>simp only [cond_true,cond_false] at h
     ·rw [hb false hq] at h;exact yes rfl h
     ·rw [hb true hq] at h;exact no (by simp) h
     ·rw [hb false hq] at h;exact no (by simp) h
     ·rw [hb true hq] at h;exact yes rfl h
    ·rename_i hq;obtain ⟨σ',h2,h3⟩:=opsK_ref h;exact ⟨σ',by simp only [runG,gop,hg,hd,hq,Option.bind_some];exact h2,h3⟩
    ·cases h
structure RelR (P:Program) (cf:Cfg) (A:Fr) (σ:St) (pend:Nat ->Prop) (a:Act) (w:World):Prop where
 ex: ∃E,E.w=w/\Rel P A E σ pend a
theorem okKz_ok {z:Bool×List Nat} {strict:Bool} {l:Loc} {ks:List Nat} (h:okKz z (lz strict l) ks=true):okKs l ks=true:=by
 have h1:=(Bool.and_eq_true_iff.1 h).1;cases strict with
 |false=>exact h1
 |true=>
  refine List.all_eq_true.2 fun s hs=> ?_;have h2:=List.all_eq_true.1 h1 s hs;rw [Bool.or_eq_true] at h2⊢;refine h2.elim .inl fun e=> ?_;cases e
theorem okKz_nil {al:List Nat} {l:Loc} {ks:List Nat} (h:okKz (true,al) l ks=true):ks=[]:=by
 cases ks with
 |nil=>rfl
 |cons s ks=>have:=(Bool.and_eq_true_iff.1 (Bool.and_eq_true_iff.1 h).2).1;cases this
theorem rv_ev {A:Fr} {E:Env} {σ:St} {pend:Nat ->Prop} {a:Act} {G:Nat ->Option (List C)} (hgl:GlobOk G A.w0 A.Pr0) (h:Rel P A E σ pend a) (y:Operand):RV P E σ.loc (σ.ev G y) (a.eval y):=by
 cases y with
 |tmp t=>
  by_cases ht:t<σ.slots.length
  ·exact h.slots t ht
  ·show RV P E σ.loc (σ.get t) _;have:σ.get t= .und:=Sl.get_ge ht;rw [this];exact .und
 |const x=>
  show RV P E σ.loc (constV x) x;unfold constV;split
  ·rename_i cs;split
   ·rename_i l hl;have:=RV.agg (P:=P) (E:=E) (l:=σ.loc) (us:=cs.toList) (constCs_rc hl);simpa using this
   ·exact .und
  ·split
   ·rename_i c hc;exact .c (constC_rc hc)
   ·exact .und
 |global g=>
  show RV P E σ.loc (match G g with|some cs=> .c (.cp cs)|none=> .und) _;cases hg:G g with
  |none=>exact .und
  |some cs=>exact .c ((hgl g cs hg).held h.good.pr0)
 |func f=>exact .c (.fn (us:=[]) rfl (by simp))
theorem gh_at {s k:Nat} (h:s<OUT):(V.gh (OUT+k)).at s=false:=by
 show Nat.beq (OUT+k) s=false;cases e:Nat.beq (OUT+k) s
 ·rfl
 ·have:=Nat.eq_of_beq_eq_true e;omega
theorem rel_after {A:Fr} {E:Env} {σ:St} {pend pend':Nat ->Prop} {a:Act} (h:Rel P A E σ pend a) {x:V} {l':Loc} {ks:List Nat} {u:Value} {w':World} {dst:Option Nat} (htm: ∀d,dst=some d ->A.tm d=none) (hks:okKs l' ks=true) (hup:Up P A E σ.loc pend' x l' ks u w'):
  ∃E',E'.w=w'/\Rel P A E' (σ.after dst x l' ks) pend' (a.put dst u):=by
 obtain ⟨E',h1,⟨h2,h2d⟩,h3,h4⟩:=hup;have hk: ∀(ks:List Nat) (sl:Sl),(killAll ks sl).length=sl.length:=by
  intro ks sl
  induction ks with
  |nil=>rfl
  |cons s ks ih=>simp only [killAll,List.foldr_cons,Sl.map_length];exact ih
 have hkg: ∀(ks:List Nat) (sl:Sl) (t:Nat) (v:Value),t<sl.length ->RV P E σ.loc (sl.get t) v -> ∃y,(killAll ks sl).get t=y/\RV P E σ.loc y v/\ ∀s∈ks,y.at s=false:=by
  intro ks sl t v ht hv
  induction ks with
  |nil=>exact ⟨_,rfl,hv,by simp⟩
  |cons s ks ih=>
   obtain ⟨y,e,hy,hat⟩:=ih;have hl:t<(killAll ks sl).length:=by rw [hk];exact ht
   refine ⟨y.kill s, ?_,hy.kill s,fun s' hs'=> ?_⟩
   ·show ((killAll ks sl).map (V.kill s)).get t=y.kill s;rw [Sl.map_lt hl,e]
   ·rcases List.mem_cons.1 hs' with rfl|hs'
    ·exact at_kill s' y
    ·unfold V.kill;cases y.at s
     ·exact hat s' hs'
     ·cases y<;>rfl
 have hloc:(σ.after dst x l' ks).loc=l':=by cases dst<;>rfl
 refine ⟨E',h1, ?_, ?_, ?_, ?_, ?_, ?_, ?_⟩
 ·rw [hloc];exact h2
 ·rw [hloc];intro t ht;have hlen:t<σ.slots.length:=by
   cases dst<;>simp [St.after,St.put,hk] at ht<;>exact ht
  have base: ∀v,RV P E σ.loc (σ.get t) v ->RV P E' l' ((killAll ks σ.slots).get t) v:=by
   intro v hv;obtain ⟨y,e,hy,hat⟩:=hkg ks σ.slots t v hlen hv;rw [e];exact h4 y v hy hat
  cases dst with
  |none=>exact base _ (h.slots t hlen)
  |some d=>
   by_cases hd:d=t
   ·subst hd;have hkl:d<(killAll ks σ.slots).length:=by rw [hk];exact hlen
    have e1:(σ.after (some d) x l' ks).get d=x:=Sl.set_self hkl;have hal:d<a.tmps.size:=by rw [h.size];exact hlen
    have e2:(a.put (some d) u).tmps.getD d undef=u:=by simp [Act.put,Array.getD,hal]
    rw [e1,e2];exact h3
   ·have e1:(σ.after (some d) x l' ks).get t=(killAll ks σ.slots).get t:=Sl.set_ne hd;have e2:(a.put (some d) u).tmps.getD t undef=a.tmps.getD t undef:=by
     simp only [Act.put,Array.getD,Array.size_setIfInBounds];by_cases hlt:t<a.tmps.size
     ·simp [hlt,Array.getElem_setIfInBounds_ne,hd]
     ·simp [hlt]
    rw [e1,e2];exact base _ (h.slots t hlen)
 ·cases dst<;>simp [Act.put,St.after,St.put,hk,h.size]
 ·rw [h2d];cases dst<;>exact h.defers
 ·intro t v hv;have:=h.tm t v hv;cases dst with
  |none=>exact this
  |some d=>
   have hd:d≠t:=fun e=>by subst e;rw [htm d rfl] at hv;cases hv
   have e2:(a.put (some d) u).tmps.getD t undef=a.tmps.getD t undef:=by
    simp only [Act.put,Array.getD,Array.size_setIfInBounds];by_cases hlt:t<a.tmps.size
    ·simp [hlt,Array.getElem_setIfInBounds_ne,hd]
    ·simp [hlt]
   rw [e2];exact this
 ·rw [<-h.len];cases dst<;>simp [St.after,St.put,hk]
 ·intro k g n hk';rw [hloc];by_cases hin:OUT+k∈ks
  ·have h5:=List.all_eq_true.1 hks _ hin;rw [Bool.or_eq_true] at h5;rcases h5 with h5|h5
   ·have:=Nat.le_of_ble_eq_true h5;omega
   ·refine .ghDead ?_
    revert h5
    cases l' (OUT+k)<;>intro h5<;>first|rfl|cases h5
  ·refine h4 _ _ (h.outs k g n hk') fun s hs=> ?_;show Nat.beq (OUT+k) s=false;cases e:Nat.beq (OUT+k) s
   ·rfl
   ·have e1:=Nat.eq_of_beq_eq_true e;rw [e1] at hin;exact absurd hs hin
end Go.PM
/- The pure machine: regions. -/
namespace Go.PM
open Go
variable {P:Program}
def EntR (P:Program) (A:Fr) (vv:V) (u:Value):Prop:=
 match vv with
 | .ent s n te=>s=OUT/\ ∃g cap size,A.outs 0=some (g,size)/\u= .slice (some ⟨g,0,none⟩) n cap/\n<=cap/\cap<=maxLen/\cap*szOf P te=size
 |v=>RI A.w0 A.Pr0 v u
def EntOk (P:Program) (cf:Cfg) (A:Fr):Prop:=
 ∀t kv vv,cf.ent=some (t,kv,vv)-> ∃(r bm since clock:Nat) (seen:Array Nat) (ms:Array MapEntry) (e:MapEntry),A.tm t=some (.pointer (some ⟨r,0,none⟩))/\(∀Y Pr lg w,A.jt.J Y Pr lg w ->Held A.w0 A.Pr0 w Pr ->w.heap[r]? =some (.mapIter (some bm) since (seen.push e.born) clock)/\mapAt w bm=some (ms,clock))/\
  e∈ms.toList/\(ms.toList.map (·.born)).Nodup/\RI A.w0 A.Pr0 kv e.key/\EntR P A vv e.val
theorem RI.held {w w':World} {Pr Pr':Nat ->Nat ->Prop} (hx:Held w Pr w' Pr') {v:V} {u:Value} (h:RI w Pr v u):RI w' Pr' v u:=by
 cases h with
 |c h=>exact .c (h.held hx)
 |agg h=>exact .agg (h.held hx)
theorem RI.rv {E:Env} {l:Loc} {v:V} {u:Value} (h:RI E.w E.Pr v u):RV P E l v u:=by
 cases h with
 |c h=>exact .c h
 |agg h=>exact .agg h
theorem EntR.run {A:Fr} {vv:V} {u:Value} (h:EntR P A vv u) {E:Env} {σ:St} {pend:Nat ->Prop} {a:Act} (hr:Rel P A E σ pend a):EntV P E σ.loc vv u:=by
 unfold EntR at h;unfold EntV;split at h
 ·rename_i s n te;obtain ⟨rfl,g,cap,size,h1,rfl,h3,h4,h5⟩:=h;intro fz cs hl;have h6:=hr.outs 0 g size h1;rw [Nat.add_zero] at h6;generalize hv:ghv g size=v at h6;cases h6 with
  |ghDead hd=>rw [hl] at hd;cases hd
  | @gh _ g2 n2 h7 h8=>
   simp only [ghv,Value.tuple.injEq] at hv;simp at hv;obtain ⟨e1,e2⟩:=hv;have e1:g=g2:=by omega
   have e2:size=n2:=by omega
   subst e1 e2;exact .own h7 (by rw [hl];rfl) h3 h4 (by rw [h8,Nat.zero_add];exact h5)
 ·rename_i hne;have:=(h.held hr.good.pr0).rv (P:=P) (l:=σ.loc);cases vv<;>first|exact this|exact absurd rfl (hne _ _ _)
theorem EntOk.run {cf:Cfg} {A:Fr} (h:EntOk P cf A) {E:Env} {σ:St} {pend:Nat ->Prop} {a:Act} (hr:Rel P A E σ pend a): ∀t kv vv,cf.ent=some (t,kv,vv)-> ∃ku vu,(Instr.entry (a.eval (.tmp t))).run P E.w= .ok (.tuple #[ku,vu]) E.w/\RV P E σ.loc kv ku/\EntV P E σ.loc vv vu:=by
 intro t kv vv he;obtain ⟨r,bm,since,clock,seen,ms,e,h1,h2,h5,h6,h7,h8⟩:=h t kv vv he;have hx:=hr.good.pr0;have e1:a.eval (.tmp t)= .pointer (some ⟨r,0,none⟩):=hr.tm t _ h1;have e2:=h2 _ _ _ _ hr.good.jf hx;have e3:E.w.heap[bm]? =some (.map ms clock):=mapAt_map.1 e2.2;refine ⟨e.key,e.val, ?_,(h7.held hx).rv,h8.run hr⟩;rw [e1];exact run_entry_at E.w r bm since seen ms clock e e2.1 e3 h5 h6
structure CfgOk (P:Program) (cf:Cfg) (A:Fr):Prop where
 hP:cf.P=P
 con: ∀f args objs out,cf.call f args objs=some out ->ConAt P cf.glob f args objs out
 fn : ∀ f args objs out, cf.call f args objs = some out -> ∃ fn, P.funcs[f]? = some fn /\ fn.body ≠ none /\ (fn.name == "runtime.NumGoroutine") = false
 mixed:P.follows .mixedOrders=true
 iter: ∀f caps xs,cf.iter f caps=some xs -> ∀l go,∃out lg,cf.call f (.c (.yl l go xs)::caps.map .c) []=some out/\out.log=some lg/\(lg.st=true\/lg.rest=[])
 gl:GlobOk cf.glob A.w0 A.Pr0
 ent:EntOk P cf A
def FW (ro:Option Nat):Fence:={Fence.wide with round:=ro}
def doOp (ro:Option Nat) (P:Program) (o:Oper) (b:Bool) (a:Act) (w:World) (K:Act ->World ->Prop) (Q:Exit ->Act ->World ->Prop):Prop:=
 if b then o.wpIn (FW ro) 0 P a w K Q else (∀f,o.about P w a.eval=some f ->(FW ro).fn f)/\K (a.put o.dst undef) w
theorem gives_wp {ro:Option Nat} {o:Oper} {a:Act} {w:World} {Φ:Value ->World ->Prop} {K:Act ->World ->Prop} {Q:Exit ->Act ->World ->Prop} (hnd: ∀c,o.op≠ .defer c)
  (h:Gives P ((execOp a.eval o).run P w) Φ) (hK: ∀u w',Φ u w' ->K (a.put o.dst u) w'):o.wpIn (FW ro) 0 P a w K Q:=by
 unfold Oper.wpIn;refine ⟨fun _ _=>trivial, ?_⟩;rw [Oper.semAt_eq (FW ro).round a.eval o hnd];generalize (execOp a.eval o).run P w=r at h⊢;cases r with
 |ok n w'=>
  cases n with
  |value u=>exact hK _ _ h
  |skip=>exact hK _ _ h
  |enter f args=>
   have h1:CallsIn (FW ro) 0 P f args w' (fun e w''=> ∃u,e= .returned u/\Φ u w''):=callsIn_wide.2 h;refine ⟨fun e=>(by cases e),CallsIn.mono h1 fun e w'' he=> ?_⟩;obtain ⟨u,rfl,hu⟩:=he;exact hK _ _ hu
  |round l f tmps assign body=>
   have h1:RoundIn (FW ro) 0 P l f tmps assign body w' (fun e w''=> ∃u,e= .returned u/\Φ u w''):=h;refine ⟨fun e=>(by cases e),RoundIn.mono h1 fun e w'' he=> ?_⟩;obtain ⟨u,rfl,hu⟩:=he;exact hK _ _ hu
  |_=>exact h.elim
 |halt x w'=>exact h.elim
theorem opK_nodefer {cf:Cfg} {strict:Bool} {o:Oper} {e:Operand ->V} {l:Loc} {R:Type} {k:V ->Loc ->List Nat ->Option R} {r:R} (h:opK cf strict o e l k=some r) (c:Call):o.op≠ .defer c:=by
 intro ho;unfold opK at h;rw [ho] at h;cases h
section
variable {cf:Cfg} {strict:Bool} {ops:Array Oper} {A:Fr} {Q:Exit ->Act ->World ->Prop}
structure Fixed (A:Fr) (ops:Array Oper):Prop where
 pt: ∀(i:Nat) (o:Oper) (t:TypeId) (d:Nat),ops[i]? =some o ->o.op= .alloc t ->o.dst=some d ->A.pt d=t
 gd: ∀(i:Nat) (o:Oper),ops[i]? =some o ->isAlloc o=true ->o.guard=none
theorem gop_step {ro:Option Nat} (hc:CfgOk P cf A) {o:Oper} (hgd:isAlloc o=true ->o.guard=none) (hpt: ∀t d,o.op= .alloc t ->o.dst=some d ->A.pt d=t) {E:Env} {σ:St} {pend:Nat ->Prop} {a:Act} (h:Rel P A E σ pend a)
  (htm: ∀d,o.dst=some d ->A.tm d=none) (hal:isAlloc o=true -> ∀d,o.dst=some d ->pend d) (hnd:isAlloc o=false -> ∀d,o.dst=some d -> ¬pend d) {σ1:St}
  (hg:gop cf strict (fun j=>(ops[j]?).bind (·.dst)) o σ=some σ1) {K:Act ->World ->Prop} (hK: ∀E' a',Rel P A E' σ1 (pendAfter pend o) a' ->K a' E'.w):
  doOp ro P o (Region.wanted o (yielded ops a.tmps)) a E.w K Q:=by
 have run:Region.wanted o (yielded ops a.tmps)=true ->opK cf (cf.str strict o) o (σ.ev cf.glob) σ.loc (fun x l ks=>need (okKz (cf.stz strict o) (lz strict l) ks&&sepK cf strict o (σ.ev cf.glob)) (some (σ.after o.dst x l ks)))=some σ1 ->doOp ro P o (Region.wanted o (yielded ops a.tmps)) a E.w K Q:=by
  intro hw hk;unfold doOp;rw [if_pos hw];obtain ⟨x,l',ks,h1,h2⟩:=opK_sound (P:=P) (ρ:=a.eval) h.good hc.hP hc.con (hc.gl.held h.good.pr0) hc.fn (fun y _=>rv_ev hc.gl h y) (fun f=>rfl)
   (fun t d ho hd=>⟨hal (by simp [isAlloc,ho]) d hd,hpt t d ho hd⟩) hnd (hc.ent.run h) hk
  refine gives_wp (opK_nodefer hk) h2 fun u w' hu=> ?_;obtain ⟨hks,h1⟩:=need_some h1;obtain ⟨E',e1,h3⟩:=rel_after (dst:=o.dst) h htm (okKz_ok (Bool.and_eq_true_iff.1 hks).1) hu;injection h1 with h1
  rw [h1] at h3;rw [<-e1];exact hK E' _ h3
 have idle:isAlloc o=false ->Region.wanted o (yielded ops a.tmps)=false ->some (σ.after o.dst .un σ.loc [])=some σ1 ->doOp ro P o (Region.wanted o (yielded ops a.tmps)) a E.w K Q:=by
  intro hna hw hk;unfold doOp;rw [if_neg (by simp [hw])];refine ⟨fun _ _=>trivial, ?_⟩;obtain ⟨E',e1,h3⟩:=rel_after (dst:=o.dst) (x:= .un) (l':=σ.loc) (ks:=[]) (u:=undef) (w':=E.w) (pend':=pend) h htm rfl ⟨E,rfl,⟨h.good,rfl⟩, .un,fun _ _ h _=>h⟩;injection hk with hk
  rw [hk] at h3;rw [<-e1];refine hK E' _ ?_;rw [pendAfter_eq hna];exact h3
 unfold gop at hg;split at hg
 ·rename_i hn;exact run (by simp [Region.wanted,hn]) hg
 ·rename_i j want hj;have hna:isAlloc o=false:=by
   cases e:isAlloc o
   ·rfl
   ·rw [hgd e] at hj;cases hj
  split at hg
  ·cases hg
  ·rename_i d hd;have hd':(ops[j]?).bind (·.dst)=some d:=hd;have hr:=rv_ev hc.gl h (.tmp d);split at hg
   ·rename_i q hq;have hv:a.tmps.getD d undef= .bool q:=by
     have:RV P E σ.loc (σ.get d) (a.tmps.getD d undef):=hr;rw [hq] at this;generalize a.tmps.getD d undef=u at this⊢;cases this with
     |c h=>cases h;rfl
    have hy:yielded ops a.tmps j=some q:=by
     unfold yielded;rw [hd'];by_cases hlt:d<a.tmps.size
     ·have e:a.tmps[d]= .bool q:=by simpa [Array.getD,hlt] using hv
      simp [hlt,e]
     ·simp [Array.getD,hlt,undef] at hv
    cases hb:(q==want)
    ·rw [hb] at hg;refine idle hna ?_ hg;unfold Region.wanted;rw [hj];simp only [hy];simpa using hb
    ·rw [hb] at hg;refine run ?_ hg;unfold Region.wanted;rw [hj];simp only [hy];simpa using hb
   ·rename_i hq;have hv:a.tmps.getD d undef=undef:=by
     have:RV P E σ.loc (σ.get d) (a.tmps.getD d undef):=hr;rw [hq] at this;generalize a.tmps.getD d undef=u at this⊢;cases this;rfl
    have hy:yielded ops a.tmps j=none:=by
     unfold yielded;rw [hd'];by_cases hlt:d<a.tmps.size
     ·have e:a.tmps[d]=undef:=by simpa [Array.getD,hlt] using hv
      simp [hlt,e,undef]
     ·simp [hlt]
    refine idle hna ?_ hg;unfold Region.wanted;rw [hj];simp [hy]
   ·cases hg
theorem Good.pend {E:Env} {l:Loc} {pend:Nat ->Prop} (h:Good P A E l pend) {d:Nat} {t:TypeId} {cs:List C} (hd:l d= .dead) (hp: ¬pend d) (ht:A.pt d=t) (hz:zeroCs P t=some cs)
  (href: ∀s',∀x∈(l s').refs,x.at d=false):Good P A E (l.put d (.ob t 0 cs)) (fun s=>pend s\/s=d):=by
 have hr:E.rho d=none:=by
  have:=h.obj d hp;rw [hd] at this;cases this;assumption
 refine ⟨fun s hs=> ?_,fun s hs=> ?_,h.inj,h.base,fun b k hb=>⟨(h.prot b k hb).1,fun s hs=> ?_⟩,h.jf,h.pr0,h.prN,h.size,h.os,h.tape,h.output,h.dr,h.yok,h.yown,h.ylt,h.dm,h.rbo⟩
 ·have hne:s≠d:=fun e=>hs (.inr e);rw [put_other _ _ hne];refine (h.obj s fun e=>hs (.inl e)).keep (.refl _ _) rfl rfl (fun _ _=>rfl) fun x u hm hv=> ?_;refine hv.mono (fun s=>s=d) (.refl _ _) (fun s' hne'=> ?_) (fun s' e=>by subst e;exact href s x hm);by_cases hd':l s'= .dead
  ·exact .inl (by rw [put_other _ _ hne'];exact hd')
  ·exact .inr ⟨hd',rfl,rfl, .same (put_other _ _ hne'), .same (put_other _ _ hne')⟩
 ·by_cases e:s=d
  ·subst e;exact ⟨hr,cs,by rw [ht];exact hz,by rw [put_same,ht]⟩
  ·rw [put_other _ _ e];exact h.pnd s (hs.resolve_right e)
 ·have hne:s≠d:=fun e=>by rw [e,hr] at hs;cases hs
  rw [put_other _ _ hne];exact (h.prot b k hb).2 s hs
theorem any_beq {d:Nat} {l:List Nat}:l.any (Nat.beq d)=true↔d∈l:=by
 rw [List.any_eq_true];constructor
 ·rintro ⟨x,hx,e⟩;rw [Nat.eq_of_beq_eq_true e];exact hx
 ·exact fun h=>⟨d,h,Nat.beq_refl d⟩
theorem allocDsts_cons (o:Oper) (os:List Oper):allocDsts (o::os)=(match allocDst o with|some d=>d::allocDsts os|none=>allocDsts os):=by
 simp only [allocDsts,List.filterMap_cons];cases allocDst o<;>rfl
theorem allocs_sound: ∀(os:List Oper) {E:Env} {σ:St} {pend:Nat ->Prop} {a:Act} {σ1:St} (_:Rel P A E σ pend a) (_: ∀d∈allocDsts os,¬pend d) (_:nodupB (allocDsts os)=true)
  (_: ∀o∈os,∀t d,o.op= .alloc t ->o.dst=some d ->A.pt d=t) (_:allocs P os σ=some σ1),
  ∃E',E'.w=E.w/\Rel P A E' σ1 (fun s=>pend s\/s∈allocDsts os) a/\ ∀o∈os,isAlloc o=true ->o.guard=none
 | [],E,σ,pend,a,σ1,h,_,_,_,hk=>by
  injection hk with hk
  subst hk;refine ⟨E,rfl, ?_,by simp⟩;have:(fun s=>pend s\/s∈allocDsts [])=pend:=by funext s;simp [allocDsts]
  rw [this];exact h
 |o::os,E,σ,pend,a,σ1,h,hp,hn,hpt,hk=>by
  rw [allocDsts_cons] at hp hn⊢;unfold allocs at hk;split at hk
  case h_1 t d ho hd hgd=>
   have e1:allocDst o=some d:=by simp [allocDst,isAlloc,ho,hd]
   rw [e1] at hp hn⊢;simp only [nodupB,Bool.and_eq_true,Bool.not_eq_true'] at hn;have hnd:d∉allocDsts os:=fun e=>by have:=any_beq.2 e;rw [hn.1] at this;cases this
   split at hk
   case h_2=>cases hk
   case h_1 zs hz=>
    obtain ⟨hlt,hk⟩:=need_some hk;have hlt:d<OUT:=Nat.le_of_ble_eq_true hlt;have hG:=h.good.kill (hp d (by simp));have hG2:=hG.pend (d:=d) (t:=t) (cs:=zs) (by simp [Loc.kill]) (hp d (by simp)) (hpt o (by simp) t d ho hd) hz (kill_ref d σ.loc);have h2:Rel P A (E.kill σ.loc d) ⟨σ.slots.map (V.kill d),(σ.loc.kill d).put d (.ob t 0 zs)⟩ (fun s=>pend s\/s=d) a:=by
     refine ⟨hG2,fun t' ht'=> ?_,by rw [h.size];simp,h.defers,h.tm,by rw [<-h.len];simp,fun k g n hk'=> ?_⟩
     ·have hlt:t'<σ.slots.length:=by simpa using ht'
      have e:St.get ⟨σ.slots.map (V.kill d),(σ.loc.kill d).put d (.ob t 0 zs)⟩ t'=(σ.get t').kill d:=Sl.map_lt hlt;rw [e];have r1:RV P (E.kill σ.loc d) (σ.loc.kill d) ((σ.get t').kill d) (a.tmps.getD t' undef):=RV.mono0 (E:=E) (l:=σ.loc) (E':=E.kill σ.loc d) (l':=σ.loc.kill d) (.refl _ _) (fun s=> .kill E σ.loc d s) ((h.slots t' hlt).kill d);refine r1.mono (fun s=>s=d) (.refl _ _) (fun s' hne'=> ?_) (fun s' e=>by subst e;exact at_kill _ _);by_cases hd':σ.loc.kill d s'= .dead
      ·exact .inl (by simp only;rw [put_other _ _ hne'];exact hd')
      ·exact .inr ⟨hd',rfl,rfl, .same (put_other _ _ hne'), .same (put_other _ _ hne')⟩
     ·have r1:RV P (E.kill σ.loc d) (σ.loc.kill d) (.gh (OUT+k)) (ghv g n):=RV.mono0 (E:=E) (l:=σ.loc) (E':=E.kill σ.loc d) (l':=σ.loc.kill d) (.refl _ _) (fun s=> .kill E σ.loc d s) (h.outs k g n hk');refine r1.mono (fun s=>s=d) (.refl _ _) (fun s' hne'=> ?_) (fun s' e=>by subst e;exact gh_at hlt);by_cases hd':σ.loc.kill d s'= .dead
      ·exact .inl (by simp only;rw [put_other _ _ hne'];exact hd')
      ·exact .inr ⟨hd',rfl,rfl, .same (put_other _ _ hne'), .same (put_other _ _ hne')⟩
    obtain ⟨E',g1,g2,g3⟩:=allocs_sound os h2 (fun d' hd' e=>by
     rcases e with e|e
     ·exact hp d' (List.mem_cons_of_mem _ hd') e
     ·subst e;exact hnd hd') hn.2 (fun o ho=>hpt o (List.mem_cons_of_mem _ ho)) hk
    refine ⟨E',g1, ?_,fun o' ho' hi'=> ?_⟩
    ·have:(fun s=>pend s\/s∈d::allocDsts os)=(fun s=>(pend s\/s=d)\/s∈allocDsts os):=by funext s;simp [or_assoc]
     rw [this];exact g2
    ·rcases List.mem_cons.1 ho' with rfl|ho'
     ·exact hgd
     ·exact g3 o' ho' hi'
  case h_2=>cases hk
  case h_3 hne1 hne2=>
   have hna:isAlloc o=false:=by
    unfold isAlloc;split
    ·rename_i t ho;exact (hne1 t ho).elim
    ·rfl
   have e1:allocDst o=none:=by simp [allocDst,hna]
   rw [e1] at hp hn⊢;obtain ⟨E',g1,g2,g3⟩:=allocs_sound os h hp hn (fun o ho=>hpt o (List.mem_cons_of_mem _ ho)) hk;refine ⟨E',g1,g2,fun o' ho' hi'=> ?_⟩;rcases List.mem_cons.1 ho' with rfl|ho'
   ·rw [hna] at hi';cases hi'
   ·exact g3 o' ho' hi'
end
end Go.PM
