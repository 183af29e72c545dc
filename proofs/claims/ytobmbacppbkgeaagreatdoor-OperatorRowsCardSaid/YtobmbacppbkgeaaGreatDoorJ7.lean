/- Parts put together: W, Ga, Gb, Gc, Gd, Ge, Gf, Gg, Gh, Gi, Gj, Gk, Gl, Oa, Ob, Oc, Od, Oe, Of, Og, Oh, Oi, Gm, Oj, Ra, H, Ha, Hb, Hc, Hd, He, Hf, Hg, PPe, Hh. -/
import Derived.Test.YtobmbacppbkgeaaGreatDoorJ5
import Derived.Test.YtobmbacppbkgeaaGreatDoorEq
import Derived.Test.YtobmbacppbkgeaaGreatDoorJ6
import Derived.Deep.Slices
set_option linter.constructorNameAsVariable false
set_option linter.defProp false
set_option linter.unusedSimpArgs false
set_option linter.unusedVariables false
open Int renaming tmod→Zq0,tdiv→Zqz,ofNat_le→Zr9,lt_tmod_of_pos→Zsl,tmod_lt_of_pos→Zsm
open Go.IntKind renaming i64→Zqu
open List renaming take→Zqy,replicate→Zrq,drop→Zqx,range→Zq6,pairwise_cons→Zrt,mem_filter→Zru,mem_map→Zrv,range_succ→Zrw,mem_cons→Zrx,foldl→Zry,mem_range→Zrz,mem_flatMap→Zr0,length_filter_le→Zr1,Pairwise→Zr4,filter_append→Zr5,filter_nil→Zr6,flatMap_append→Zr7,length_append→Zr8,mem_singleton→Zsd,not_mem_nil→Zsf,sum_nil→Zsi,getElem_cons_zero→Zsk
open Nat renaming mod_lt→Zrr,beq→Zqv,add_mul→Zrb,mul_comm→Zrs,ble→Zqw,mod_le→Zr2,dvd_mul_left→Zr3,div_add_mod→Zsa,dvd_add→Zsb,dvd_refl→Zsc,dvd_of_mod_eq_zero→Zse,mul_le_mul_right→Zsg,le_of_lt→Zsh,mul_lt_mul_of_pos_right→Zsj,div_lt_of_lt_mul→Zsn
namespace Go.PM
open Go
theorem Qp {x:Int} (h1: -9223372036854775808<=x) (h2:x<=9223372036854775807):Zqu.wrap x=x:=IntWalk.i64_in x ⟨by omega,by omega⟩
theorem Zlm {a b:Int} (h:a<b):decide (a<b)=true:=decide_eq_true h
theorem Zln {a b:Int} (h:b<=a):decide (a<b)=false:=decide_eq_false (by omega)
theorem Zlo {a b:Int} (h:a<=b):decide (a<=b)=true:=decide_eq_true h
theorem dle_f {a b:Int} (h:b<a):decide (a<=b)=false:=decide_eq_false (by omega)
theorem dgt_t {a b:Int} (h:b<a):decide (a>b)=true:=decide_eq_true h
theorem dgt_f {a b:Int} (h:a<=b):decide (a>b)=false:=decide_eq_false (by omega)
theorem dge_t {a b:Int} (h:b<=a):decide (a≥b)=true:=decide_eq_true h
theorem dge_f {a b:Int} (h:a<b):decide (a≥b)=false:=decide_eq_false (by omega)
theorem Zc0 {a b:Int} (h:a=b):(a==b)=true:=beq_iff_eq.2 h
theorem V1 {a b:Int} (h:a≠b):(a==b)=false:=beq_eq_false_iff_ne.2 h
theorem Zmf {a b:Int} (h:a≠b):(a !=b)=true:=bne_iff_ne.2 h
theorem Zc1 {a b:Int} (h:a=b):(a !=b)=false:=by subst h;simp
def fl {A:Type} (e:A->List C) (l:List A):List C:=l.flatMap e
section
variable {A:Type} {e:A->List C} {m:Nat}
@[simp] theorem Zc2:fl e []=[]:=rfl
theorem U2 (x:A) (l:List A):fl e (x::l)=e x++fl e l:=by simp[fl]
theorem Na (l l':List A):fl e (l++l')=fl e l++fl e l':=by simp[fl]
theorem Nb (l:List A) (x:A):fl e l++e x=fl e (l++[x]):=by simp[fl]
theorem Ze (h: ∀x,(e x).length=m): ∀l:List A,(fl e l).length=l.length*m
 | []=>by simp[fl]
 |x::l=>by rw[U2,Znb,h,Ze h l,Zms,Zot];omega
theorem An (h: ∀x,(e x).length=m): ∀(k:Nat) (l:List A),(fl e l).drop (k*m)=fl e (l.drop k)
 |0,l=>by simp
 |k+1,[]=>by simp[fl]
 |k+1,x::l=>by
  rw[U2,Zot,Zo9,List.drop_append];rw[show(e x).drop (m+k*m)=[] from List.drop_eq_nil_of_le (by rw[h];omega),h,Zps,Zmz,An h k l];rfl
theorem Zef (h: ∀x,(e x).length=m): ∀(k:Nat) (l:List A),(fl e l).take (k*m)=fl e (l.take k)
 |0,l=>by simp
 |k+1,[]=>by simp[fl]
 |k+1,x::l=>by
  rw[U2,Zot,Zo9,Zpi];rw[Zm1 (by rw[h];omega),h,Zps,Zef h k l,Zn4,U2]
theorem Zy (h: ∀x,(e x).length=m) {k:Nat} {l:List A} (hk:k<l.length):(fl e l).drop (k*m)=e l[k]++fl e (l.drop (k+1)):=by
 rw[An h,Zof hk,U2]
end
theorem Yf (P:Nat->Prop) [DecidablePred P] (n:Nat):(∀j,j<n-> ¬P j)\/ ∃k,k<n/\P k/\ ∀j,j<k-> ¬P j:=by
 induction n with
 |zero=>left;intro j hj;omega
 |succ n ih=>
  rcases ih with ih|⟨k,h1,h2,h3⟩
  ·by_cases h:P n
   ·exact .inr ⟨n,by omega,h,ih⟩
   ·left;intro j hj;by_cases e:j=n
    ·subst e;exact h
    ·exact ih j (by omega)
  ·exact .inr ⟨k,by omega,h2,h3⟩
theorem Zh {A:Type} {body:A->Option (Nat×A)} {x:A} {fu:Nat} (f:Nat->A) (e:Nat) (z:A) (k:Nat) (hx:x=f 0) (h: ∀j,j<k->body (f j)=some (0,f (j+1))) (he:body (f k)=some (e+1,z)) (hf:k<fu):iter body fu x=some (e,z):=by
 rw[hx];exact L0 f e z k 0 fu (λj _ hj=>h j (by omega)) (by rw[Zmt];exact he) hf
theorem Zc3 {A:Type} {body:A->Option (Nat×A)} {x:A} {fu:Nat} (J:A->Prop) (m:A->Nat) (e:Nat) (z:A) (hx:J x) (hm:m x<fu) (h: ∀y,J y->(∃y',body y=some (0,y')/\J y'/\m y'<m y)\/body y=some (e+1,z)):iter body fu x=some (e,z):=by
 obtain⟨e',z',h1,h2,h3⟩:=Ch (body:=body) J m (λe' z'=>e'=e/\z'=z) (λy hy=>(h y hy).imp id λhh=>⟨e,z,hh,rfl,rfl⟩) fu x hx hm;rw[h1,h2,h3]
theorem Yz {A:Type} (body:A->Option (Nat×A)) (n:Nat) (x:A):iter body (n+1) x=(body x).bind λp=>natD p.1 (iter body n p.2) λm=>some (m,p.2):=by
 simp only[iter]
 congr 1
def QM:=And.intro @obs (And.intro @Zcx (And.intro @Zil (And.intro @Zim (And.intro @Zl9 (And.intro @Zma (And.intro @rS_sb (And.intro @rF_sb (And.intro @Cg (And.intro @Q7 (And.intro @Zar (And.intro @Fw (And.intro @rN_ob (And.intro @Tu (And.intro @T9 (And.intro @Zin (And.intro @Fx (And.intro @Lz (And.intro @Zec (And.intro @Zkc (And.intro @Zmb (And.intro @K1 (And.intro @Zcy (And.intro @Xg (And.intro @ct (And.intro @cf (And.intro @bd_eq (And.intro @Zf2 (And.intro @Zf3 (And.intro @Zio (And.intro @Zmc (And.intro @Zkd (And.intro @Zke (And.intro @Zkf (And.intro @Zkg (And.intro @Bool.and_true (And.intro @Bool.true_and (And.intro @Bool.and_self (And.intro @Q8 (And.intro @Bool.not_true (And.intro @Bool.not_false (And.intro @Bool.and_false (And.intro @Bool.false_and (And.intro @Bool.or_false (And.intro @Bool.false_or (And.intro @Bool.or_true @Bool.true_or)))))))))))))))))))))))))))))))))))))))))))))
def QD:=And.intro @Qp (And.intro @Zlm (And.intro @Zln (And.intro @Zlo (And.intro @dle_f (And.intro @dgt_t (And.intro @dgt_f (And.intro @dge_t (And.intro @dge_f (And.intro @Zc0 (And.intro @V1 (And.intro @Zmf (And.intro @Zc1 (And.intro @Zkj (And.intro @Zkh @Zki))))))))))))))
end Go.PM
namespace Go.Grid
structure Pl where
 f:Nat
 a:Nat
 b:Nat
 c:Nat
 deriving DecidableEq,Inhabited
def crnL:List (Nat×Nat×Nat):=[(0,1,2),(0,2,3),(0,3,4),(0,4,5),(0,5,1),(1,6,2),(2,7,3),(3,8,4),(4,9,5),(5,10,1),
 (6,7,2),(7,8,3),(8,9,4),(9,10,5),(10,6,1),(11,7,6),(11,8,7),(11,9,8),(11,10,9),(11,6,10)]
def crn (f:Nat):Nat×Nat×Nat:=crnL.getD f (0,1,2)
def Pl.ok (p:Pl):Prop:=p.f<20/\p.a+p.b+p.c=840
instance (p:Pl):Decidable p.ok:=inferInstanceAs (Decidable (_/\_))
def wt3 (k:Nat×Nat×Nat) (a b c v:Nat):Nat:=if v=k.1 then a else if v=k.2.1 then b else if v=k.2.2 then c else 0
def wt (p:Pl) (v:Nat):Nat:=wt3 (crn p.f) p.a p.b p.c v
def onW (w:Nat->Nat) (f:Nat):Pl:=⟨f,w (crn f).1,w (crn f).2.1,w (crn f).2.2⟩
def Pl.full (p:Pl):Bool:=p.a+p.b+p.c==840
def Ziq (w:Nat->Nat):List Pl:=((Zq6 20).map (onW w)).filter Pl.full
def Tv (p:Pl):List Pl:=Ziq (wt p)
def norm (p:Pl):Pl:=(Tv p).headD p
def Apart (k:Nat×Nat×Nat):Prop:=k.1≠k.2.1/\k.1≠k.2.2/\k.2.1≠k.2.2
instance (k:Nat×Nat×Nat):Decidable (Apart k):=inferInstanceAs (Decidable (_/\_/\_))
theorem Sz (f:Nat):Apart (crn f):=by
 by_cases h:f<20
 ·exact(by decide: ∀f:Fin 20,Apart (crn f)) ⟨f,h⟩
 ·have:crn f=(0,1,2):=by unfold crn;rw[List.getD_eq_getElem?_getD,List.getElem?_eq_none (by simp[crnL];omega)];rfl
  rw[this];decide
theorem Zir (k:Nat×Nat×Nat) (a b c:Nat):wt3 k a b c k.1=a:=by simp[wt3]
theorem Zis {k:Nat×Nat×Nat} (h:Apart k) (a b c:Nat):wt3 k a b c k.2.1=b:=by simp[wt3,Ne.symm h.1]
theorem Zit {k:Nat×Nat×Nat} (h:Apart k) (a b c:Nat):wt3 k a b c k.2.2=c:=by simp[wt3,Ne.symm h.2.1,Ne.symm h.2.2]
theorem Fz (p:Pl):onW (wt p) p.f=p:=by
 cases p with
 |mk f a b c=>
  have h:=Sz f;simp only[onW,wt,Zir,Zis h,Zit h]
theorem Hy {k:Nat×Nat×Nat} (h:Apart k) (a b c v:Nat):wt3 k a b c v=(if v=k.1 then a else 0)+(if v=k.2.1 then b else 0)+(if v=k.2.2 then c else 0):=by
 obtain⟨h1,h2,h3⟩:=h;unfold wt3;by_cases e1:v=k.1
 ·have e2: ¬v=k.2.1:=λe=>h1 (e1.symm.trans e);have e3: ¬v=k.2.2:=λe=>h2 (e1.symm.trans e);simp only[if_pos e1,if_neg e2,if_neg e3,Nat.add_zero]
 ·by_cases e2:v=k.2.1
  ·have e3: ¬v=k.2.2:=λe=>h3 (e2.symm.trans e);simp only[if_neg e1,if_pos e2,if_neg e3,Nat.add_zero,Nat.zero_add]
  ·by_cases e3:v=k.2.2
   ·simp only[if_neg e1,if_neg e2,if_pos e3,Nat.zero_add]
   ·simp only[if_neg e1,if_neg e2,if_neg e3]
def J8 (l:Nat×Nat×Nat) (k a:Nat):Nat:=(if l.1=k then a else 0)+(if l.2.1=k then a else 0)+(if l.2.2=k then a else 0)
theorem F0 {l:Nat×Nat×Nat} (h:Apart l) (k a:Nat):J8 l k a<=a:=by
 obtain⟨h1,h2,h3⟩:=h;unfold J8
 (repeat' split)<;>omega
theorem M2 {l:Nat×Nat×Nat} {k:Nat} (h1: ¬l.1=k) (h2: ¬l.2.1=k) (h3: ¬l.2.2=k) (a:Nat):J8 l k a=0:=by
 unfold J8;rw[if_neg h1,if_neg h2,if_neg h3]
theorem Ziu {k k':Nat×Nat×Nat} (h:Apart k) (h':Apart k') {a b c:Nat} (hs:wt3 k a b c k'.1+wt3 k a b c k'.2.1+wt3 k a b c k'.2.2=a+b+c) (v:Nat):
  wt3 k' (wt3 k a b c k'.1) (wt3 k a b c k'.2.1) (wt3 k a b c k'.2.2) v=wt3 k a b c v:=by
 have hp:J8 k' k.1 a+J8 k' k.2.1 b+J8 k' k.2.2 c=a+b+c:=by
  rw[Hy h,Hy h,Hy h]at hs;unfold J8;omega
 have l1:=F0 h' k.1 a;have l2:=F0 h' k.2.1 b;have l3:=F0 h' k.2.2 c;by_cases e1:v=k'.1
 ·rw[e1,Zir]
 ·by_cases e2:v=k'.2.1
  ·rw[e2,Zis h']
  ·by_cases e3:v=k'.2.2
   ·rw[e3,Zit h']
   ·have hz: ∀x y z,wt3 k' x y z v=0:=λx y z=>by simp only[wt3,e1,e2,e3,if_false]
    rw[hz];have q1: ∀{j:Nat},v=j-> ¬k'.1=j:=λe e'=>e1 (e.trans e'.symm);have q2: ∀{j:Nat},v=j-> ¬k'.2.1=j:=λe e'=>e2 (e.trans e'.symm);have q3: ∀{j:Nat},v=j-> ¬k'.2.2=j:=λe e'=>e3 (e.trans e'.symm);rw[Hy h];have r1:(if v=k.1 then a else 0)=0:=by
     split
     ·rename_i e;have:=M2 (q1 e) (q2 e) (q3 e) a;omega
     ·rfl
    have r2:(if v=k.2.1 then b else 0)=0:=by
     split
     ·rename_i e;have:=M2 (q1 e) (q2 e) (q3 e) b;omega
     ·rfl
    have r3:(if v=k.2.2 then c else 0)=0:=by
     split
     ·rename_i e;have:=M2 (q1 e) (q2 e) (q3 e) c;omega
     ·rfl
    rw[r1,r2,r3]
theorem Pz {p:Pl}:p.full=true↔p.a+p.b+p.c=840:=by simp[Pl.full]
theorem Nc {p q:Pl}:q∈Tv p↔ ∃f,f<20/\onW (wt p) f=q/\q.a+q.b+q.c=840:=by
 simp only[Tv,Ziq,Zru,Zrv,Zrz,Pz];constructor
 ·rintro ⟨⟨f,h1,h2⟩,h3⟩;exact⟨f,h1,h2,h3⟩
 ·rintro ⟨f,h1,h2,h3⟩;exact⟨⟨f,h1,h2⟩,h3⟩
theorem F1 {p:Pl} (h:p.ok):p∈Tv p:=Nc.2 ⟨p.f,h.1,Fz p,h.2⟩
theorem Zat {p q:Pl} (h:p.ok) (hq:q∈Tv p):q.ok/\wt q=wt p:=by
 obtain⟨f,h1,rfl,h3⟩:=Nc.1 hq;refine⟨⟨h1,h3⟩,funext λv=> ?_⟩;have hs:wt p (crn f).1+wt p (crn f).2.1+wt p (crn f).2.2=p.a+p.b+p.c:=by rw[h.2];exact h3
 exact Ziu (Sz p.f) (Sz f) hs v
theorem L1 {p:Pl} (h:p.ok):norm p∈Tv p:=by
 unfold norm;have:=F1 h;cases e:Tv p with
 |nil=>rw[e]at this;cases this
 |cons x r=>simp
theorem L2 {p:Pl} (h:p.ok):(norm p).ok:=(Zat h (L1 h)).1
theorem Hz {p:Pl} (h:p.ok):wt (norm p)=wt p:=(Zat h (L1 h)).2
theorem Nf {p:Pl} (h:p.ok): ∃r,Tv p=norm p::r:=by
 unfold norm;have:=F1 h;cases e:Tv p with
 |nil=>rw[e]at this;cases this
 |cons x r=>exact⟨r,rfl⟩
theorem Zc4 {p q:Pl} (h:p.ok) (hq:q.ok) (e:wt p=wt q):norm p=norm q:=by
 obtain⟨r,h1⟩:=Nf h;obtain⟨r',h2⟩:=Nf hq;have:Tv p=Tv q:=by unfold Tv;rw[e]
 rw[h1,h2]at this;exact(List.cons.inj this).1
theorem Zf4 {p:Pl} (h:p.ok):norm (norm p)=norm p:=Zc4 (L2 h) h (Hz h)
theorem Zau {p q:Pl} (hf:p.f=q.f) (e:wt p=wt q):p=q:=by
 rw[<-Fz p,<-Fz q,e,hf]
theorem Zc5 {p q:Pl} (h:p.ok) (hq:q.ok) (hf:p.f=q.f) (e:norm p=norm q):p=q:=
 Zau hf ((Hz h).symm.trans ((congrArg wt e).trans (Hz hq)))
theorem Zav: ∀f g:Fin 20,((crn f).1=(crn g).1\/(crn f).1=(crn g).2.1\/(crn f).1=(crn g).2.2)->((crn f).2.1=(crn g).1\/(crn f).2.1=(crn g).2.1\/(crn f).2.1=(crn g).2.2)->
  ((crn f).2.2=(crn g).1\/(crn f).2.2=(crn g).2.1\/(crn f).2.2=(crn g).2.2)->f=g:=by decide
theorem Zc6 {p:Pl} (h:p.ok) (ha:0<p.a) (hb:0<p.b) (hc:0<p.c):norm p=p:=by
 have hw:=Hz h;have hn:=L2 h;refine Zau ?_ hw;have pos: ∀v,0<wt (norm p) v->v=(crn (norm p).f).1\/v=(crn (norm p).f).2.1\/v=(crn (norm p).f).2.2:=by
  intro v hv;simp only[wt,wt3]at hv;split at hv
  ·left;assumption
  ·split at hv
   ·right;left;assumption
   ·split at hv
    ·right;right;assumption
    ·omega
 have h1:=pos (crn p.f).1 (by rw[hw];simp only[wt,Zir];exact ha);have h2:=pos (crn p.f).2.1 (by rw[hw];simp only[wt,Zis (Sz p.f)];exact hb);have h3:=pos (crn p.f).2.2 (by rw[hw];simp only[wt,Zit (Sz p.f)];exact hc);have:=Zav ⟨p.f,h.1⟩ ⟨(norm p).f,hn.1⟩ h1 h2 h3;exact(congrArg Fin.val this).symm
end Go.Grid
namespace Go.Grid
def Yq (n:Nat):Prop:=1<=n/\n<=8
theorem Q9 {n:Nat} (h:Yq n):n=1\/n=2\/n=3\/n=4\/n=5\/n=6\/n=7\/n=8:=by unfold Yq at h;omega
theorem Vv {n:Nat} (h:Yq n):n*(840/n)=840:=by
 rcases Q9 h with rfl|rfl|rfl|rfl|rfl|rfl|rfl|rfl<;>rfl
theorem Xv {n:Nat} (h:Yq n):105<=840/n/\840/n<=840:=by
 rcases Q9 h with rfl|rfl|rfl|rfl|rfl|rfl|rfl|rfl<;>decide
def pt (n f i j:Nat):Pl:=⟨f,i*(840/n),j*(840/n),(n-i-j)*(840/n)⟩
def row (n f i:Nat):List Pl:=(Zq6 (n+1-i)).map (pt n f i)
def face (n f:Nat):List Pl:=(Zq6 (n+1)).flatMap (row n f)
def pts (n:Nat):List Pl:=(Zq6 20).flatMap (face n)
def isN (p:Pl):Bool:=decide (norm p=p)
def Qd (n:Nat):List Pl:=(pts n).filter isN
theorem Ao {n:Nat} {p:Pl}:p∈pts n↔ ∃f i j,f<20/\i+j<=n/\pt n f i j=p:=by
 simp only[pts,face,row,Zr0,Zrz,Zrv];constructor
 ·rintro ⟨f,h1,i,h2,j,h3,e⟩;exact⟨f,i,j,h1,by omega,e⟩
 ·rintro ⟨f,i,j,h1,h2,e⟩;exact⟨f,h1,i,by omega,j,by omega,e⟩
theorem Zc7 {n i j:Nat} (h:Yq n) (hij:i+j<=n):i*(840/n)+j*(840/n)+(n-i-j)*(840/n)=840:=by
 rw[<-Zrb,<-Zrb,show i+j+(n-i-j)=n by omega];exact Vv h
theorem Ziv {n f i j:Nat} (h:Yq n) (hf:f<20) (hij:i+j<=n):(pt n f i j).ok:=⟨hf,Zc7 h hij⟩
theorem F2 {n:Nat} (h:Yq n) {p:Pl} (hp:p∈pts n):p.ok:=by
 obtain⟨f,i,j,h1,h2,rfl⟩:=Ao.1 hp;exact Ziv h h1 h2
theorem F3 {n:Nat} (h:Yq n) {p:Pl} (hp:p.ok) (ha:840/n∣p.a) (hb:840/n∣p.b) (hc:840/n∣p.c):p∈pts n:=by
 obtain⟨i,ei⟩:=ha;obtain⟨j,ej⟩:=hb;obtain⟨k,ek⟩:=hc;have hs:=hp.2;have hm:=Vv h;have hst:=Xv h;have e:i+j+k=n:=by
  have h1:(i+j+k)*(840/n)=n*(840/n):=by
   rw[hm,Zrb,Zrb,Zrs i,Zrs j,Zrs k,<-ei,<-ej,<-ek];exact hs
  exact Nat.eq_of_mul_eq_mul_right (by omega) h1
 refine Ao.2 ⟨p.f,i,j,hp.1,by omega, ?_⟩;cases p with
 |mk f a b c=>
  simp only at ei ej ek;simp only[pt,Pl.mk.injEq,true_and];refine⟨by rw[ei,Zrs],by rw[ej,Zrs], ?_⟩;rw[ek,show n-i-j=k by omega,Zrs]
theorem Zc8 {p:Pl} (h:p.ok) (P:Nat->Prop) (h0:P 0) (ha:P p.a) (hb:P p.b) (hc:P p.c):P (norm p).a/\P (norm p).b/\P (norm p).c:=by
 have hw: ∀v,P (wt p v):=λv=>by
  unfold wt wt3;split
  ·exact ha
  ·split
   ·exact hb
   ·split
    ·exact hc
    ·exact h0
 obtain⟨f,_,e,_⟩:=Nc.1 (L1 h);rw[<-e];exact⟨hw _,hw _,hw _⟩
theorem Zaw {n:Nat} (h:Yq n) {p:Pl} (hp:p∈pts n):norm p∈Qd n:=by
 have ho:=F2 h hp;obtain⟨f,i,j,h1,h2,e⟩:=Ao.1 hp;obtain⟨d1,d2,d3⟩:=Zc8 ho (λx=>840/n∣x) (Nat.dvd_zero _) (by rw[<-e];exact Zr3 _ _) (by rw[<-e];exact Zr3 _ _) (by rw[<-e];exact Zr3 _ _);refine Zru.2 ⟨F3 h (L2 ho) d1 d2 d3, ?_⟩;exact decide_eq_true (Zf4 ho)
def plt (p q:Pl):Prop:=p.f<q.f\/p.f=q.f/\(p.a<q.a\/p.a=q.a/\p.b<q.b)
instance (p q:Pl):Decidable (plt p q):=inferInstanceAs (Decidable (_\/_/\(_\/_/\_)))
theorem M3 (p:Pl): ¬plt p p:=by unfold plt;omega
theorem Zf5 {p q r:Pl} (h:plt p q) (h':plt q r):plt p r:=by unfold plt at*;omega
theorem Va {A B:Type} {R:B->B->Prop} {g:A->List B}: ∀{l:List A} {Q:A->A->Prop},l.Pairwise Q->(∀x∈l,(g x).Pairwise R)->(∀x∈l,∀y∈l,Q x y-> ∀u∈g x,∀v∈g y,R u v)->(l.flatMap g).Pairwise R
 | [],_,_,_,_=>by simp
 |x::l,Q,hp,h1,h2=>by
  rw[List.flatMap_cons,List.pairwise_append];obtain⟨p1,p2⟩:=Zrt.1 hp;refine⟨h1 x (by simp),Va p2 (λy hy=>h1 y (by simp[hy])) (λy hy z hz hq=>h2 y (by simp[hy]) z (by simp[hz]) hq),λu hu v hv=> ?_⟩;obtain⟨y,hy,hv⟩:=Zr0.1 hv;exact h2 x (by simp) y (by simp[hy]) (p1 y hy) u hu v hv
theorem Tw (n:Nat):(Zq6 n).Pairwise (λa b=>a<b):=List.pairwise_lt_range
theorem Zc9 {n:Nat} (h:Yq n):(pts n).Pairwise plt:=by
 have hst:=Xv h;have hmul: ∀{i j:Nat},i<j->i*(840/n)<j*(840/n):=λhij=>Zsj hij (by omega);have hrow: ∀{f i u},u∈row n f i->u.f=f/\u.a=i*(840/n):=λhu=>by
  obtain⟨j,_,rfl⟩:=Zrv.1 hu;exact⟨rfl,rfl⟩
 have hface: ∀{f u},u∈face n f->u.f=f:=λhu=>by
  obtain⟨i,_,hu⟩:=Zr0.1 hu;exact(hrow hu).1
 refine Va (Tw 20) (λf _=> ?_) λf _ g _ hfg u hu v hv=> .inl (by rw[hface hu,hface hv];exact hfg);refine Va (Tw _) (λi _=> ?_) λi _ j _ hij u hu v hv=> .inr ⟨by rw[(hrow hu).1,(hrow hv).1], .inl (by rw[(hrow hu).2,(hrow hv).2];exact hmul hij)⟩;refine Zr4.map _ (λa b hab=> ?_) (Tw _);exact .inr ⟨rfl, .inr ⟨rfl,hmul hab⟩⟩
theorem Ap {n:Nat} (h:Yq n):(Qd n).Pairwise plt:=(Zc9 h).filter _
def idx (n:Nat) (p:Pl):Nat:=(Qd n).idxOf (norm p)
theorem F4 {n:Nat} (h:Yq n) {p:Pl} (hp:p∈pts n):idx n p<(Qd n).length:=List.idxOf_lt_length_of_mem (Zaw h hp)
theorem Zda {n:Nat} (h:Yq n) {p:Pl} (hp:p∈pts n):(Qd n)[idx n p]'(F4 h hp)=norm p:=List.getElem_idxOf (F4 h hp)
theorem Zkn {n:Nat} (h:Yq n) {p q:Pl} (hp:p∈pts n) (hq:q∈pts n) (hf:p.f=q.f) (e:idx n p=idx n q):p=q:=by
 refine Zc5 (F2 h hp) (F2 h hq) hf ?_;rw[<-Zda h hp,<-Zda h hq]
 congr 1
theorem L3 {n:Nat} (h:Yq n):(Qd n).length=10*n*n+2:=by
 rcases Q9 h with rfl|rfl|rfl|rfl|rfl|rfl|rfl|rfl<;>kernel_rfl
end Go.Grid
namespace Go.Proofs.YtobmbacppbkgeaaGreatDoor
open Go Go.PM Go.Grid
def plc (p:Pl):List C:=[.v (.int .i64 p.f), .v (.int .i64 p.a), .v (.int .i64 p.b), .v (.int .i64 p.c)]
theorem Zk (p:Pl):(plc p).length=4:=rfl
def wcs (w:Nat->Nat):List C:=(Zq6 12).map λv=> .v (.int .i64 (w v))
abbrev OK (r:V):Option Out:=some ⟨r,[],none⟩
def Yb (f a b c:Int):Bool:=decide (0<=f/\f<20/\0<=a/\a<=840/\0<=b/\b<=840/\0<=c/\c<=840/\a+b+c=840)
theorem Cj {f a b c:Int} (h:Yb f a b c=true): ∃p:Pl,p.ok/\f=p.f/\a=p.a/\b=p.b/\c=p.c:=by
 have h:=of_decide_eq_true h;exact⟨⟨f.toNat,a.toNat,b.toNat,c.toNat⟩,⟨by show f.toNat<20;omega,by show a.toNat+b.toNat+c.toNat=840;omega⟩,by simp;omega,by simp;omega,by simp;omega,by simp;omega⟩
theorem Ng {p:Pl} (h:p.ok):Yb p.f p.a p.b p.c=true:=by
 obtain⟨h1,h2⟩:=h;exact decide_eq_true (by omega)
theorem Qq (fu d:Nat) (f a b c:Int):cl fu (d+1) fn_synopticref02_Valid [V.agg [.v (.int .i64 f), .v (.int .i64 a), .v (.int .i64 b), .v (.int .i64 c)]] []=OK (B (Yb f a b c)):=by
 rw[eq_synopticref02_Valid];by_cases h1:0<=f
 case neg=>rw[show Yb f a b c=false from decide_eq_false (by omega)];simp(disch:=omega)only[QM,QD]
 by_cases h2:f<20
 case neg=>rw[show Yb f a b c=false from decide_eq_false (by omega)];simp(disch:=omega)only[QM,QD]
 by_cases h3:0<=a
 case neg=>rw[show Yb f a b c=false from decide_eq_false (by omega)];simp(disch:=omega)only[QM,QD]
 by_cases h4:a<=840
 case neg=>rw[show Yb f a b c=false from decide_eq_false (by omega)];simp(disch:=omega)only[QM,QD]
 by_cases h5:0<=b
 case neg=>rw[show Yb f a b c=false from decide_eq_false (by omega)];simp(disch:=omega)only[QM,QD]
 by_cases h6:b<=840
 case neg=>rw[show Yb f a b c=false from decide_eq_false (by omega)];simp(disch:=omega)only[QM,QD]
 by_cases h7:0<=c
 case neg=>rw[show Yb f a b c=false from decide_eq_false (by omega)];simp(disch:=omega)only[QM,QD]
 by_cases h8:c<=840
 case neg=>rw[show Yb f a b c=false from decide_eq_false (by omega)];simp(disch:=omega)only[QM,QD]
 by_cases h9:a+b+c=840
 ·rw[show Yb f a b c=true from decide_eq_true (by omega)];simp(disch:=omega)only[QM,QD]
 ·rw[show Yb f a b c=false from decide_eq_false (by omega)];simp(disch:=omega)only[QM,QD]
theorem twenty {f:Nat} (h:f<20):f=0\/f=1\/f=2\/f=3\/f=4\/f=5\/f=6\/f=7\/f=8\/f=9\/f=10\/f=11\/f=12\/f=13\/f=14\/f=15\/f=16\/f=17\/f=18\/f=19:=by omega
theorem P0 (fu d f:Nat) (h:f<20):cl fu (d+1) fn_synopticref02_Corners [I f] []=OK (V.tup [V.agg [.v (.int .i64 (crn f).1), .v (.int .i64 (crn f).2.1), .v (.int .i64 (crn f).2.2)],I 0]):=by
 rw[eq_synopticref02_Corners];rcases twenty h with rfl|rfl|rfl|rfl|rfl|rfl|rfl|rfl|rfl|rfl|rfl|rfl|rfl|rfl|rfl|rfl|rfl|rfl|rfl|rfl<;>(show @Eq (Option Out) _ _;kernel_rfl)
theorem F5 (fu d:Nat) (p:Pl) (h:p.ok):cl fu (d+2) fn_synopticref02_Weights [V.agg (plc p)] []=OK (V.agg (wcs (wt p))):=by
 obtain⟨f,a,b,c⟩:=p;unfold plc;rw[eq_synopticref02_Weights];simp only;rw[P0 fu d f h.1];have hf:f<20:=h.1;rcases twenty hf with rfl|rfl|rfl|rfl|rfl|rfl|rfl|rfl|rfl|rfl|rfl|rfl|rfl|rfl|rfl|rfl|rfl|rfl|rfl|rfl<;>(show @Eq (Option Out) _ _;kernel_rfl)
theorem Zf6 (fu d:Nat) (w:Nat->Nat) (hw: ∀v,w v<=840) (f:Nat) (h:f<20):cl fu (d+2) fn_synopticref02_On [I f,V.agg (wcs w)] []=OK (V.tup [V.agg (plc (onW w f)),B (onW w f).full]):=by
 have e:cl fu (d+2) fn_synopticref02_On [I f,V.agg (wcs w)] []=OK (V.tup [V.agg (plc (onW w f)),B (Zqu.wrap (Zqu.wrap ((w (crn f).1:Int)+(w (crn f).2.1:Int))+(w (crn f).2.2:Int))==840)]):=by
  rw[eq_synopticref02_On,P0 fu d f h];rcases twenty h with rfl|rfl|rfl|rfl|rfl|rfl|rfl|rfl|rfl|rfl|rfl|rfl|rfl|rfl|rfl|rfl|rfl|rfl|rfl|rfl<;>(show @Eq (Option Out) _ _;kernel_rfl)
 rw[e];have h1:=hw (crn f).1;have h2:=hw (crn f).2.1;have h3:=hw (crn f).2.2;simp(disch:=omega)only[Qp];have e2:((w (crn f).1:Int)+(w (crn f).2.1:Int)+(w (crn f).2.2:Int)==840)=(onW w f).full:=by
  rw[Zop,Pz,beq_iff_eq];show _↔w (crn f).1+w (crn f).2.1+w (crn f).2.2=840;omega
 rw[e2]
def Qr (w:Nat->Nat) (j:Nat):List Pl:=((Zq6 j).map (onW w)).filter Pl.full
theorem V8 (w:Nat->Nat) (j:Nat):Qr w (j+1)=if(onW w j).full then Qr w j++[onW w j]else Qr w j:=by
 unfold Qr;rw[Zrw,Zpd,Zr5];simp only[Zn0,Zpj,Zqm,Zr6];split<;>simp
theorem F6 (w:Nat->Nat) (j:Nat):(Qr w j).length<=j:=by
 unfold Qr;refine Zni (Zr1 _ _) ?_;simp
theorem Ziw {p:Pl} (h:p.ok) (v:Nat):wt p v<=840:=by
 have h2:=h.2;unfold wt wt3
 (repeat' split)<;>omega
theorem Zko (l:List Pl) (q:Pl):fl plc l++[.v (.int .i64 q.f), .v (.int .i64 q.a), .v (.int .i64 q.b), .v (.int .i64 q.c)]=fl plc (l++[q]):=Nb l q
theorem Y1 (l:List Pl):l.length*4/4=l.length:=Zog _ (by omega)
theorem Zeg (w:Nat->Nat):putAt [C.v (.int .i64 0),C.v (.int .i64 0),C.v (.int .i64 0),C.v (.int .i64 0),C.v (.int .i64 0),C.v (.int .i64 0),C.v (.int .i64 0),C.v (.int .i64 0),C.v (.int .i64 0),C.v (.int .i64 0),C.v (.int .i64 0),C.v (.int .i64 0)] 0 (wcs w)=wcs w:=id rfl
theorem Zax (w:Nat->Nat):Zqy 12 (wcs w)=wcs w:=id rfl
theorem F7 (w:Nat->Nat):(wcs w).length=12:=id rfl
theorem K2 (fu d:Nat) (hf:18446744073709551616<=fu) (p:Pl) (h:p.ok):
  cl fu (d+3) fn_synopticref02_Addresses [V.agg (plc p)] []=OK (V.tup [V.c (C.sl (Tv p).length (fl plc (Tv p))),I 0]):=by
 have e1:=F5 fu d p h;have hv:=Ng h;unfold plc at e1⊢;rw[eq_synopticref02_Addresses,Qq,hv,e1];simp only[QM,Zeg,Zax,F7,Zmt,show Zqw 12 12=true from rfl];rw[show(([]:List C),(0:Int),())=(λj:Nat=>(fl plc (Qr (wt p) j),(j:Int),())) 0 from rfl,L0 (λj:Nat=>(fl plc (Qr (wt p) j),(j:Int),())) 0 (fl plc (Qr (wt p) 20),(20:Int),()) 20 0 fu ?_ ?_ (by omega)]
 ·simp(disch:=omega)only[QM,QD,Ze Zk,Y1,Zmt];rw[Zm1 (by rw[Ze Zk];omega)];rfl
 ·intro j _ hj;have hl:=F6 (wt p) j;rw[V8];have e2:=Zf6 fu d (wt p) (Ziw h) j (by omega);unfold plc at e2;simp(disch:=omega)only[QM,QD,e2,Ze Zk,Y1,Zms,Zmr,Zmt,Nat.reduceAdd];cases hfull:(onW (wt p) j).full with
  |true=>
   simp(disch:=omega)only[QM,QD,Zko,Ze Zk,Znb,Zms,Zmr,Zmt,if_true,Zm3,Zm2]
  |false=>
   simp(disch:=omega)only[QM,QD,Zpq,if_false,Zm3,Zm2]
 ·simp(disch:=omega)only[QM,QD,Ze Zk,Y1,Zmt];rfl
end Go.Proofs.YtobmbacppbkgeaaGreatDoor
namespace Go.Proofs.YtobmbacppbkgeaaGreatDoor
open Go Go.PM Go.Grid
theorem Si (fu d:Nat) (hf:18446744073709551616<=fu) (p:Pl) (h:p.ok):cl fu (d+4) fn_synopticref02_Normal [V.agg (plc p)] []=OK (V.tup [V.agg (plc (norm p)),I 0]):=by
 have e1:=K2 fu d hf p h;obtain⟨r,hr⟩:=Nf h;rw[hr]at e1;unfold plc at e1⊢;rw[eq_synopticref02_Normal,e1];simp(disch:=omega)only[QM,QD,U2,plc,Zmw,Zmz,Zms]
theorem Aq (p q:Pl):((p.f:Int)==q.f&&((p.a:Int)==q.a&&((p.b:Int)==q.b&&(p.c:Int)==q.c)))=decide (p=q):=by
 obtain⟨f,a,b,c⟩:=p;obtain⟨f',a',b',c'⟩:=q;rw[Zop];simp only[Zmq,beq_iff_eq,decide_eq_true_eq,Pl.mk.injEq];omega
theorem Hl (fu d:Nat) (hf:18446744073709551616<=fu) (p:Pl) (h:p.ok):cl fu (d+5) fn_synopticref02_IsNormal [V.agg (plc p)] []=OK (B (isN p)):=by
 have e1:=Si fu d hf p h;unfold plc at e1⊢;rw[eq_synopticref02_IsNormal,e1];simp(disch:=omega)only[QM,QD,Zms,Zmr,Aq,Nat.reduceAdd];unfold isN;rw[show decide (p=norm p)=decide (norm p=p) from by rw[Zop];simp[eq_comm]]
theorem Zkp (fu d:Nat) (f:Int):cl fu (d+1) fn_place_face [I f] []=OK (B (decide (0<=f/\f<20))):=by
 rw[eq_place_face];by_cases h1:0<=f
 ·simp(disch:=omega)only[QM,QD];by_cases h2:f<20
  ·rw[Zlm h2,decide_eq_true ⟨h1,h2⟩]
  ·rw[Zln (by omega),decide_eq_false (by omega)]
 ·rw[decide_eq_false (by omega: ¬(0<=f/\f<20))];simp(disch:=omega)only[QM,QD]
theorem S0 (fu d:Nat) (hf:18446744073709551616<=fu) (f a b c:Int):cl fu (d+2) fn_place_Valid [V.agg [.v (.int .i64 f), .v (.int .i64 a), .v (.int .i64 b), .v (.int .i64 c)]] []=OK (B (Yb f a b c)):=by
 rw[eq_place_Valid,Zkp];obtain⟨fu',rfl⟩: ∃n,fu=n+4:=⟨fu-4,by omega⟩;by_cases h3:0<=a
 case neg=>rw[show Yb f a b c=false from decide_eq_false (by omega)];rw[Yz];simp(disch:=omega)only[QM,QD,Znw,Zm5,Zns]
 by_cases h4:a<=840
 case neg=>rw[show Yb f a b c=false from decide_eq_false (by omega)];rw[Yz];simp(disch:=omega)only[QM,QD,Znw,Zm5,Zns]
 by_cases h5:0<=b
 case neg=>rw[show Yb f a b c=false from decide_eq_false (by omega)];rw[Yz];simp(disch:=omega)only[QM,QD,Znw,Zm5,Zns,Zob,Yz,Zoa,Zon,Zno]
 by_cases h6:b<=840
 case neg=>rw[show Yb f a b c=false from decide_eq_false (by omega)];rw[Yz];simp(disch:=omega)only[QM,QD,Znw,Zm5,Zns,Zob,Yz,Zoa,Zon,Zno]
 by_cases h7:0<=c
 case neg=>rw[show Yb f a b c=false from decide_eq_false (by omega)];rw[Yz];simp(disch:=omega)only[QM,QD,Znw,Zm5,Zns,Zob,Yz,Zoa,Zon,Zno,Int.reduceAdd,Int.reduceToNat]
 by_cases h8:c<=840
 case neg=>rw[show Yb f a b c=false from decide_eq_false (by omega)];rw[Yz];simp(disch:=omega)only[QM,QD,Znw,Zm5,Zns,Zob,Yz,Zoa,Zon,Zno,Int.reduceAdd,Int.reduceToNat]
 simp(disch:=omega)only[QM,QD,Znw,Zm5,Zns,Zob,Yz,Zoa,Zon,Zno,Int.reduceAdd,Int.reduceToNat];by_cases h1:0<=f/\f<20
 ·rw[decide_eq_true h1];by_cases h9:a+b+c=840
  ·rw[show Yb f a b c=true from decide_eq_true (by omega)];simp(disch:=omega)only[QM,QD]
  ·rw[show Yb f a b c=false from decide_eq_false (by omega)];simp(disch:=omega)only[QM,QD]
 ·rw[decide_eq_false h1,show Yb f a b c=false from decide_eq_false (by omega)];simp(disch:=omega)only[QM,QD]
theorem sp_of (fu d:Nat) (p:Pl) (h:p.ok):cl fu (d+1) fn_place_of [V.agg (plc p)] []=OK (V.agg (wcs (wt p))):=by
 obtain⟨f,a,b,c⟩:=p;unfold plc;rw[eq_place_of];have hf:f<20:=h.1;rcases twenty hf with rfl|rfl|rfl|rfl|rfl|rfl|rfl|rfl|rfl|rfl|rfl|rfl|rfl|rfl|rfl|rfl|rfl|rfl|rfl|rfl<;>(show @Eq (Option Out) _ _;kernel_rfl)
theorem Zdb {w:Nat->Nat} (hw: ∀v,w v<=840) {f:Nat} (h:f<20):Yb (onW w f).f (onW w f).a (onW w f).b (onW w f).c=(onW w f).full:=by
 have h1:=hw (crn f).1;have h2:=hw (crn f).2.1;have h3:=hw (crn f).2.2;rw[Zop,Pz];unfold Yb;rw[decide_eq_true_eq];show(0:Int)<=(f:Nat)/\((f:Nat):Int)<20/\(0:Int)<=((w (crn f).1:Nat):Int)/\((w (crn f).1:Nat):Int)<=840/\(0:Int)<=((w (crn f).2.1:Nat):Int)/\((w (crn f).2.1:Nat):Int)<=840/\(0:Int)<=((w (crn f).2.2:Nat):Int)/\((w (crn f).2.2:Nat):Int)<=840/\((w (crn f).1:Nat):Int)+((w (crn f).2.1:Nat):Int)+((w (crn f).2.2:Nat):Int)=840↔w (crn f).1+w (crn f).2.1+w (crn f).2.2=840;omega
theorem Zlp (fu d:Nat) (hf:18446744073709551616<=fu) (w:Nat->Nat) (hw: ∀v,w v<=840) (f:Nat) (h:f<20):cl fu (d+3) fn_place_on [I f,V.agg (wcs w)] []=OK (V.tup [V.agg (plc (onW w f)),B (onW w f).full]):=by
 have e:cl fu (d+3) fn_place_on [I f,V.agg (wcs w)] []=((cl fu (d+2) fn_place_Valid [V.agg (plc (onW w f))] []).bind λout=>rC out.r λc6=>asB c6 λb=>OK (V.tup [V.agg (plc (onW w f)),B b])):=by
  rw[eq_place_on];rcases twenty h with rfl|rfl|rfl|rfl|rfl|rfl|rfl|rfl|rfl|rfl|rfl|rfl|rfl|rfl|rfl|rfl|rfl|rfl|rfl|rfl<;>(show @Eq (Option Out) _ _;kernel_rfl)
 rw[e];unfold plc;rw[S0 fu d hf,Zdb hw h];simp only[QM]
theorem L4 {w:Nat->Nat}: ∀{k:Nat},(∀j,j<k->(onW w j).full=false)->Qr w k=[]
 |0,_=>rfl
 |k+1,h=>by rw[V8,h k (by omega),L4 (λj hj=>h j (by omega))];rfl
theorem Mc {w:Nat->Nat} {k:Nat} (hk:(onW w k).full=true) (h: ∀j,j<k->(onW w j).full=false): ∀n,k<n-> ∃r,Qr w n=onW w k::r
 |0,hn=>by omega
 |n+1,hn=>by
  by_cases e:k=n
  ·subst e;exact⟨[],by rw[V8,hk,L4 h];rfl⟩
  ·obtain⟨r,hr⟩:=Mc hk h n (by omega);rw[V8,hr];split
   ·exact⟨r++[onW w n],rfl⟩
   ·exact⟨r,rfl⟩
theorem Ck (fu d:Nat) (hf:18446744073709551616<=fu) (p:Pl) (h:p.ok):cl fu (d+4) fn_place_Normal [V.agg (plc p)] []=OK (V.tup [V.agg (plc (norm p)),I 0]):=by
 have e1:=sp_of fu (d+2) p h;have hv:=Ng h;unfold plc at e1⊢;rw[eq_place_Normal,S0 fu (d+1) hf,hv,e1];simp only[QM,Zeg,Zax,F7,Zmt,show Zqw 12 12=true from rfl];obtain⟨r,hr⟩:=Nf h;have hm:=L1 h;obtain⟨k,hk,hke,hkl⟩: ∃k,k<20/\onW (wt p) k=norm p/\ ∀j,j<k->(onW (wt p) j).full=false:=by
  rcases Yf (λj=>(onW (wt p) j).full=true) 20 with h0|⟨k,h1,h2,h3⟩
  ·exfalso;obtain⟨g,g1,g2,g3⟩:=Nc.1 hm;exact h0 g g1 (by rw[g2];exact Pz.2 g3)
  ·refine⟨k,h1, ?_,λj hj=>by simpa using h3 j hj⟩;obtain⟨r',this⟩:=Mc h2 (λj hj=>by simpa using h3 j hj) 20 h1;have this:Tv p=onW (wt p) k::r':=this;rw[hr]at this;exact(List.cons.inj this).1.symm
 rw[show((0:Int),(0:Int),((0:Int),(0:Int),(0:Int),(0:Int),()),())=(λj:Nat=>((0:Int),(j:Int),((0:Int),(0:Int),(0:Int),(0:Int),()),())) 0 from rfl,L0 (λj:Nat=>((0:Int),(j:Int),((0:Int),(0:Int),(0:Int),(0:Int),()),())) 1 (0,(k:Int),((norm p).f,(norm p).a,(norm p).b,(norm p).c,()),()) k 0 fu ?_ ?_ (by omega)]
 ·simp only[QM]
 ·intro j _ hj;have e2:=Zlp fu d hf (wt p) (Ziw h) j (by omega);rw[hkl j (by omega)]at e2;unfold plc at e2;simp(disch:=omega)only[QM,QD,e2,Zms,Zmr,Zmt,Nat.reduceAdd,Zm3,Zm2]
 ·have e2:=Zlp fu d hf (wt p) (Ziw h) k hk;rw[hke,Pz.2 (L2 h).2]at e2;unfold plc at e2;simp(disch:=omega)only[QM,QD,e2,Zms,Zmr,Zmt,Nat.reduceAdd]
end Go.Proofs.YtobmbacppbkgeaaGreatDoor
namespace Go.Grid
def pre (n f i j:Nat):List Pl:=(Zq6 f).flatMap (face n)++((Zq6 i).flatMap (row n f)++(Zq6 j).map (pt n f i))
def Xa (n f i j:Nat):List Pl:=(pre n f i j).filter isN
theorem pre_j (n f i j:Nat):pre n f i (j+1)=pre n f i j++[pt n f i j]:=by
 unfold pre;rw[Zrw,List.map_append];simp[List.append_assoc]
theorem Zlq (n f i:Nat):pre n f i (n+1-i)=pre n f (i+1) 0:=by
 unfold pre;rw[Zrw,Zr7];simp[row]
theorem Zlr (n f:Nat):pre n f (n+1) 0=pre n (f+1) 0 0:=by
 unfold pre;rw[Zrw (n:=f),Zr7];simp[face]
theorem Zkq (n:Nat):pre n 20 0 0=pts n:=by unfold pre pts;simp
theorem Zix (n f i j:Nat):Xa n f i (j+1)=if norm (pt n f i j)=pt n f i j then Xa n f i j++[pt n f i j]else Xa n f i j:=by
 unfold Xa;rw[pre_j,Zr5];simp only[List.filter_cons,Zr6,isN,decide_eq_true_eq];split<;>simp
theorem Zmg {n f i j:Nat} (h:Yq n) {q:Pl} (hq:q∈pre n f i j):plt q (pt n f i j):=by
 have hst:=Xv h;have hmul: ∀{i j:Nat},i<j->i*(840/n)<j*(840/n):=λhij=>Zsj hij (by omega);simp only[pre,List.mem_append,Zr0,Zrz,Zrv,face,row]at hq;rcases hq with⟨f',h1,i',_,j',_,rfl⟩|⟨i',h1,j',_,rfl⟩|⟨j',h1,rfl⟩
 ·exact .inl h1
 ·exact .inr ⟨rfl, .inl (hmul h1)⟩
 ·exact .inr ⟨rfl, .inr ⟨rfl,hmul h1⟩⟩
theorem Ziy {n f i j:Nat} (h:Yq n):pt n f i j∉Xa n f i j:=λhm=>M3 _ (Zmg h (Zru.1 hm).1)
theorem Rs {B:Type} {g:Nat->List B} {m:Nat} (h: ∀x,(g x).length<=m): ∀k,((Zq6 k).flatMap g).length<=k*m
 |0=>by simp
 |k+1=>by
  rw[Zrw,Zr7,Zr8,Nat.succ_mul];have:=Rs h k;have:=h k;simp only[List.flatMap_cons,List.flatMap_nil,List.append_nil];omega
theorem Ziz (n f i:Nat) (h:n<=8):(row n f i).length<=9:=by unfold row;simp;omega
theorem Zkr (n f:Nat) (h:n<=8):(face n f).length<=81:=by
 unfold face;have:=Rs (g:=row n f) (λi=>Ziz n f i h) (n+1);omega
theorem Xm {n f i j:Nat} (h:Yq n) (hf:f<=20) (hi:i<=9) (hj:j<=9):(Xa n f i j).length<=2000:=by
 refine Nat.le_trans (Zr1 _ _) ?_;unfold pre;rw[Zr8,Zr8,List.length_map,List.length_range];have h1:=Rs (g:=face n) (λf=>Zkr n f h.2) f;have h2:=Rs (g:=row n f) (λi=>Ziz n f i h.2) i;omega
theorem Zay (n:Nat):Xa n 20 0 0=Qd n:=by unfold Xa;rw[Zkq];rfl
theorem Zf7 {p:Pl} (h:p.ok) (ha:0<p.a) (hb:0<p.b) (hc:0<p.c):isN p=true:=decide_eq_true (Zc6 h ha hb hc)
end Go.Grid
namespace Go.Proofs.YtobmbacppbkgeaaGreatDoor
open Go Go.PM Go.Grid
theorem Cl (p q:Pl):eqT Tryz.prog 20 ty_api_Place (plc p) (plc q)=some (decide (p=q)):=by
 have:eqT Tryz.prog 20 ty_api_Place (plc p) (plc q)=some ((p.f:Int)==q.f&&((p.a:Int)==q.a&&((p.b:Int)==q.b&&((p.c:Int)==q.c&&true)))):=by kernel_rfl
 rw[this,Bool.and_true,Aq]
def esn:Nat->List Pl->List (List C×List C)
 |_,[]=>[]
 |k,p::r=>(plc p,[.v (.int .i64 k)])::esn (k+1) r
theorem Zaz (p:Pl): ∀(l:List Pl) (k:Nat),esn k l++[(plc p,[.v (.int .i64 ((k+l.length:Nat):Int))])]=esn k (l++[p])
 | [],k=>by simp[esn]
 |q::l,k=>by
  simp only[esn,Zmw,Zms];rw[<-Zaz p l (k+1),show k+(l.length+1)=k+1+l.length by omega]
theorem Zi0 (p:Pl):Zbp (plc p) (plc p)=true:=by simp[plc,Zbp,ceq]
theorem Zeh {p:Pl}: ∀(l:List Pl) (k i:Nat),p∉l->mfind Tryz.prog ty_api_Place (plc p) (esn k l) i=some none
 | [],k,i,_=>by simp[esn,mfind]
 |q::l,k,i,h=>by
  simp only[esn,mfind,Cl];rw[decide_eq_false (λe=>h (by simp[e]))];simp only[cf];exact Zeh l (k+1) (i+1) (λe=>h (by simp[e]))
theorem Zei {p:Pl}: ∀(l:List Pl) (k i:Nat),p∈l->mfind Tryz.prog ty_api_Place (plc p) (esn k l) i=some (some (i+l.idxOf p,[.v (.int .i64 ((k+l.idxOf p:Nat):Int))]))
 | [],k,i,h=>by cases h
 |q::l,k,i,h=>by
  simp only[esn,mfind,Cl];by_cases e:p=q
  ·subst e;rw[decide_eq_true rfl];simp[Zi0,need]
  ·rw[decide_eq_false e];simp only[cf];have hm:p∈l:=by rcases Znl.1 h with h|h;exact absurd h e;exact h
   rw[Zei l (k+1) (i+1) hm,List.idxOf_cons];have:(q==p)=false:=by simpa using Ne.symm e
   rw[this];simp only[cond_false];rw[show i+1+l.idxOf p=i+(l.idxOf p+1) by omega,show k+1+l.idxOf p=k+(l.idxOf p+1) by omega]
theorem Zf8 (es:List (List C×List C)) (k v:List C):mput es none k v=es++[(k,v)]:=id rfl
abbrev Zf9 (n:Nat) (l:List Pl):List C:=[.v (.int .i64 n), .v (.int .i64 ((840/n:Nat):Int)),C.sl l.length (fl plc l),C.mp ty_api_Place ty_int (some 4) none (esn 0 l),C.nl,C.nl,C.nl]
abbrev Zga (n:Nat) (l:List Pl):Int×Int×List C×List (List C×List C)×C×C×C×Unit:=((n:Int),((840/n:Nat):Int),fl plc l,esn 0 l,C.nl,C.nl,C.nl,())
theorem F8 {n:Nat} (h:Yq n):Zqu.wrap (Zqz 840 n)=((840/n:Nat):Int):=by
 rcases Q9 h with rfl|rfl|rfl|rfl|rfl|rfl|rfl|rfl<;>rfl
theorem Zi1 {n i:Nat} (h:Yq n) (hi:i<=n):i*(840/n)<=840:=by
 have:=Zn9 (840/n) hi;rw[Vv h]at this;exact this
theorem F9 {n i:Nat} (h:Yq n) (hi:i<=n):Zqu.wrap ((i:Int)*((840/n:Nat):Int))=((i*(840/n):Nat):Int):=by
 have:=Zi1 h hi;rw[show((i:Int)*((840/n:Nat):Int))=((i*(840/n):Nat):Int) from(Zpp _ _).symm];exact Qp (Zpw (by decide) (Zqd _)) (Zpw (Zr9.2 this) (by decide))
theorem P1 (l:List Pl) (f a b c:Nat):fl plc l++[.v (.int .i64 f), .v (.int .i64 a), .v (.int .i64 b), .v (.int .i64 c)]=fl plc (l++[⟨f,a,b,c⟩]):=Nb l ⟨f,a,b,c⟩
theorem Zgb (l:List Pl) (f a b c:Nat):esn 0 l++[([.v (.int .i64 f), .v (.int .i64 a), .v (.int .i64 b), .v (.int .i64 c)],[.v (.int .i64 (l.length:Int))])]=esn 0 (l++[⟨f,a,b,c⟩]):=by
 have:=Zaz ⟨f,a,b,c⟩ l 0;rw[Zmt]at this;exact this
theorem Cm (fu d:Nat) (hf:18446744073709551616<=fu) (n:Nat) (h:Yq n):cl fu (d+5) fn_mesh_Points [I n] []=OK (V.c (C.cp (Zf9 n (Qd n)))):=by
 have hn:=h;unfold Yq at hn;rw[eq_mesh_Points,F8 h,show(!((n:Int)==0))=true from by rw[V1 (by omega)];rfl,Xg];rw[Zh (λf:Nat=>((f:Int),Zga n (Xa n f 0 0),())) 0 ((20:Int),Zga n (Xa n 20 0 0),()) 20 ?_ ?_ ?_ (by omega)]
 ·rw[Zay];simp(disch:=omega)only[QM,QD,Ze Zk,Y1,Zmt];rw[Zm1 (by rw[Ze Zk];omega)]
 ·rfl
 ·intro f hf';have hl:(Xa n f 0 0).length<=2000:=Xm h (by omega) (by omega) (by omega);simp(disch:=omega)only[QM,QD,Ze Zk,Y1];rw[Zh (λi:Nat=>((i:Int),Zga n (Xa n f i 0),())) 0 (((n+1:Nat):Int),Zga n (Xa n f (n+1) 0),()) (n+1) ?_ ?_ ?_ (by omega)]
  ·have hl:(Xa n f (n+1) 0).length<=2000:=Xm h (by omega) (by omega) (by omega);simp(disch:=omega)only[QM,QD,Ze Zk,Y1,Zm3,Zm2];unfold Xa;rw[Zlr]
  ·rfl
  ·intro i hi;have hl:(Xa n f i 0).length<=2000:=Xm h (by omega) (by omega) (by omega);simp(disch:=omega)only[QM,QD,Ze Zk,Y1];rw[Zh (λj:Nat=>((j:Int),Zga n (Xa n f i j),())) 0 (((n+1-i:Nat):Int),Zga n (Xa n f i (n+1-i)),()) (n+1-i) ?_ ?_ ?_ (by omega)]
   ·have hl:(Xa n f i (n+1-i)).length<=2000:=Xm h (by omega) (by omega) (by omega);simp(disch:=omega)only[QM,QD,Ze Zk,Y1,Zm3,Zm2];unfold Xa;rw[Zlq]
   ·rfl
   ·intro j hj;have hl:(Xa n f i j).length<=2000:=Xm h (by omega) (by omega) (by omega);have hnot:=Ziy (f:=f) (i:=i) (j:=j) h;have hc:Zqu.wrap (((n:Int)-(i:Int)-(j:Int))*((840/n:Nat):Int))=(((n-i-j)*(840/n):Nat):Int):=by
     rw[show(n:Int)-i-j=((n-i-j:Nat):Int) by omega,F9 h (by omega)]
    have e2:=Ck fu d hf (pt n f i j) (Ziv h hf' (by omega));have e3:=Zeh (Xa n f i j) 0 0 hnot;have e4:=Aq (norm (pt n f i j)) (pt n f i j);have e5:=Zix n f i j;generalize hz:decide (norm (pt n f i j)=pt n f i j)=z at e4;replace e5:Xa n f i (j+1)=bif z then Xa n f i j++[pt n f i j]else Xa n f i j:=by
     cases z with
     |true=>rw[e5,if_pos (of_decide_eq_true hz)];rfl
     |false=>rw[e5,if_neg (of_decide_eq_false hz)];rfl
    clear hz;simp only[plc]at e2 e3;generalize norm (pt n f i j)=q at e2 e4 e5;simp only[pt]at e2 e3 e4 e5;simp(disch:=omega)only[QM,QD,hc,F9 h (show i<=n by omega),F9 h (show j<=n by omega),e2,e4,Zms,Zmr,Zmt,Nat.reduceAdd,Ze Zk,Y1];rw[e5];cases z with
    |true=>
     simp(disch:=omega)only[QM,QD,mfd,e3,Zf8,P1,Zgb,Ze Zk,Y1,Znb,Zms,Zmr,Zmt,Zm3,Zm2]
    |false=>
     simp(disch:=omega)only[QM,QD,Zm3,Zm2]
   ·have hl:(Xa n f i (n+1-i)).length<=2000:=Xm h (by omega) (by omega) (by omega);simp(disch:=omega)only[QM,QD,Ze Zk,Y1]
  ·have hl:(Xa n f (n+1) 0).length<=2000:=Xm h (by omega) (by omega) (by omega);simp(disch:=omega)only[QM,QD,Ze Zk,Y1]
 ·have hl:(Xa n 20 0 0).length<=2000:=Xm h (by omega) (by omega) (by omega);simp(disch:=omega)only[QM,QD,Ze Zk,Y1];rfl
end Go.Proofs.YtobmbacppbkgeaaGreatDoor
namespace Go.Proofs.YtobmbacppbkgeaaGreatDoor
open Go Go.PM Go.Grid
theorem L5 (fu d n:Nat) (h:Yq n):cl fu (d+1) fn_synopticref03_Count [I n] []=OK (I ((10*n*n+2:Nat):Int)):=by
 rw[eq_synopticref03_Count];rcases Q9 h with rfl|rfl|rfl|rfl|rfl|rfl|rfl|rfl<;>(show @Eq (Option Out) _ _;kernel_rfl)
theorem Zks (n f i j:Nat):Xa n f i (j+1)=bif isN (pt n f i j)then Xa n f i j++[pt n f i j]else Xa n f i j:=by
 rw[Zix];unfold isN;by_cases h:norm (pt n f i j)=pt n f i j
 ·rw[if_pos h,decide_eq_true h];rfl
 ·rw[if_neg h,decide_eq_false h];rfl
theorem Za0 {n:Nat}:((10*n*n+2:Nat):Int)≠0:=by omega
theorem Ar (fu d:Nat) (hf:18446744073709551616<=fu) (n:Nat) (h:Yq n):cl fu (d+6) fn_synopticref03_Nodes [I n] []=OK (V.tup [V.c (C.sl (Qd n).length (fl plc (Qd n))),I 0]):=by
 have hn:=h;unfold Yq at hn;have hst:=Xv h;rw[eq_synopticref03_Nodes,L5 fu (d+4) n h,F8 h];simp only[QM];rw[V1 Za0,V1 (show(n:Int)≠0 by omega)];simp only[QM];rw[Zh (λf:Nat=>(fl plc (Xa n f 0 0),(f:Int),())) 0 (fl plc (Xa n 20 0 0),(20:Int),()) 20 ?_ ?_ ?_ (by omega)]
 ·rw[Zay];simp(disch:=omega)only[QM,QD,Ze Zk,Y1,Zmt];rw[Zm1 (by rw[Ze Zk];omega)]
 ·rfl
 ·intro f hf';have hl:(Xa n f 0 0).length<=2000:=Xm h (by omega) (by omega) (by omega);simp(disch:=omega)only[QM,QD,Ze Zk,Y1];rw[Zh (λi:Nat=>(fl plc (Xa n f i 0),((i*(840/n):Nat):Int),())) 0 (fl plc (Xa n f (n+1) 0),(((n+1)*(840/n):Nat):Int),()) (n+1) ?_ ?_ ?_ (by omega)]
  ·have hl:(Xa n f (n+1) 0).length<=2000:=Xm h (by omega) (by omega) (by omega);simp(disch:=omega)only[QM,QD,Ze Zk,Y1,Zm3,Zm2];unfold Xa;rw[Zlr]
  ·simp only[Zm5];rfl
  ·intro i hi;have hl:(Xa n f i 0).length<=2000:=Xm h (by omega) (by omega) (by omega);have hA:=Zi1 h (show i<=n by omega);have hA1:(i+1)*(840/n)=i*(840/n)+840/n:=Zot _ _;rw[hA1];generalize hAe:i*(840/n)=A at hA⊢;simp(disch:=omega)only[QM,QD,Ze Zk,Y1];rw[Zh (λj:Nat=>(fl plc (Xa n f i j),((j*(840/n):Nat):Int),())) 0 (fl plc (Xa n f i (n+1-i)),(((n+1-i)*(840/n):Nat):Int),()) (n+1-i) ?_ ?_ ?_ (by omega)]
   ·have hl:(Xa n f i (n+1-i)).length<=2000:=Xm h (by omega) (by omega) (by omega);generalize hst':840/n=s at*
    simp(disch:=omega)only[QM,QD,Ze Zk,Y1,Zm3];unfold Xa;rw[Zlq]
   ·simp only[Zm5];rfl
   ·intro j hj;have hl:(Xa n f i j).length<=2000:=Xm h (by omega) (by omega) (by omega);have hs:=Zc7 (n:=n) (i:=i) (j:=j) h (by omega);have hB1:(j+1)*(840/n)=j*(840/n)+840/n:=Zot _ _;have hok:=Ziv (f:=f) h hf' (show i+j<=n by omega);have hN:=Hl fu d hf (pt n f i j) hok;have hin:0<A->0<j*(840/n)->0<(n-i-j)*(840/n)->isN (pt n f i j)=true:=λh1 h2 h3=>Zf7 hok (by show 0<i*(840/n);omega) h2 h3;have hup:=Zks n f i j;rw[hB1];simp only[plc]at hN;generalize isN (pt n f i j)=z at hN hin hup;simp only[pt]at hN hup;rw[hAe]at hs hN hup;generalize j*(840/n)=B at*
    generalize (n-i-j)*(840/n)=D at*
    generalize 840/n=s at*
    have hD:(840:Int)-A-B=(D:Int):=by omega
    rw[hup];by_cases c1:0<A
    ·by_cases c2:0<B
     ·by_cases c3:0<D
      ·rw[hin c1 c2 c3];simp(disch:=omega)only[QM,QD,hD,P1,Ze Zk,Y1,Znb,Zms,Zmr,Zmt,Zm3]
      ·cases z<;>simp(disch:=omega)only[QM,QD,hD,hN,P1,Ze Zk,Y1,Znb,Zms,Zmr,Zmt,Zm3]
     ·cases z<;>simp(disch:=omega)only[QM,QD,hD,hN,P1,Ze Zk,Y1,Znb,Zms,Zmr,Zmt,Zm3]
    ·cases z<;>simp(disch:=omega)only[QM,QD,hD,hN,P1,Ze Zk,Y1,Znb,Zms,Zmr,Zmt,Zm3]
   ·have hl:(Xa n f i (n+1-i)).length<=2000:=Xm h (by omega) (by omega) (by omega);have hs:=Zc7 (n:=n) (i:=i) (j:=n-i) h (by omega);have h1:(n+1-i)*(840/n)=(n-i)*(840/n)+840/n:=by rw[show n+1-i=n-i+1 by omega,Zot]
    rw[hAe,show n-i-(n-i)=0 by omega]at hs;rw[h1];generalize (n-i)*(840/n)=B at*
    generalize 840/n=s at*
    simp(disch:=omega)only[QM,QD,Ze Zk,Y1,Zm3]
  ·have hl:(Xa n f (n+1) 0).length<=2000:=Xm h (by omega) (by omega) (by omega);have h1:(n+1)*(840/n)=840+840/n:=by rw[Zot,Vv h]
   rw[h1];generalize 840/n=s at*
   simp(disch:=omega)only[QM,QD,Ze Zk,Y1,Zm3]
 ·have hl:(Xa n 20 0 0).length<=2000:=Xm h (by omega) (by omega) (by omega);simp(disch:=omega)only[QM,QD,Ze Zk,Y1];rfl
end Go.Proofs.YtobmbacppbkgeaaGreatDoor
namespace Go.Grid
def ins (s:Nat×Nat):List (Nat×Nat)->List (Nat×Nat)
 | []=>[s]
 |x::r=>if x.1<s.1 then x::ins s r else s::x::r
theorem Zi2 {s:Nat×Nat}: ∀{l:List (Nat×Nat)} {k:Nat},k<=l.length->(∀j (h:j<l.length),j<k->l[j].1<s.1)->(∀h:k<l.length,¬l[k].1<s.1)->ins s l=l.take k++s::l.drop k
 | [],k,hk,_,_=>by simp at hk;subst hk;rfl
 |x::r,0,_,_,h=>by
  have:=h (by simp);simp only[Zsk]at this;simp[ins,this]
 |x::r,k+1,hk,h1,h2=>by
  have:=h1 0 (by simp) (by omega);simp only[Zsk]at this;simp only[ins,this,if_true,List.take_succ_cons,List.drop_succ_cons,List.cons_append];rw[Zi2 (k:=k) (by simpa using hk) (λj hj hjk=>by have:=h1 (j+1) (by simp;omega) (by omega);simpa using this) (λhh=>by have:=h2 (by simp;omega);simpa using this)]
theorem M4 (s:Nat×Nat): ∀l,(ins s l).length=l.length+1
 | []=>rfl
 |x::r=>by unfold ins;split<;>simp[M4 s r]
theorem Ea (s:Nat×Nat): ∀l,(ins s l).Perm (s::l)
 | []=> .refl _
 |x::r=>by
  unfold ins;split
  ·exact((Ea s r).cons x).trans (.swap _ _ _)
  ·exact .refl _
def asc (l:List (Nat×Nat)):Prop:=l.Pairwise (λa b=>a.1<b.1)
theorem Zej {s:Nat×Nat}: ∀{l:List (Nat×Nat)},asc l->(∀x∈l,x.1≠s.1)->asc (ins s l)
 | [],_,_=>by simp[ins,asc]
 |x::r,h,hne=>by
  obtain⟨h1,h2⟩:=Zrt.1 h;unfold ins;split
  ·rename_i hlt;refine Zrt.2 ⟨λy hy=> ?_,Zej h2 λy hy=>hne y (by simp[hy])⟩;rcases Zrx.1 ((Ea s r).mem_iff.1 hy)with rfl|hy
   ·exact hlt
   ·exact h1 y hy
  ·rename_i hlt;have:=hne x (by simp);refine Zrt.2 ⟨λy hy=> ?_,h⟩;rcases Zrx.1 hy with rfl|hy
   ·omega
   ·have:=h1 y hy;omega
def K3 (n:Nat) (p:Pl):Nat:=p.a%(840/n)+p.b%(840/n)+p.c%(840/n)
def corners (n:Nat) (p:Pl):List (Pl×Nat):=
 if K3 n p=0 then[(p,840)]else
 if K3 n p=840/n then
  [(⟨p.f,p.a-p.a%(840/n)+840/n,p.b-p.b%(840/n),p.c-p.c%(840/n)⟩,p.a%(840/n)*n),
   (⟨p.f,p.a-p.a%(840/n),p.b-p.b%(840/n)+840/n,p.c-p.c%(840/n)⟩,p.b%(840/n)*n),
   (⟨p.f,p.a-p.a%(840/n),p.b-p.b%(840/n),p.c-p.c%(840/n)+840/n⟩,p.c%(840/n)*n)]
 else
  [(⟨p.f,p.a-p.a%(840/n),p.b-p.b%(840/n)+840/n,p.c-p.c%(840/n)+840/n⟩,840-p.a%(840/n)*n),
   (⟨p.f,p.a-p.a%(840/n)+840/n,p.b-p.b%(840/n),p.c-p.c%(840/n)+840/n⟩,840-p.b%(840/n)*n),
   (⟨p.f,p.a-p.a%(840/n)+840/n,p.b-p.b%(840/n)+840/n,p.c-p.c%(840/n)⟩,840-p.c%(840/n)*n)]
def raw (n:Nat) (p:Pl):List (Nat×Nat):=((corners n p).filter λc=>decide (0<c.2)).map λc=>(idx n c.1,c.2)
def Qs (l:List (Nat×Nat)):List (Nat×Nat):=l.foldl (λa s=>ins s a) []
def shares (n:Nat) (p:Pl):List (Nat×Nat):=Qs (raw n p)
theorem M5 {n:Nat} (h:Yq n) {p:Pl} (hp:p.ok):K3 n p=0\/K3 n p=840/n\/K3 n p=2*(840/n):=by
 have hst:=Xv h;have hm:=Vv h;obtain⟨_,hs⟩:=hp;unfold K3;generalize 840/n=s at*
 have e1:=Zsa p.a s;have e2:=Zsa p.b s;have e3:=Zsa p.c s;have l1:=Zrr p.a (show 0<s by omega);have l2:=Zrr p.b (show 0<s by omega);have l3:=Zrr p.c (show 0<s by omega);have hd:s*n=s*(p.a/s+p.b/s+p.c/s)+(p.a%s+p.b%s+p.c%s):=by
  rw[Nat.mul_add,Nat.mul_add,Zrs s n,hm,<-hs];generalize s*(p.a/s)=u at*
  generalize s*(p.b/s)=v at*
  generalize s*(p.c/s)=w at*
  omega
 have hlt:p.a%s+p.b%s+p.c%s<3*s:=by omega
 generalize p.a%s+p.b%s+p.c%s=r at*
 generalize p.a/s+p.b/s+p.c/s=q at*
 have hr:r=s*(n-q):=by rw[Nat.mul_sub];omega
 have:n-q<3:=by
  rcases Nat.lt_or_ge (n-q) 3 with h|h
  ·exact h
  ·have:=Nat.mul_le_mul_left s h;omega
 rcases(show n-q=0\/n-q=1\/n-q=2 by omega)with e|e|e
 ·left;rw[hr,e];simp
 ·right;left;rw[hr,e];simp
 ·right;right;rw[hr,e];omega
theorem dvd_sub_mod (a s:Nat):s∣a-a%s:=Nat.dvd_sub_mod a
theorem Vw {n:Nat} (h:Yq n) {p:Pl} (hp:p.ok): ∀c∈corners n p,c.1∈pts n/\c.1.f=p.f/\c.1.ok:=by
 have hst:=Xv h;have hc:=M5 h hp;obtain⟨h1,hs⟩:=hp;have l1:=Zr2 p.a (840/n);have l2:=Zr2 p.b (840/n);have l3:=Zr2 p.c (840/n);have key: ∀a b c,a+b+c=840->840/n∣a->840/n∣b->840/n∣c->(⟨p.f,a,b,c⟩:Pl)∈pts n/\(⟨p.f,a,b,c⟩:Pl).f=p.f/\(⟨p.f,a,b,c⟩:Pl).ok:=λa b c e d1 d2 d3=>
  ⟨F3 h ⟨h1,e⟩ d1 d2 d3,rfl,h1,e⟩
 have d1:=dvd_sub_mod p.a (840/n);have d2:=dvd_sub_mod p.b (840/n);have d3:=dvd_sub_mod p.c (840/n);have g1:=Zsb d1 (Zsc (840/n));have g2:=Zsb d2 (Zsc (840/n));have g3:=Zsb d3 (Zsc (840/n));intro c hm;unfold corners at hm;unfold K3 at hc hm;split at hm
 ·simp only[Zsd]at hm;subst hm;have:=key p.a p.b p.c hs (Zse (by omega)) (Zse (by omega)) (Zse (by omega));exact this
 ·split at hm
  ·simp only[Zrx,Zsf,or_false]at hm;rcases hm with rfl|rfl|rfl
   ·exact key _ _ _ (by omega) g1 d2 d3
   ·exact key _ _ _ (by omega) d1 g2 d3
   ·exact key _ _ _ (by omega) d1 d2 g3
  ·simp only[Zrx,Zsf,or_false]at hm;rcases hm with rfl|rfl|rfl
   ·exact key _ _ _ (by omega) d1 g2 g3
   ·exact key _ _ _ (by omega) g1 d2 g3
   ·exact key _ _ _ (by omega) g1 g2 d3
theorem Ez {n:Nat} (h:Yq n) (p:Pl):(corners n p).Pairwise λc d=>c.1≠d.1:=by
 have hst:=Xv h;unfold corners;split
 ·simp
 ·split<;>(refine Zrt.2 ⟨λc hc=> ?_,Zrt.2 ⟨λc hc=> ?_,Zrt.2 ⟨λc hc=>(by cases hc), .nil⟩⟩⟩<;>
   (simp only[Zrx,Zsf,or_false]at hc;intro e
    first
    |(rcases hc with rfl|rfl<;>(simp only[Pl.mk.injEq]at e;omega))
    |(subst hc;simp only[Pl.mk.injEq]at e;omega)))
theorem Za1 {n:Nat} (h:Yq n) {p:Pl} (hp:p.ok):((corners n p).map (·.2)).sum=840:=by
 have hm:=Vv h;have hst:=Xv h;have hc:=M5 h hp;have l1:=Zrr p.a (show 0<840/n by omega);have l2:=Zrr p.b (show 0<840/n by omega);have l3:=Zrr p.c (show 0<840/n by omega);have m1:=Zsg n (Zsh l1);have m2:=Zsg n (Zsh l2);have m3:=Zsg n (Zsh l3);have hadd:(p.a%(840/n)+p.b%(840/n)+p.c%(840/n))*n=p.a%(840/n)*n+p.b%(840/n)*n+p.c%(840/n)*n:=by rw[Zrb,Zrb]
 unfold corners;unfold K3 at*
 rw[Zrs]at hm;split
 ·rfl
 ·split
  ·rename_i e;rw[e,hm]at hadd;simp only[List.map_cons,List.map_nil,List.sum_cons,Zsi];omega
  ·have e:p.a%(840/n)+p.b%(840/n)+p.c%(840/n)=2*(840/n):=by omega
   rw[e,Nat.mul_assoc,hm]at hadd;simp only[List.map_cons,List.map_nil,List.sum_cons,Zsi];omega
theorem Eb (l:List (Pl×Nat)):((l.filter λc=>decide (0<c.2)).map (·.2)).sum=(l.map (·.2)).sum:=by
 induction l with
 |nil=>rfl
 |cons c r ih=>
  rw[List.filter_cons];split
  ·simp[ih]
  ·rename_i h;simp only[decide_eq_true_eq]at h;simp[ih];omega
theorem As {n:Nat} (h:Yq n) {p:Pl} (hp:p.ok):(raw n p).Pairwise (λa b=>a.1≠b.1)/\((raw n p).map (·.2)).sum=840/\(∀s∈raw n p,s.1<10*n*n+2/\0<s.2)/\(raw n p).length<=3/\raw n p≠[]:=by
 have hsum:((raw n p).map (·.2)).sum=840:=by
  unfold raw;rw[List.map_map];exact(Eb _).trans (Za1 h hp)
 refine⟨?_,hsum,λs hs=> ?_, ?_,λe=>by rw[e]at hsum;simp at hsum⟩
 ·unfold raw;refine Zr4.map _ (λa b hab=>hab) ?_;have h1:=(Ez h p).filter (λc=>decide (0<c.2));refine Zr4.imp_of_mem (λ{a b} ha hb hab e=>hab ?_) h1;obtain⟨p1,f1,_⟩:=Vw h hp a (Zru.1 ha).1;obtain⟨p2,f2,_⟩:=Vw h hp b (Zru.1 hb).1;exact Zkn h p1 p2 (f1.trans f2.symm) e
 ·obtain⟨c,hc,rfl⟩:=Zrv.1 hs;obtain⟨h1,h2⟩:=Zru.1 hc;refine⟨?_,of_decide_eq_true h2⟩;rw[<-L3 h];exact F4 h (Vw h hp c h1).1
 ·unfold raw;rw[List.length_map];refine Nat.le_trans (Zr1 _ _) ?_;unfold corners
  (repeat' split)<;>simp
theorem Ed: ∀(l a:List (Nat×Nat)),asc a->(a++l).Pairwise (λx y=>x.1≠y.1)->asc (l.foldl (λa s=>ins s a) a)/\(l.foldl (λa s=>ins s a) a).Perm (a++l)
 | [],a,h,_=>by simp[h]
 |s::l,a,h,hp=>by
  have hp':(s::a++l).Pairwise (λx y=>x.1≠y.1):=(List.perm_middle.pairwise_iff (λ{x y} hxy=>Ne.symm hxy)).1 hp;obtain⟨q1,q2⟩:=Zrt.1 hp';have h1:asc (ins s a):=Zej h λx hx=>Ne.symm (q1 x (by simp[hx]));have h2:(ins s a++l).Perm (s::a++l):=(Ea s a).append_right l;obtain⟨r1,r2⟩:=Ed l (ins s a) h1 ((h2.pairwise_iff (λ{x y} hxy=>Ne.symm hxy)).2 hp');exact⟨r1,r2.trans (h2.trans List.perm_middle.symm)⟩
theorem Zgc {n:Nat} (h:Yq n) {p:Pl} (hp:p.ok):asc (shares n p)/\(shares n p).Perm (raw n p):=by
 have:=Ed (raw n p) [] (by simp[asc]) (by simpa using (As h hp).1);exact⟨this.1,this.2.trans (by rw[List.nil_append])⟩
theorem Zi3 {l l':List (Nat×Nat)} (h:l.Perm l'):(l.map (·.2)).sum=(l'.map (·.2)).sum:=(h.map _).sum_nat
end Go.Grid
namespace Go.Proofs.YtobmbacppbkgeaaGreatDoor
open Go Go.PM Go.Grid
theorem Zkt (fu d:Nat) (p q:Pl):cl fu (d+1) fn_synopticref03_less [V.agg (plc p),V.agg (plc q)] []=OK (B (decide (plt p q))):=by
 unfold plc;rw[eq_synopticref03_less];by_cases h1:p.f=q.f
 ·by_cases h2:p.a=q.a
  ·by_cases h3:p.b<q.b
   ·rw[decide_eq_true (show plt p q from .inr ⟨h1, .inr ⟨h2,h3⟩⟩)];simp(disch:=omega)only[QM,QD]
   ·rw[decide_eq_false (show ¬plt p q from by unfold plt;omega)];simp(disch:=omega)only[QM,QD]
  ·by_cases h3:p.a<q.a
   ·rw[decide_eq_true (show plt p q from .inr ⟨h1, .inl h3⟩)];simp(disch:=omega)only[QM,QD]
   ·rw[decide_eq_false (show ¬plt p q from by unfold plt;omega)];simp(disch:=omega)only[QM,QD]
 ·by_cases h3:p.f<q.f
  ·rw[decide_eq_true (show plt p q from .inl h3)];simp(disch:=omega)only[QM,QD]
  ·rw[decide_eq_false (show ¬plt p q from by unfold plt;omega)];simp(disch:=omega)only[QM,QD]
theorem L6 {l:List Pl} (h:l.Pairwise plt) {i j:Nat} (hi:i<l.length) (hj:j<l.length) (hij:i<j):plt l[i] l[j]:=Zqf.1 h i j hi hj hij
theorem Zku (fu d:Nat) (hf:18446744073709551616<=fu) (l:List Pl) (hl:l.length<=1000000) (hs:l.Pairwise plt) (k:Nat) (hk:k<l.length):
  cl fu (d+2) fn_synopticref03_find [V.c (C.sl l.length (fl plc l)),V.agg (plc l[k])] []=OK (I k):=by
 have hq:plc l[k]=[.v (.int .i64 l[k].f), .v (.int .i64 l[k].a), .v (.int .i64 l[k].b), .v (.int .i64 l[k].c)]:=rfl;rw[hq,eq_synopticref03_find];rw[Zc3 (λy:Int×Int×Unit=> ∃lo hi:Nat,y=((lo:Int),(hi:Int),())/\lo<=k/\k<=hi/\hi<=l.length) (λy=>(y.2.1-y.1).toNat) 0 ((k:Int),(k:Int),()) ?_ ?_ ?_]
 ·have hd:=Zy Zk hk;simp(disch:=omega)only[QM,QD,Zmv,hd,plc,Zmw,Zmz,Zc0]
 ·exact⟨0,l.length,rfl,Znv _,by omega,Zm8 _⟩
 ·simp only[];omega
 ·rintro _ ⟨lo,hi,rfl,g1,g2,g3⟩
  by_cases hlt:lo<hi
  ·left;have hm:Zqz ((lo:Int)+(hi:Int)) 2=(((lo+hi)/2:Nat):Int):=by
    rw[show((lo:Int)+(hi:Int))=((lo+hi:Nat):Int) from by omega];rfl
   have hml:(lo+hi)/2<l.length:=by omega
   have hd:=Zy Zk hml;have hless:=Zkt fu d l[(lo+hi)/2] l[k];simp only[plc]at hless;by_cases hmk:(lo+hi)/2<k
   ·rw[decide_eq_true (L6 hs hml hk hmk)]at hless;refine⟨((((lo+hi)/2+1:Nat):Int),(hi:Int),()), ?_,⟨(lo+hi)/2+1,hi,rfl,by omega,g2,g3⟩, ?_⟩
    ·simp(disch:=omega)only[QM,QD,hm,Zmv,hd,plc,Zmw,Zmz,hless,Zm3,Zm2]
    ·simp only[];omega
   ·have hn: ¬plt l[(lo+hi)/2] l[k]:=by
     rcases Nat.lt_or_ge k ((lo+hi)/2)with h|h
     ·exact λh'=>M3 _ (Zf5 h' (L6 hs hk hml h))
     ·have:(lo+hi)/2=k:=by omega
      simp only[this];exact M3 _
    rw[decide_eq_false hn]at hless;refine⟨((lo:Int),(((lo+hi)/2:Nat):Int),()), ?_,⟨lo,(lo+hi)/2,rfl,g1,by omega,by omega⟩, ?_⟩
    ·simp(disch:=omega)only[QM,QD,hm,Zmv,hd,plc,Zmw,Zmz,hless]
    ·simp only[];omega
  ·right;have e1:lo=k:=by omega
   have e2:hi=k:=by omega
   subst e1 e2;simp(disch:=omega)only[QM,QD]
theorem Za2 {n:Nat} (h:Yq n):(Qd n).length<=700:=by
 rw[L3 h];rcases Q9 h with rfl|rfl|rfl|rfl|rfl|rfl|rfl|rfl<;>decide
theorem Zgd (fu d:Nat) (hf:18446744073709551616<=fu) (n:Nat) (h:Yq n) (p:Pl) (hp:p∈pts n):
  cl fu (d+5) fn_synopticref03_at [V.c (C.sl (Qd n).length (fl plc (Qd n))),I p.f,I p.a,I p.b] []=OK (I (idx n p)):=by
 have hok:=F2 h hp;have hs:=hok.2;have e1:=Si fu d hf p hok;have e2:=Zku fu (d+2) hf (Qd n) (by have:=Za2 h;omega) (Ap h) (idx n p) (F4 h hp);rw[Zda h hp]at e2;have hc:(840:Int)-p.a-p.b=p.c:=by omega
 simp only[plc]at e1 e2;rw[eq_synopticref03_at];simp(disch:=omega)only[QM,QD,hc,e1,e2,Zms,Zmr,Zmt,Nat.reduceAdd]
theorem Zls (fu d:Nat) (hf:18446744073709551616<=fu) (n:Nat) (h:Yq n) (p:Pl) (hp:p∈pts n):
  cl fu (d+5) fn_mesh_Net_at [V.c (C.cp (Zf9 n (Qd n))),V.agg (plc p)] []=OK (I (idx n p)):=by
 have hok:=F2 h hp;have e1:=Ck fu d hf p hok;have e2:=Zei (Qd n) 0 0 (Zaw h hp);simp only[plc]at e1 e2⊢;rw[eq_mesh_Net_at];simp(disch:=omega)only[QM,QD,e1,mfd,e2,orZ,Zms,Zmr,Zmt,Nat.reduceAdd];rfl
def shc (s:Nat×Nat):List C:=[.v (.int .i64 s.1), .v (.int .i64 s.2)]
theorem Zz (s:Nat×Nat):(shc s).length=2:=rfl
theorem Au (l:List (Nat×Nat)):l.length*2/2=l.length:=Zog _ (by omega)
def lcC (l:List (Nat×Nat)):C:=match l with| []=>C.nl|_=>C.sl l.length (fl shc l)
theorem Zdc {l:List (Nat×Nat)} (h:l≠[]):lcC l=C.sl l.length (fl shc l):=by cases l with|nil=>exact absurd rfl h|cons x r=>rfl
theorem Zi4 (fu d:Nat) (hf:18446744073709551616<=fu) (l:List (Nat×Nat)) (hl:l.length<=1000) (s:Nat×Nat):
  cl fu (d+1) fn_synopticref03_share [V.c (lcC l),I s.1,I s.2] []=OK (V.c (lcC (if s.2=0 then l else ins s l))):=by
 obtain⟨a,w⟩:=s;simp only;by_cases hw:w=0
 ·rw[if_pos hw];subst hw;cases l with
  |nil=>
   show cl fu (d+1) fn_synopticref03_share [V.c C.nl,I (a:Int),I ((0:Nat):Int)] []=_;rw[eqn0_synopticref03_share];rfl
  |cons x r=>
   show cl fu (d+1) fn_synopticref03_share [V.c (C.sl (x::r).length (fl shc (x::r))),I (a:Int),I ((0:Nat):Int)] []=_;rw[eq_synopticref03_share];rfl
 ·rw[if_neg hw];cases l with
  |nil=>
   show cl fu (d+1) fn_synopticref03_share [V.c C.nl,I (a:Int),I (w:Int)] []=_;rw[eqn0_synopticref03_share,V1 (show(w:Int)≠0 by omega)];obtain⟨fu',rfl⟩: ∃m,fu=m+1:=⟨fu-1,by omega⟩;simp(disch:=omega)only[QM,QD,Yz];rfl
  |cons x r=>
   rw[Zdc (List.cons_ne_nil x r),eq_synopticref03_share,V1 (show(w:Int)≠0 by omega)];generalize hL:x::r=L at hl⊢;obtain⟨k,k1,k2,k3⟩: ∃k,k<=L.length/\(∀j (h:j<L.length),j<k->L[j].1<a)/\(∀h:k<L.length,¬L[k].1<a):=by
    rcases Yf (λj=> ∃h:j<L.length,¬L[j].1<a) L.length with h0|⟨k,h1,⟨h2,h3⟩,h4⟩
    ·exact⟨L.length,Zm8 _,λj h _=>Classical.byContradiction λe=>h0 j h ⟨h,e⟩,λh=>absurd h (Zpe _)⟩
    ·exact⟨k,Zqo h1,λj h hj=>Classical.byContradiction λe=>h4 j hj ⟨h,e⟩,λ_=>h3⟩
   rw[Zi2 (s:=(a,w)) k1 k2 k3];simp only[QM];rw[Zh (λj:Nat=>((j:Int),())) 0 ((k:Int),()) k ?_ ?_ ?_ (by omega)]
   ·have t1:Zqy ((L.length-k)*2) (Zqx (k*2) (fl shc L))=fl shc (L.drop k):=by
     rw[An Zz,Zm1 (by rw[Ze Zz];simp)]
    have t2:Zqy (k*2) (fl shc L)=fl shc (L.take k):=Zef Zz k L;have t3:Zqy ((1+(L.length-k))*2) ([C.v (.int .i64 (a:Int)),C.v (.int .i64 (w:Int))]++fl shc (L.drop k))=fl shc ((a,w)::L.drop k):=by
     rw[U2,Zm1];rfl;rw[Znb,Ze Zz,Zom];simp;omega
    have t4:Zqy ((k+(1+(L.length-k)))*2) (fl shc (L.take k)++fl shc ((a,w)::L.drop k))=fl shc (L.take k++(a,w)::L.drop k):=by
     rw[<-Na,Zm1];rw[Ze Zz,Znb,Zms,Znr,Zom];omega
    have l1:(fl shc (L.drop k)).length=(L.length-k)*2:=by rw[Ze Zz,Zom]
    have l2:(fl shc (L.take k)).length=k*2:=by rw[Ze Zz,Znr,Zol k1]
    have l3:(fl shc ((a,w)::L.drop k)).length=(1+(L.length-k))*2:=by rw[Ze Zz,Zms,Zom];omega
    have hne:L.take k++(a,w)::L.drop k≠[]:=by simp
    rw[Zdc hne,Znb,Zms,Znr,Zom,Zol k1,show L.length-k+1=1+(L.length-k) by omega];simp(disch:=omega)only[QM,QD,Zmv,t1,t2,t3,t4,l1,l2,l3,Znb,Zms,Zmr,decide_true,Zmt]
   ·rfl
   ·intro j hj;have hj':j<L.length:=by omega
    have hd:=Zy Zz hj';have:=k2 j hj' hj;simp(disch:=omega)only[QM,QD,Zmv,hd,shc,Zmw,Zmz,Zm3,Zm2]
   ·by_cases hk:k<L.length
    ·have hd:=Zy Zz hk;have:=k3 hk;simp(disch:=omega)only[QM,QD,Zmv,hd,shc,Zmw,Zmz]
    ·simp(disch:=omega)only[QM,QD]
end Go.Proofs.YtobmbacppbkgeaaGreatDoor
namespace Go.Proofs.YtobmbacppbkgeaaGreatDoor
open Go Go.PM Go.Grid
set_option maxRecDepth 20000
theorem Zge (fu d:Nat) (hf:18446744073709551616<=fu) (a w:Nat):
  cl fu (d+2) fn_slices_insertionSortCmpFunc_api_Share [V.own 1000000 0 1,I 0,I 1,V.c (C.fn fn_mesh_Net_Locate_1 [])] [.sb ty_api_Share 0 [.v (.int .i64 a), .v (.int .i64 w)]]=some ⟨V.tup [],[.sb ty_api_Share 0 [.v (.int .i64 a), .v (.int .i64 w)]],none⟩:=by
 obtain⟨fu',rfl⟩: ∃m,fu=m+9:=⟨fu-9,by omega⟩;rw[eq_slices_insertionSortCmpFunc_api_Share]
 repeat (rw[Yz];simp(disch:=omega)only[QM,QD,Znw,Zoa,Int.reduceToNat,Zm5,Zon,Nat.reduceMul,Zmt,Nat.reduceAdd,Zns,Zno,putAt,Zn4,Zn1,Zmw,Zmz,Zms,Zmr,Int.reduceAdd,Int.reduceSub,Int.reduceNeg,Zob,Zm2,Zoi,Zn8])
theorem Zgf (fu d:Nat) (hf:18446744073709551616<=fu) (a w a2 w2:Nat) (h:a≠a2) (ha:a<=1000000) (ha2:a2<=1000000):
  cl fu (d+2) fn_slices_insertionSortCmpFunc_api_Share [V.own 1000000 0 2,I 0,I 2,V.c (C.fn fn_mesh_Net_Locate_1 [])] [.sb ty_api_Share 0 [.v (.int .i64 a), .v (.int .i64 w), .v (.int .i64 a2), .v (.int .i64 w2)]]=some ⟨V.tup [],[.sb ty_api_Share 0 (fl shc (Qs [(a,w),(a2,w2)]))],none⟩:=by
 obtain⟨fu',rfl⟩: ∃m,fu=m+9:=⟨fu-9,by omega⟩;rw[eq_slices_insertionSortCmpFunc_api_Share];simp only[Qs,Zry,ins];by_cases h1:a<a2
 ·rw[if_pos h1]
  repeat (rw[Yz];simp(disch:=omega)only[QM,QD,Znw,Zoa,Int.reduceToNat,Zm5,Zon,Nat.reduceMul,Zmt,Nat.reduceAdd,Zns,Zno,putAt,Zn4,Zn1,Zmw,Zmz,Zms,Zmr,Int.reduceAdd,Int.reduceSub,Int.reduceNeg,Zob,Zm2,Zoi,Zn8,eq_mesh_Net_Locate_1])
  rfl
 ·rw[if_neg h1]
  repeat (rw[Yz];simp(disch:=omega)only[QM,QD,Znw,Zoa,Int.reduceToNat,Zm5,Zon,Nat.reduceMul,Zmt,Nat.reduceAdd,Zns,Zno,putAt,Zn4,Zn1,Zmw,Zmz,Zms,Zmr,Int.reduceAdd,Int.reduceSub,Int.reduceNeg,Zob,Zm2,Zoi,Zn8,eq_mesh_Net_Locate_1])
  rfl
set_option maxHeartbeats 2000000 in
theorem Zgg (fu d:Nat) (hf:18446744073709551616<=fu) (a w a2 w2 a3 w3:Nat) (h:a≠a2) (h':a≠a3) (h'':a2≠a3) (ha:a<=1000000) (ha2:a2<=1000000) (ha3:a3<=1000000):
  cl fu (d+2) fn_slices_insertionSortCmpFunc_api_Share [V.own 1000000 0 3,I 0,I 3,V.c (C.fn fn_mesh_Net_Locate_1 [])] [.sb ty_api_Share 0 [.v (.int .i64 a), .v (.int .i64 w), .v (.int .i64 a2), .v (.int .i64 w2), .v (.int .i64 a3), .v (.int .i64 w3)]]=some ⟨V.tup [],[.sb ty_api_Share 0 (fl shc (Qs [(a,w),(a2,w2),(a3,w3)]))],none⟩:=by
 obtain⟨fu',rfl⟩: ∃m,fu=m+9:=⟨fu-9,by omega⟩;rw[eq_slices_insertionSortCmpFunc_api_Share];simp only[Qs,Zry,ins];by_cases h1:a<a2
 ·rw[if_pos h1];simp only[ins];by_cases h2:a2<a3
  ·rw[if_pos (show a<a3 by omega),if_pos h2]
   repeat (rw[Yz];simp(disch:=omega)only[QM,QD,Znw,Zoa,Int.reduceToNat,Zm5,Zon,Nat.reduceMul,Zmt,Nat.reduceAdd,Zns,Zno,putAt,Zn4,Zn1,Zmw,Zmz,Zms,Zmr,Int.reduceAdd,Int.reduceSub,Int.reduceNeg,Zob,Zm2,Zoi,Zn8,eq_mesh_Net_Locate_1])
   rfl
  ·by_cases h3:a<a3
   ·rw[if_pos h3,if_neg h2]
    repeat (rw[Yz];simp(disch:=omega)only[QM,QD,Znw,Zoa,Int.reduceToNat,Zm5,Zon,Nat.reduceMul,Zmt,Nat.reduceAdd,Zns,Zno,putAt,Zn4,Zn1,Zmw,Zmz,Zms,Zmr,Int.reduceAdd,Int.reduceSub,Int.reduceNeg,Zob,Zm2,Zoi,Zn8,eq_mesh_Net_Locate_1])
    rfl
   ·rw[if_neg h3]
    repeat (rw[Yz];simp(disch:=omega)only[QM,QD,Znw,Zoa,Int.reduceToNat,Zm5,Zon,Nat.reduceMul,Zmt,Nat.reduceAdd,Zns,Zno,putAt,Zn4,Zn1,Zmw,Zmz,Zms,Zmr,Int.reduceAdd,Int.reduceSub,Int.reduceNeg,Zob,Zm2,Zoi,Zn8,eq_mesh_Net_Locate_1])
    rfl
 ·rw[if_neg h1];simp only[ins];by_cases h2:a<a3
  ·rw[if_pos (show a2<a3 by omega),if_pos h2]
   repeat (rw[Yz];simp(disch:=omega)only[QM,QD,Znw,Zoa,Int.reduceToNat,Zm5,Zon,Nat.reduceMul,Zmt,Nat.reduceAdd,Zns,Zno,putAt,Zn4,Zn1,Zmw,Zmz,Zms,Zmr,Int.reduceAdd,Int.reduceSub,Int.reduceNeg,Zob,Zm2,Zoi,Zn8,eq_mesh_Net_Locate_1])
   rfl
  ·by_cases h3:a2<a3
   ·rw[if_pos h3,if_neg h2]
    repeat (rw[Yz];simp(disch:=omega)only[QM,QD,Znw,Zoa,Int.reduceToNat,Zm5,Zon,Nat.reduceMul,Zmt,Nat.reduceAdd,Zns,Zno,putAt,Zn4,Zn1,Zmw,Zmz,Zms,Zmr,Int.reduceAdd,Int.reduceSub,Int.reduceNeg,Zob,Zm2,Zoi,Zn8,eq_mesh_Net_Locate_1])
    rfl
   ·rw[if_neg h3]
    repeat (rw[Yz];simp(disch:=omega)only[QM,QD,Znw,Zoa,Int.reduceToNat,Zm5,Zon,Nat.reduceMul,Zmt,Nat.reduceAdd,Zns,Zno,putAt,Zn4,Zn1,Zmw,Zmz,Zms,Zmr,Int.reduceAdd,Int.reduceSub,Int.reduceNeg,Zob,Zm2,Zoi,Zn8,eq_mesh_Net_Locate_1])
    rfl
theorem Zmh (fu d:Nat) (m:Nat) (h:m<=3): ∃k:Int,cl fu (d+2) fn_bits_Len [V.c (.v (.int .u64 (IntKind.u64.wrap ((m:Nat):Int))))] []=OK (I k):=by
 rw[eq_bits_Len];rcases(show m=0\/m=1\/m=2\/m=3 by omega)with rfl|rfl|rfl|rfl<;>(rw[show(IntKind.u64.wrap ((_:Nat):Int))=((_:Nat):Int) from rfl,eq_bits_Len64];exact⟨_,rfl⟩)
theorem Vj (l:List (Nat×Nat)):(Qs l).length=l.length:=by
 have: ∀(l a:List (Nat×Nat)),(l.foldl (λa s=>ins s a) a).length=a.length+l.length:=by
  intro l
  induction l with
  |nil=>simp
  |cons s l ih=>intro a;simp only[Zo4,ih,M4,Zms];omega
 exact(this l []).trans (Zmt _)
theorem Zmi (fu d:Nat) (hf:18446744073709551616<=fu) (m:Nat) (hm:m<=12) (lim:Int) (cs cs':List C) (hl:cs'.length=cs.length)
  (h:cl fu (d+2) fn_slices_insertionSortCmpFunc_api_Share [V.own 1000000 0 m,I 0,I m,V.c (C.fn fn_mesh_Net_Locate_1 [])] [.sb ty_api_Share 0 cs]=some ⟨V.tup [],[.sb ty_api_Share 0 cs'],none⟩):
  cl fu (d+3) fn_slices_pdqsortCmpFunc_api_Share [V.own 1000000 0 m,I 0,I m,I lim,V.c (C.fn fn_mesh_Net_Locate_1 [])] [.sb ty_api_Share 0 cs]=some ⟨V.tup [],[.sb ty_api_Share 0 cs'],none⟩:=by
 rw[eq_slices_pdqsortCmpFunc_api_Share];rw[Zip (e:=0) (z:=((m,cs'),0,(m:Int),lim,true,true,())) (by omega) ?_]
 ·simp only[QM]
 ·show(bif decide (Zqu.wrap ((m:Int)-0)<=12)then _ else _)=_;rw[Qp (by omega) (by omega),Zlo (by omega),ct,h];simp only[QM,hl]
theorem Za3 (fu d:Nat) (hf:18446744073709551616<=fu) (l:List (Nat×Nat)) (hl:l.length<=3) (hne:l≠[]) (hd:l.Pairwise λa b=>a.1≠b.1) (hb: ∀s∈l,s.1<=1000000):
  cl fu (d+4) fn_slices_SortFunc_sapi_Share_api_Share [V.own 1000000 0 l.length,V.c (C.fn fn_mesh_Net_Locate_1 [])] [.sb ty_api_Share 0 (fl shc l)]=some ⟨V.tup [],[.sb ty_api_Share 0 (fl shc (Qs l))],none⟩:=by
 obtain⟨k,hk⟩:=Zmh fu (d+1) l.length hl;have hlen:(fl shc (Qs l)).length=(fl shc l).length:=by rw[Ze Zz,Ze Zz,Vj]
 have main:cl fu (d+2) fn_slices_insertionSortCmpFunc_api_Share [V.own 1000000 0 l.length,I 0,I l.length,V.c (C.fn fn_mesh_Net_Locate_1 [])] [.sb ty_api_Share 0 (fl shc l)]=some ⟨V.tup [],[.sb ty_api_Share 0 (fl shc (Qs l))],none⟩:=by
  match l,hl,hne,hd,hb with
  | [x],_,_,_,_=>exact Zge fu d hf x.1 x.2
  | [x,y],_,_,hd,hb=>
   simp only[Zo1,Znl,Zpl,or_false,forall_eq]at hd;exact Zgf fu d hf x.1 x.2 y.1 y.2 hd.1 (hb x (by simp)) (hb y (by simp))
  | [x,y,z],_,_,hd,hb=>
   obtain⟨h1,h2⟩:=Zo1.1 hd;obtain⟨h3,_⟩:=Zo1.1 h2;exact Zgg fu d hf x.1 x.2 y.1 y.2 z.1 z.2 (h1 y (by simp)) (h1 z (by simp)) (h3 z (by simp)) (hb x (by simp)) (hb y (by simp)) (hb z (by simp))
 have e:=Zmi fu d hf l.length (by omega) k (fl shc l) (fl shc (Qs l)) hlen main;rw[eq_slices_SortFunc_sapi_Share_api_Share,hk];simp only[QM,e,hlen]
end Go.Proofs.YtobmbacppbkgeaaGreatDoor
namespace Go.Proofs.YtobmbacppbkgeaaGreatDoor
open Go Go.PM Go.Grid
theorem Za4 (l:List (Nat×Nat)) (r:List V):noYl (V.c (lcC l)::r)=true:=by cases l<;>rfl
theorem Sj (n:Nat): ∀(cs:List (Pl×Nat)) (a:List (Nat×Nat)),((cs.filter λc=>decide (0<c.2)).map λc=>(idx n c.1,c.2)).foldl (λa s=>ins s a) a=cs.foldl (λa c=>if c.2=0 then a else ins (idx n c.1,c.2) a) a
 | [],a=>rfl
 |c::cs,a=>by
  rw[Zqm];by_cases h:0<c.2
  ·rw[if_pos (by simpa using h),Zn0,Zo4,Zo4,Sj n cs,if_neg (by omega)]
  ·rw[if_neg (by simpa using h),Zo4,Sj n cs,if_pos (by omega)]
theorem Za5 (n:Nat) (p:Pl):shares n p=(corners n p).foldl (λa c=>if c.2=0 then a else ins (idx n c.1,c.2) a) []:=Sj n (corners n p) []
theorem Zgh {n:Nat} (h:Yq n) {p:Pl} (hp:p.ok):shares n p≠[]:=by
 intro e;have h1:=(As h hp).2.2.2.2;have h2:=Vj (raw n p);unfold shares at e;rw[e]at h2;exact h1 (Zna h2.symm)
theorem Vb {n:Nat} (h:Yq n) {v:Nat} (hv:v<=840):v%(840/n)<=v/\v%(840/n)<840/n/\v%(840/n)*n<=840/\
  Zqu.wrap (Zqu.wrap (Zqz (v:Int) ((840/n:Nat):Int))*((840/n:Nat):Int))=((v-v%(840/n):Nat):Int)/\
  Zqu.wrap ((n:Int)*Zqu.wrap ((v:Int)-((v-v%(840/n):Nat):Int)))=((v%(840/n)*n:Nat):Int)/\
  Zqu.wrap (Zq0 (v:Int) ((840/n:Nat):Int)*(n:Int))=((v%(840/n)*n:Nat):Int)/\Zq0 (v:Int) ((840/n:Nat):Int)=((v%(840/n):Nat):Int):=by
 have hst:=Xv h;have hm:=Vv h;have h1:=Zrr v (show 0<840/n by omega);have h2:=Zn9 n (Zqo h1);rw[Zo7 (840/n) n,hm]at h2;have h3:=Zqp v (840/n);have hd:Zqz (v:Int) ((840/n:Nat):Int)=((v/(840/n):Nat):Int):=rfl;have hmo:Zq0 (v:Int) ((840/n:Nat):Int)=((v%(840/n):Nat):Int):=rfl;have hle:=Zr2 v (840/n);refine⟨hle,h1,h2, ?_, ?_, ?_,hmo⟩
 ·have:v/(840/n)<=v:=Nat.div_le_self _ _;rw[hd,Qp (x:=((v/(840/n):Nat):Int)) (Zpw (by decide) (Zqd _)) (Zpw (Zr9.2 (Zni this hv)) (by decide)),<-Zpp,show v/(840/n)*(840/n)=v-v%(840/n) from by rw[Zo7];omega];have hq:v-v%(840/n)<=840:=Zni (Nat.sub_le _ _) hv;exact Qp (Zpw (by decide) (Zqd _)) (Zpw (Zr9.2 hq) (by decide))
 ·rw[show(v:Int)-((v-v%(840/n):Nat):Int)=((v%(840/n):Nat):Int) by omega,Qp (x:=((v%(840/n):Nat):Int)) (by omega) (by omega),<-Zpp,Zo7 n];generalize v%(840/n)*n=m at*
  exact Qp (by omega) (by omega)
 ·rw[hmo,<-Zpp];generalize v%(840/n)*n=m at*
  exact Qp (by omega) (by omega)
theorem Za6 {n:Nat} (h:Yq n) {p:Pl} (hp:p.ok):(K3 n p=0/\p.a%(840/n)*n+p.b%(840/n)*n+p.c%(840/n)*n=0)\/(K3 n p=840/n/\p.a%(840/n)*n+p.b%(840/n)*n+p.c%(840/n)*n=840)\/(K3 n p=2*(840/n)/\p.a%(840/n)*n+p.b%(840/n)*n+p.c%(840/n)*n=1680):=by
 have hm:=Vv h;rw[Zo7]at hm;have:K3 n p*n=p.a%(840/n)*n+p.b%(840/n)*n+p.c%(840/n)*n:=by unfold K3;rw[Zrb,Zrb]
 rcases M5 h hp with e|e|e
 ·left;rw[e]at this;exact⟨e,by omega⟩
 ·right;left;rw[e,hm]at this;exact⟨e,by omega⟩
 ·right;right;rw[e,Nat.mul_assoc,hm]at this;exact⟨e,by omega⟩
theorem Md (fu d:Nat) (hf:18446744073709551616<=fu) (n:Nat) (h:Yq n) (p:Pl) (hp:p.ok):
  cl fu (d+7) fn_synopticref03_Locate [I n,V.agg (plc p)] []=OK (V.tup [V.c (C.sl (shares n p).length (fl shc (shares n p))),I 0]):=by
 have hst:=Xv h;have hs:=hp.2;have hn:=h;unfold Yq at hn;obtain⟨a1,a2,a3,a4,a5,_,_⟩:=Vb h (show p.a<=840 by omega);obtain⟨b1,b2,b3,b4,b5,_,_⟩:=Vb h (show p.b<=840 by omega);obtain⟨c1,c2,c3,c4,c5,_,_⟩:=Vb h (show p.c<=840 by omega);have hv:=Ng hp;have hcp:=Vw h hp;have hfin:=Zdc (Zgh h hp);have hN:=Ar fu d hf n h;rw[<-hfin,Za5];simp only[plc];rw[eq_synopticref03_Locate,L5 fu (d+5) n h,Qq,hv,hN];simp only[QM];rw[V1 Za0,V1 (show(n:Int)≠0 by omega),F8 h,V1 (show((840/n:Nat):Int)≠0 by omega)];simp only[QM,a4,b4,c4,a5,b5,c5];have sh:=λ(l:List (Nat×Nat)) (hl:l.length<=1000) (a w:Nat)=>Zi4 fu (d+5) hf l hl (a,w);simp only at sh;have at':=λq (hq:q∈pts n)=>Zgd fu (d+1) hf n h q hq;unfold corners at hcp⊢;have insl: ∀(l:List (Nat×Nat)) (w:Nat) (s:Nat×Nat),(if w=0 then l else ins s l).length<=l.length+1:=λl w s=>by split<;>simp[M4]
 have hnil:C.nl=lcC []:=rfl;rcases Za6 h hp with⟨e,e'⟩|⟨e,e'⟩|⟨e,e'⟩
 ·rw[if_pos e]at hcp⊢;have q1:=at' p (hcp (p,840) (by simp)).1;have s1:=sh [] (by simp) (idx n p) 840;generalize p.a%(840/n)*n=xa at*
  generalize p.b%(840/n)*n=xb at*
  generalize p.c%(840/n)*n=xc at*
  simp(disch:=omega)only[QM,QD,q1];rw[hnil,show((840:Int))=((840:Nat):Int) from rfl,s1];simp only[QM,Zry]
 ·rw[if_neg (by omega),if_pos e]at hcp⊢;have q1:=at' _ (hcp _ (.head _)).1;have q2:=at' _ (hcp _ (.tail _ (.head _))).1;have q3:=at' _ (hcp _ (.tail _ (.tail _ (.head _)))).1;simp only[Zry];generalize idx n (⟨p.f,p.a-p.a%(840/n)+840/n,p.b-p.b%(840/n),p.c-p.c%(840/n)⟩:Pl)=i1 at*
  generalize idx n (⟨p.f,p.a-p.a%(840/n),p.b-p.b%(840/n)+840/n,p.c-p.c%(840/n)⟩:Pl)=i2 at*
  generalize idx n (⟨p.f,p.a-p.a%(840/n),p.b-p.b%(840/n),p.c-p.c%(840/n)+840/n⟩:Pl)=i3 at*
  simp only at q1 q2 q3;generalize p.a%(840/n)*n=xa at*
  generalize p.b%(840/n)*n=xb at*
  generalize p.c%(840/n)*n=xc at*
  generalize hr1:p.a-p.a%(840/n)=ra at*
  generalize hr2:p.b-p.b%(840/n)=rb at*
  generalize hr3:p.c-p.c%(840/n)=rc at*
  generalize 840/n=st at*
  simp only[Zm3]at q1 q2 q3;have s1:=sh [] (by simp) i1 xa;have s2:=sh (if xa=0 then[]else ins (i1,xa) []) (by have:=insl [] xa (i1,xa);simp at this⊢;omega) i2 xb;have s3:=sh (if xb=0 then(if xa=0 then[]else ins (i1,xa) [])else ins (i2,xb) (if xa=0 then[]else ins (i1,xa) [])) (by have h1:=insl [] xa (i1,xa);have h2:=insl (if xa=0 then[]else ins (i1,xa) []) xb (i2,xb);simp at h1 h2⊢;omega) i3 xc;simp(disch:=omega)only[QM,QD,q1,q2,q3,hnil,s1,s2,s3,Za4]
 ·rw[if_neg (by omega),if_neg (by omega)]at hcp⊢;have q1:=at' _ (hcp _ (.head _)).1;have q2:=at' _ (hcp _ (.tail _ (.head _))).1;have q3:=at' _ (hcp _ (.tail _ (.tail _ (.head _)))).1;simp only[Zry];generalize idx n (⟨p.f,p.a-p.a%(840/n),p.b-p.b%(840/n)+840/n,p.c-p.c%(840/n)+840/n⟩:Pl)=i1 at*
  generalize idx n (⟨p.f,p.a-p.a%(840/n)+840/n,p.b-p.b%(840/n),p.c-p.c%(840/n)+840/n⟩:Pl)=i2 at*
  generalize idx n (⟨p.f,p.a-p.a%(840/n)+840/n,p.b-p.b%(840/n)+840/n,p.c-p.c%(840/n)⟩:Pl)=i3 at*
  simp only at q1 q2 q3;generalize p.a%(840/n)*n=xa at*
  generalize p.b%(840/n)*n=xb at*
  generalize p.c%(840/n)*n=xc at*
  generalize hr1:p.a-p.a%(840/n)=ra at*
  generalize hr2:p.b-p.b%(840/n)=rb at*
  generalize hr3:p.c-p.c%(840/n)=rc at*
  generalize 840/n=st at*
  simp only[Zm3]at q1 q2 q3;have k1:(840:Int)-(xa:Int)=((840-xa:Nat):Int):=by omega
  have k2:(840:Int)-(xb:Int)=((840-xb:Nat):Int):=by omega
  have k3:(840:Int)-(xc:Int)=((840-xc:Nat):Int):=by omega
  generalize hy1:840-xa=ya at*
  generalize hy2:840-xb=yb at*
  generalize hy3:840-xc=yc at*
  have s1:=sh [] (by simp) i1 ya;have s2:=sh (if ya=0 then[]else ins (i1,ya) []) (by have:=insl [] ya (i1,ya);simp at this⊢;omega) i2 yb;have s3:=sh (if yb=0 then(if ya=0 then[]else ins (i1,ya) [])else ins (i2,yb) (if ya=0 then[]else ins (i1,ya) [])) (by have h1:=insl [] ya (i1,ya);have h2:=insl (if ya=0 then[]else ins (i1,ya) []) yb (i2,yb);simp at h1 h2⊢;omega) i3 yc;simp(disch:=omega)only[QM,QD,k1,k2,k3,q1,q2,q3,hnil,s1,s2,s3,Za4]
end Go.Proofs.YtobmbacppbkgeaaGreatDoor
namespace Go.Proofs.YtobmbacppbkgeaaGreatDoor
open Go Go.PM Go.Grid
def wc1 (w:Nat):List C:=[.v (.int .i64 w)]
theorem Zdd (w:Nat):(wc1 w).length=1:=rfl
def V3 (n:Nat) (cs:List (Pl×Nat)) (j:Nat):List (Nat×Nat):=((cs.take j).filter λc=>decide (0<c.2)).map λc=>(idx n c.1,c.2)
theorem Zde (n:Nat) (cs:List (Pl×Nat)) (j:Nat) (h:j<cs.length):V3 n cs (j+1)=if 0<cs[j].2 then V3 n cs j++[(idx n cs[j].1,cs[j].2)]else V3 n cs j:=by
 unfold V3;rw[Znu h,Zr5,Zpd];simp only[Zqm,Zr6,decide_eq_true_eq];split<;>simp
theorem Zkv (l:List (Nat×Nat)) (a w:Nat):fl shc l++[.v (.int .i64 a), .v (.int .i64 w)]=fl shc (l++[(a,w)]):=Nb l (a,w)
theorem Za7 (n:Nat) (cs:List (Pl×Nat)) (j:Nat):(V3 n cs j).length<=j:=by
 unfold V3;rw[Zpb];refine Zni (Zr1 _ _) ?_;rw[Znr];omega
theorem Ee (fu d:Nat) (f a b c x y z:Int):cl fu (d+1) fn_mesh_moved [V.agg [.v (.int .i64 f), .v (.int .i64 a), .v (.int .i64 b), .v (.int .i64 c)],I x,I y,I z] []=OK (V.agg [.v (.int .i64 f), .v (.int .i64 (Zqu.wrap (a+x))), .v (.int .i64 (Zqu.wrap (b+y))), .v (.int .i64 (Zqu.wrap (c+z)))]):=by rw[eq_mesh_moved]
theorem Zkw (fu d:Nat) (hf:18446744073709551616<=fu) (n:Nat) (h:Yq n) (cs:List (Pl×Nat)) (hl:cs.length=3) (hcp: ∀c∈cs,c.1∈pts n) (hw: ∀c∈cs,c.2<=840) (hne:V3 n cs 3≠[]) (hd:(V3 n cs 3).Pairwise λa b=>a.1≠b.1):
  ((iter (λ(y:List C×Int×Unit)=>
   bif decide (y.2.1<3)then
    need (inR y.2.1 3)<|
    unc (Zqx (y.2.1.toNat*4) (Zqy 12 (fl plc (cs.map (·.1))))) λc5 r4=>
    asI .i64 c5 λi5=>
    unc r4 λc6 r5=>
    asI .i64 c6 λi6=>
    unc r5 λc7 r6=>
    asI .i64 c7 λi7=>
    unc r6 λc8 _=>
    asI .i64 c8 λi8=>
    need (inR y.2.1 3)<|
    unc (Zqx (y.2.1.toNat*1) (fl wc1 (cs.map (·.2)))) λc9 _=>
    asI .i64 c9 λi9=>
    bif decide (i9>0)then
     (cl fu (d+5) fn_mesh_Net_at [V.c (C.cp (Zf9 n (Qd n))),V.agg ([C.v (.int .i64 i5),C.v (.int .i64 i6),C.v (.int .i64 i7),C.v (.int .i64 i8)])] []).bind λout4=>
     rC out4.r λc10=>
     asI .i64 c10 λi10=>
     need (inR y.2.1 3)<|
     unc (Zqx (y.2.1.toNat*1) (fl wc1 (cs.map (·.2)))) λc11 _=>
     asI .i64 c11 λi11=>
     need ((((Zqv ((y.1.length/2)*2) y.1.length)&&true)&&(Zqw (((y.1.length/2)+1)*16) 140737488355328))&&(Zqw ((y.1.length/2)+1) 140737488355328))<|
     need (((Zqv (((y.1.length/2)+1)*2) ((y.1++([C.v (.int .i64 i10),C.v (.int .i64 i11)])).length))&&true)&&true)<|
     some (0,(y.1++([C.v (.int .i64 i10),C.v (.int .i64 i11)]),Zqu.wrap (y.2.1+1),()))
    else
     need (((Zqv ((y.1.length/2)*2) y.1.length)&&true)&&true)<|
     some (0,(y.1,Zqu.wrap (y.2.1+1),()))
   else
    need (((Zqv ((y.1.length/2)*2) y.1.length)&&true)&&true)<|
    some (1,(y.1,y.2.1,()))) fu ([],0,())).bind λp2=>
  (cl fu (d+5) fn_slices_SortFunc_sapi_Share_api_Share [V.own 1000000 0 (p2.2.1.length/2),V.c (C.fn fn_mesh_Net_Locate_1 ([]))] [.sb ty_api_Share 0 p2.2.1]).bind λout5=>
  uncO out5.objs λo os=>
  rS o ty_api_Share 0 λcs5=>
  need (Zqv cs5.length p2.2.1.length)<|
  need (Zqw (0+((p2.2.1.length/2)*2)) cs5.length)<|
  some ⟨V.c (C.sl (p2.2.1.length/2) (Zqy ((p2.2.1.length/2)*2) cs5)),[],none⟩)=OK (V.c (C.sl (Qs (V3 n cs 3)).length (fl shc (Qs (V3 n cs 3))))):=by
 have hr:=Za7 n cs 3;have hS:=Za3 fu (d+1) hf (V3 n cs 3) hr hne hd (λs hs=>by
  unfold V3 at hs;obtain⟨c,hc,rfl⟩:=Zpu.1 hs;have hm:=Zpg (Zru.1 hc).1;have h1:=F4 h (hcp c hm);have h2:=Za2 h;show idx n c.1<=1000000;omega)
 rw[Zh (λj:Nat=>(fl shc (V3 n cs j),(j:Int),())) 0 (fl shc (V3 n cs 3),(3:Int),()) 3 ?_ ?_ ?_ (by omega)]
 ·simp(disch:=omega)only[QM,QD,Ze Zz,Au,hS,Vj,Zmt];rw[Zm1 (by rw[Ze Zz,Vj];omega)]
 ·rfl
 ·intro j hj;have hjl:j<cs.length:=by omega
  have hm:cs[j]∈cs:=Znf hjl;have hA:=Zls fu d hf n h cs[j].1 (hcp _ hm);have hW:=hw _ hm;have hr:=Za7 n cs j;have t1:Zqy 12 (fl plc (cs.map (·.1)))=fl plc (cs.map (·.1)):=Zm1 (by rw[Ze Zk,Zpb,hl];omega);have hd1:=Zy Zk (l:=cs.map (·.1)) (k:=j) (by simpa using hjl);have hd2:=Zy Zdd (l:=cs.map (·.2)) (k:=j) (by simpa using hjl);rw[List.getElem_map]at hd1 hd2;rw[Zde n cs j hjl];simp only[plc]at hA;by_cases hp:0<cs[j].2
  ·rw[if_pos hp];simp(disch:=omega)only[QM,QD,t1,hd1,hd2,plc,wc1,Zmv,Zmw,Zmz,hA,Ze Zz,Au,Zkv,Znb,Zms,Zmr,Zmt,Zm3,Zm2]
  ·rw[if_neg hp];simp(disch:=omega)only[QM,QD,t1,hd1,hd2,plc,wc1,Zmv,Zmw,Zmz,Ze Zz,Au,Zm3,Zm2]
 ·simp(disch:=omega)only[QM,QD,Ze Zz,Au];rfl
theorem Zgi (fu d:Nat) (n:Nat) (h:Yq n) (l:List Pl) (f a b c:Nat) (ha:a<=840) (hb:b<=840) (hc:c<=840):
  cl fu (d+2) fn_mesh_Net_upward [V.c (C.cp (Zf9 n l)),V.agg (plc ⟨f,a,b,c⟩)] []=OK (V.agg (fl plc [⟨f,a+840/n,b,c⟩,⟨f,a,b+840/n,c⟩,⟨f,a,b,c+840/n⟩])):=by
 have hst:=Xv h;simp only[plc];rw[eq_mesh_Net_upward];generalize 840/n=s at*
 simp(disch:=omega)only[QM,QD,Ee,Zms,Zmr,Zmt,Nat.reduceAdd,Int.add_zero];simp only[U2,Zc2,plc,Zmw,Zmz,Zm3]
theorem Za8 (fu d:Nat) (n:Nat) (h:Yq n) (l:List Pl) (f a b c:Nat) (ha:a<=840) (hb:b<=840) (hc:c<=840):
  cl fu (d+2) fn_mesh_Net_downward [V.c (C.cp (Zf9 n l)),V.agg (plc ⟨f,a,b,c⟩)] []=OK (V.agg (fl plc [⟨f,a,b+840/n,c+840/n⟩,⟨f,a+840/n,b,c+840/n⟩,⟨f,a+840/n,b+840/n,c⟩])):=by
 have hst:=Xv h;simp only[plc];rw[eq_mesh_Net_downward];generalize 840/n=s at*
 simp(disch:=omega)only[QM,QD,Ee,Zms,Zmr,Zmt,Nat.reduceAdd,Int.add_zero];simp only[U2,Zc2,plc,Zmw,Zmz,Zm3]
theorem put3 (a b c:Pl):putAt [C.v (.int .i64 0),C.v (.int .i64 0),C.v (.int .i64 0),C.v (.int .i64 0),C.v (.int .i64 0),C.v (.int .i64 0),C.v (.int .i64 0),C.v (.int .i64 0),C.v (.int .i64 0),C.v (.int .i64 0),C.v (.int .i64 0),C.v (.int .i64 0)] 0 (fl plc [a,b,c])=fl plc [a,b,c]:=id rfl
theorem fw3 (x y z:Nat):fl wc1 [x,y,z]=[.v (.int .i64 x), .v (.int .i64 y), .v (.int .i64 z)]:=id rfl
theorem Zek:Zqw 12 12=true:=id rfl
theorem Av (n:Nat) (p:Pl) (hl:(corners n p).length=3):V3 n (corners n p) 3=raw n p:=by
 unfold V3 raw;rw[Zm1 (by omega)]
set_option maxHeartbeats 1000000 in
theorem K4 (fu d:Nat) (hf:18446744073709551616<=fu) (n:Nat) (h:Yq n) (p:Pl) (hp:p.ok):
  cl fu (d+6) fn_mesh_Net_Locate [V.c (C.cp (Zf9 n (Qd n))),V.agg (plc p)] []=OK (V.c (C.sl (shares n p).length (fl shc (shares n p)))):=by
 have hst:=Xv h;have hs:=hp.2;have hn:=h;unfold Yq at hn;obtain⟨a1,a2,a3,_,_,a6,a7⟩:=Vb h (show p.a<=840 by omega);obtain⟨b1,b2,b3,_,_,b6,b7⟩:=Vb h (show p.b<=840 by omega);obtain⟨c1,c2,c3,_,_,c6,c7⟩:=Vb h (show p.c<=840 by omega);have hcp:=Vw h hp;have hraw:=As h hp;rw[show plc p=[.v (.int .i64 p.f), .v (.int .i64 p.a), .v (.int .i64 p.b), .v (.int .i64 p.c)] from rfl,eq_mesh_Net_Locate];rw[V1 (show((840/n:Nat):Int)≠0 by omega)];have hu:=λf a b c h1 h2 h3=>Zgi fu (d+3) n h (Qd n) f a b c h1 h2 h3;have hdn:=λf a b c h1 h2 h3=>Za8 fu (d+3) n h (Qd n) f a b c h1 h2 h3;simp only[plc]at hu hdn;have hA:=Zls fu d hf n h p;simp only[plc]at hA;rw[Ee];simp only[a7,b7,c7]at a6 b6 c6⊢;simp only[a6,b6,c6];have ea:((p.a-p.a%(840/n):Nat):Int)=(p.a:Int)+(0-((p.a%(840/n):Nat):Int)):=by omega
 have eb:((p.b-p.b%(840/n):Nat):Int)=(p.b:Int)+(0-((p.b%(840/n):Nat):Int)):=by omega
 have ec:((p.c-p.c%(840/n):Nat):Int)=(p.c:Int)+(0-((p.c%(840/n):Nat):Int)):=by omega
 have la:p.a-p.a%(840/n)<=840:=by omega
 have lb:p.b-p.b%(840/n)<=840:=by omega
 have lc:p.c-p.c%(840/n)<=840:=by omega
 have hu:=hu p.f _ _ _ la lb lc;have hdn:=hdn p.f _ _ _ la lb lc;have ht:=Zkw fu d hf n h (corners n p);have key:(corners n p).length=3->(∀c∈corners n p,c.2<=840)->_:=λhl hw=>ht hl (λc hc=>(hcp c hc).1) hw (by rw[Av n p hl];exact hraw.2.2.2.2) (by rw[Av n p hl];exact hraw.1);rcases Za6 h hp with⟨e,e'⟩|⟨e,e'⟩|⟨e,e'⟩
 ·have hA:=hA (by have:=(hcp (p,840) (by unfold corners;rw[if_pos e];simp)).1;exact this);have hsh:shares n p=[(idx n p,840)]:=by unfold shares raw corners;rw[if_pos e];rfl
  rw[hsh];clear key ht hu hdn hcp hraw;generalize p.a%(840/n)*n=xa at*
  generalize p.b%(840/n)*n=xb at*
  generalize p.c%(840/n)*n=xc at*
  generalize p.a%(840/n)=ma at*
  generalize p.b%(840/n)=mb at*
  generalize p.c%(840/n)=mc at*
  simp(disch:=omega)only[QM,QD,Zms,Zmr,Zmt,Nat.reduceAdd,hA];rfl
 ·have hl:(corners n p).length=3:=by unfold corners;rw[if_neg (by omega),if_pos e];rfl
  have key:=key hl (by unfold corners;rw[if_neg (by omega),if_pos e];intro c hc;simp only[Znl,Zpl,or_false]at hc;rcases hc with rfl|rfl|rfl<;>assumption);rw[Av n p hl,show corners n p=_ from by unfold corners;rw[if_neg (by omega),if_pos e]]at key;simp only[Zn0,Zpj]at key;clear ht hdn hcp hraw hA;generalize hsh:Qs (raw n p)=S at key;have hsh':shares n p=S:=hsh;rw[hsh'];generalize p.a%(840/n)*n=xa at*
  generalize p.b%(840/n)*n=xb at*
  generalize p.c%(840/n)*n=xc at*
  generalize hra:p.a-p.a%(840/n)=ra at*
  generalize hrb:p.b-p.b%(840/n)=rb at*
  generalize hrc:p.c-p.c%(840/n)=rc at*
  generalize p.a%(840/n)=ma at*
  generalize p.b%(840/n)=mb at*
  generalize p.c%(840/n)=mc at*
  simp(disch:=omega)only[QM,QD,Zms,Zmr,Zmt,Nat.reduceAdd,<-ea,<-eb,<-ec,hu,Ze Zk,Nat.reduceMul,put3,fw3,Zek]at key⊢;exact key
 ·have hl:(corners n p).length=3:=by unfold corners;rw[if_neg (by omega),if_neg (by omega)];rfl
  have key:=key hl (by unfold corners;rw[if_neg (by omega),if_neg (by omega)];intro c hc;simp only[Znl,Zpl,or_false]at hc;rcases hc with rfl|rfl|rfl<;>exact Nat.sub_le _ _);rw[Av n p hl,show corners n p=_ from by unfold corners;rw[if_neg (by omega),if_neg (by omega)]]at key;simp only[Zn0,Zpj]at key;clear ht hu hcp hraw hA;generalize hsh:Qs (raw n p)=S at key;have hsh':shares n p=S:=hsh;rw[hsh'];generalize p.a%(840/n)*n=xa at*
  generalize p.b%(840/n)*n=xb at*
  generalize p.c%(840/n)*n=xc at*
  generalize hra:p.a-p.a%(840/n)=ra at*
  generalize hrb:p.b-p.b%(840/n)=rb at*
  generalize hrc:p.c-p.c%(840/n)=rc at*
  generalize p.a%(840/n)=ma at*
  generalize p.b%(840/n)=mb at*
  generalize p.c%(840/n)=mc at*
  have k1:(840:Int)-(xa:Int)=((840-xa:Nat):Int):=by omega
  have k2:(840:Int)-(xb:Int)=((840-xb:Nat):Int):=by omega
  have k3:(840:Int)-(xc:Int)=((840-xc:Nat):Int):=by omega
  simp(disch:=omega)only[QM,QD,Zms,Zmr,Zmt,Nat.reduceAdd,<-ea,<-eb,<-ec,hdn,k1,k2,k3,Ze Zk,Nat.reduceMul,put3,fw3,Zek]at key⊢;exact key
end Go.Proofs.YtobmbacppbkgeaaGreatDoor
namespace Go.Proofs.YtobmbacppbkgeaaGreatDoor
open Go Go.PM
def Ud (l:List Int) (i:Nat):List C:=[C.sl l.length (ints l),C.v (.int .i64 (i:Nat))]
abbrev Z1 (l:List Int) (i:Nat):PM.Obj:= .ob ty_synoptickeep_Src 0 (Ud l i)
theorem Zmj (fu d:Nat) (a n:Int) (hn:1<=n/\n<=4611686018427387904): ∃v,cl fu (d+1) fn_synoptickeep_Mod [I a,I n] []=some ⟨I v,[],none⟩/\0<=v/\v<n:=by
 rw[eq_synoptickeep_Mod];have h1: -n<Zq0 a n:=by have:=Zsl a (show 0<n by omega);omega
 have h2:Zq0 a n<n:=Zsm a (by omega);simp only[show decide (n<1)=false from decide_eq_false (by omega),cf,show(n==0)=false by rw[beq_eq_false_iff_ne];omega,Bool.not_false,Xg];by_cases h:Zq0 a n<0
 ·rw[decide_eq_true h,IntWalk.i64_in _ ⟨by omega,by omega⟩];exact⟨_,rfl,by omega,by omega⟩
 ·rw[decide_eq_false h];exact⟨_,rfl,by omega,h2⟩
theorem Zmk (fu d:Nat) (l:List Int):cl fu (d+1) fn_synoptickeep_New [V.c (C.sl l.length (ints l))] []=some ⟨V.ptr 1000000 0,[Z1 (l.take 2000) 0],none⟩:=by
 rw[eq_synoptickeep_New];unfold Z1 Ud;by_cases h:2000<l.length
 ·simp only[if_pos (show(2000:Int)<(l.length:Int) by omega),decide_eq_true (show(0:Int)<=2000 by omega),decide_eq_true (show(2000:Int)<=(l.length:Int) by omega),Zor,Xg,show(2000:Int).toNat=2000 from rfl,Zn6,Al,Znr,Zol (Zqo h)];rfl
 ·simp only[if_neg (show ¬(2000:Int)<(l.length:Int) by omega),decide_eq_true (show(0:Int)<=(l.length:Int) by omega),decide_eq_true (Int.le_refl (l.length:Int)),Zor,Xg,Zmv,Zn6,Al,Zow,Zm1 (show l.length<=2000 by omega)];rfl
theorem Zml (fu d:Nat) (l:List Int) (i:Nat) (hl:l.length<=2000): ∃(v:Int) (j:Nat),cl fu (d+1) fn_synoptickeep_Src_Raw [V.ptr 1000000 0] [Z1 l i]=some ⟨I v,[Z1 l j],none⟩:=by
 unfold Z1 Ud;rw[eq_synoptickeep_Src_Raw];simp only[Lz];by_cases h:i<l.length
 ·rw[decide_eq_false (show ¬(i:Int)≥(l.length:Int) by omega)];simp only[cf];rw[IntWalk.i64_in ((i:Int)+1) ⟨by omega,by omega⟩,show(i:Int)+1-1=i by omega,IntWalk.i64_in (i:Int) ⟨by omega,by omega⟩];simp only[Zed h,Xg,Zmv,Zn6,Fy h,T9];exact⟨l[i],i+1,by simp⟩
 ·rw[decide_eq_true (show(i:Int)≥(l.length:Int) by omega)];exact⟨0,i,rfl⟩
theorem V9 (fu d:Nat) (l:List Int) (i:Nat) (hl:l.length<=2000) (n:Int) (hn:1<=n/\n<=4611686018427387904):
  ∃(v:Int) (j:Nat),cl fu (d+2) fn_synoptickeep_Src_N [V.ptr 1000000 0,I n] [Z1 l i]=some ⟨I v,[Z1 l j],none⟩/\0<=v/\v<n:=by
 obtain⟨w,j,h1⟩:=Zml fu d l i hl;obtain⟨v,h2,h3,h4⟩:=Zmj fu d w n hn;refine⟨v,j, ?_,h3,h4⟩;unfold Z1 Ud at h1⊢;rw[eq_synoptickeep_Src_N,h1];simp only[obs,Q7,Fw,Q8,Zor,Xg,Zms,Zmr,Zmt,Nat.reduceAdd,Tu,T9,Zcx,h2]
theorem Yx (fu d:Nat) (l:List Int) (i:Nat) (hl:l.length<=2000) (lo hi:Int) (h:lo<=hi) (hb: -2305843009213693952<=lo/\hi<=2305843009213693951):
  ∃(v:Int) (j:Nat),cl fu (d+3) fn_synoptickeep_Src_Range [V.ptr 1000000 0,I lo,I hi] [Z1 l i]=some ⟨I v,[Z1 l j],none⟩/\lo<=v/\v<=hi:=by
 obtain⟨v,j,h1,h2,h3⟩:=V9 fu d l i hl (hi-lo+1) ⟨by omega,by omega⟩;refine⟨lo+v,j, ?_,by omega,by omega⟩;unfold Z1 Ud at h1⊢;rw[eq_synoptickeep_Src_Range,IntWalk.i64_in (hi-lo) ⟨by omega,by omega⟩,IntWalk.i64_in (hi-lo+1) ⟨by omega,by omega⟩,h1];simp only[obs,Q7,Fw,Q8,Zor,Xg,Zms,Zmr,Zmt,Nat.reduceAdd,Tu,T9,Zcx];rw[IntWalk.i64_in (lo+v) ⟨by omega,by omega⟩]
theorem L8 (fu d:Nat) (l:List Int) (i:Nat) (hl:l.length<=2000) (q:List Int) (hq:1<=q.length/\q.length<=1000000):
  ∃(v:Int) (j:Nat),cl fu (d+3) fn_synoptickeep_Src_Pick [V.ptr 1000000 0,V.c (C.sl q.length (ints q))] [Z1 l i]=some ⟨I v,[Z1 l j],none⟩/\v∈q:=by
 obtain⟨v,j,h1,h2,h3⟩:=V9 fu d l i hl (q.length:Int) ⟨by omega,by omega⟩;obtain⟨k,rfl⟩: ∃k:Nat,v=k:=⟨v.toNat,by omega⟩;have hk:k<q.length:=by omega
 refine⟨q[k],j, ?_,Znf hk⟩;unfold Z1 Ud at h1⊢;rw[eq_synoptickeep_Src_Pick,h1];simp only[obs,Q7,Fw,Q8,Zor,Xg,Zms,Zmr,Zmt,Nat.reduceAdd,Tu,T9,Zcx,Zed hk,Zmv,Zn6,Fy hk]
def rng (c:Int):Int×Int:=[(8000,11000),(1800,3300),(1800,3300),(-1000,1000),(-1000,1000),(900,1700),(2000,3200),(2400,3400),(2000,3000),(4400,6200),(2000,2900)].getD (c-1).toNat (0,0)
theorem H0 {p:Int->Prop} (h:p 1/\p 2/\p 3/\p 4/\p 5/\p 6/\p 7/\p 8/\p 9/\p 10/\p 11) (c:Int) (hc:1<=c/\c<=11):p c:=by
 obtain⟨h1,h2,h3,h4,h5,h6,h7,h8,h9,h10,h11⟩:=h;have:c=1\/c=2\/c=3\/c=4\/c=5\/c=6\/c=7\/c=8\/c=9\/c=10\/c=11:=by omega
 rcases this with rfl|rfl|rfl|rfl|rfl|rfl|rfl|rfl|rfl|rfl|rfl<;>assumption
theorem Zdf (c:Int) (hc:1<=c/\c<=11): -1000<=(rng c).1/\(rng c).1+400<=(rng c).2/\(rng c).2<=11000:=
 H0 (p:=λc=> -1000<=(rng c).1/\(rng c).1+400<=(rng c).2/\(rng c).2<=11000) (by decide) c hc
theorem Vx (fu d:Nat) (c:Int) (hc:1<=c/\c<=11): ∃s g,cl fu (d+1) fn_synopticref04_Describe [I c] []=some ⟨V.tup [V.agg [C.v (.string s),C.v (.int .i64 (rng c).1),C.v (.int .i64 (rng c).2),C.v (.int .i64 g)],I 0],[],none⟩:=by
 refine H0 (p:=λc=> ∃s g,cl fu (d+1) fn_synopticref04_Describe [I c] []=some ⟨V.tup [V.agg [C.v (.string s),C.v (.int .i64 (rng c).1),C.v (.int .i64 (rng c).2),C.v (.int .i64 g)],I 0],[],none⟩) ?_ c hc;refine⟨?_, ?_, ?_, ?_, ?_, ?_, ?_, ?_, ?_, ?_, ?_⟩<;>(rw[eq_synopticref04_Describe];exact⟨_,_,rfl⟩)
theorem Zkx (fu d:Nat) (l:List Int) (i:Nat) (hl:l.length<=2000) (c:Int) (hc:1<=c/\c<=11):
  ∃(v:Int) (j:Nat),cl fu (d+4) fn_synopticref04_Some [V.ptr 1000000 0,I c] [Z1 l i]=some ⟨V.agg [C.v (.int .i64 c),C.v (.int .i64 v)],[Z1 l j],none⟩/\(rng c).1<=v/\v<=(rng c).2:=by
 obtain⟨s,g,hd⟩:=Vx fu (d+2) c hc;have hr:=Zdf c hc;obtain⟨v1,j1,a1,a2,a3⟩:=Yx fu d l i hl (rng c).1 (rng c).2 (by omega) ⟨by omega,by omega⟩;obtain⟨v2,j2,b1,b2,b3⟩:=V9 fu (d+1) l j1 hl 5 (by omega);obtain⟨v3,j3,c1,c2⟩:=L8 fu d l j2 hl [(rng c).1,(rng c).2] (by simp);obtain⟨v4,j4,d1,d2,d3⟩:=Yx fu d l j2 hl (-40) 40 (by omega) ⟨by omega,by omega⟩;have c1':cl fu (d+3) fn_synoptickeep_Src_Pick [V.ptr 1000000 0,V.c (C.sl 2 [C.v (.int .i64 (rng c).1),C.v (.int .i64 (rng c).2)])] [Z1 l j2]=some ⟨I v3,[Z1 l j3],none⟩:=c1;unfold Z1 Ud at a1 b1 c1' d1⊢;rw[eq_synopticref04_Some,hd];simp only[obs,Zim,Cg,Zil,Zms,Zmr,Zmt,Nat.reduceAdd,Q8,Xg,Tu,Fx,T9,Zcx,Zar,a1,Q7,Fw,Zor,b1];by_cases h0:v2=0
 ·subst h0;simp only[show((0:Int)==0)=true from rfl,ct,c1',obs,Q7,Fw,Q8,Zor,Xg,Zms,Zmr,Zmt,Nat.reduceAdd,Tu,T9,Zcx];refine⟨v3,j3,rfl, ?_⟩;rcases Znl.1 c2 with e|e
  ·omega
  ·simp at e;omega
 ·rw[show(v2==0)=false by simpa using h0];have hm:Zqu.wrap ((rng c).1+(rng c).2)=(rng c).1+(rng c).2:=IntWalk.i64_in _ ⟨by omega,by omega⟩;have ht:(rng c).1+40<=Zqz ((rng c).1+(rng c).2) 2/\Zqz ((rng c).1+(rng c).2) 2<=(rng c).2-40:=by
   have h1:=Zp2 ((rng c).1+(rng c).2) 2;have h2: -2<Zq0 ((rng c).1+(rng c).2) 2:=Zsl _ (by omega);have h3:Zq0 ((rng c).1+(rng c).2) 2<2:=Zsm _ (by omega);omega
  have hm2:Zqu.wrap (Zqz ((rng c).1+(rng c).2) 2)=Zqz ((rng c).1+(rng c).2) 2:=IntWalk.i64_in _ ⟨by omega,by omega⟩;have hm3:Zqu.wrap (Zqz ((rng c).1+(rng c).2) 2+v4)=Zqz ((rng c).1+(rng c).2) 2+v4:=IntWalk.i64_in _ ⟨by omega,by omega⟩;have hpick:(bif v2==1 then some ((0:Nat),(v2==1,((0:Int),(0:Int),()),(s,(rng c).1,(rng c).2,g,()),(c,v1,()),(C.sl l.length (ints l),(j2:Int),()),()))else some (0,(v2==2,(0,0,()),(s,(rng c).1,(rng c).2,g,()),(c,v1,()),(C.sl l.length (ints l),(j2:Int),()),())))=some (0,((v2==1||v2==2),(0,0,()),(s,(rng c).1,(rng c).2,g,()),(c,v1,()),(C.sl l.length (ints l),(j2:Int),()),())):=by
   cases h1:v2==1<;>rfl
  simp only[cf,hpick,obs];cases h1:(v2==1||v2==2)with
  |true=>
   simp only[ct,d1,obs,Q7,Fw,Q8,Zor,Xg,Zms,Zmr,Zmt,Nat.reduceAdd,Tu,T9,Zcx,hm,hm2,hm3];exact⟨_,j4,rfl,by omega,by omega⟩
  |false=>
   simp only[cf,obs];exact⟨v1,j2,rfl,by omega,by omega⟩
end Go.Proofs.YtobmbacppbkgeaaGreatDoor
namespace Go.Proofs.YtobmbacppbkgeaaGreatDoor
open Go Go.PM Go.Grid
theorem Ul (fu d:Nat) (hf:18446744073709551616<=fu) (f a b c:Int) (h:Yb f a b c=true): ∃p:Pl,p.ok/\cl fu (d+4) fn_synopticref02_Normal [V.agg [.v (.int .i64 f), .v (.int .i64 a), .v (.int .i64 b), .v (.int .i64 c)]] []=OK (V.tup [V.agg (plc p),I 0]):=by
 obtain⟨p,hp,rfl,rfl,rfl,rfl⟩:=Cj h;exact⟨norm p,L2 hp,Si fu d hf p hp⟩
set_option maxHeartbeats 2000000 in
theorem L9 (fu d:Nat) (hf:18446744073709551616<=fu) (l:List Int) (i:Nat) (hl:l.length<=2000): ∃(p:Pl) (j:Nat),p.ok/\cl fu (d+5) fn_synopticdata_Place [V.ptr 1000000 0] [Z1 l i]=some ⟨V.agg (plc p),[Z1 l j],none⟩:=by
 obtain⟨v1,j1,a1,b1,c1⟩:=V9 fu (d+2) l i hl 20 (by omega);obtain⟨v2,j2,a2,b2,c2⟩:=V9 fu (d+2) l j1 hl 841 (by omega);obtain⟨v3,j3,a3,b3,c3⟩:=V9 fu (d+2) l j2 hl 4 (by omega);obtain⟨v4,j4,a4,b4,c4⟩:=V9 fu (d+2) l j3 hl 9 (by omega);obtain⟨v5,j5,a5,b5,c5⟩:=V9 fu (d+2) l j3 hl 5 (by omega);have fin: ∀(A:Int) (j:Nat),0<=A->A<=840-> ∃(B':Int) (j' j'':Nat) (v:Int) (p:Pl),p.ok/\cl fu (d+4) fn_synoptickeep_Src_N [V.ptr 1000000 0,I (840-A+1)] [Z1 l j]=some ⟨I B',[Z1 l j'],none⟩/\0<=B'/\B'<=840-A/\
   cl fu (d+4) fn_synoptickeep_Src_N [V.ptr 1000000 0,I 3] [Z1 l j']=some ⟨I v,[Z1 l j''],none⟩/\0<=v/\(v=0->cl fu (d+4) fn_synopticref02_Normal [V.agg [.v (.int .i64 v1), .v (.int .i64 A), .v (.int .i64 (B'-Zq0 B' 105)), .v (.int .i64 (840-A-(B'-Zq0 B' 105)))]] []=OK (V.tup [V.agg (plc p),I 0]))/\
   (v≠0->cl fu (d+4) fn_synopticref02_Normal [V.agg [.v (.int .i64 v1), .v (.int .i64 A), .v (.int .i64 B'), .v (.int .i64 (840-A-B'))]] []=OK (V.tup [V.agg (plc p),I 0])):=by
  intro A j hA1 hA2;obtain⟨v6,j6,a6,b6,c6⟩:=V9 fu (d+2) l j hl (840-A+1) (by omega);obtain⟨v7,j7,a7,b7,c7⟩:=V9 fu (d+2) l j6 hl 3 (by omega);have ht:0<=Zq0 v6 105/\Zq0 v6 105<=v6:=by
   refine⟨Int.tmod_nonneg _ b6, ?_⟩;have h1:=Zp2 v6 105;have h2:=Int.tdiv_nonneg b6 (show(0:Int)<=105 by omega);omega
  by_cases h0:v7=0
  ·obtain⟨p,hp,hN⟩:=Ul fu d hf v1 A (v6-Zq0 v6 105) (840-A-(v6-Zq0 v6 105)) (decide_eq_true (by omega));exact⟨v6,j6,j7,v7,p,hp,a6,b6,by omega,a7,b7,λ_=>hN,λh=>absurd h0 h⟩
  ·obtain⟨p,hp,hN⟩:=Ul fu d hf v1 A v6 (840-A-v6) (decide_eq_true (by omega));exact⟨v6,j6,j7,v7,p,hp,a6,b6,by omega,a7,b7,λh=>absurd h h0,λ_=>hN⟩
 have ht2: ∀B':Int,0<=B' ->0<=Zq0 B' 105/\Zq0 B' 105<=B':=λB' hB=>by
  refine⟨Int.tmod_nonneg _ hB, ?_⟩;have h1:=Zp2 B' 105;have h2:=Int.tdiv_nonneg hB (show(0:Int)<=105 by omega);omega
 unfold Z1 Ud at a1 a2 a3 a4 a5⊢;rw[eq_synopticdata_Place];simp only[QM,a1,a2,a3,Zms,Zmr,Zmt,Nat.reduceAdd];by_cases h0:v3=0
 ·obtain⟨B',j6,j7,v7,p,hp,a6,b6,c6,a7,b7,n0,n1⟩:=fin (105*v4) j4 (by omega) (by omega);have:=ht2 B' b6;unfold Z1 Ud at a6 a7;by_cases h7:v7=0
  ·have n0:=n0 h7;simp(disch:=omega)only[QM,QD,a4,a6,a7,n0,Zms,Zmr,Zmt,Nat.reduceAdd];exact⟨p,j7,hp,by simp(disch:=omega)only[QM,QD,plc,Zms,Zmr,Zmt,Nat.reduceAdd]⟩
  ·have n1:=n1 h7;simp(disch:=omega)only[QM,QD,a4,a6,a7,n1,Zms,Zmr,Zmt,Nat.reduceAdd];exact⟨p,j7,hp,by simp(disch:=omega)only[QM,QD,plc,Zms,Zmr,Zmt,Nat.reduceAdd]⟩
 ·by_cases h1:v3=1
  ·obtain⟨B',j6,j7,v7,p,hp,a6,b6,c6,a7,b7,n0,n1⟩:=fin (210*v5) j5 (by omega) (by omega);have:=ht2 B' b6;unfold Z1 Ud at a6 a7;by_cases h7:v7=0
   ·have n0:=n0 h7;simp(disch:=omega)only[QM,QD,a5,a6,a7,n0,Zms,Zmr,Zmt,Nat.reduceAdd];exact⟨p,j7,hp,by simp(disch:=omega)only[QM,QD,plc,Zms,Zmr,Zmt,Nat.reduceAdd]⟩
   ·have n1:=n1 h7;simp(disch:=omega)only[QM,QD,a5,a6,a7,n1,Zms,Zmr,Zmt,Nat.reduceAdd];exact⟨p,j7,hp,by simp(disch:=omega)only[QM,QD,plc,Zms,Zmr,Zmt,Nat.reduceAdd]⟩
  ·obtain⟨B',j6,j7,v7,p,hp,a6,b6,c6,a7,b7,n0,n1⟩:=fin v2 j3 (by omega) (by omega);have:=ht2 B' b6;unfold Z1 Ud at a6 a7;by_cases h7:v7=0
   ·have n0:=n0 h7;simp(disch:=omega)only[QM,QD,a6,a7,n0,Zms,Zmr,Zmt,Nat.reduceAdd];exact⟨p,j7,hp,by simp(disch:=omega)only[QM,QD,plc,Zms,Zmr,Zmt,Nat.reduceAdd]⟩
   ·have n1:=n1 h7;simp(disch:=omega)only[QM,QD,a6,a7,n1,Zms,Zmr,Zmt,Nat.reduceAdd];exact⟨p,j7,hp,by simp(disch:=omega)only[QM,QD,plc,Zms,Zmr,Zmt,Nat.reduceAdd]⟩
def prC (v:Int):List C:=[.v (.int .i64 1), .v (.int .i64 v)]
def okV (v:Int):Prop:=8000<=v/\v<=11000
end Go.Proofs.YtobmbacppbkgeaaGreatDoor
namespace Go.Proofs.YtobmbacppbkgeaaGreatDoor
open Go Go.PM Go.Grid
structure Rw where
 sh:List (Nat×Nat)
 v:Int
 w:Int
 r:Nat
 deriving DecidableEq
def rwc (x:Rw):List C:=[C.sl x.sh.length (fl shc x.sh), .v (.int .i64 x.v), .v (.int .i64 x.w), .v (.int .i64 x.r)]
theorem Zq (x:Rw):(rwc x).length=4:=rfl
def rpc (x:Pl×Int):List C:=[.v (.int .i64 0), .v (.string ⟨#[]⟩), .v (.int .i64 0), .v (.int .i64 x.1.f), .v (.int .i64 x.1.a), .v (.int .i64 x.1.b), .v (.int .i64 x.1.c),C.sl 1 [.v (.int .i64 1), .v (.int .i64 x.2)]]
theorem Ef (x:Pl×Int):(rpc x).length=8:=rfl
def okP (x:Pl×Int):Prop:=x.1.ok/\okV x.2
def Tx (n:Nat) (w:Int):Nat->List (Pl×Int)->List Rw
 |_,[]=>[]
 |k,x::r=>⟨shares n x.1,x.2,w,k⟩::Tx n w (k+1) r
theorem Eg (n:Nat) (w:Int) (x:Pl×Int): ∀(l:List (Pl×Int)) (k:Nat),Tx n w k (l++[x])=Tx n w k l++[⟨shares n x.1,x.2,w,k+l.length⟩]
 | [],k=>by simp[Tx]
 |y::l,k=>by
  simp only[Zmw,Tx,Zms];rw[Eg n w x l (k+1),show k+1+l.length=k+(l.length+1) by omega]
theorem Qt (n:Nat) (w:Int): ∀(l:List (Pl×Int)) (k:Nat),(Tx n w k l).length=l.length
 | [],k=>rfl
 |y::l,k=>by simp[Tx,Qt n w l]
theorem Zdg (n:Nat) (w:Int) (l:List (Pl×Int)) (j:Nat) (h:j<l.length):Tx n w 0 (l.take (j+1))=Tx n w 0 (l.take j)++[⟨shares n l[j].1,l[j].2,w,j⟩]:=by
 rw[Znu h,Eg,Znr,Zol (by omega),Zmt]
theorem Qu (l:List Rw):l.length*4/4=l.length:=Zog _ (by omega)
theorem div4 (k:Nat):k*4/4=k:=Zog _ (by omega)
theorem Ka (l:List Rw) (s:List (Nat×Nat)) (v w:Int) (r:Nat):fl rwc l++[C.sl s.length (fl shc s), .v (.int .i64 v), .v (.int .i64 w), .v (.int .i64 r)]=fl rwc (l++[⟨s,v,w,r⟩]):=Nb l ⟨s,v,w,r⟩
def J9 (m:Nat) (x:Rw):Prop:=asc x.sh/\(∀s∈x.sh,s.1<m/\0<s.2/\s.2<=840)/\(x.sh.map (·.2)).sum=840/\(-100000<=x.v/\x.v<=100000)/\(1<=x.w/\x.w<=1000)/\x.sh.length<=1000
theorem Zmm {l:List (Nat×Nat)} {s:Nat×Nat} (h:s∈l):s.2<=(l.map (·.2)).sum:=by
 induction l with
 |nil=>cases h
 |cons x r ih=>
  simp only[Zn0,Zqk];rcases Znl.1 h with rfl|h
  ·omega
  ·have:=ih h;omega
theorem Za9 {n:Nat} (h:Yq n) {x:Pl×Int} (hx:okP x) {w:Int} (hw:1<=w/\w<=1000) (k:Nat):J9 (10*n*n+2) ⟨shares n x.1,x.2,w,k⟩:=by
 obtain⟨h1,h2⟩:=Zgc h hx.1;have hr:=As h hx.1;have hv:=hx.2;unfold okV at hv;refine⟨h1,λs hs=> ?_,(Zi3 h2).trans hr.2.1,⟨by show -100000<=x.2;omega,by show x.2<=100000;omega⟩,hw, ?_⟩
 ·have hm:=h2.mem_iff.1 hs;have:=Zmm hm;rw[hr.2.1]at this;exact⟨(hr.2.2.1 s hm).1,(hr.2.2.1 s hm).2,this⟩
 ·have:=h2.length_eq;have:=hr.2.2.2.1;show(shares n x.1).length<=1000;omega
end Go.Proofs.YtobmbacppbkgeaaGreatDoor
namespace Go.Proofs.YtobmbacppbkgeaaGreatDoor
open Go Go.PM Go.Grid
theorem Nh (k:Nat):k/1=k:=Nat.div_one k
end Go.Proofs.YtobmbacppbkgeaaGreatDoor
namespace Go.Proofs.YtobmbacppbkgeaaGreatDoor
open Go Go.PM Go.Grid
def at0 (x:List Int) (k:Nat):Int:=x.getD k 0
theorem Zi5 {x:List Int} {k:Nat} (h:k<x.length):x[k]=at0 x k:=by simp[at0,h]
def S1 (sh:List (Nat×Nat)) (x:List Int):Int:=(sh.map λs=>(s.2:Int)*at0 x s.1).sum
def Ty (sh:List (Nat×Nat)):Int:=(sh.map λs=>(s.2:Int)).sum
def bd0 (b:Int) (x:List Int):Prop:= ∀v∈x,-b<=v/\v<=b
theorem Zi6 {b:Int} (hb:0<=b) {x:List Int} (h:bd0 b x) (k:Nat): -b<=at0 x k/\at0 x k<=b:=by
 by_cases hk:k<x.length
 ·rw[<-Zi5 hk];exact h _ (Znf hk)
 ·have:at0 x k=0:=by unfold at0;rw[Zok,Zp0 (by omega)];rfl
  rw[this];omega
theorem Zi7 {b w v:Int} (hw:0<=w) (h: -b<=v/\v<=b): -(w*b)<=w*v/\w*v<=w*b:=by
 have h1:=Zp7 h.1 hw;have h2:=Zp7 h.2 hw;rw[Int.mul_neg]at h1;exact⟨h1,h2⟩
theorem H1 {b:Int} (hb:0<=b) {x:List Int} (h:bd0 b x): ∀sh:List (Nat×Nat),-(Ty sh*b)<=S1 sh x/\S1 sh x<=Ty sh*b
 | []=>by simp[S1,Ty]
 |s::sh=>by
  have ih:=H1 hb h sh;have h1:=Zi7 (w:=(s.2:Int)) (by omega) (Zi6 hb h s.1);simp only[S1,Ty,Zn0,Zqk]at ih⊢;rw[Int.add_mul];omega
theorem Cn (sh:List (Nat×Nat)) (s:Nat×Nat) (x:List Int):S1 (sh++[s]) x=S1 sh x+(s.2:Int)*at0 x s.1:=by simp[S1]
theorem K5 (sh:List (Nat×Nat)) (s:Nat×Nat):Ty (sh++[s])=Ty sh+(s.2:Int):=by simp[Ty]
theorem Kb (sh:List (Nat×Nat)):Ty sh=(((sh.map (·.2)).sum:Nat):Int):=by
 induction sh with
 |nil=>rfl
 |cons s r ih=>simp only[Ty,Zn0,Zqk]at ih⊢;rw[ih];omega
theorem Zba (a b:List (Nat×Nat)):Ty (a++b)=Ty a+Ty b:=by simp[Ty]
theorem K6 (sh:List (Nat×Nat)) (j:Nat):0<=Ty (sh.take j)/\Ty (sh.take j)<=Ty sh:=by
 have e:Ty sh=Ty (sh.take j)+Ty (sh.drop j):=by
  rw[<-Zba,Zp1]
 have h1:=Kb (sh.take j);have h2:=Kb (sh.drop j);omega
theorem Co {m:Nat} {x:Rw} (h:J9 m x):Ty x.sh=840:=by rw[Kb,h.2.2.1];rfl
theorem P2 (fu d:Nat) (w:Int) (h:1<=w/\w<=1000):cl fu (d+1) fn_operator_weighted [I w] []=OK (B true):=by
 rw[eq_operator_weighted];simp(disch:=omega)only[QM,QD]
theorem Zi8 (fu d:Nat) (hf:18446744073709551616<=fu) (m:Nat) (x:Rw) (h:J9 m x):cl fu (d+2) fn_operator_valid [V.agg (rwc x),I (m:Int)] []=OK (B true):=by
 obtain⟨h1,h2,h3,h4,h5,h6⟩:=h;have hw:=Kb x.sh;rw[h3]at hw;unfold rwc;rw[eq_operator_valid];simp only[QM];rw[Zh (λj:Nat=>(false,Ty (x.sh.take j),(j:Int),())) 0 (false,Ty x.sh,(x.sh.length:Int),()) x.sh.length ?_ ?_ ?_ (by omega)]
 ·simp(disch:=omega)only[QM,QD,P2 fu d x.w h5]
 ·rfl
 ·intro j hj;have hat:=Zy Zz hj;obtain⟨g1,g2,g3⟩:=h2 _ (Znf hj);have hb:=K6 x.sh j;rw[Znu hj,K5];by_cases h0:0<j
  ·have hat2:=Zy (l:=x.sh) Zz (show j-1<x.sh.length by omega);have hlt:x.sh[j-1].1<x.sh[j].1:=Zqf.1 h1 (j-1) j (by omega) hj (by omega);have hc:((j:Int)-1)=((j-1:Nat):Int):=by omega
   simp(disch:=omega)only[QM,QD,Zmv,hat,shc,Zmw,Zmz,hc,hat2,Zm3,Zm2]
  ·simp(disch:=omega)only[QM,QD,Zmv,hat,shc,Zmw,Zmz,Zm3,Zm2]
 ·rw[Zm1 (Zm8 _)];simp(disch:=omega)only[QM,QD]
theorem Zdh (fu d:Nat) (hf:18446744073709551616<=fu) (m:Nat) (L:List Rw) (hL:L.length<=1000000) (h: ∀x∈L,J9 m x):cl fu (d+6) fn_operator_invalid [V.c (C.sl L.length (fl rwc L)),I (m:Int)] []=OK (B false):=by
 rw[eq_operator_invalid,eq1_slices_ContainsFunc_sapi_Row_api_Row,eq1_slices_IndexFunc_sapi_Row_api_Row];rw[Zh (λj:Nat=>((0:Int),(j:Int),())) 0 ((0:Int),(L.length:Int),()) L.length ?_ ?_ ?_ (by omega)]
 ·simp(disch:=omega)only[QM,QD]
 ·rfl
 ·intro j hj;have hat:=Zy Zq hj;have hv:=Zi8 fu d hf m L[j] (h _ (Znf hj));simp only[rwc]at hv;simp(disch:=omega)only[QM,QD,Zmv,hat,rwc,Zmw,Zmz,eq_operator_invalid_1,hv,Zm3,Zm2]
 ·simp(disch:=omega)only[QM,QD]
theorem Zi9 (fu d:Nat) (hf:18446744073709551616<=fu) (x:List Int) (hl:x.length<=1000000) (h:bd0 1099511627776 x):cl fu (d+4) fn_operator_small [V.c (C.sl x.length (ints x))] []=OK (B true):=by
 rw[eq_operator_small,eq_slices_ContainsFunc_sint_int,eq_slices_IndexFunc_sint_int];rw[Zh (λj:Nat=>((0:Int),(j:Int),())) 0 ((0:Int),(x.length:Int),()) x.length ?_ ?_ ?_ (by omega)]
 ·simp(disch:=omega)only[QM,QD]
 ·rfl
 ·intro j hj;have hv:=h _ (Znf hj);simp(disch:=omega)only[QM,QD,Zmv,Zn6,Fy hj,eq_operator_small_1,Zm3,Zm2]
 ·simp(disch:=omega)only[QM,QD]
theorem Zja (fu d:Nat) (hf:18446744073709551616<=fu) (m:Nat) (r:Rw) (h:J9 m r) (x:List Int) (hx:x.length=m) (hb:bd0 1099511627776 x):cl fu (d+1) fn_operator_value [V.agg (rwc r),V.c (C.sl x.length (ints x))] []=OK (I (S1 r.sh x)):=by
 have hs:=Co h;have h6:=h.2.2.2.2.2;unfold rwc;rw[eq_operator_value];simp only[QM];rw[Zh (λj:Nat=>(S1 (r.sh.take j) x,(j:Int),())) 0 (S1 r.sh x,(r.sh.length:Int),()) r.sh.length ?_ ?_ ?_ (by omega)]
 ·simp only[QM]
 ·rfl
 ·intro j hj;have hat:=Zy Zz hj;obtain⟨g1,g2,g3⟩:=h.2.1 _ (Znf hj);have hk:r.sh[j].1<x.length:=by omega
  have hv:=Zi6 (by decide) hb r.sh[j].1;have hp:=Zi7 (w:=(r.sh[j].2:Int)) (by omega) hv;have hw1:=K6 r.sh j;have hw2:=K6 r.sh (j+1);have hd1:=H1 (by decide) hb (r.sh.take j);have hd2:=H1 (by decide) hb (r.sh.take (j+1));rw[Znu hj,Cn,K5]at hd2;rw[Znu hj,K5]at hw2;rw[Znu hj,Cn];have hg:=Zi5 hk;have hq:Zqu.wrap ((r.sh[j].2:Int)*x[r.sh[j].1])=(r.sh[j].2:Int)*at0 x r.sh[j].1:=by
   rw[hg];generalize (r.sh[j].2:Int)*at0 x r.sh[j].1=q at*
   exact Qp (by omega) (by omega)
  have hq2:Zqu.wrap (S1 (r.sh.take j) x+(r.sh[j].2:Int)*at0 x r.sh[j].1)=S1 (r.sh.take j) x+(r.sh[j].2:Int)*at0 x r.sh[j].1:=by
   generalize (r.sh[j].2:Int)*at0 x r.sh[j].1=q at*
   exact Qp (by omega) (by omega)
  simp(disch:=omega)only[QM,QD,Zmv,Zn6,hat,shc,Zmw,Zmz,Fy hk,hq,hq2,Zm3,Zm2]
 ·rw[Zm1 (Zm8 _)];simp(disch:=omega)only[QM,QD]
def Ua (L:List Rw) (x:List Int):List Int:=L.map λr=>S1 r.sh x
theorem Zbb (L:List Rw) (x:List Int) (j:Nat) (h:j<L.length):Ua (L.take (j+1)) x=Ua (L.take j) x++[S1 L[j].sh x]:=by
 unfold Ua;rw[Znu h,Zpd];rfl
theorem Uz (L:List Rw) (x:List Int):(Ua L x).length=L.length:=by simp[Ua]
theorem Zbc (fu d:Nat) (hf:18446744073709551616<=fu) (m:Nat) (hm:m<=642) (L:List Rw) (hL:L.length<=200) (h: ∀x∈L,J9 m x) (x:List Int) (hx:x.length=m) (hb:bd0 1099511627776 x):
  cl fu (d+7) fn_operator_Apply [V.c (C.sl L.length (fl rwc L)),V.c (C.sl x.length (ints x))] []=some ⟨V.tup [V.own 1000000 0 L.length,I 0],[.sb ty_int 0 (ints (Ua L x))],none⟩:=by
 have hi:=Zdh fu d hf m L (by omega) h;rw[<-hx]at hi;have hs:=Zi9 fu (d+2) hf x (by omega) hb;rw[eq_operator_Apply];simp(disch:=omega)only[QM,QD,hi,hs];rw[Zh (λj:Nat=>(ints (Ua (L.take j) x),(j:Int),())) 0 (ints (Ua L x),(L.length:Int),()) L.length ?_ ?_ ?_ (by omega)]
 ·simp(disch:=omega)only[QM,QD,Xu,Uz,Nh,Zn6];rw[Zm1 (by rw[Xu,Uz];omega)]
 ·rfl
 ·intro j hj;have hat:=Zy Zq hj;have hv:=Zja fu (d+5) hf m L[j] (h _ (Znf hj)) x hx hb;simp only[rwc]at hv;have hl:(Ua (L.take j) x).length=j:=by rw[Uz,Znr];omega
  rw[Zbb L x j hj];simp(disch:=omega)only[QM,QD,Zmv,hat,rwc,Zmw,Zmz,hv,Xu,hl,Nh,Zn6,Zkl,Znb,Zms,Zmr,Zmt,Zm3,Zm2]
 ·rw[Zm1 (Zm8 _)];simp(disch:=omega)only[QM,QD,Xu,Uz,Nh,Zn6]
def R3 (L:List Rw) (x:List Int):List Int:=L.map λr=>840*r.v-S1 r.sh x
theorem Da (fu d:Nat) (hf:18446744073709551616<=fu) (m:Nat) (hm:m<=642) (L:List Rw) (hL:L.length<=200) (h: ∀x∈L,J9 m x) (x:List Int) (hx:x.length=m) (hb:bd0 1099511627776 x):
  cl fu (d+8) fn_operator_Departures [V.c (C.sl L.length (fl rwc L)),V.c (C.sl x.length (ints x))] []=OK (V.tup [V.c (C.sl L.length (ints (R3 L x))),I 0]):=by
 have hA:=Zbc fu d hf m hm L hL h x hx hb;have hlA:=Uz L x;have hlD:(R3 L x).length=L.length:=by simp[R3]
 rw[eq_operator_Departures,hA];simp(disch:=omega)only[QM,QD,Xu,hlA,Zn6,Znz,show OUT=1000000 from rfl];have st: ∀j,j<=L.length->(R3 (L.take j) x++(Ua L x).drop j).length=L.length:=λj hj=>by simp[R3,Ua];omega
 rw[Zh (λj:Nat=>(ints (R3 (L.take j) x++(Ua L x).drop j),(j:Int),())) 0 (ints (R3 L x),(L.length:Int),()) L.length ?_ ?_ ?_ (by omega)]
 ·simp(disch:=omega)only[QM,QD,Xu,hlD,Nh,Zn6,Zmt];rw[Zm1 (by rw[Xu,hlD];omega)]
 ·simp[R3]
 ·intro j hj;have hat:=Zy Zq hj;have hst:=st j (by omega);have hst2:=st (j+1) (by omega);have hr:=h _ (Znf hj);have hd:=H1 (by decide) hb L[j].sh;rw[Co hr]at hd;have hv:=hr.2.2.2.1;have hk:j<(R3 (L.take j) x++(Ua L x).drop j).length:=by omega
  have hdl:(R3 (L.take j) x).length=j:=by simp[R3];omega
  have hget:(R3 (L.take j) x++(Ua L x).drop j)[j]=S1 L[j].sh x:=by
   rw[List.getElem_append_right (by omega)];simp[hdl,Ua]
  have hput:putAt (ints (R3 (L.take j) x++(Ua L x).drop j)) j [C.v (.int .i64 (840*L[j].v-S1 L[j].sh x))]=ints (R3 (L.take (j+1)) x++(Ua L x).drop (j+1)):=by
   rw[Zcz hk];refine congrArg (ik .i64) ?_;rw[List.set_append,if_neg (by omega),hdl,Zph,Zof (show j<(Ua L x).length by omega),List.set_cons_zero,show R3 (L.take (j+1)) x=R3 (L.take j) x++[840*L[j].v-S1 L[j].sh x] from by unfold R3;rw[Znu hj,Zpd];rfl];simp
  have hu:=Fy (kd:= .i64) hk (R:=Nat×List C×Int×Unit);rw[hget]at hu;simp(disch:=omega)only[QM,QD,Zmv,hat,rwc,Zmw,Zmz,Zno,Zns,Zmt,Zn6,hu,Xu,hst,hst2,hput,Nh,Zm3,Zm2]
 ·have hst:=st L.length (Zm8 _);rw[List.drop_of_length_le (by omega),Zn8,Zm1 (Zm8 _)]at*
  simp(disch:=omega)only[QM,QD,Xu,hlD,Nh,Zn6]
end Go.Proofs.YtobmbacppbkgeaaGreatDoor
namespace Go.Proofs.YtobmbacppbkgeaaGreatDoor
open Go Go.PM Go.Grid
def addS (v:Int) (o:List Int) (s:Nat×Nat):List Int:=o.set s.1 (at0 o s.1+(s.2:Int)*v)
def addR (v:Int) (o:List Int) (sh:List (Nat×Nat)):List Int:=sh.foldl (addS v) o
def trans (m:Nat) (L:List Rw) (d:List Int):Nat->List Int
 |0=>Zrq m 0
 |j+1=>addR (at0 d j) (trans m L d j) ((L.getD j ⟨[],0,0,0⟩).sh)
end Go.Proofs.YtobmbacppbkgeaaGreatDoor
namespace Go.Proofs.YtobmbacppbkgeaaGreatDoor
open Go Go.PM Go.Grid
theorem Me (fu d:Nat): ∃s g,cl fu (d+1) fn_element_Describe [I 1] []=some ⟨V.tup [V.agg [C.v (.string s),C.v (.int .i64 8000),C.v (.int .i64 11000),C.v (.int .i64 g)],I 0],[],none⟩:=by
 rw[eq_element_Describe];exact⟨_,_,rfl⟩
theorem Zgj (fu d:Nat) (v:Int) (h:okV v):cl fu (d+2) fn_element_check [V.agg [.v (.int .i64 1), .v (.int .i64 v)]] []=OK (I 0):=by
 obtain⟨s,g,hd⟩:=Me fu d;unfold okV at h;rw[eq_element_check,hd];simp(disch:=omega)only[QM,QD,Zms,Zmr,Zmt,Nat.reduceAdd]
theorem Zel (fu d:Nat) (hf:18446744073709551616<=fu) (v:Int) (h:okV v) (c:Int) (hc:c≠0):cl fu (d+6) fn_element_Validate_1 [I c,V.c (C.cp [C.sl 1 (prC v)])] []=OK (B false):=by
 have hk:=Zgj fu d v h;obtain⟨fu',rfl⟩: ∃m,fu=m+3:=⟨fu-3,by omega⟩;unfold prC;rw[eq_element_Validate_1];simp(disch:=omega)only[QM,QD];rw[eq1_slices_ContainsFunc_sapi_Reading_api_Reading,eq1_slices_IndexFunc_sapi_Reading_api_Reading]
 repeat (rw[Yz];simp(disch:=omega)only[QM,QD,eq_element_Validate_1_1,hk,Zms,Zmr,Zmt,Nat.reduceAdd,Znw,Zm5,Zns,Zob,Zm2])
theorem Db (fu d:Nat) (hf:18446744073709551616<=fu) (v:Int) (h:okV v):cl fu (d+7) fn_element_Validate [V.c (C.sl 1 (prC v))] []=OK (I 0):=by
 have h4:=Zel fu d hf v h 4 (by omega);have h1:=Zel fu d hf v h 1 (by omega);obtain⟨fu',rfl⟩: ∃m,fu=m+3:=⟨fu-3,by omega⟩;rw[eq_element_Validate,h4];simp only[QM];rw[h1];simp only[QM]
 repeat (rw[Yz];simp(disch:=omega)only[QM,QD,Zm2])
theorem Zgk (fu d:Nat) (hf:18446744073709551616<=fu) (v:Int):cl fu (d+3) fn_element_Find [V.c (C.sl 1 (prC v)),I 1] []=OK (V.tup [I v,B true]):=by
 obtain⟨fu',rfl⟩: ∃m,fu=m+3:=⟨fu-3,by omega⟩;unfold prC;rw[eq_element_Find,eq1_slices_IndexFunc_sapi_Reading_api_Reading]
 repeat (rw[Yz];simp(disch:=omega)only[QM,QD,eq_element_Find_1,Zms,Zmr,Zmt,Nat.reduceAdd,Znw,Zm5,Zns,Zob,Zm2,Zno])
theorem Kc (fu d:Nat) (n:Nat) (h:Yq n):cl fu (d+1) fn_mesh_Frequency [I n] []=OK (B true):=by
 unfold Yq at h;rw[eq_mesh_Frequency];simp(disch:=omega)only[QM,QD]
theorem Zky (fu d:Nat) (hf:18446744073709551616<=fu) (n:Nat) (h:Yq n) (L:List (Pl×Int)) (hL:L.length<=100) (hok: ∀x∈L,okP x) (w:Int) (hw:1<=w/\w<=1000):
  cl fu (d+8) fn_operator_Rows [I n,V.c (C.sl L.length (fl rpc L)),I 1,I w] []=OK (V.tup [V.c (C.sl L.length (fl rwc (Tx n w 0 L))),I 0]):=by
 obtain⟨s,g,hd⟩:=Me fu (d+6);have hfq:=Kc fu (d+6) n h;have hPt:=Cm fu (d+2) hf n h;rw[eq_operator_Rows,hfq];simp only[QM,hd,P2 fu (d+6) w hw,Zms,Zmr,Zmt,Nat.reduceAdd];simp(disch:=omega)only[QM,QD];rw[Zh (λj:Nat=>(([]:List C),(0:Int),(j:Int),())) 0 ([],0,(L.length:Int),()) L.length ?_ ?_ ?_ (by omega)]
 ·simp only[QM,hPt,Zmr,Znk,Zm5];rw[Zh (λj:Nat=>(([]:List C),(0:Int),fl rwc (Tx n w 0 (L.take j)),(j:Int),())) 0 ([],0,fl rwc (Tx n w 0 L),(L.length:Int),()) L.length ?_ ?_ ?_ (by omega)]
  ·simp(disch:=omega)only[QM,QD,Ze Zq,div4,Qt,Zmt];rw[Zm1 (by rw[Ze Zq,Qt];omega)]
  ·rfl
  ·intro j hj;have hx:=hok _ (Znf hj);have hat:=Zy Ef hj;have hF:=Zgk fu (d+4) hf L[j].2;have hLo:=K4 fu (d+1) hf n h L[j].1 hx.1;have hv:=Ng hx.1;simp only[prC]at hF;rw[show plc L[j].1=[.v (.int .i64 L[j].1.f), .v (.int .i64 L[j].1.a), .v (.int .i64 L[j].1.b), .v (.int .i64 L[j].1.c)] from rfl]at hLo;rw[Zdg n w L j hj];have hl:(Tx n w 0 (L.take j)).length=j:=by rw[Qt,Znr];omega
   simp(disch:=omega)only[QM,QD,Zmv,hat,rpc,Zmw,Zmz,hF,S0 fu (d+5) hf,hv,hLo,Zmr,Znk,Zm5,Ze Zq,Qu,hl,Ka,Znb,Zms,Zmt,Zm3,Zm2]
  ·have hl:(Tx n w 0 L).length=L.length:=Qt _ _ _ _;rw[Zm1 (Zm8 _)];simp(disch:=omega)only[QM,QD,Ze Zq,Qu,hl,Zmr,Znk,Zm5]
 ·rfl
 ·intro j hj;have hx:=hok _ (Znf hj);have hat:=Zy Ef hj;have hV:=Db fu d hf L[j].2 hx.2;simp only[prC]at hV;simp(disch:=omega)only[QM,QD,Zmv,hat,rpc,Zmw,Zmz,hV,Zmr,Znk,Zm5,Zm3,Zm2]
 ·simp(disch:=omega)only[QM,QD,Zmr,Znk,Zm5]
theorem Zbd (fu d:Nat) (hf:18446744073709551616<=fu) (v:Int):cl fu (d+1) fn_synoptickeep_Ints [V.c (C.sl 1 [.v (.int .i64 v)]),V.c (C.sl 1 [.v (.int .i64 v)])] []=OK (B true):=by
 obtain⟨fu',rfl⟩: ∃m,fu=m+3:=⟨fu-3,by omega⟩;rw[eq_synoptickeep_Ints];simp(disch:=omega)only[QM,QD]
 repeat (rw[Yz];simp(disch:=omega)only[QM,QD,Zms,Zmr,Zmt,Nat.reduceAdd,Znw,Zm5,Zns,Zob,Zm2,Zno])
def awP:Pl:=⟨0,630,210,0⟩
theorem Zdi: ∃i j,shares 2 awP=[(i,420),(j,420)]/\i<42/\j<42/\i≠j:=by
 have:shares 2 awP=[((shares 2 awP).getD 0 (0,0)).1,((shares 2 awP).getD 1 (0,0)).1].map λi=>(i,420):=by kernel_rfl
 refine⟨((shares 2 awP).getD 0 (0,0)).1,((shares 2 awP).getD 1 (0,0)).1,this, ?_, ?_, ?_⟩<;>decide
end Go.Proofs.YtobmbacppbkgeaaGreatDoor
namespace Go.Proofs.YtobmbacppbkgeaaGreatDoor
open Go Go.PM Go.Grid
theorem Aw {o:List Int} {k:Nat} (hk:k<o.length) (a:Int) (i:Nat):at0 (o.set k a) i=if i=k then a else at0 o i:=by
 unfold at0;rw[Zok,Zok,List.getElem?_set];by_cases h:k=i
 ·subst h;simp[hk]
 ·rw[if_neg h,if_neg (Ne.symm h)]
theorem Zgl (n:Nat) (w:Int) (x:Pl×Int):Tx n w 0 [x]=[⟨shares n x.1,x.2,w,0⟩]:=rfl
theorem Zjb (fu d:Nat) (hf:18446744073709551616<=fu):cl fu (d+9) fn_synopticlaw21_awake [] []=OK (B true):=by
 have hok:okP (awP,10100):=⟨by decide,by unfold okV;omega⟩;have hR:=Zky fu d hf 2 (by unfold Yq;omega) [(awP,10100)] (by simp) (λx hx=>by rw[Zsd.1 hx];exact hok) 3 (by omega);obtain⟨i,j,hsh,hi,hj,hij⟩:=Zdi;have hrow:=Za9 (n:=2) (by unfold Yq;omega) hok (w:=3) (by omega) 0;rw[Zgl]at hR;simp only[hsh]at hR hrow;have hR:cl fu (d+8) fn_operator_Rows [I 2,V.c (C.sl 1 [C.v (.int .i64 0),C.v (.string ⟨#[]⟩),C.v (.int .i64 0),C.v (.int .i64 0),C.v (.int .i64 630),C.v (.int .i64 210),C.v (.int .i64 0),C.sl 1 [C.v (.int .i64 1),C.v (.int .i64 10100)]]),I 1,I 3] []=
  OK (V.tup [V.c (C.sl 1 [C.sl 2 [.v (.int .i64 i), .v (.int .i64 420), .v (.int .i64 j), .v (.int .i64 420)], .v (.int .i64 10100), .v (.int .i64 3), .v (.int .i64 0)]),I 0]):=hR
 have hx:(((Zrq 42 (0:Int)).set i 10090).set j 10100).length=42:=by simp
 have hb:bd0 1099511627776 (((Zrq 42 (0:Int)).set i 10090).set j 10100):=by
  intro v hv;rcases Zpm hv with hv|rfl
  ·rcases Zpm hv with hv|rfl
   ·have:=List.eq_of_mem_replicate hv;omega
   ·omega
  ·omega
 have hr: ∀r∈[(⟨[(i,420),(j,420)],10100,3,0⟩:Rw)],J9 42 r:=λr hr=>by rw[Zsd.1 hr];exact hrow
 have hA:=Zbc fu (d+1) hf 42 (by omega) [⟨[(i,420),(j,420)],10100,3,0⟩] (by simp) hr _ hx hb;have hD:=Da fu d hf 42 (by omega) [⟨[(i,420),(j,420)],10100,3,0⟩] (by simp) hr _ hx hb;have hdot:S1 [(i,420),(j,420)] (((Zrq 42 (0:Int)).set i 10090).set j 10100)=8479800:=by
  simp only[S1,Zn0,Zpj,Zqk,Zsi];rw[Aw (by simp;omega),Aw (by simp;omega),if_neg hij,Aw (by simp;omega),if_pos rfl,if_pos rfl];rfl
 simp only[Ua,R3,Zn0,Zpj,hdot,hx]at hA hD;have hz:putAt (ints (Zrq 42 (0:Int))) i [C.v (.int .i64 10090)]=ints ((Zrq 42 (0:Int)).set i 10090):=Zcz (by simp;omega) _;have hz2:putAt (ints ((Zrq 42 (0:Int)).set i 10090)) j [C.v (.int .i64 10100)]=ints (((Zrq 42 (0:Int)).set i 10090).set j 10100):=Zcz (by simp;omega) _;have hl1:(ints ((Zrq 42 (0:Int)).set i 10090)).length=42:=by simp
 have hl2:(ints (((Zrq 42 (0:Int)).set i 10090).set j 10100)).length=42:=by simp
 have ht:Zqy 42 (ints (((Zrq 42 (0:Int)).set i 10090).set j 10100))=ints (((Zrq 42 (0:Int)).set i 10090).set j 10100):=Zm1 (by rw[hl2];omega);generalize ((Zrq 42 (0:Int)).set i 10090).set j 10100=X at*
 generalize (Zrq 42 (0:Int)).set i 10090=Y at*
 have hI1:=Zbd fu (d+7) hf 8479800;have hI2:=Zbd fu (d+7) hf 4200;simp only[U2,Zc2,rwc,shc,Zn8,Zms,Zmr,Zmt,Nat.reduceAdd,Nat.reduceMul,Znw,Zoa,Zm5,Zns,Zm2,Zno,Zmw,Zmz,Zkk,Zmd,Zoi,hx]at hA hD;rw[eq_synopticlaw21_awake,hR];rw[show[C.v (.int .i64 0),C.v (.int .i64 0),C.v (.int .i64 0),C.v (.int .i64 0),C.v (.int .i64 0),C.v (.int .i64 0),C.v (.int .i64 0),C.v (.int .i64 0),C.v (.int .i64 0),C.v (.int .i64 0),C.v (.int .i64 0),C.v (.int .i64 0),C.v (.int .i64 0),C.v (.int .i64 0),C.v (.int .i64 0),C.v (.int .i64 0),C.v (.int .i64 0),C.v (.int .i64 0),C.v (.int .i64 0),C.v (.int .i64 0),C.v (.int .i64 0),C.v (.int .i64 0),C.v (.int .i64 0),C.v (.int .i64 0),C.v (.int .i64 0),C.v (.int .i64 0),C.v (.int .i64 0),C.v (.int .i64 0),C.v (.int .i64 0),C.v (.int .i64 0),C.v (.int .i64 0),C.v (.int .i64 0),C.v (.int .i64 0),C.v (.int .i64 0),C.v (.int .i64 0),C.v (.int .i64 0),C.v (.int .i64 0),C.v (.int .i64 0),C.v (.int .i64 0),C.v (.int .i64 0),C.v (.int .i64 0),C.v (.int .i64 0)]=ints (Zrq 42 (0:Int)) from rfl];simp(disch:=omega)only[QM,QD,Zms,Zmr,Zmt,Nat.reduceAdd,Nat.reduceMul,Znw,Zoa,Zm5,Zns,Zm2,Zno,Zmw,Zmz,Zmv,Zn6,hz,hz2,hl1,hl2,ht,hA,hD,hI1,hI2,Znz,Zon,show OUT=1000000 from rfl,Zn4,Zn1];rw[show(840:Int)*10100-8479800=4200 from rfl,hI2];simp only[QM]
end Go.Proofs.YtobmbacppbkgeaaGreatDoor
namespace Go.Proofs.YtobmbacppbkgeaaGreatDoor
open Go Go.PM Go.Grid
end Go.Proofs.YtobmbacppbkgeaaGreatDoor
namespace Go.Grid
end Go.Grid
namespace Go.Grid
end Go.Grid
namespace Go.Proofs.YtobmbacppbkgeaaGreatDoor
open Go Go.PM Go.Grid
theorem Zbe {l:List (Nat×Nat)} {j:Nat} (hj:j<l.length):Zqx (j*2) (fl shc l)=[.v (.int .i64 (l[j].1:Nat)), .v (.int .i64 (l[j].2:Nat))]++fl shc (l.drop (j+1)):=Zy Zz hj
theorem Zgm (fu d:Nat) (hf:18446744073709551616<=fu) (l:List (Nat×Nat)) (hl:l.length<=1000000):
  cl fu (d+1) fn_synopticref03_Shares [V.c (C.sl l.length (fl shc l)),V.c (C.sl l.length (fl shc l))] []=OK (B true):=by
 rw[eq_synopticref03_Shares];rw[Zc1 (show(l.length:Int)=l.length from rfl)];simp only[QM];rw[Zh (λj:Nat=>(false,(j:Int),())) 0 (false,(l.length:Int),()) l.length ?_ ?_ ?_ (by omega)]
 ·simp only[QM]
 ·rfl
 ·intro j hj;have hat:=Zbe hj;simp(disch:=omega)only[QM,QD,Zmv,hat,Zmw,Zmz,beq_self_eq_true,Zm3,Zm2]
 ·simp(disch:=omega)only[QM,QD]
theorem Zem (fu d:Nat) (hf:18446744073709551616<=fu) (L:List Rw) (hl:L.length<=1000000) (hs: ∀r∈L,r.sh.length<=1000000):
  cl fu (d+2) fn_synopticref21_Same [V.c (C.sl L.length (fl rwc L)),V.c (C.sl L.length (fl rwc L))] []=OK (B true):=by
 rw[eq_synopticref21_Same];rw[Zc1 (show(L.length:Int)=L.length from rfl)];simp only[QM];rw[Zh (λj:Nat=>(false,(j:Int),())) 0 (false,(L.length:Int),()) L.length ?_ ?_ ?_ (by omega)]
 ·simp only[QM]
 ·rfl
 ·intro j hj;have hat:=Zy Zq hj;have hS:=Zgm fu d hf L[j].sh (hs _ (Znf hj));have hb: ∀x:Int,(x !=x)=false:=λx=>by simp
  simp(disch:=omega)only[QM,QD,Zmv,hat,rwc,Zmw,Zmz,Zno,Zns,hb,hS,Zm3,Zm2]
 ·simp(disch:=omega)only[QM,QD]
end Go.Proofs.YtobmbacppbkgeaaGreatDoor
namespace Go.Proofs.YtobmbacppbkgeaaGreatDoor
open Go Go.PM Go.Grid
theorem Ta {A B:Type} {body:A->Option (Nat×A)} {fu:Nat} {x:A} {K:Nat×A->Option B} (R:Option B->Prop) (J:Nat->A->Prop) (Q:A->Prop) (e k:Nat) (hx:J 0 x)
  (h: ∀j y,j<k->J j y-> ∃y',body y=some (0,y')/\J (j+1) y') (he: ∀y,J k y-> ∃z,body y=some (e+1,z)/\Q z) (hf:k<fu) (hK: ∀z,Q z->R (K (e,z))):R ((iter body fu x).bind K):=by
 have key: ∀(n fu:Nat) (y:A),n<=k->J (k-n) y->n<fu-> ∃z,iter body fu y=some (e,z)/\Q z:=by
  intro n
  induction n with
  |zero=>
   intro fu y _ hy hfu;obtain⟨z,h1,h2⟩:=he y hy;obtain⟨m,rfl⟩: ∃m,fu=m+1:=⟨fu-1,by omega⟩;exact⟨z,by simp[iter,h1],h2⟩
  |succ n ih=>
   intro fu y hn hy hfu;obtain⟨y',h1,h2⟩:=h (k-(n+1)) y (by omega) hy;rw[show k-(n+1)+1=k-n by omega]at h2;obtain⟨m,rfl⟩: ∃m,fu=m+1:=⟨fu-1,by omega⟩;obtain⟨z,h3,h4⟩:=ih m y' (by omega) h2 (by omega);exact⟨z,by simp[iter,h1,h3],h4⟩
 obtain⟨z,h1,h2⟩:=key k fu x (Zm8 _) (by rw[Zph];exact hx) hf;rw[h1];exact hK z h2
def rdc (x:Int×Int):List C:=[.v (.int .i64 x.1), .v (.int .i64 x.2)]
theorem Zj (x:Int×Int):(rdc x).length=2:=rfl
def okRd (x:Int×Int):Prop:=(1<=x.1/\x.1<=11)/\(rng x.1).1<=x.2/\x.2<=(rng x.1).2
def Dc (l:List (Int×Int)):Prop:=l.length<=11/\(∀x∈l,okRd x)/\l.Pairwise λa b=>a.1<b.1
def fd:List (Int×Int)->Option Int
 | []=>none
 |x::l=>if x.1=1 then some x.2 else fd l
section
variable (fu d:Nat)
theorem Kd (c:Int) (hc:1<=c/\c<=11): ∃s g,cl fu (d+1) fn_element_Describe [I c] []=some ⟨V.tup [V.agg [C.v (.string s),C.v (.int .i64 (rng c).1),C.v (.int .i64 (rng c).2),C.v (.int .i64 g)],I 0],[],none⟩:=by
 refine H0 (p:=λc=> ∃s g,cl fu (d+1) fn_element_Describe [I c] []=some ⟨V.tup [V.agg [C.v (.string s),C.v (.int .i64 (rng c).1),C.v (.int .i64 (rng c).2),C.v (.int .i64 g)],I 0],[],none⟩) ?_ c hc;refine⟨?_, ?_, ?_, ?_, ?_, ?_, ?_, ?_, ?_, ?_, ?_⟩<;>(rw[eq_element_Describe];exact⟨_,_,rfl⟩)
variable (hf:18446744073709551616<=fu)
include hf
theorem Mf (k:Nat) (c:C) (l:List (Int×Int)) (hl:l.length<=1000) (hp: ∀x∈l,cl fu d k [V.agg (rdc x),V.c c] []=OK (B false)):
  cl fu (d+1) fn_slices_IndexFunc_sapi_Reading_api_Reading [V.c (.sl l.length (fl rdc l)),V.c (C.fn k [c])] []=OK (I (-1)):=by
 rw[eq1_slices_IndexFunc_sapi_Reading_api_Reading];rw[Zh (λj:Nat=>((0:Int),((j:Nat):Int),())) 0 ((0:Int),(l.length:Int),()) l.length ?_ ?_ ?_ (by omega)]
 ·simp only[QM]
 ·rfl
 ·intro j hj;have h:=hp _ (Znf hj);have hat:=Zy Zj hj;unfold rdc at h;simp(disch:=omega)only[QM,QD,Zmv,hat,rdc,Zmw,Zmz,h,Zm3,Zm2]
 ·simp(disch:=omega)only[QM,QD]
theorem Mg (k:Nat) (c:C) (l:List (Int×Int)) (hl:l.length<=1000) {i:Nat} (hi:i<l.length) (hp: ∀j (h:j<i),cl fu d k [V.agg (rdc (l[j]'(by omega))),V.c c] []=OK (B false)) (hk:cl fu d k [V.agg (rdc l[i]),V.c c] []=OK (B true)):
  cl fu (d+1) fn_slices_IndexFunc_sapi_Reading_api_Reading [V.c (.sl l.length (fl rdc l)),V.c (C.fn k [c])] []=OK (I (i:Int)):=by
 rw[eq1_slices_IndexFunc_sapi_Reading_api_Reading];rw[Zh (λj:Nat=>((0:Int),((j:Nat):Int),())) 1 ((i:Int),(i:Int),()) i ?_ ?_ ?_ (by omega)]
 ·simp only[QM]
 ·rfl
 ·intro j hj;have h:=hp j hj;have hat:=Zy Zj (show j<l.length by omega);unfold rdc at h;simp(disch:=omega)only[QM,QD,Zmv,hat,rdc,Zmw,Zmz,h,Zm3,Zm2]
 ·have hat:=Zy Zj hi;unfold rdc at hk;simp(disch:=omega)only[QM,QD,Zmv,hat,rdc,Zmw,Zmz,hk]
end
end Go.Proofs.YtobmbacppbkgeaaGreatDoor
namespace Go.PM
open Go
def hdt {A:Type} (x:A):A:=x
theorem Zd {A:Type} (x:A):hdt x=x:=id rfl
theorem N0:Zqv 1000000 (OUT+0)=true:=id rfl
theorem out1:Zqv 1000001 (OUT+1)=true:=id rfl
theorem out2:Zqv 1000002 (OUT+2)=true:=id rfl
section
variable {R A B':Type}
theorem Ni {x x':Option A} {k:A->Option B'} (h:hdt x=x'):x.bind k=x'.bind k:=by rw[<-h];rfl
theorem Nj {b b':Bool} {k:Option R} (h:hdt b=b'):need b k=need b' k:=by rw[<-h];rfl
theorem Nk {b b':Bool} {x y:R} (h:hdt b=b'):(bif b then x else y)=(bif b' then x else y):=by rw[<-h];rfl
theorem K7 {c c':List C} {k:C->List C->Option R} (h:hdt c=c'):unc c k=unc c' k:=by rw[<-h];rfl
theorem Nl {c c':List V} {k:V->List V->Option R} (h:hdt c=c'):uncV c k=uncV c' k:=by rw[<-h];rfl
theorem Nm {c c':List PM.Obj} {k:PM.Obj->List PM.Obj->Option R} (h:hdt c=c'):uncO c k=uncO c' k:=by rw[<-h];rfl
theorem K8 {c c':List (List V)} {k:List V->List (List V)->Option R} (h:hdt c=c'):unI c k=unI c' k:=by rw[<-h];rfl
theorem K9 {kd:IntKind} {c c':C} {k:Int->Option R} (h:hdt c=c'):asI kd c k=asI kd c' k:=by rw[<-h];rfl
theorem Ja {c c':C} {k:Bool->Option R} (h:hdt c=c'):asB c k=asB c' k:=by rw[<-h];rfl
theorem Jb {c c':C} {k:ByteArray->Option R} (h:hdt c=c'):asS c k=asS c' k:=by rw[<-h];rfl
theorem Nn {c c':C} {k:Nat->List C->Option R} (h:hdt c=c'):asSl c k=asSl c' k:=by rw[<-h];rfl
theorem Np {c c':C} {k:FuncId->List C->Option R} (h:hdt c=c'):Zet c k=Zet c' k:=by rw[<-h];rfl
theorem Jc {c c':C} {k:List C->Option R} (h:hdt c=c'):asP c k=asP c' k:=by rw[<-h];rfl
theorem Nq {c c':C} {ky:Nat->Option R} {k:FuncId->List C->Option R} (h:hdt c=c'):C2 c ky k=C2 c' ky k:=by rw[<-h];rfl
theorem Cp {x x':V} {k:C->Option R} (h:hdt x=x'):rC x k=rC x' k:=by rw[<-h];rfl
theorem Cq {x x':V} {k:List C->Option R} (h:hdt x=x'):rA x k=rA x' k:=by rw[<-h];rfl
theorem Cr {x x':V} {k:List V->Option R} (h:hdt x=x'):rT x k=rT x' k:=by rw[<-h];rfl
theorem Cs {x x':V} {k:List V->Option R} (h:hdt x=x'):rG x k=rG x' k:=by rw[<-h];rfl
theorem Ct {x x':V} {m:Nat} {k:Option R} (h:hdt x=x'):rP x m k=rP x' m k:=by rw[<-h];rfl
theorem Cu {x x':V} {m:Nat} {k:Nat->Option R} (h:hdt x=x'):rW x m k=rW x' m k:=by rw[<-h];rfl
theorem Cv {o o':PM.Obj} {t fz:Nat} {k:List C->Option R} (h:hdt o=o'):rO o t fz k=rO o' t fz k:=by rw[<-h];rfl
theorem Cw {o o':PM.Obj} {t n:Nat} {k:List C->Option R} (h:hdt o=o'):rN o t n k=rN o' t n k:=by rw[<-h];rfl
theorem Cx {o o':PM.Obj} {t:Nat} {k:Nat->List C->Option R} (h:hdt o=o'):rF o t k=rF o' t k:=by rw[<-h];rfl
theorem Cy {o o':PM.Obj} {t fz:Nat} {k:List C->Option R} (h:hdt o=o'):rS o t fz k=rS o' t fz k:=by rw[<-h];rfl
theorem Nr {x x':List V} {k:Option R} (h:hdt x=x'):nilV x k=nilV x' k:=by rw[<-h];rfl
theorem Ns {n n':Nat} {a:Option R} {b:Nat->Option R} (h:hdt n=n'):natD n a b=natD n' a b:=by rw[<-h];rfl
theorem Cz {x x':A} {k:A->Option R} (h:hdt x=x'):bd x k=bd x' k:=by rw[<-h];rfl
theorem Nt {body:A->Option (Nat×A)} {fu:Nat} {x x':A} (h:hdt x=x'):iter body fu x=iter body fu x':=by rw[<-h];rfl
theorem Nu {I:Type} {body:I->A->Option (Nat×A)} {l l':List I} {x x':A} (h1:hdt l=l') (h:hdt x=x'):R6 body l x=R6 body l' x':=by rw[<-h,<-h1];rfl
theorem Tf {sz:Nat} {lo lo' hi hi':Option V} {c c':C} {k:C->Option R} (h1:hdt lo=lo') (h2:hdt hi=hi') (h:hdt c=c'):sliceC sz lo hi c k=sliceC sz lo' hi' c' k:=by rw[<-h,<-h1,<-h2];rfl
theorem Nv {c c':C} {kt et:TypeId} {ka va:Option Nat} {k:List (List C×List C)->Option R} (h:hdt c=c'):A7 c kt et ka va k=A7 c' kt et ka va k:=by rw[<-h];rfl
end
end Go.PM
namespace Go.Proofs.YtobmbacppbkgeaaGreatDoor
open Go Go.PM Go.Grid
attribute [local congr] Ni Nj Nk K7 Nl Nm K8 K9 Ja Jb Nn Np Jc Cp Cq Cr Cs Ct Cv Cw Cx Cy Cu Nr Ns Cz Nt Nu Tf Nv Nq
structure Rep where
 k:Int
 nm:ByteArray
 tm:Int
 p:Pl
 rs:List (Int×Int)
def Vd (x:Rep):List C:=[.v (.int .i64 x.k), .v (.string x.nm), .v (.int .i64 x.tm), .v (.int .i64 x.p.f), .v (.int .i64 x.p.a), .v (.int .i64 x.p.b), .v (.int .i64 x.p.c),C.sl x.rs.length (fl rdc x.rs)]
theorem Y7 (x:Rep):(Vd x).length=8:=rfl
def Zbf (x:Rep):Prop:=x.p.ok/\Dc x.rs
theorem Zbg (l:List Rep) (k:Int) (nm:ByteArray) (tm:Int) (p:Pl) (rs:List (Int×Int)):
  fl Vd l++[.v (.int .i64 k), .v (.string nm), .v (.int .i64 tm), .v (.int .i64 p.f), .v (.int .i64 p.a), .v (.int .i64 p.b), .v (.int .i64 p.c),C.sl rs.length (fl rdc rs)]=fl Vd (l++[⟨k,nm,tm,p,rs⟩]):=Nb l ⟨k,nm,tm,p,rs⟩
theorem Ax (l:List (Int×Int)) (a b:Int):fl rdc l++[.v (.int .i64 a), .v (.int .i64 b)]=fl rdc (l++[(a,b)]):=Nb l (a,b)
theorem S2 (p:Pl):plc p=[.v (.int .i64 p.f), .v (.int .i64 p.a), .v (.int .i64 p.b), .v (.int .i64 p.c)]:=rfl
def Ay:List C:=[C.v (.string (⟨#[65,76,80,72,65]⟩)),C.v (.string (⟨#[66,82,65,86,79]⟩)),C.v (.string (⟨#[48,49,50,51,52]⟩)),C.v (.string (⟨#[68,69,76,84,65]⟩)),C.v (.string (⟨#[69,67,72,79,55]⟩)),C.v (.string (⟨#[55,55,55,55,55]⟩)),C.v (.string (⟨#[71,79,76,70,49]⟩)),C.v (.string (⟨#[72,79,84,69,76]⟩)),C.v (.string (⟨#[73,78,68,73,65]⟩)),C.v (.string (⟨#[74,85,76,73,65]⟩))]
def Zdj:List C:=[C.v (.int .i64 0),C.v (.int .i64 10100),C.v (.int .i64 2850),C.v (.int .i64 2800),C.v (.int .i64 0),C.v (.int .i64 50),C.v (.int .i64 1460),C.v (.int .i64 2780),C.v (.int .i64 3010),C.v (.int .i64 2680),C.v (.int .i64 5570),C.v (.int .i64 2520)]
theorem Zkz: ∀i:Nat,i<11-> ∃v:Int,(0<=v/\v<=10100)/\Zqx (i+1) Zdj=C.v (.int .i64 v)::Zqx (i+2) Zdj:=by
 intro i hi;have:i=0\/i=1\/i=2\/i=3\/i=4\/i=5\/i=6\/i=7\/i=8\/i=9\/i=10:=by omega
 rcases this with rfl|rfl|rfl|rfl|rfl|rfl|rfl|rfl|rfl|rfl|rfl<;>exact⟨_,⟨by decide,by decide⟩,rfl⟩
theorem Zjc: ∀i:Nat,i<10-> ∃s r,Zqx i Ay=C.v (.string s)::r:=by
 intro i hi;have:i=0\/i=1\/i=2\/i=3\/i=4\/i=5\/i=6\/i=7\/i=8\/i=9:=by omega
 rcases this with rfl|rfl|rfl|rfl|rfl|rfl|rfl|rfl|rfl|rfl<;>exact⟨_,_,rfl⟩
section
variable (fu d:Nat)
theorem Zjd (c:Int) (hc:1<=c/\c<=11) (v:Int): ∃w,cl fu (d+1) fn_synopticdata_clamp [I c,I v] []=OK (I w)/\(rng c).1<=w/\w<=(rng c).2:=by
 have key: ∀lo hi:Int,lo<=hi->lo<=(if(if v<hi then v else hi)>lo then(if v<hi then v else hi)else lo)/\(if(if v<hi then v else hi)>lo then(if v<hi then v else hi)else lo)<=hi:=by
  intro lo hi h;split<;>split<;>omega
 refine H0 (p:=λc=> ∃w,cl fu (d+1) fn_synopticdata_clamp [I c,I v] []=OK (I w)/\(rng c).1<=w/\w<=(rng c).2) ?_ c hc;refine⟨?_, ?_, ?_, ?_, ?_, ?_, ?_, ?_, ?_, ?_, ?_⟩<;>(rw[eq_synopticdata_clamp];exact⟨_,rfl,key _ _ (by decide)⟩)
variable (hf:18446744073709551616<=fu) (L:List Int) (hL:L.length<=2000)
include hf hL
omit hf in
theorem Zje (i:Nat): ∃(s:ByteArray) (j:Nat),cl fu (d+3) fn_synoptickeep_Src_Text [V.ptr 1000000 0,V.c (C.sl 10 Ay)] [Z1 L i]=some ⟨V.c (C.v (.string s)),[Z1 L j],none⟩:=by
 obtain⟨v,j,h1,h2,h3⟩:=V9 fu d L i hL 10 (by omega);obtain⟨k,rfl⟩: ∃k:Nat,v=k:=⟨v.toNat,by omega⟩;obtain⟨s,r,hs⟩:=Zjc k (by omega);refine⟨s,j, ?_⟩;have hin:inR (k:Int) 10=true:=by simp[inR];omega
 have e10:((10:Nat):Int)=10:=rfl;unfold Z1 Ud at h1⊢;rw[eq_synoptickeep_Src_Text];simp(disch:=omega)only[Zd,QM,QD,e10,h1,Zms,Zmr,Zmt,Nat.reduceAdd,hin,Zmv,Zn6,hs]
set_option maxHeartbeats 4000000 in
set_option maxRecDepth 4000 in
theorem Zgn (i:Nat): ∃(X:List Rep) (j:Nat),(X.length<=8/\ ∀x∈X,Zbf x)/\cl fu (d+6) fn_synopticdata_Crowd [V.ptr 1000000 0,I 8,I 14000000] [Z1 L i]=some ⟨V.own 1000001 0 X.length,[Z1 L j, .sb ty_api_Report 0 (fl Vd X)],none⟩:=by
 obtain⟨p0,j1,hp0,c1⟩:=L9 fu d hf L i hL;obtain⟨v1,j2,c2,b1,b2⟩:=V9 fu (d+3) L j1 hL 9 (by omega);obtain⟨n,rfl⟩: ∃k:Nat,v1=k:=⟨v1.toNat,by omega⟩;have hp0':=hp0.2;have hpb:p0.a<=840:=by omega
 unfold Z1 Ud at c1 c2⊢;have e10:[C.v (.string (⟨#[65,76,80,72,65]⟩)),C.v (.string (⟨#[66,82,65,86,79]⟩)),C.v (.string (⟨#[48,49,50,51,52]⟩)),C.v (.string (⟨#[68,69,76,84,65]⟩)),C.v (.string (⟨#[69,67,72,79,55]⟩)),C.v (.string (⟨#[55,55,55,55,55]⟩)),C.v (.string (⟨#[71,79,76,70,49]⟩)),C.v (.string (⟨#[72,79,84,69,76]⟩)),C.v (.string (⟨#[73,78,68,73,65]⟩)),C.v (.string (⟨#[74,85,76,73,65]⟩))]=Ay:=rfl;have e12:[C.v (.int .i64 0),C.v (.int .i64 10100),C.v (.int .i64 2850),C.v (.int .i64 2800),C.v (.int .i64 0),C.v (.int .i64 50),C.v (.int .i64 1460),C.v (.int .i64 2780),C.v (.int .i64 3010),C.v (.int .i64 2680),C.v (.int .i64 5570),C.v (.int .i64 2520)]=Zdj:=rfl;rw[eq_synopticdata_Crowd,c1];simp(disch:=omega)only[Zd,Int.reduceAdd,e10,e12,QM,QD,S2,c2,Zms,Zmr,Zmt,Nat.reduceAdd,e10,e12];refine Ta (A:=List C×Int×(C×Int×Unit)×Unit) (B:=Out) (fu:=fu) (λo=> ∃(X:List Rep) (j:Nat),(X.length<=8/\ ∀x∈X,Zbf x)/\o=some ⟨V.own 1000001 0 X.length,[.ob ty_synoptickeep_Src 0 [C.sl L.length (ints L),C.v (.int .i64 (j:Nat))], .sb ty_api_Report 0 (fl Vd X)],none⟩)
  (λj y=> ∃(X:List Rep) (q:Nat),(X.length=j/\ ∀x∈X,Zbf x)/\y=(fl Vd X,((n-j:Nat):Int),(C.sl L.length (ints L),((q:Nat):Int),()),()))
  (λz=> ∃(X:List Rep) (q:Nat),(X.length<=8/\ ∀x∈X,Zbf x)/\z=(fl Vd X,(0:Int),(C.sl L.length (ints L),((q:Nat):Int),()),())) 0 n ?_ ?_ ?_ (by omega) ?_
 ·exact⟨[],j2,⟨rfl,by simp⟩,rfl⟩
 ·rintro j y hj ⟨X,q,⟨hX,hok⟩,rfl⟩
  obtain⟨v3,q1,c3,b3⟩:=Yx fu (d+2) L q hL 1 3 (by omega) ⟨by omega,by omega⟩;obtain⟨s4,q2,c4⟩:=Zje fu (d+2) L hL q1;obtain⟨v5,q3,c5,b5,b5'⟩:=Yx fu (d+2) L q2 hL 0 50 (by omega) ⟨by omega,by omega⟩;obtain⟨v6,q4,c6,b6⟩:=V9 fu (d+3) L q3 hL 4 (by omega);unfold Z1 Ud at c3 c4 c5 c6;have hfl:=Ze Y7 X;have hdv:X.length*8/8=X.length:=by omega
  have branch:(v6=0/\ ∃(p:Pl) (q5:Nat),p.ok/\cl fu (d+5) fn_synopticdata_Place [V.ptr 1000000 0] [.ob ty_synoptickeep_Src 0 [C.sl L.length (ints L),C.v (.int .i64 ((q4:Nat):Int))]]=some ⟨V.agg (plc p),[.ob ty_synoptickeep_Src 0 [C.sl L.length (ints L),C.v (.int .i64 ((q5:Nat):Int))]],none⟩)\/
    (v6≠0/\v6=1/\ ∃(m v7:Int) (q5:Nat) (p:Pl),p.ok/\(if(p0.a:Int)<150 then(p0.a:Int)else 150)=m/\(0<=v7/\v7<=p0.a)/\cl fu (d+5) fn_synoptickeep_Src_Range [V.ptr 1000000 0,I 0,I m] [.ob ty_synoptickeep_Src 0 [C.sl L.length (ints L),C.v (.int .i64 ((q4:Nat):Int))]]=some ⟨I v7,[.ob ty_synoptickeep_Src 0 [C.sl L.length (ints L),C.v (.int .i64 ((q5:Nat):Int))]],none⟩/\
     cl fu (d+5) fn_synopticref02_Normal [V.agg [.v (.int .i64 p0.f), .v (.int .i64 (p0.a-v7)), .v (.int .i64 p0.b), .v (.int .i64 (p0.c+v7))]] []=OK (V.tup [V.agg (plc p),I 0]))\/
    (v6≠0/\v6≠1):=by
   by_cases h0:v6=0
   ·obtain⟨p,q5,hp,c7⟩:=L9 fu d hf L q4 hL;exact .inl ⟨h0,p,q5,hp,c7⟩
   ·by_cases h1:v6=1
    ·refine .inr (.inl ⟨h0,h1, ?_⟩);by_cases hs:(p0.a:Int)<150
     ·obtain⟨v7,q5,c7,b7⟩:=Yx fu (d+2) L q4 hL 0 (p0.a:Int) (by omega) ⟨by omega,by omega⟩;obtain⟨p,hp,hN⟩:=Ul fu (d+1) hf p0.f (p0.a-v7) p0.b (p0.c+v7) (decide_eq_true (by have:=hp0.1;omega));exact⟨_,v7,q5,p,hp,if_pos hs,b7,c7,hN⟩
     ·obtain⟨v7,q5,c7,b7⟩:=Yx fu (d+2) L q4 hL 0 150 (by omega) ⟨by omega,by omega⟩;obtain⟨p,hp,hN⟩:=Ul fu (d+1) hf p0.f (p0.a-v7) p0.b (p0.c+v7) (decide_eq_true (by have:=hp0.1;omega));exact⟨_,v7,q5,p,hp,if_neg hs,by omega,c7,hN⟩
    ·exact .inr (.inr ⟨h0,h1⟩)
  rcases branch with⟨h0,p,q5,hp,c7⟩|⟨h0,h1,m,v7,q5,p,hp,hm,b7,c7,hN⟩|⟨h0,h1⟩
  case' inl=>simp(disch:=omega)only[Zd,Int.reduceAdd,e10,e12,QM,QD,c3,c4,c5,c6,S2,c7,Zms,Zmr,Zmt,Nat.reduceAdd,hfl,hdv,Znk,Zm5]
  case' inr.inl=>simp(disch:=omega)only[Zd,Int.reduceAdd,e10,e12,QM,QD,c3,c4,c5,c6,S2,hm,c7,hN,Zms,Zmr,Zmt,Nat.reduceAdd,hfl,hdv,Znk,Zm5]
  case' inr.inr=>
   obtain⟨p,q5,hp,hpe,hqe⟩: ∃(p:Pl) (q5:Nat),p.ok/\p=p0/\q5=q4:=⟨p0,q4,hp0,rfl,rfl⟩;simp(disch:=omega)only[Zd,Int.reduceAdd,e10,e12,QM,QD,c3,c4,c5,c6,Zms,Zmr,Zmt,Nat.reduceAdd,hfl,hdv,Znk,Zm5];rw[<-hpe,<-hqe]
  all_goals
   refine Ta (A:=List C×Int×(Int×ByteArray×Int×Int×Int×Int×Int×List C×Unit)×(C×Int×Unit)×Unit) (fu:=fu)
    (λo=> ∃y',o=some (0,y')/\ ∃(X:List Rep) (q:Nat),(X.length=j+1/\ ∀x∈X,Zbf x)/\y'=(fl Vd X,((n-(j+1):Nat):Int),(C.sl L.length (ints L),((q:Nat):Int),()),()))
    (λi z=> ∃(rs:List (Int×Int)) (q:Nat),(rs.length<=i/\(∀x∈rs,okRd x/\x.1<=i)/\rs.Pairwise λa b=>a.1<b.1)/\z=(fl Vd X,((i+1:Nat):Int),(v3,s4,14000000+v5,(p.f:Int),(p.a:Int),(p.b:Int),(p.c:Int),fl rdc rs,()),(C.sl L.length (ints L),((q:Nat):Int),()),()))
    (λz=> ∃(rs:List (Int×Int)) (q:Nat),Dc rs/\z=(fl Vd X,(12:Int),(v3,s4,14000000+v5,(p.f:Int),(p.a:Int),(p.b:Int),(p.c:Int),fl rdc rs,()),(C.sl L.length (ints L),((q:Nat):Int),()),())) 0 11 ?_ ?_ ?_ (by omega) ?_
   ·exact⟨[],q5,⟨by simp,by simp, .nil⟩,rfl⟩
   ·rintro i z hi ⟨rs,q6,⟨r1,r2,r3⟩,rfl⟩
    obtain⟨w1,q7,x1,z1⟩:=V9 fu (d+3) L q6 hL 3 (by omega);unfold Z1 Ud at x1;have hfr:=Ze Zj rs;have hdr:rs.length*2/2=rs.length:=by omega
    by_cases hw:0<w1
    ·refine⟨_, ?_,rs,q7,⟨by omega,λx hx=>⟨(r2 x hx).1,by have:=(r2 x hx).2;omega⟩,r3⟩,rfl⟩;simp(disch:=omega)only[Zd,Int.reduceAdd,e10,e12,QM,QD,x1,Zms,Zmr,Zmt,Nat.reduceAdd,hfl,hdv,hfr,hdr];rfl
    ·obtain⟨bv,hbv,hbase⟩:=Zkz i hi;obtain⟨w2,q8,x2,z2⟩:=Yx fu (d+2) L q7 hL (-8) 8 (by omega) ⟨by omega,by omega⟩;obtain⟨w3,q9,x3,z3⟩:=Yx fu (d+2) L q8 hL (-60) 60 (by omega) ⟨by omega,by omega⟩;obtain⟨w4,q10,x4,z4⟩:=L8 fu (d+2) L q9 hL [0,1,3,w2,w3,100,103] (by simp);obtain⟨w5,x5,z5⟩:=Zjd fu (d+4) ((i+1:Nat):Int) (by omega) (bv+w4);have x4:cl fu (d+5) fn_synoptickeep_Src_Pick [V.ptr 1000000 0,V.c (C.sl 7 [C.v (.int .i64 0),C.v (.int .i64 1),C.v (.int .i64 3),C.v (.int .i64 w2),C.v (.int .i64 w3),C.v (.int .i64 100),C.v (.int .i64 103)])] [Z1 L q9]=_:=x4;have hw4: -60<=w4/\w4<=103:=by
      simp only[Znl,Zpl,or_false]at z4;rcases z4 with rfl|rfl|rfl|rfl|rfl|rfl|rfl<;>omega
     unfold Z1 Ud at x2 x3 x4;have hin:inR (((i+1:Nat)):Int) 12=true:=by simp[inR];omega
     have hsn:=Ax rs ((i+1:Nat):Int) w5;have hlen:(fl rdc (rs++[(((i+1:Nat):Int),w5)])).length=(rs.length+1)*2:=by rw[Ze Zj];simp
     refine⟨_, ?_,rs++[(((i+1:Nat):Int),w5)],q10,⟨by simp;omega,λx hx=> ?_, ?_⟩,rfl⟩
     ·simp(disch:=omega)only[Zd,Int.reduceAdd,e10,e12,QM,QD,x1,x2,x3,x4,x5,hin,hbase,Zmv,Zn6,Zms,Zmr,Zmt,Nat.reduceAdd,hfl,hdv,hfr,hdr,hsn,hlen];rfl
     ·rcases Zoc.1 hx with hx|hx
      ·exact⟨(r2 x hx).1,by have:=(r2 x hx).2;omega⟩
      ·simp at hx;subst hx;exact⟨⟨by dsimp only;omega,z5⟩,by dsimp only;omega⟩
     ·refine Zo6.2 ⟨r3,by simp,λa ha b hb=> ?_⟩;simp at hb;subst hb;have:=(r2 a ha).2
      dsimp only;omega
   ·rintro z ⟨rs,q6,⟨r1,r2,r3⟩,rfl⟩
    have hfr:=Ze Zj rs;have hdr:rs.length*2/2=rs.length:=by omega
    refine⟨_, ?_,rs,q6,⟨r1,λx hx=>(r2 x hx).1,r3⟩,rfl⟩;simp(disch:=omega)only[Zd,Int.reduceAdd,e10,e12,QM,QD,hfl,hdv,hfr,hdr];rfl
   ·rintro z ⟨rs,q6,hrs,rfl⟩
    have hfr:=Ze Zj rs;have hdr:rs.length*2/2=rs.length:=by omega
    have htr:Zqy (rs.length*2) (fl rdc rs)=fl rdc rs:=Zm1 (by omega);have hsn:=Zbg X v3 s4 (14000000+v5) p rs;have hlen:(fl Vd (X++[⟨v3,s4,14000000+v5,p,rs⟩])).length=(X.length+1)*8:=by rw[Ze Y7];simp
    have hrl:=hrs.1;refine⟨_, ?_,X++[⟨v3,s4,14000000+v5,p,rs⟩],q6,⟨by simp;omega,λx hx=> ?_⟩,rfl⟩
    ·have hs:((n-j:Nat):Int)-1=((n-(j+1):Nat):Int):=by omega
     simp(disch:=omega)only[Zd,Int.reduceAdd,e10,e12,QM,QD,hfl,hdv,hfr,hdr,htr,hsn,hlen,hs,Zmt];try rfl
    ·rcases Zoc.1 hx with hx|hx
     ·exact hok x hx
     ·simp at hx;subst hx;exact⟨hp,hrs⟩
 ·rintro y ⟨X,q,⟨hX,hok⟩,rfl⟩
  have hfl:=Ze Y7 X;have hdv:X.length*8/8=X.length:=by omega
  refine⟨_, ?_,X,q,⟨by omega,hok⟩,rfl⟩;rw[Zph];simp(disch:=omega)only[Zd,Int.reduceAdd,e10,e12,QM,QD,hfl,hdv];rfl
 ·rintro z ⟨X,q,⟨hX,hok⟩,rfl⟩
  have hfl:=Ze Y7 X;have hdv:X.length*8/8=X.length:=by omega
  have ht:Zqy (X.length*8) (fl Vd X)=fl Vd X:=Zm1 (by omega);refine⟨X,q,⟨hX,hok⟩, ?_⟩;simp(disch:=omega)only[Zd,Int.reduceAdd,e10,e12,QM,QD,hfl,hdv,ht,Zmt]
end
def okM (m:Int):Prop:=0<=m/\m<=52595999
def Zjf:List C:=[C.v (.string (⟨#[65,76,80,72,65]⟩)),C.v (.string (⟨#[66,82,65,86,79]⟩)),C.v (.string (⟨#[48,49,50,51,52]⟩)),C.v (.string (⟨#[68,69,76,84,65]⟩)),C.v (.string (⟨#[69,67,72,79,55]⟩)),C.v (.string (⟨#[55,55,55,55,55]⟩))]
theorem Zgo: ∀i:Nat,i<6-> ∃s r,Zqx i Zjf=C.v (.string s)::r:=by
 intro i hi;have:i=0\/i=1\/i=2\/i=3\/i=4\/i=5:=by omega
 rcases this with rfl|rfl|rfl|rfl|rfl|rfl<;>exact⟨_,_,rfl⟩
section
variable (fu d:Nat) (L:List Int) (hL:L.length<=2000)
include hL
theorem Zk0 (i:Nat): ∃(s:ByteArray) (j:Nat),cl fu (d+4) fn_synopticdata_Name [V.ptr 1000000 0] [Z1 L i]=some ⟨V.c (C.v (.string s)),[Z1 L j],none⟩:=by
 obtain⟨v,j,h1,h2,h3⟩:=V9 fu d L i hL 6 (by omega);obtain⟨k,rfl⟩: ∃k:Nat,v=k:=⟨v.toNat,by omega⟩;obtain⟨s,r,hs⟩:=Zgo k (by omega);refine⟨s,j, ?_⟩;have hin:inR (k:Int) 6=true:=by simp[inR];omega
 have e6:((6:Nat):Int)=6:=rfl;have en:[C.v (.string (⟨#[65,76,80,72,65]⟩)),C.v (.string (⟨#[66,82,65,86,79]⟩)),C.v (.string (⟨#[48,49,50,51,52]⟩)),C.v (.string (⟨#[68,69,76,84,65]⟩)),C.v (.string (⟨#[69,67,72,79,55]⟩)),C.v (.string (⟨#[55,55,55,55,55]⟩))]=Zjf:=rfl;unfold Z1 Ud at h1⊢;rw[eq_synopticdata_Name,en,eq_synoptickeep_Src_Text];simp(disch:=omega)only[Zd,QM,QD,e6,h1,Zms,Zmr,Zmt,Nat.reduceAdd,hin,Zmv,Zn6,hs]
theorem Zk1 (m:Int) (hm:okM m) (i:Nat): ∃(v:Int) (j:Nat),cl fu (d+4) fn_synopticdata_Near [V.ptr 1000000 0,I m] [Z1 L i]=some ⟨I v,[Z1 L j],none⟩/\okM v:=by
 unfold okM at hm;obtain⟨v1,j1,a1,b1,c1⟩:=Yx fu d L i hL (-600) 600 (by omega) ⟨by omega,by omega⟩;obtain⟨v2,j2,a2,b2,c2⟩:=Yx fu d L j1 hL (-20159) 20159 (by omega) ⟨by omega,by omega⟩;obtain⟨v3,j3,a3,b3⟩:=L8 fu d L j2 hL [0,v1,v2] (by simp);have a3:cl fu (d+3) fn_synoptickeep_Src_Pick [V.ptr 1000000 0,V.c (C.sl 3 [C.v (.int .i64 0),C.v (.int .i64 v1),C.v (.int .i64 v2)])] [Z1 L j2]=_:=a3;have hv3: -20159<=v3/\v3<=20159:=by
  simp only[Znl,Zpl,or_false]at b3;omega
 unfold Z1 Ud at a1 a2 a3⊢;rw[eq_synopticdata_Near];simp(disch:=omega)only[Zd,a1,a2,a3,QM,QD,Zms,Zmr,Zmt,Nat.reduceAdd];refine⟨_,j3,rfl, ?_⟩;unfold okM;split<;>split<;>omega
variable (hf:18446744073709551616<=fu)
include hf
set_option maxHeartbeats 1000000 in
theorem Zk2 (i:Nat): ∃(rs:List (Int×Int)) (j:Nat),Dc rs/\cl fu (d+5) fn_synopticref04_List [V.ptr 1000000 0] [Z1 L i]=some ⟨V.c (C.sl rs.length (fl rdc rs)),[Z1 L j],none⟩:=by
 unfold Z1 Ud;rw[eq_synopticref04_List];refine Ta (A:=List C×Int×(C×Int×Unit)×Unit) (B:=Out) (fu:=fu) (λo=> ∃(rs:List (Int×Int)) (j:Nat),Dc rs/\o=some ⟨V.c (C.sl rs.length (fl rdc rs)),[.ob ty_synoptickeep_Src 0 [C.sl L.length (ints L),C.v (.int .i64 (j:Nat))]],none⟩)
  (λn y=> ∃(rs:List (Int×Int)) (q:Nat),(rs.length<=n/\(∀x∈rs,okRd x/\x.1<=n)/\rs.Pairwise λa b=>a.1<b.1)/\y=(fl rdc rs,((n+1:Nat):Int),(C.sl L.length (ints L),((q:Nat):Int),()),()))
  (λz=> ∃(rs:List (Int×Int)) (q:Nat),Dc rs/\z=(fl rdc rs,(12:Int),(C.sl L.length (ints L),((q:Nat):Int),()),())) 0 11 ?_ ?_ ?_ (by omega) ?_
 ·exact⟨[],i,⟨by simp,by simp, .nil⟩,rfl⟩
 ·rintro n y hn ⟨rs,q,⟨r1,r2,r3⟩,rfl⟩
  obtain⟨w1,q1,x1,z1⟩:=V9 fu (d+2) L q hL 3 (by omega);unfold Z1 Ud at x1;have hfr:=Ze Zj rs;have hdr:rs.length*2/2=rs.length:=by omega
  by_cases hw:w1=0
  ·obtain⟨w2,q2,x2,z2⟩:=Zkx fu d L q1 hL ((n+1:Nat):Int) (by omega);unfold Z1 Ud at x2;have hsn:=Ax rs ((n+1:Nat):Int) w2;have hlen:(fl rdc (rs++[(((n+1:Nat):Int),w2)])).length=(rs.length+1)*2:=by rw[Ze Zj];simp
   refine⟨_, ?_,rs++[(((n+1:Nat):Int),w2)],q2,⟨by simp;omega,λx hx=> ?_, ?_⟩,rfl⟩
   ·subst hw;simp(disch:=omega)only[Zd,QM,QD,x1,x2,show((0:Int)==0)=true from rfl,Zms,Zmr,Zmt,Nat.reduceAdd,hfr,hdr,hsn,hlen];rfl
   ·rcases Zoc.1 hx with hx|hx
    ·exact⟨(r2 x hx).1,by have:=(r2 x hx).2;omega⟩
    ·simp at hx;subst hx;exact⟨⟨by dsimp only;omega,z2⟩,by dsimp only;omega⟩
   ·refine Zo6.2 ⟨r3,by simp,λa ha b hb=> ?_⟩;simp at hb;subst hb;have:=(r2 a ha).2
    dsimp only;omega
  ·refine⟨_, ?_,rs,q1,⟨by omega,λx hx=>⟨(r2 x hx).1,by have:=(r2 x hx).2;omega⟩,r3⟩,rfl⟩;simp(disch:=omega)only[Zd,QM,QD,x1,show(w1==0)=false by simpa using hw,Zms,Zmr,Zmt,Nat.reduceAdd,hfr,hdr];rfl
 ·rintro y ⟨rs,q,⟨r1,r2,r3⟩,rfl⟩
  have hfr:=Ze Zj rs;have hdr:rs.length*2/2=rs.length:=by omega
  refine⟨_, ?_,rs,q,⟨r1,λx hx=>(r2 x hx).1,r3⟩,rfl⟩;simp(disch:=omega)only[Zd,QM,QD,hfr,hdr];rfl
 ·rintro z ⟨rs,q,hrs,rfl⟩
  have hfr:=Ze Zj rs;have hdr:rs.length*2/2=rs.length:=by omega
  have ht:Zqy (rs.length*2) (fl rdc rs)=fl rdc rs:=Zm1 (by omega);refine⟨rs,q,hrs, ?_⟩;simp(disch:=omega)only[Zd,QM,QD,hfr,hdr,ht,Zmt]
def Zmn:Pl:=⟨0,0,0,0⟩
theorem Zgp (m:Int) (hm:okM m) (i:Nat): ∃(x:Rep) (j:Nat),(Dc x.rs/\okM x.tm)/\cl fu (d+6) fn_synopticdata_Report [V.ptr 1000000 0,I m] [Z1 L i]=some ⟨V.agg (Vd x),[Z1 L j],none⟩:=by
 obtain⟨v1,j1,a1,b1,c1⟩:=Yx fu (d+2) L i hL 1 3 (by omega) ⟨by omega,by omega⟩;obtain⟨s2,j2,a2⟩:=Zk0 fu (d+1) L hL j1;obtain⟨v3,j3,a3,b3⟩:=Zk1 fu (d+1) L hL m hm j2;obtain⟨rs,j4,b4,a4⟩:=Zk2 fu d L hL hf j3;obtain⟨p,j5,b5,a5⟩:=L9 fu d hf L j4 hL;unfold Z1 Ud at a1 a2 a3 a4 a5⊢;rw[eq_synopticdata_Report];simp(disch:=omega)only[Zd,a1,a2,a3,a4,QM,QD,Zms,Zmr,Zmt,Nat.reduceAdd];by_cases h:v1=1
 ·subst h;exact⟨⟨1,s2,v3,Zmn,rs⟩,j4,⟨b4,b3⟩,rfl⟩
 ·rw[show(v1 !=1)=true by simpa using h];simp(disch:=omega)only[Zd,ct,a5,S2,QM,QD,Zms,Zmr,Zmt,Nat.reduceAdd];exact⟨⟨v1,s2,v3,p,rs⟩,j5,⟨b4,b3⟩,rfl⟩
end
end Go.Proofs.YtobmbacppbkgeaaGreatDoor
namespace Go.Proofs.YtobmbacppbkgeaaGreatDoor
open Go Go.PM Go.Grid
attribute [local congr] Ni Nj Nk K7 Nl Nm K8 K9 Ja Jb Nn Np Jc Cp Cq Cr Cs Ct Cv Cw Cx Cy Cu Nr Ns Cz Nt Nu Tf Nv Nq
def kdR (x:Int×Int):Prop:=1<=x.1/\x.1<=11
def rgR (x:Int×Int):Prop:=(rng x.1).1<=x.2/\x.2<=(rng x.1).2
instance (x:Int×Int):Decidable (kdR x):=by unfold kdR;exact inferInstance
instance (x:Int×Int):Decidable (rgR x):=by unfold rgR;exact inferInstance
def N1 (x:Int×Int):Int:=if kdR x then(if rgR x then 0 else 1)else 4
def fdG (c:Int):List (Int×Int)->Option Int
 | []=>none
 |x::l=>if x.1=c then some x.2 else fdG c l
theorem Zbh {c:Int}: ∀{l:List (Int×Int)} (_: ∀j (h:j<l.length),l[j].1≠c),fdG c l=none
 | [],_=>rfl
 |x::l,h=>by
  have h0:=h 0 (by simp);simp only[Zpx]at h0;rw[fdG,if_neg h0];exact Zbh λj hj=>by have:=h (j+1) (by simp;omega);simpa using this
theorem Zbi {c:Int}: ∀{l:List (Int×Int)} {k:Nat} (hk:k<l.length) (_:l[k].1=c) (_: ∀j (h:j<k),(l[j]'(by omega)).1≠c),fdG c l=some l[k].2
 | [],k,hk,_,_=>by simp at hk
 |x::l,0,hk,h,_=>by simp only[Zpx]at h⊢;rw[fdG,if_pos h]
 |x::l,k+1,hk,h,h'=>by
  have h0:=h' 0 (by omega);simp only[Zpx]at h0;rw[fdG,if_neg h0];simp only[List.getElem_cons_succ]at h⊢;exact Zbi (by simpa using hk) h λj hj=>by have:=h' (j+1) (by omega);simpa using this
section
variable (fu d:Nat)
theorem S3 (c:Int) (hc:c<1\/11<c): ∃s x y g,cl fu (d+1) fn_element_Describe [I c] []=some ⟨V.tup [V.agg [C.v (.string s),C.v (.int .i64 x),C.v (.int .i64 y),C.v (.int .i64 g)],I 4],[],none⟩:=by
 rw[eq_element_Describe];rcases hc with h|h
 ·simp(disch:=omega)only[Zd,QM,QD];exact⟨_,_,_,_,rfl⟩
 ·simp(disch:=omega)only[Zd,QM,QD];exact⟨_,_,_,_,rfl⟩
theorem S4 (c:Int) (hc:c<1\/11<c): ∃s x y g,cl fu (d+1) fn_synopticref04_Describe [I c] []=some ⟨V.tup [V.agg [C.v (.string s),C.v (.int .i64 x),C.v (.int .i64 y),C.v (.int .i64 g)],I 4],[],none⟩:=by
 rw[eq_synopticref04_Describe];rcases hc with h|h
 ·simp(disch:=omega)only[Zd,QM,QD];exact⟨_,_,_,_,rfl⟩
 ·simp(disch:=omega)only[Zd,QM,QD];exact⟨_,_,_,_,rfl⟩
theorem Dd (c:Int): ∃e:Int,(∃s x y g,cl fu (d+1) fn_element_Describe [I c] []=some ⟨V.tup [V.agg [C.v (.string s),C.v (.int .i64 x),C.v (.int .i64 y),C.v (.int .i64 g)],I e],[],none⟩)/\ ∃s x y g,cl fu (d+1) fn_synopticref04_Describe [I c] []=some ⟨V.tup [V.agg [C.v (.string s),C.v (.int .i64 x),C.v (.int .i64 y),C.v (.int .i64 g)],I e],[],none⟩:=by
 by_cases hc:1<=c/\c<=11
 ·obtain⟨s,g,h1⟩:=Kd fu d c hc;obtain⟨s',g',h2⟩:=Vx fu d c hc;exact⟨0,⟨_,_,_,_,h1⟩,⟨_,_,_,_,h2⟩⟩
 ·exact⟨4,S3 fu d c (by omega),S4 fu d c (by omega)⟩
theorem Zgq (x:Int×Int):cl fu (d+2) fn_element_check [V.agg (rdc x)] []=OK (I (N1 x)):=by
 unfold N1;unfold rdc;rw[eq_element_check];by_cases hk:kdR x
 ·obtain⟨s,g,hd⟩:=Kd fu d x.1 hk;rw[if_pos hk,hd];by_cases h1:(rng x.1).1<=x.2
  ·by_cases h2:x.2<=(rng x.1).2
   ·rw[if_pos (show rgR x from⟨h1,h2⟩)];simp(disch:=omega)only[Zd,QM,QD,Zms,Zmr,Zmt,Nat.reduceAdd]
   ·rw[if_neg (show ¬rgR x from λe=>h2 e.2)];simp(disch:=omega)only[Zd,QM,QD,Zms,Zmr,Zmt,Nat.reduceAdd]
  ·rw[if_neg (show ¬rgR x from λe=>h1 e.1)];simp(disch:=omega)only[Zd,QM,QD,Zms,Zmr,Zmt,Nat.reduceAdd]
 ·obtain⟨s,a,b,g,hd⟩:=S3 fu d x.1 (by unfold kdR at hk;omega);rw[if_neg hk,hd];simp(disch:=omega)only[Zd,QM,QD,Zms,Zmr,Zmt,Nat.reduceAdd]
theorem H2 (x:Int×Int) (hk:kdR x):cl fu (d+2) fn_synopticref04_in [V.agg (rdc x)] []=OK (B (decide (rgR x))):=by
 obtain⟨s,g,hd⟩:=Vx fu d x.1 hk;unfold rdc;rw[eq_synopticref04_in,hd];by_cases h1:(rng x.1).1<=x.2
 ·by_cases h2:x.2<=(rng x.1).2
  ·rw[decide_eq_true (show rgR x from⟨h1,h2⟩)];simp(disch:=omega)only[Zd,QM,QD,Zms,Zmr,Zmt,Nat.reduceAdd]
  ·rw[decide_eq_false (show ¬rgR x from λe=>h2 e.2)];simp(disch:=omega)only[Zd,QM,QD,Zms,Zmr,Zmt,Nat.reduceAdd]
 ·rw[decide_eq_false (show ¬rgR x from λe=>h1 e.1)];simp(disch:=omega)only[Zd,QM,QD,Zms,Zmr,Zmt,Nat.reduceAdd]
variable (hf:18446744073709551616<=fu)
include hf
theorem Zen (l:List (Int×Int)) (hl:l.length<=1000) (c:Int):cl fu (d+6) fn_element_Validate_1 [I c,V.c (C.cp [C.sl l.length (fl rdc l)])] []=OK (B (l.any λx=>decide (N1 x=c))):=by
 have hq: ∀x:Int×Int,cl fu (d+3) fn_element_Validate_1_1 [V.agg (rdc x),V.c (C.cp [C.v (.int .i64 c)])] []=OK (B (decide (N1 x=c))):=λx=>by
  have hk:=Zgq fu d x;unfold rdc at hk⊢;rw[eq_element_Validate_1_1,hk];by_cases e:N1 x=c
  ·rw[decide_eq_true e];simp(disch:=omega)only[Zd,QM,QD]
  ·rw[decide_eq_false e];simp(disch:=omega)only[Zd,QM,QD]
 rw[eq_element_Validate_1];simp only[Zd,QM];rw[eq1_slices_ContainsFunc_sapi_Reading_api_Reading];rcases Yf (λj=> ∃h:j<l.length,N1 l[j]=c) l.length with h|⟨k,hk,⟨_,h1⟩,h2⟩
 ·have hn:(l.any λx=>decide (N1 x=c))=false:=by
   rw[Zos];intro x hx e;obtain⟨j,hj,rfl⟩:=Znp.1 hx;exact h j hj ⟨hj,of_decide_eq_true e⟩
  have hix:=Mf fu (d+3) hf fn_element_Validate_1_1 (C.cp [C.v (.int .i64 c)]) l hl (λx hx=>by
   rw[hq x,decide_eq_false];intro e;obtain⟨j,hj,rfl⟩:=Znp.1 hx;exact h j hj ⟨hj,e⟩)
  rw[hix,hn];simp(disch:=omega)only[Zd,QM,QD]
 ·have hn:(l.any λx=>decide (N1 x=c))=true:=Zpk.2 ⟨l[k],Znf hk,decide_eq_true h1⟩;have hix:=Mg fu (d+3) hf fn_element_Validate_1_1 (C.cp [C.v (.int .i64 c)]) l hl hk (λj hj=>by
   rw[hq,decide_eq_false];exact λe=>h2 j hj ⟨by omega,e⟩) (by rw[hq,decide_eq_true h1])
  rw[hix,hn];simp(disch:=omega)only[Zd,QM,QD]
set_option maxHeartbeats 4000000 in
theorem De (l:List (Int×Int)) (hl:l.length<=1000): ∃e:Int,cl fu (d+7) fn_element_Validate [V.c (C.sl l.length (fl rdc l))] []=OK (I e)/\cl fu (d+7) fn_synopticref04_Validate [V.c (C.sl l.length (fl rdc l))] []=OK (I e):=by
 have h4:=Zen fu d hf l hl 4;have h1:=Zen fu d hf l hl 1;rcases Yf (λj=> ∃h:j<l.length,¬kdR l[j]) l.length with hA|⟨k,hk,⟨_,hA1⟩,hA2⟩
 ·have hkd: ∀j (h:j<l.length),kdR l[j]:=λj hj=>Decidable.byContradiction λe=>hA j hj ⟨hj,e⟩;have n4:(l.any λx=>decide (N1 x=4))=false:=by
   rw[Zos];intro x hx e;obtain⟨j,hj,rfl⟩:=Znp.1 hx;have e:=of_decide_eq_true e;unfold N1 at e;rw[if_pos (hkd j hj)]at e;split at e<;>omega
  rw[n4]at h4;have lp1: ∀j,j<l.length-> ∃s g,Zqx (j*2) (fl rdc l)=rdc (l.getD j (0,0))++fl rdc (l.drop (j+1))/\cl fu (d+6) fn_synopticref04_Describe [I (l.getD j (0,0)).1] []=some ⟨V.tup [V.agg [C.v (.string s),C.v (.int .i64 (rng (l.getD j (0,0)).1).1),C.v (.int .i64 (rng (l.getD j (0,0)).1).2),C.v (.int .i64 g)],I 0],[],none⟩:=λj hj=>by
   have hat:=Zy Zj hj;have hg:l.getD j (0,0)=l[j]:=by rw[Zok,Zm0 hj];rfl
   obtain⟨s,g,hd⟩:=Vx fu (d+5) l[j].1 (hkd j hj);rw[hg];exact⟨s,g,hat,hd⟩
  rcases Yf (λj=> ∃h:j<l.length,¬rgR l[j]) l.length with hB|⟨k,hk,⟨_,hB1⟩,hB2⟩
  ·have hrg: ∀j (h:j<l.length),rgR l[j]:=λj hj=>Decidable.byContradiction λe=>hB j hj ⟨hj,e⟩;have n1:(l.any λx=>decide (N1 x=1))=false:=by
    rw[Zos];intro x hx e;obtain⟨j,hj,rfl⟩:=Znp.1 hx;have e:=of_decide_eq_true e;unfold N1 at e;rw[if_pos (hkd j hj),if_pos (hrg j hj)]at e;omega
   rw[n1]at h1;rcases Yf (λj=> ∃h:j+1<l.length,¬l[j].1<l[j+1].1) (l.length-1)with hC|⟨k,hk,⟨_,hC1⟩,hC2⟩
   ·have hord: ∀j (h:j+1<l.length),l[j].1<l[j+1].1:=λj hj=>Decidable.byContradiction λe=>hC j (by omega) ⟨hj,e⟩;refine⟨0, ?_, ?_⟩
    ·rw[eq_element_Validate,h4];simp only[Zd,QM];rw[h1];simp only[Zd,QM];rw[Zh (λj:Nat=>((0:Int),(((j+1:Nat)):Int),())) 0 ((0:Int),((l.length-1+1:Nat):Int),()) (l.length-1) ?_ ?_ ?_ (by omega)]
     ·simp only[Zd,QM]
     ·rfl
     ·intro j hj;have hat:=Zy Zj (show j<l.length by omega);have hat1:=Zy Zj (show j+1<l.length by omega);have hlt:=hord j (by omega);have hs:((j+1:Nat):Int)-1=j:=by omega
      simp(disch:=omega)only[Zd,QM,QD,hs,Zmv,hat,hat1,rdc,Zmw,Zmz];rfl
     ·simp(disch:=omega)only[Zd,QM,QD]
    ·rw[eq_synopticref04_Validate];rw[Zh (λj:Nat=>((0:Int),((j:Nat):Int),())) 0 ((0:Int),(l.length:Int),()) l.length ?_ ?_ ?_ (by omega)]
     rotate_left
     ·rfl
     ·intro j hj;obtain⟨s,g,hat,hd⟩:=lp1 j hj;simp(disch:=omega)only[Zd,QM,QD,Zmv,hat,rdc,Zmw,Zmz,hd,Zms,Zmr,Zmt,Nat.reduceAdd,bne_self_eq_false,Zm3,Zm2]
     ·simp(disch:=omega)only[Zd,QM,QD]
     simp only[Zd,QM];rw[Zh (λj:Nat=>((0:Int),((j:Nat):Int),())) 0 ((0:Int),(l.length:Int),()) l.length ?_ ?_ ?_ (by omega)]
     rotate_left
     ·rfl
     ·intro j hj;have hat:=Zy Zj hj;have hI:=H2 fu (d+4) l[j] (hkd j hj);rw[decide_eq_true (hrg j hj)]at hI;unfold rdc at hI;simp(disch:=omega)only[Zd,QM,QD,Zmv,hat,rdc,Zmw,Zmz,hI,Zm3,Zm2]
     ·simp(disch:=omega)only[Zd,QM,QD]
     simp only[Zd,QM];rw[Zh (λj:Nat=>((0:Int),(((j+1:Nat)):Int),())) 0 ((0:Int),((l.length-1+1:Nat):Int),()) (l.length-1) ?_ ?_ ?_ (by omega)]
     ·simp only[Zd,QM]
     ·rfl
     ·intro j hj;have hat:=Zy Zj (show j<l.length by omega);have hat1:=Zy Zj (show j+1<l.length by omega);have hlt:=hord j (by omega);have hs:((j+1:Nat):Int)-1=j:=by omega
      simp(disch:=omega)only[Zd,QM,QD,hs,Zmv,hat,hat1,rdc,Zmw,Zmz];rfl
     ·simp(disch:=omega)only[Zd,QM,QD]
   ·have hord: ∀j (h:j<k),(l[j]'(by omega)).1<(l[j+1]'(by omega)).1:=λj hj=>Decidable.byContradiction λe=>hC2 j hj ⟨by omega,e⟩;refine⟨8, ?_, ?_⟩
    ·rw[eq_element_Validate,h4];simp only[Zd,QM];rw[h1];simp only[Zd,QM];rw[Zh (λj:Nat=>((0:Int),(((j+1:Nat)):Int),())) 1 ((8:Int),((k+1:Nat):Int),()) k ?_ ?_ ?_ (by omega)]
     ·simp only[Zd,QM]
     ·rfl
     ·intro j hj;have hat:=Zy Zj (show j<l.length by omega);have hat1:=Zy Zj (show j+1<l.length by omega);have hlt:=hord j hj;have hs:((j+1:Nat):Int)-1=j:=by omega
      simp(disch:=omega)only[Zd,QM,QD,hs,Zmv,hat,hat1,rdc,Zmw,Zmz];rfl
     ·have hat:=Zy Zj (show k<l.length by omega);have hat1:=Zy Zj (show k+1<l.length by omega);have hs:((k+1:Nat):Int)-1=k:=by omega
      simp(disch:=omega)only[Zd,QM,QD,hs,Zmv,hat,hat1,rdc,Zmw,Zmz]
    ·rw[eq_synopticref04_Validate];rw[Zh (λj:Nat=>((0:Int),((j:Nat):Int),())) 0 ((0:Int),(l.length:Int),()) l.length ?_ ?_ ?_ (by omega)]
     rotate_left
     ·rfl
     ·intro j hj;obtain⟨s,g,hat,hd⟩:=lp1 j hj;simp(disch:=omega)only[Zd,QM,QD,Zmv,hat,rdc,Zmw,Zmz,hd,Zms,Zmr,Zmt,Nat.reduceAdd,bne_self_eq_false,Zm3,Zm2]
     ·simp(disch:=omega)only[Zd,QM,QD]
     simp only[Zd,QM];rw[Zh (λj:Nat=>((0:Int),((j:Nat):Int),())) 0 ((0:Int),(l.length:Int),()) l.length ?_ ?_ ?_ (by omega)]
     rotate_left
     ·rfl
     ·intro j hj;have hat:=Zy Zj hj;have hI:=H2 fu (d+4) l[j] (hkd j hj);rw[decide_eq_true (hrg j hj)]at hI;unfold rdc at hI;simp(disch:=omega)only[Zd,QM,QD,Zmv,hat,rdc,Zmw,Zmz,hI,Zm3,Zm2]
     ·simp(disch:=omega)only[Zd,QM,QD]
     simp only[Zd,QM];rw[Zh (λj:Nat=>((0:Int),(((j+1:Nat)):Int),())) 1 ((8:Int),((k+1:Nat):Int),()) k ?_ ?_ ?_ (by omega)]
     ·simp only[Zd,QM]
     ·rfl
     ·intro j hj;have hat:=Zy Zj (show j<l.length by omega);have hat1:=Zy Zj (show j+1<l.length by omega);have hlt:=hord j hj;have hs:((j+1:Nat):Int)-1=j:=by omega
      simp(disch:=omega)only[Zd,QM,QD,hs,Zmv,hat,hat1,rdc,Zmw,Zmz];rfl
     ·have hat:=Zy Zj (show k<l.length by omega);have hat1:=Zy Zj (show k+1<l.length by omega);have hs:((k+1:Nat):Int)-1=k:=by omega
      simp(disch:=omega)only[Zd,QM,QD,hs,Zmv,hat,hat1,rdc,Zmw,Zmz]
  ·have n1:(l.any λx=>decide (N1 x=1))=true:=Zpk.2 ⟨l[k],Znf hk,decide_eq_true (by unfold N1;rw[if_pos (hkd k hk),if_neg hB1])⟩;rw[n1]at h1;refine⟨1, ?_, ?_⟩
   ·rw[eq_element_Validate,h4];simp only[Zd,QM];rw[h1];simp only[Zd,QM]
   ·rw[eq_synopticref04_Validate];rw[Zh (λj:Nat=>((0:Int),((j:Nat):Int),())) 0 ((0:Int),(l.length:Int),()) l.length ?_ ?_ ?_ (by omega)]
    rotate_left
    ·rfl
    ·intro j hj;obtain⟨s,g,hat,hd⟩:=lp1 j hj;simp(disch:=omega)only[Zd,QM,QD,Zmv,hat,rdc,Zmw,Zmz,hd,Zms,Zmr,Zmt,Nat.reduceAdd,bne_self_eq_false,Zm3,Zm2]
    ·simp(disch:=omega)only[Zd,QM,QD]
    simp only[Zd,QM];rw[Zh (λj:Nat=>((0:Int),((j:Nat):Int),())) 1 ((1:Int),(k:Int),()) k ?_ ?_ ?_ (by omega)]
    rotate_left
    ·rfl
    ·intro j hj;have hat:=Zy Zj (show j<l.length by omega);have hI:=H2 fu (d+4) l[j] (hkd j (by omega));rw[decide_eq_true (show rgR l[j] from Decidable.byContradiction λhn=>hB2 j hj ⟨by omega,hn⟩)]at hI;unfold rdc at hI;simp(disch:=omega)only[Zd,QM,QD,Zmv,hat,rdc,Zmw,Zmz,hI,Zm3,Zm2]
    ·have hat:=Zy Zj hk;have hI:=H2 fu (d+4) l[k] (hkd k hk);rw[decide_eq_false hB1]at hI;unfold rdc at hI;simp(disch:=omega)only[Zd,QM,QD,Zmv,hat,rdc,Zmw,Zmz,hI]
    simp only[Zd,QM]
 ·have n4:(l.any λx=>decide (N1 x=4))=true:=Zpk.2 ⟨l[k],Znf hk,decide_eq_true (by unfold N1;rw[if_neg hA1])⟩;rw[n4]at h4;refine⟨4, ?_, ?_⟩
  ·rw[eq_element_Validate,h4];simp only[Zd,QM]
  ·rw[eq_synopticref04_Validate];rw[Zh (λj:Nat=>((0:Int),((j:Nat):Int),())) 1 ((4:Int),(k:Int),()) k ?_ ?_ ?_ (by omega)]
   rotate_left
   ·rfl
   ·intro j hj;have hat:=Zy Zj (show j<l.length by omega);obtain⟨s,g,hd⟩:=Vx fu (d+5) l[j].1 (Decidable.byContradiction λhn=>hA2 j hj ⟨by omega,hn⟩);simp(disch:=omega)only[Zd,QM,QD,Zmv,hat,rdc,Zmw,Zmz,hd,Zms,Zmr,Zmt,Nat.reduceAdd,bne_self_eq_false,Zm3,Zm2]
   ·have hat:=Zy Zj hk;obtain⟨s,x,y,g,hd⟩:=S4 fu (d+5) l[k].1 (by unfold kdR at hA1;omega);simp(disch:=omega)only[Zd,QM,QD,Zmv,hat,rdc,Zmw,Zmz,hd,Zms,Zmr,Zmt,Nat.reduceAdd]
   simp only[Zd,QM]
theorem Zgr (l:List (Int×Int)) (hl:l.length<=1000) (c:Int):cl fu (d+3) fn_element_Find [V.c (C.sl l.length (fl rdc l)),I c] []=OK (V.tup [I ((fdG c l).getD 0),B (fdG c l).isSome])/\cl fu (d+3) fn_synopticref04_Find [V.c (C.sl l.length (fl rdc l)),I c] []=OK (V.tup [I ((fdG c l).getD 0),B (fdG c l).isSome]):=by
 have hq: ∀x:Int×Int,cl fu (d+1) fn_element_Find_1 [V.agg (rdc x),V.c (C.cp [C.v (.int .i64 c)])] []=OK (B (x.1==c)):=λx=>by
  unfold rdc;rw[eq_element_Find_1];simp only[Zd,QM]
 rw[eq_element_Find,eq_synopticref04_Find];rcases Yf (λj=> ∃h:j<l.length,l[j].1=c) l.length with h|⟨k,hk,⟨_,h1⟩,h2⟩
 ·have hn:fdG c l=none:=Zbh λj hj e=>h j hj ⟨hj,e⟩;have hix:=Mf fu (d+1) hf fn_element_Find_1 (C.cp [C.v (.int .i64 c)]) l hl (λx hx=>by
   rw[hq x,V1];intro e;obtain⟨j,hj,rfl⟩:=Znp.1 hx;exact h j hj ⟨hj,e⟩)
  constructor
  ·rw[hix,hn];simp(disch:=omega)only[Zd,QM,QD];rfl
  ·rw[Zh (λj:Nat=>((0:Int),false,((j:Nat):Int),())) 0 ((0:Int),false,(l.length:Int),()) l.length ?_ ?_ ?_ (by omega)]
   ·rw[hn];simp only[Zd,QM];rfl
   ·rfl
   ·intro j hj;have hat:=Zy Zj hj;have hne:l[j].1≠c:=λe=>h j hj ⟨hj,e⟩;simp(disch:=omega)only[Zd,QM,QD,Zmv,hat,rdc,Zmw,Zmz,Zm3,Zm2]
   ·simp(disch:=omega)only[Zd,QM,QD]
 ·have hn:fdG c l=some l[k].2:=Zbi hk h1 λj hj e=>h2 j hj ⟨by omega,e⟩;have hix:=Mg fu (d+1) hf fn_element_Find_1 (C.cp [C.v (.int .i64 c)]) l hl hk (λj hj=>by
   rw[hq,V1];exact λe=>h2 j hj ⟨by omega,e⟩) (by rw[hq,Zc0 h1])
  have hat:=Zy Zj hk;constructor
  ·rw[hix,hn];simp(disch:=omega)only[Zd,QM,QD,Zmv,hat,rdc,Zmw,Zmz,Zno,Zns];rfl
  ·rw[Zh (λj:Nat=>((0:Int),false,((j:Nat):Int),())) 1 (l[k].2,true,(k:Int),()) k ?_ ?_ ?_ (by omega)]
   ·rw[hn];simp only[Zd,QM];rfl
   ·rfl
   ·intro j hj;have hat:=Zy Zj (show j<l.length by omega);have hne:l[j].1≠c:=λe=>h2 j hj ⟨by omega,e⟩;simp(disch:=omega)only[Zd,QM,QD,Zmv,hat,rdc,Zmw,Zmz,Zm3,Zm2]
   ·simp(disch:=omega)only[Zd,QM,QD,Zmv,hat,rdc,Zmw,Zmz,Zno,Zns]
end
end Go.Proofs.YtobmbacppbkgeaaGreatDoor
namespace Go.Proofs.YtobmbacppbkgeaaGreatDoor
open Go Go.PM Go.Grid
def Zdk (z:Bool) (rs:List (Int×Int)):C:=bif z&&rs.isEmpty then C.nl else C.sl rs.length (fl rdc rs)
theorem Yl (z:Bool) (rs:List (Int×Int)):nrm (Zdk z rs)=C.sl rs.length (fl rdc rs):=by
 unfold Zdk;cases z with
 |false=>exact K1 ..
 |true=>
  cases rs with
  |nil=>rfl
  |cons x r=>exact K1 ..
theorem Zk3 (z:Bool) (rs:List (Int×Int)) {R:Type} (k:Nat->List C->Option R):asSl (Zdk z rs) k=k rs.length (fl rdc rs):=by
 unfold Zdk;cases z with
 |false=>exact Lz ..
 |true=>
  cases rs with
  |nil=>rfl
  |cons x r=>exact Lz ..
structure Raw where
 k:Int
 nm:ByteArray
 tm:Int
 a:Int
 b:Int
 c:Int
 e:Int
 z:Bool
 rs:List (Int×Int)
def rawC (x:Raw):List C:=[.v (.int .i64 x.k), .v (.string x.nm), .v (.int .i64 x.tm), .v (.int .i64 x.a), .v (.int .i64 x.b), .v (.int .i64 x.c), .v (.int .i64 x.e),Zdk x.z x.rs]
theorem Zr (x:Raw):(rawC x).length=8:=rfl
def Zjg (x:Rep):Raw:=⟨x.k,x.nm,x.tm,x.p.f,x.p.a,x.p.b,x.p.c,false,x.rs⟩
theorem Zeo (X:List Rep):fl Vd X=fl rawC (X.map Zjg):=by
 induction X with
 |nil=>rfl
 |cons x X ih=>
  show Vd x++fl Vd X=rawC (Zjg x)++fl rawC (X.map Zjg);rw[ih];rfl
def okX (X:List Raw):Prop:=X.length<=200/\ ∀x∈X,x.rs.length<=1000
def Uo (x:Raw):Pl:=⟨x.a.toNat,x.b.toNat,x.c.toNat,x.e.toNat⟩
def Yj (n:Nat) (w c:Int):Nat->List Raw->List Rw
 |_,[]=>[]
 |k,x::r=>match fdG c x.rs with
  |some v=>⟨shares n (Uo x),v,w,k⟩::Yj n w c (k+1) r
  |none=>Yj n w c (k+1) r
theorem Ke (n:Nat) (w c:Int): ∀(l l':List Raw) (k:Nat),Yj n w c k (l++l')=Yj n w c k l++Yj n w c (k+l.length) l'
 | [],l',k=>by simp[Yj]
 |y::l,l',k=>by
  have ih:=Ke n w c l l' (k+1);rw[show k+1+l.length=k+(l.length+1) by omega]at ih;simp only[Zmw,Yj,Zms];cases fdG c y.rs with
  |none=>exact ih
  |some v=>simp only[ih,Zmw]
theorem Rt (n:Nat) (w c:Int): ∀(l:List Raw) (k:Nat),(Yj n w c k l).length<=l.length
 | [],k=>Zm8 _
 |y::l,k=>by
  have ih:=Rt n w c l (k+1);simp only[Yj,Zms];cases fdG c y.rs<;>simp<;>omega
theorem Zdl (n:Nat) (w c:Int) (l:List Raw) (j:Nat) (h:j<l.length):Yj n w c 0 (l.take (j+1))=Yj n w c 0 (l.take j)++(match fdG c l[j].rs with|some v=>[⟨shares n (Uo l[j]),v,w,j⟩]|none=>[]):=by
 rw[Znu h,Ke,Znr,Zol (by omega),Zmt]
 congr 1
def Zdm (c:Int) (x:Raw):Prop:=(fdG c x.rs).isSome=true/\Yb x.a x.b x.c x.e=false
instance (c:Int) (x:Raw):Decidable (Zdm c x):=by unfold Zdm;exact inferInstance
theorem Kf {x:Raw} (h:Yb x.a x.b x.c x.e=true):(Uo x).ok/\((Uo x).f:Int)=x.a/\((Uo x).a:Int)=x.b/\((Uo x).b:Int)=x.c/\((Uo x).c:Int)=x.e:=by
 obtain⟨p,hp,h1,h2,h3,h4⟩:=Cj h;have:Uo x=p:=by
  unfold Uo;rw[h1,h2,h3,h4];simp only[Zmv]
 rw[this];exact⟨hp,h1.symm,h2.symm,h3.symm,h4.symm⟩
end Go.Proofs.YtobmbacppbkgeaaGreatDoor
namespace Go.Proofs.YtobmbacppbkgeaaGreatDoor
open Go Go.PM Go.Grid
attribute [local congr] Ni Nj Nk K7 Nl Nm K8 K9 Ja Jb Nn Np Jc Cp Cq Cr Cs Ct Cv Cw Cx Cy Cu Nr Ns Cz Nt Nu Tf Nv Nq
def isRw (c:C) (R:List Rw):Prop:=nrm c=C.sl R.length (fl rwc R)/\ ∀{T:Type} (k:Nat->List C->Option T),asSl c k=k R.length (fl rwc R)
theorem Zep (R:List Rw):isRw (C.sl R.length (fl rwc R)) R:=⟨K1 ..,λk=>by rw[Lz]⟩
theorem Zk4:isRw C.nl []:=⟨by rw[Zcy];rfl,λk=>by rw[Zec];rfl⟩
def rwP (o1 o2:Option Out):Prop:= ∃(e:Int) (c:C) (R:List Rw),isRw c R/\R.length<=200/\(∀r∈R,r.sh.length<=1000)/\o1=OK (V.tup [V.c c,I e])/\o2=OK (V.tup [V.c c,I e])
theorem Zdn {e:Int} {o1 o2:Option Out} (h1:o1=OK (V.tup [V.c C.nl,I e])) (h2:o2=OK (V.tup [V.c C.nl,I e])):rwP o1 o2:=⟨e,C.nl,[],Zk4,by simp,by simp,h1,h2⟩
theorem Zjh {e:Int} {o1 o2:Option Out} (h1:o1=OK (V.tup [V.c (C.sl 0 []),I e])) (h2:o2=OK (V.tup [V.c (C.sl 0 []),I e])):rwP o1 o2:=⟨e,_,[],Zep [],by simp,by simp,h1,h2⟩
theorem Eh {n:Nat} (h:Yq n) (w c:Int): ∀(l:List Raw) (k:Nat),(∀x∈l,¬Zdm c x)-> ∀r∈Yj n w c k l,r.sh.length<=1000
 | [],_,_,r,hr=>by cases hr
 |x::l,k,hx,r,hr=>by
  simp only[Yj]at hr;cases hv:fdG c x.rs with
  |none=>rw[hv]at hr;exact Eh h w c l (k+1) (λy hy=>hx y (by simp[hy])) r hr
  |some v=>
   rw[hv]at hr;rcases Znl.1 hr with rfl|hr
   ·have h0:=hx x (by simp);have hok:Yb x.a x.b x.c x.e=true:=by
     cases e:Yb x.a x.b x.c x.e with
     |true=>rfl
     |false=>exact absurd ⟨by rw[hv];rfl,e⟩ h0
    exact(Za9 (x:=(Uo x,8000)) (w:=1) h ⟨(Kf hok).1,by unfold okV;omega⟩ (by omega) k).2.2.2.2.2
   ·exact Eh h w c l (k+1) (λy hy=>hx y (by simp[hy])) r hr
section
variable (fu d:Nat)
theorem Zbj (n:Int) (h:n<1\/8<n):cl fu (d+1) fn_mesh_Frequency [I n] []=OK (B false):=by
 rw[eq_mesh_Frequency];rcases h with h|h
 ·simp(disch:=omega)only[Zd,QM,QD]
 ·simp(disch:=omega)only[Zd,QM,QD]
theorem Hm (n:Int) (h:n<1\/1000<n):cl fu (d+1) fn_operator_weighted [I n] []=OK (B false):=by
 rw[eq_operator_weighted];rcases h with h|h
 ·simp(disch:=omega)only[Zd,QM,QD]
 ·simp(disch:=omega)only[Zd,QM,QD]
variable (hf:18446744073709551616<=fu)
include hf
set_option maxHeartbeats 8000000 in
theorem Zgs (n code w:Int) (X:List Raw) (hX:okX X):rwP (cl fu (d+8) fn_operator_Rows [I n,V.c (C.sl X.length (fl rawC X)),I code,I w] []) (cl fu (d+8) fn_synopticref21_Rows [I n,V.c (C.sl X.length (fl rawC X)),I code,I w] []):=by
 obtain⟨hXl,hXr⟩:=hX;by_cases hn:1<=n/\n<=8
 rotate_left
 ·have e1:=Zbj fu (d+6) n (by omega);refine Zdn (e:=1) ?_ ?_
  ·rw[eq_operator_Rows,e1];simp(disch:=omega)only[Zd,QM,QD]
  ·rw[eq_synopticref21_Rows];by_cases h1:n<1
   ·simp(disch:=omega)only[Zd,QM,QD]
   ·simp(disch:=omega)only[Zd,QM,QD]
 obtain⟨m,rfl⟩: ∃m:Nat,n=m:=⟨n.toNat,by omega⟩;have h:Yq m:=by unfold Yq;omega
 have hfq:=Kc fu (d+6) m h;obtain⟨e,⟨s1,a1,b1,g1,hd1⟩,⟨s2,a2,b2,g2,hd2⟩⟩:=Dd fu (d+6) code;by_cases he:e=0
 rotate_left
 ·have hne:(e !=0)=true:=by rw[bne_iff_ne];exact he
  refine Zdn (e:=e) ?_ ?_
  ·rw[eq_operator_Rows,hfq];simp(disch:=omega)only[Zd,QM,QD,hd1,hne,Zms,Zmr,Zmt,Nat.reduceAdd]
  ·rw[eq_synopticref21_Rows];simp(disch:=omega)only[Zd,QM,QD,hd2,hne,Zms,Zmr,Zmt,Nat.reduceAdd]
 subst he;by_cases hw:1<=w/\w<=1000
 rotate_left
 ·have e1:=Hm fu (d+6) w (by omega);refine Zdn (e:=1) ?_ ?_
  ·rw[eq_operator_Rows,hfq];simp(disch:=omega)only[Zd,QM,QD,hd1,e1,bne_self_eq_false,Zms,Zmr,Zmt,Nat.reduceAdd]
  ·rw[eq_synopticref21_Rows];by_cases h1:w<1
   ·simp(disch:=omega)only[Zd,QM,QD,hd2,bne_self_eq_false,Zms,Zmr,Zmt,Nat.reduceAdd]
   ·simp(disch:=omega)only[Zd,QM,QD,hd2,bne_self_eq_false,Zms,Zmr,Zmt,Nat.reduceAdd]
 have hwt:=P2 fu (d+6) w hw;have hPt:=Cm fu (d+2) hf m h;obtain⟨E,hE⟩: ∃E:Raw->Int,∀x∈X,cl fu (d+7) fn_element_Validate [V.c (C.sl x.rs.length (fl rdc x.rs))] []=OK (I (E x))/\cl fu (d+7) fn_synopticref04_Validate [V.c (C.sl x.rs.length (fl rdc x.rs))] []=OK (I (E x)):=by
  have: ∀x:Raw,∃e:Int,x∈X->cl fu (d+7) fn_element_Validate [V.c (C.sl x.rs.length (fl rdc x.rs))] []=OK (I e)/\cl fu (d+7) fn_synopticref04_Validate [V.c (C.sl x.rs.length (fl rdc x.rs))] []=OK (I e):=λx=>by
   by_cases hx:x∈X
   ·obtain⟨e,h1,h2⟩:=De fu d hf x.rs (hXr x hx);exact⟨e,λ_=>⟨h1,h2⟩⟩
   ·exact⟨0,λq=>absurd q hx⟩
  obtain⟨E,hE⟩:=Classical.axiomOfChoice this;exact⟨E,hE⟩
 have hFn:=λx (hx:x∈X)=>Zgr fu (d+4) hf x.rs (hXr x hx) code;rcases Yf (λj=> ∃h:j<X.length,E X[j]≠0) X.length with hA|⟨k,hk,⟨_,hA1⟩,hA2⟩
 rotate_left
 ·have hne:(E X[k] !=0)=true:=by rw[bne_iff_ne];exact hA1
  have hz: ∀j (hj:j<k),E (X[j]'(by omega))=0:=λj hj=>Decidable.byContradiction λq=>hA2 j hj ⟨by omega,q⟩;refine Zjh (e:=E X[k]) ?_ ?_
  ·rw[eq_operator_Rows,hfq];simp(disch:=omega)only[Zd,QM,QD,hd1,hwt,bne_self_eq_false,Zms,Zmr,Zmt,Nat.reduceAdd];rw[Zh (λj:Nat=>(([]:List C),(0:Int),(j:Int),())) 1 ([],E X[k],(k:Int),()) k ?_ ?_ ?_ (by omega)]
   ·simp(disch:=omega)only[Zd,QM,QD,Zmr,Znk,Zm5,Zmt,Zn1];try rfl
   ·rfl
   ·intro j hj;have hat:=Zy Zr (show j<X.length by omega);have hV:=(hE X[j] (Znf _)).1;rw[hz j hj]at hV;simp(disch:=omega)only[Zd,QM,QD,Zmv,hat,rawC,Zmw,Zmz,Yl,hV,bne_self_eq_false,Zmr,Znk,Zm5,Zm3,Zm2]
   ·have hat:=Zy Zr hk;have hV:=(hE X[k] (Znf _)).1;simp(disch:=omega)only[Zd,QM,QD,Zmv,hat,rawC,Zmw,Zmz,Yl,hV,hne,Zmr,Znk,Zm5]
  ·rw[eq_synopticref21_Rows];simp(disch:=omega)only[Zd,QM,QD,hd2,bne_self_eq_false,Zms,Zmr,Zmt,Nat.reduceAdd];rw[Zh (λj:Nat=>(([]:List C),(0:Int),(j:Int),())) 1 ([],E X[k],(k:Int),()) k ?_ ?_ ?_ (by omega)]
   ·simp(disch:=omega)only[Zd,QM,QD,Zmr,Znk,Zm5,Zmt,Zn1];try rfl
   ·rfl
   ·intro j hj;have hat:=Zy Zr (show j<X.length by omega);have hV:=(hE X[j] (Znf _)).2;rw[hz j hj]at hV;simp(disch:=omega)only[Zd,QM,QD,Zmv,hat,rawC,Zmw,Zmz,Yl,hV,bne_self_eq_false,Zmr,Znk,Zm5,Zm3,Zm2]
   ·have hat:=Zy Zr hk;have hV:=(hE X[k] (Znf _)).2;simp(disch:=omega)only[Zd,QM,QD,Zmv,hat,rawC,Zmw,Zmz,Yl,hV,hne,Zmr,Znk,Zm5]
 have hz: ∀j (hj:j<X.length),E X[j]=0:=λj hj=>Decidable.byContradiction λq=>hA j hj ⟨hj,q⟩;have lp1: ∀j (hj:j<X.length),cl fu (d+7) fn_element_Validate [V.c (C.sl X[j].rs.length (fl rdc X[j].rs))] []=OK (I 0):=λj hj=>by
  have:=(hE X[j] (Znf _)).1
  rwa [hz j hj]at this
 have lp2: ∀j (hj:j<X.length),cl fu (d+7) fn_synopticref04_Validate [V.c (C.sl X[j].rs.length (fl rdc X[j].rs))] []=OK (I 0):=λj hj=>by
  have:=(hE X[j] (Znf _)).2
  rwa [hz j hj]at this
 have hql:=λj=>Rt m w code (X.take j) 0;have good: ∀j (hj:j<X.length),¬Zdm code X[j]->(fdG code X[j].rs=none/\Yj m w code 0 (X.take (j+1))=Yj m w code 0 (X.take j))\/ ∃v,fdG code X[j].rs=some v/\Yb X[j].a X[j].b X[j].c X[j].e=true/\Yj m w code 0 (X.take (j+1))=Yj m w code 0 (X.take j)++[⟨shares m (Uo X[j]),v,w,j⟩]:=λj hj hb=>by
  have ht:=Zdl m w code X j hj;cases hv:fdG code X[j].rs with
  |none=>rw[hv]at ht;exact .inl ⟨rfl,by rw[ht,Zn8]⟩
  |some v=>
   rw[hv]at ht;refine .inr ⟨v,rfl, ?_,ht⟩;cases e:Yb X[j].a X[j].b X[j].c X[j].e with
   |true=>rfl
   |false=>exact absurd ⟨by rw[hv];rfl,e⟩ hb
 rcases Yf (λj=> ∃h:j<X.length,Zdm code X[j]) X.length with hB|⟨k,hk,⟨_,hB1⟩,hB2⟩
 ·have hnb: ∀j (hj:j<X.length),¬Zdm code X[j]:=λj hj q=>hB j hj ⟨hj,q⟩;have hlen:=Rt m w code X 0;refine⟨0,C.sl (Yj m w code 0 X).length (fl rwc (Yj m w code 0 X)),Yj m w code 0 X,Zep _,by omega,Eh h w code X 0 (λx hx=>by
   obtain⟨j,hj,rfl⟩:=Znp.1 hx;exact hnb j hj), ?_, ?_⟩
  ·rw[eq_operator_Rows,hfq];simp(disch:=omega)only[Zd,QM,QD,hd1,hwt,bne_self_eq_false,Zms,Zmr,Zmt,Nat.reduceAdd];rw[Zh (λj:Nat=>(([]:List C),(0:Int),(j:Int),())) 0 ([],0,(X.length:Int),()) X.length ?_ ?_ ?_ (by omega)]
   rotate_left
   ·rfl
   ·intro j hj;have hat:=Zy Zr hj;have hV:=lp1 j hj;simp(disch:=omega)only[Zd,QM,QD,Zmv,hat,rawC,Zmw,Zmz,Yl,hV,bne_self_eq_false,Zmr,Znk,Zm5,Zm3,Zm2]
   ·simp(disch:=omega)only[Zd,QM,QD,Zmr,Znk,Zm5]
   simp(disch:=omega)only[Zd,QM,QD,hPt,Zmr,Znk,Zm5];rw[Zh (λj:Nat=>(([]:List C),(0:Int),fl rwc (Yj m w code 0 (X.take j)),(j:Int),())) 0 ([],0,fl rwc (Yj m w code 0 X),(X.length:Int),()) X.length ?_ ?_ ?_ (by omega)]
   ·simp(disch:=omega)only[Zd,QM,QD,Ze Zq,div4,Zmt];rw[Zm1 (by rw[Ze Zq];omega)]
   ·rfl
   ·intro j hj;have hat:=Zy Zr hj;have hF:=(hFn X[j] (Znf _)).1;have hl:=hql j;rw[Znr]at hl;rcases good j hj (hnb j hj)with⟨hv,ht⟩|⟨v,hv,hval,ht⟩
    ·rw[ht];generalize Yj m w code 0 (X.take j)=q at hl⊢;have hfq:=Ze Zq q;rw[hv]at hF;simp only[Zp5,Zpr]at hF;simp(disch:=omega)only[Zd,QM,QD,Zmv,hat,rawC,Zmw,Zmz,Yl,hF,Zmr,Znk,Zm5,hfq,Qu,Zm3,Zm2]
    ·rw[ht];generalize Yj m w code 0 (X.take j)=q at hl⊢;have hfq:=Ze Zq q;obtain⟨p0,p1,p2,p3,p4⟩:=Kf hval;have hLo:=K4 fu (d+1) hf m h (Uo X[j]) p0;rw[show plc (Uo X[j])=[.v (.int .i64 ((Uo X[j]).f:Int)), .v (.int .i64 ((Uo X[j]).a:Int)), .v (.int .i64 ((Uo X[j]).b:Int)), .v (.int .i64 ((Uo X[j]).c:Int))] from rfl,p1,p2,p3,p4]at hLo;rw[hv]at hF;simp only[Zou,Zo2]at hF;simp(disch:=omega)only[Zd,QM,QD,Zmv,hat,rawC,Zmw,Zmz,Yl,hF,S0 fu (d+5) hf,hval,hLo,Zmr,Znk,Zm5,Ze Zq,Qu,Ka,Znb,Zms,Zmt,Zm3,Zm2]
   ·rw[Zm1 (Zm8 _)];simp(disch:=omega)only[Zd,QM,QD,Ze Zq,Qu,Zmr,Znk,Zm5]
  ·rw[eq_synopticref21_Rows];simp(disch:=omega)only[Zd,QM,QD,hd2,bne_self_eq_false,Zms,Zmr,Zmt,Nat.reduceAdd];rw[Zh (λj:Nat=>(([]:List C),(0:Int),(j:Int),())) 0 ([],0,(X.length:Int),()) X.length ?_ ?_ ?_ (by omega)]
   rotate_left
   ·rfl
   ·intro j hj;have hat:=Zy Zr hj;have hV:=lp2 j hj;simp(disch:=omega)only[Zd,QM,QD,Zmv,hat,rawC,Zmw,Zmz,Yl,hV,bne_self_eq_false,Zmr,Znk,Zm5,Zm3,Zm2]
   ·simp(disch:=omega)only[Zd,QM,QD,Zmr,Znk,Zm5]
   simp(disch:=omega)only[Zd,QM,QD,Zmr,Znk,Zm5];rw[Zh (λj:Nat=>(([]:List C),(0:Int),fl rwc (Yj m w code 0 (X.take j)),(j:Int),())) 0 ([],0,fl rwc (Yj m w code 0 X),(X.length:Int),()) X.length ?_ ?_ ?_ (by omega)]
   ·simp(disch:=omega)only[Zd,QM,QD,Ze Zq,div4,Zmt];rw[Zm1 (by rw[Ze Zq];omega)]
   ·rfl
   ·intro j hj;have hat:=Zy Zr hj;have hF:=(hFn X[j] (Znf _)).2;have hl:=hql j;rw[Znr]at hl;rcases good j hj (hnb j hj)with⟨hv,ht⟩|⟨v,hv,hval,ht⟩
    ·rw[ht];generalize Yj m w code 0 (X.take j)=q at hl⊢;have hfq:=Ze Zq q;rw[hv]at hF;simp only[Zp5,Zpr]at hF;simp(disch:=omega)only[Zd,QM,QD,Zmv,hat,rawC,Zmw,Zmz,Yl,hF,Zmr,Znk,Zm5,hfq,Qu,Zm3,Zm2]
    ·rw[ht];generalize Yj m w code 0 (X.take j)=q at hl⊢;have hfq:=Ze Zq q;obtain⟨p0,p1,p2,p3,p4⟩:=Kf hval;have hLo:=Md fu d hf m h (Uo X[j]) p0;rw[show plc (Uo X[j])=[.v (.int .i64 ((Uo X[j]).f:Int)), .v (.int .i64 ((Uo X[j]).a:Int)), .v (.int .i64 ((Uo X[j]).b:Int)), .v (.int .i64 ((Uo X[j]).c:Int))] from rfl,p1,p2,p3,p4]at hLo;rw[hv]at hF;simp only[Zou,Zo2]at hF;simp(disch:=omega)only[Zd,QM,QD,Zmv,hat,rawC,Zmw,Zmz,Yl,hF,Qq,hval,hLo,Zmr,Znk,Zm5,Ze Zq,Qu,Ka,Znb,Zms,Zmt,Zm3,Zm2]
   ·rw[Zm1 (Zm8 _)];simp(disch:=omega)only[Zd,QM,QD,Ze Zq,Qu,Zmr,Znk,Zm5]
 ·have hnb: ∀j (hj:j<k),¬Zdm code (X[j]'(by omega)):=λj hj q=>hB2 j hj ⟨by omega,q⟩;obtain⟨v0,hv0⟩:=Zng.1 hB1.1;refine Zjh (e:=1) ?_ ?_
  ·rw[eq_operator_Rows,hfq];simp(disch:=omega)only[Zd,QM,QD,hd1,hwt,bne_self_eq_false,Zms,Zmr,Zmt,Nat.reduceAdd];rw[Zh (λj:Nat=>(([]:List C),(0:Int),(j:Int),())) 0 ([],0,(X.length:Int),()) X.length ?_ ?_ ?_ (by omega)]
   rotate_left
   ·rfl
   ·intro j hj;have hat:=Zy Zr hj;have hV:=lp1 j hj;simp(disch:=omega)only[Zd,QM,QD,Zmv,hat,rawC,Zmw,Zmz,Yl,hV,bne_self_eq_false,Zmr,Znk,Zm5,Zm3,Zm2]
   ·simp(disch:=omega)only[Zd,QM,QD,Zmr,Znk,Zm5]
   simp(disch:=omega)only[Zd,QM,QD,hPt,Zmr,Znk,Zm5];rw[Zh (λj:Nat=>(([]:List C),(0:Int),fl rwc (Yj m w code 0 (X.take j)),(j:Int),())) 1 ([],1,fl rwc (Yj m w code 0 (X.take k)),(k:Int),()) k ?_ ?_ ?_ (by omega)]
   ·simp(disch:=omega)only[Zd,QM,QD,Zmr,Znk,Zm5,Zmt,Zn1];try rfl
   ·rfl
   ·intro j hj;have hj':j<X.length:=by omega
    have hat:=Zy Zr hj';have hF:=(hFn X[j] (Znf _)).1;have hl:=hql j;rw[Znr]at hl;rcases good j hj' (hnb j hj)with⟨hv,ht⟩|⟨v,hv,hval,ht⟩
    ·rw[ht];generalize Yj m w code 0 (X.take j)=q at hl⊢;have hfq:=Ze Zq q;rw[hv]at hF;simp only[Zp5,Zpr]at hF;simp(disch:=omega)only[Zd,QM,QD,Zmv,hat,rawC,Zmw,Zmz,Yl,hF,Zmr,Znk,Zm5,hfq,Qu,Zm3,Zm2]
    ·rw[ht];generalize Yj m w code 0 (X.take j)=q at hl⊢;have hfq:=Ze Zq q;obtain⟨p0,p1,p2,p3,p4⟩:=Kf hval;have hLo:=K4 fu (d+1) hf m h (Uo X[j]) p0;rw[show plc (Uo X[j])=[.v (.int .i64 ((Uo X[j]).f:Int)), .v (.int .i64 ((Uo X[j]).a:Int)), .v (.int .i64 ((Uo X[j]).b:Int)), .v (.int .i64 ((Uo X[j]).c:Int))] from rfl,p1,p2,p3,p4]at hLo;rw[hv]at hF;simp only[Zou,Zo2]at hF;simp(disch:=omega)only[Zd,QM,QD,Zmv,hat,rawC,Zmw,Zmz,Yl,hF,S0 fu (d+5) hf,hval,hLo,Zmr,Znk,Zm5,Ze Zq,Qu,Ka,Znb,Zms,Zmt,Zm3,Zm2]
   ·have hat:=Zy Zr hk;have hF:=(hFn X[k] (Znf _)).1;rw[hv0]at hF;simp only[Zou,Zo2]at hF;have hfq:=Ze Zq (Yj m w code 0 (X.take k));simp(disch:=omega)only[Zd,QM,QD,Zmv,hat,rawC,Zmw,Zmz,Yl,hF,S0 fu (d+5) hf,hB1.2,Zmr,Znk,Zm5,hfq,Qu]
  ·rw[eq_synopticref21_Rows];simp(disch:=omega)only[Zd,QM,QD,hd2,bne_self_eq_false,Zms,Zmr,Zmt,Nat.reduceAdd];rw[Zh (λj:Nat=>(([]:List C),(0:Int),(j:Int),())) 0 ([],0,(X.length:Int),()) X.length ?_ ?_ ?_ (by omega)]
   rotate_left
   ·rfl
   ·intro j hj;have hat:=Zy Zr hj;have hV:=lp2 j hj;simp(disch:=omega)only[Zd,QM,QD,Zmv,hat,rawC,Zmw,Zmz,Yl,hV,bne_self_eq_false,Zmr,Znk,Zm5,Zm3,Zm2]
   ·simp(disch:=omega)only[Zd,QM,QD,Zmr,Znk,Zm5]
   simp(disch:=omega)only[Zd,QM,QD,Zmr,Znk,Zm5];rw[Zh (λj:Nat=>(([]:List C),(0:Int),fl rwc (Yj m w code 0 (X.take j)),(j:Int),())) 1 ([],1,fl rwc (Yj m w code 0 (X.take k)),(k:Int),()) k ?_ ?_ ?_ (by omega)]
   ·simp(disch:=omega)only[Zd,QM,QD,Zmr,Znk,Zm5,Zmt,Zn1];try rfl
   ·rfl
   ·intro j hj;have hj':j<X.length:=by omega
    have hat:=Zy Zr hj';have hF:=(hFn X[j] (Znf _)).2;have hl:=hql j;rw[Znr]at hl;rcases good j hj' (hnb j hj)with⟨hv,ht⟩|⟨v,hv,hval,ht⟩
    ·rw[ht];generalize Yj m w code 0 (X.take j)=q at hl⊢;have hfq:=Ze Zq q;rw[hv]at hF;simp only[Zp5,Zpr]at hF;simp(disch:=omega)only[Zd,QM,QD,Zmv,hat,rawC,Zmw,Zmz,Yl,hF,Zmr,Znk,Zm5,hfq,Qu,Zm3,Zm2]
    ·rw[ht];generalize Yj m w code 0 (X.take j)=q at hl⊢;have hfq:=Ze Zq q;obtain⟨p0,p1,p2,p3,p4⟩:=Kf hval;have hLo:=Md fu d hf m h (Uo X[j]) p0;rw[show plc (Uo X[j])=[.v (.int .i64 ((Uo X[j]).f:Int)), .v (.int .i64 ((Uo X[j]).a:Int)), .v (.int .i64 ((Uo X[j]).b:Int)), .v (.int .i64 ((Uo X[j]).c:Int))] from rfl,p1,p2,p3,p4]at hLo;rw[hv]at hF;simp only[Zou,Zo2]at hF;simp(disch:=omega)only[Zd,QM,QD,Zmv,hat,rawC,Zmw,Zmz,Yl,hF,Qq,hval,hLo,Zmr,Znk,Zm5,Ze Zq,Qu,Ka,Znb,Zms,Zmt,Zm3,Zm2]
   ·have hat:=Zy Zr hk;have hF:=(hFn X[k] (Znf _)).2;rw[hv0]at hF;simp only[Zou,Zo2]at hF;have hfq:=Ze Zq (Yj m w code 0 (X.take k));simp(disch:=omega)only[Zd,QM,QD,Zmv,hat,rawC,Zmw,Zmz,Yl,hF,Qq,hB1.2,Zmr,Znk,Zm5,hfq,Qu]
end
end Go.Proofs.YtobmbacppbkgeaaGreatDoor
namespace Go.Proofs.YtobmbacppbkgeaaGreatDoor
open Go Go.PM Go.Grid
attribute [local congr] Ni Nj Nk K7 Nl Nm K8 K9 Ja Jb Nn Np Jc Cp Cq Cr Cs Ct Cv Cw Cx Cy Cu Nr Ns Cz Nt Nu Tf Nv Nq
section
variable (fu d:Nat) (hf:18446744073709551616<=fu)
include hf
theorem Ej (l:List (Nat×Nat)) (hl:l.length<=1000000):
  cl fu (d+1) fn_slices_Equal_sapi_Share_api_Share [V.c (C.sl l.length (fl shc l)),V.c (C.sl l.length (fl shc l))] []=OK (B true):=by
 rw[eq_slices_Equal_sapi_Share_api_Share];simp(disch:=omega)only[Zd,QM,QD];rw[Zh (λj:Nat=>(false,(j:Int),())) 0 (false,(l.length:Int),()) l.length ?_ ?_ ?_ (by omega)]
 ·simp only[Zd,QM]
 ·rfl
 ·intro j hj;have hat:=Zbe hj;simp(disch:=omega)only[Zd,QM,QD,Zmv,hat,Zmw,Zmz,beq_self_eq_true,Zor,Zm3,Zm2]
 ·simp(disch:=omega)only[Zd,QM,QD]
theorem C0 (L:List Rw) (hl:L.length<=1000000) (hs: ∀r∈L,r.sh.length<=1000000):
  cl fu (d+4) fn_operator_Same [V.c (C.sl L.length (fl rwc L)),V.c (C.sl L.length (fl rwc L))] []=OK (B true):=by
 have hq: ∀r∈L,cl fu (d+2) fn_operator_Same_1 [V.agg (rwc r),V.agg (rwc r)] []=OK (B true):=λr hr=>by
  have h1:=Ej fu d hf r.sh (hs r hr);unfold rwc;rw[eq_operator_Same_1];simp(disch:=omega)only[Zd,QM,QD,beq_self_eq_true,h1]
 have e1:cl fu (d+3) fn_slices_EqualFunc_sapi_Row_sapi_Row_api_Row_api_Row [V.c (C.sl L.length (fl rwc L)),V.c (C.sl L.length (fl rwc L)),V.c (C.fn fn_operator_Same_1 [])] []=OK (B true):=by
  rw[eq_slices_EqualFunc_sapi_Row_sapi_Row_api_Row_api_Row];simp(disch:=omega)only[Zd,QM,QD];rw[Zh (λj:Nat=>(false,(j:Int),())) 0 (false,(L.length:Int),()) L.length ?_ ?_ ?_ (by omega)]
  ·simp only[Zd,QM]
  ·rfl
  ·intro j hj;have hat:=Zy Zq hj;have h1:=hq L[j] (Znf hj);unfold rwc at h1;simp(disch:=omega)only[Zd,QM,QD,Zmv,hat,rwc,Zmw,Zmz,h1,Zm3,Zm2]
  ·simp(disch:=omega)only[Zd,QM,QD]
 rw[eq_operator_Same,e1];simp(disch:=omega)only[Zd,QM,QD]
omit hf in
theorem Az (n m:Nat) (cs es:List C) (h:n≠m):cl fu (d+4) fn_operator_Same [V.c (C.sl n cs),V.c (C.sl m es)] []=OK (B false)/\cl fu (d+4) fn_synopticref21_Same [V.c (C.sl n cs),V.c (C.sl m es)] []=OK (B false):=by
 have hb:(((n:Nat):Int) !=((m:Nat):Int))=true:=by rw[bne_iff_ne];omega
 have e1:=eq_slices_EqualFunc_sapi_Row_sapi_Row_api_Row_api_Row fu (d+2) n cs m es fn_operator_Same_1;rw[hb]at e1;replace e1:cl fu (d+3) fn_slices_EqualFunc_sapi_Row_sapi_Row_api_Row_api_Row [V.c (C.sl n cs),V.c (C.sl m es),V.c (C.fn fn_operator_Same_1 [])] []=OK (B false):=e1;constructor
 ·rw[eq_operator_Same,e1];simp(disch:=omega)only[Zd,QM,QD]
 ·rw[eq_synopticref21_Same,hb];rfl
theorem Zgt (R:List Rw) (hR:R.length<=200) (hs: ∀r∈R,r.sh.length<=1000): ∃b:Bool,
  cl fu (d+4) fn_operator_Same [V.c (C.sl R.length (fl rwc R)),V.c (C.sl (R.length/2) (Zqy (R.length/2*4) (fl rwc R)))] []=OK (B b)/\
  cl fu (d+4) fn_synopticref21_Same [V.c (C.sl R.length (fl rwc R)),V.c (C.sl (R.length/2) (Zqy (R.length/2*4) (fl rwc R)))] []=OK (B b):=by
 by_cases h:R.length=R.length/2
 ·obtain rfl:R=[]:=Zna (by omega);refine⟨true, ?_, ?_⟩
  ·exact C0 fu d hf [] (by simp) (by simp)
  ·exact Zem fu (d+2) hf [] (by simp) (by simp)
 ·exact⟨false,Az fu d _ _ _ _ h⟩
theorem Zdo (R:List Rw) (hR:R.length<=200) (hs: ∀r∈R,r.sh.length<=1000):
  cl fu (d+4) fn_operator_Same [V.c (C.sl R.length (fl rwc R)),V.c (C.sl R.length (fl rwc R))] []=OK (B true)/\cl fu (d+4) fn_synopticref21_Same [V.c (C.sl R.length (fl rwc R)),V.c (C.sl R.length (fl rwc R))] []=OK (B true):=
 ⟨C0 fu d hf R (by omega) (λr hr=>by have:=hs r hr;omega),Zem fu (d+2) hf R (by omega) (λr hr=>by have:=hs r hr;omega)⟩
end
end Go.Proofs.YtobmbacppbkgeaaGreatDoor
namespace Go.Proofs.YtobmbacppbkgeaaGreatDoor
open Go Go.PM Go.Grid
theorem Zeq {A:Type} {e:A->List C} {m:Nat} (hm: ∀x,(e x).length=m) {l:List A} {i k:Nat} (hi:i<l.length) {xs:List C} (hk:k+xs.length<=m) {x:A} (hx:putAt (e l[i]) k xs=e x):putAt (fl e l) (i*m+k) xs=fl e (l.set i x):=by
 have h1:l=l.take i++l[i]::l.drop (i+1):=by rw[<-Zof hi,Zp1]
 have h2:(fl e (l.take i)).length=i*m:=by rw[Ze hm,Znr,Zol (by omega)]
 have h3:fl e l=fl e (l.take i)++(e l[i]++fl e (l.drop (i+1))):=by
  conv=>lhs;rw[h1]
  rw[Na,U2]
 have p1: ∀(a b xs:List C) (k:Nat),putAt (a++b) (a.length+k) xs=a++putAt b k xs:=λa b xs k=>by
  unfold putAt;rw[List.take_length_add_append,show a.length+k+xs.length=a.length+(k+xs.length) by omega,List.drop_length_add_append];simp[Zny]
 have p2: ∀{a b xs:List C} {k:Nat},k+xs.length<=a.length->putAt (a++b) k xs=putAt a k xs++b:=λ{a b xs k} h=>by
  unfold putAt;rw[Zo8 (by omega),List.drop_append_of_le_length h];simp[Zny]
 rw[h3,<-h2,p1,p2 (by rw[hm];exact hk),hx,Zpt,if_pos hi,Na,U2]
attribute [local congr] Ni Nj Nk K7 Nl Nm K8 K9 Ja Jb Nn Np Jc Cp Cq Cr Cs Ct Cv Cw Cx Cy Cu Nr Ns Cz Nt Nu Tf Nv Nq
def ownR (x:Raw):Prop:=x.z=false/\x.rs.length<=100
theorem Ek {x:Raw} (h:ownR x):rawC x=[.v (.int .i64 x.k), .v (.string x.nm), .v (.int .i64 x.tm), .v (.int .i64 x.a), .v (.int .i64 x.b), .v (.int .i64 x.c), .v (.int .i64 x.e),C.sl x.rs.length (fl rdc x.rs)]:=by
 unfold rawC Zdk;rw[h.1];rfl
theorem Tb (k:Int) (nm:ByteArray) (tm a b c e:Int) (rs:List (Int×Int)):[C.v (.int .i64 k),C.v (.string nm),C.v (.int .i64 tm),C.v (.int .i64 a),C.v (.int .i64 b),C.v (.int .i64 c),C.v (.int .i64 e),C.sl rs.length (fl rdc rs)]=rawC ⟨k,nm,tm,a,b,c,e,false,rs⟩:=rfl
def Zdp:List C:=[C.v (.string (⟨#[]⟩)),C.v (.string (⟨#[65,76,80,72]⟩)),C.v (.string (⟨#[97,108,112,104,97]⟩)),C.v (.string (⟨#[65,76,80,72,65,49]⟩)),C.v (.string (⟨#[65,76,32,80,72]⟩)),C.v (.string (⟨#[65,76,80,72,65]⟩))]
theorem Zgu: ∀i:Nat,i<6-> ∃s r,Zqx i Zdp=C.v (.string s)::r:=by
 intro i hi;have:i=0\/i=1\/i=2\/i=3\/i=4\/i=5:=by omega
 rcases this with rfl|rfl|rfl|rfl|rfl|rfl<;>exact⟨_,_,rfl⟩
section
variable (fu d:Nat) (L:List Int) (hL:L.length<=2000)
include hL
theorem Zji (i:Nat): ∃(s:ByteArray) (j:Nat),cl fu (d+3) fn_synoptickeep_Src_Text [V.ptr 1000000 0,V.c (C.sl 6 Zdp)] [Z1 L i]=some ⟨V.c (C.v (.string s)),[Z1 L j],none⟩:=by
 obtain⟨v,j,h1,h2,h3⟩:=V9 fu d L i hL 6 (by omega);obtain⟨k,rfl⟩: ∃k:Nat,v=k:=⟨v.toNat,by omega⟩;obtain⟨s,r,hs⟩:=Zgu k (by omega);refine⟨s,j, ?_⟩;have hin:inR (k:Int) 6=true:=by simp[inR];omega
 have e6:((6:Nat):Int)=6:=rfl;unfold Z1 Ud at h1⊢;rw[eq_synoptickeep_Src_Text];simp(disch:=omega)only[Zd,QM,QD,e6,h1,Zms,Zmr,Zmt,Nat.reduceAdd,hin,Zmv,Zn6,hs]
variable (hf:18446744073709551616<=fu)
include hf
set_option maxHeartbeats 1000000 in
theorem Zbk (i:Nat): ∃(X:List Rep) (j:Nat),(X.length<=2/\ ∀x∈X,Dc x.rs)/\cl fu (d+7) fn_synopticdata_Reports [V.ptr 1000000 0,I 2,I 14000000] [Z1 L i]=some ⟨V.c (C.sl X.length (fl Vd X)),[Z1 L j],none⟩:=by
 obtain⟨v1,j2,c2,b1,b2⟩:=V9 fu (d+4) L i hL 3 (by omega);obtain⟨n,rfl⟩: ∃k:Nat,v1=k:=⟨v1.toNat,by omega⟩;unfold Z1 Ud at c2⊢;rw[eq_synopticdata_Reports];simp(disch:=omega)only[Zd,Int.reduceAdd,QM,QD,c2,Zms,Zmr,Zmt,Nat.reduceAdd];refine Ta (A:=List C×Int×(C×Int×Unit)×Unit) (B:=Out) (fu:=fu) (λo=> ∃(X:List Rep) (j:Nat),(X.length<=2/\ ∀x∈X,Dc x.rs)/\o=some ⟨V.c (C.sl X.length (fl Vd X)),[.ob ty_synoptickeep_Src 0 [C.sl L.length (ints L),C.v (.int .i64 (j:Nat))]],none⟩)
  (λj y=> ∃(X:List Rep) (q:Nat),(X.length=j/\ ∀x∈X,Dc x.rs)/\y=(fl Vd X,((n-j:Nat):Int),(C.sl L.length (ints L),((q:Nat):Int),()),()))
  (λz=> ∃(X:List Rep) (q:Nat),(X.length<=2/\ ∀x∈X,Dc x.rs)/\z=(fl Vd X,(0:Int),(C.sl L.length (ints L),((q:Nat):Int),()),())) 0 n ?_ ?_ ?_ (by omega) ?_
 ·exact⟨[],j2,⟨rfl,by simp⟩,rfl⟩
 ·rintro j y hj ⟨X,q,⟨hX,hok⟩,rfl⟩
  obtain⟨x,q5,⟨hx,_⟩,c7⟩:=Zgp fu d L hL hf 14000000 (by unfold okM;omega) q;unfold Z1 Ud Vd at c7;have hfl:=Ze Y7 X;have hdv:X.length*8/8=X.length:=by omega
  have hsn:=Zbg X x.k x.nm x.tm x.p x.rs;have hlen:(fl Vd (X++[⟨x.k,x.nm,x.tm,x.p,x.rs⟩])).length=(X.length+1)*8:=by rw[Ze Y7];simp
  have hs:((n-j:Nat):Int)-1=((n-(j+1):Nat):Int):=by omega
  refine⟨_, ?_,X++[⟨x.k,x.nm,x.tm,x.p,x.rs⟩],q5,⟨by simp;omega,λz hz=> ?_⟩,rfl⟩
  ·simp(disch:=omega)only[Zd,QM,QD,c7,Zms,Zmr,Zmt,Nat.reduceAdd,hfl,hdv,hsn,hlen,hs];try rfl
  ·rcases Zoc.1 hz with hz|hz
   ·exact hok z hz
   ·simp at hz;subst hz;exact hx
 ·rintro y ⟨X,q,⟨hX,hok⟩,rfl⟩
  have hfl:=Ze Y7 X;have hdv:X.length*8/8=X.length:=by omega
  refine⟨_, ?_,X,q,⟨by omega,hok⟩,rfl⟩;rw[Zph];simp(disch:=omega)only[Zd,QM,QD,hfl,hdv];rfl
 ·rintro z ⟨X,q,⟨hX,hok⟩,rfl⟩
  have hfl:=Ze Y7 X;have hdv:X.length*8/8=X.length:=by omega
  have ht:Zqy (X.length*8) (fl Vd X)=fl Vd X:=Zm1 (by omega);refine⟨X,q,⟨hX,hok⟩, ?_⟩;simp(disch:=omega)only[Zd,QM,QD,hfl,hdv,ht,Zmt]
set_option maxHeartbeats 2000000 in
theorem Zk5 (x:Raw) (hx:ownR x) (hlen:x.rs.length<=50) (i:Nat): ∃(y:Raw) (j:Nat),ownR y/\cl fu (d+6) fn_synopticdata_Bent [V.ptr 1000000 0,V.agg (rawC x)] [Z1 L i]=some ⟨V.agg (rawC y),[Z1 L j],none⟩:=by
 have hfr:=Ze Zj x.rs;have htk:Zqy (x.rs.length*2) (fl rdc x.rs)=fl rdc x.rs:=Zm1 (by omega);obtain⟨v,j1,c1,b1,b2⟩:=V9 fu (d+3) L i hL 8 (by omega);rw[Ek hx];unfold Z1 Ud at c1⊢;rw[eq_synopticdata_Bent];simp(disch:=omega)only[Zd,QM,QD,hfr,c1,Zms,Zmr,Zmt,Nat.reduceAdd];rcases(show v=0\/v=1\/v=2\/v=3\/v=4\/v=5\/v=6\/v=7 by omega)with rfl|rfl|rfl|rfl|rfl|rfl|rfl|rfl
 ·obtain⟨w,j2,c2,_⟩:=Yx fu (d+2) L j1 hL (-1) 4 (by omega) ⟨by omega,by omega⟩;unfold Z1 Ud at c2;refine⟨⟨w,x.nm,x.tm,x.a,x.b,x.c,x.e,false,x.rs⟩,j2,⟨rfl,by show x.rs.length<=100;omega⟩, ?_⟩;simp(disch:=omega)only[Zd,QM,QD,c2,hfr,htk,Tb,Zms,Zmr,Zmt,Nat.reduceAdd]
 ·obtain⟨w,j2,c2⟩:=Zji fu (d+2) L hL j1;unfold Z1 Ud Zdp at c2;refine⟨⟨x.k,w,x.tm,x.a,x.b,x.c,x.e,false,x.rs⟩,j2,⟨rfl,by show x.rs.length<=100;omega⟩, ?_⟩;simp(disch:=omega)only[Zd,QM,QD,c2,hfr,htk,Tb,Zms,Zmr,Zmt,Nat.reduceAdd]
 ·obtain⟨w,j2,c2,_⟩:=L8 fu (d+2) L j1 hL [-1,52596000,0] (by simp);replace c2:cl fu (d+5) fn_synoptickeep_Src_Pick [V.ptr 1000000 0,V.c (C.sl 3 [C.v (.int .i64 (-1)),C.v (.int .i64 52596000),C.v (.int .i64 0)])] [Z1 L j1]=_:=c2;unfold Z1 Ud at c2;refine⟨⟨x.k,x.nm,w,x.a,x.b,x.c,x.e,false,x.rs⟩,j2,⟨rfl,by show x.rs.length<=100;omega⟩, ?_⟩;simp(disch:=omega)only[Zd,QM,QD,c2,hfr,htk,Tb,Zms,Zmr,Zmt,Nat.reduceAdd]
 ·obtain⟨p,j2,hp,c2⟩:=L9 fu d hf L j1 hL;unfold Z1 Ud at c2;refine⟨⟨x.k,x.nm,x.tm,p.f,p.a,p.b,p.c,false,x.rs⟩,j2,⟨rfl,by show x.rs.length<=100;omega⟩, ?_⟩;simp(disch:=omega)only[Zd,QM,QD,c2,S2,hfr,htk,Tb,Zms,Zmr,Zmt,Nat.reduceAdd]
 ·obtain⟨w1,j2,c2,_⟩:=Yx fu (d+2) L j1 hL (-1) 20 (by omega) ⟨by omega,by omega⟩;obtain⟨w2,j3,c3,_⟩:=V9 fu (d+3) L j2 hL 841 (by omega);obtain⟨w3,j4,c4,_⟩:=V9 fu (d+3) L j3 hL 200 (by omega);unfold Z1 Ud at c2 c3 c4;refine⟨⟨x.k,x.nm,x.tm,w1,w2,w3,0,false,x.rs⟩,j4,⟨rfl,by show x.rs.length<=100;omega⟩, ?_⟩;simp(disch:=omega)only[Zd,QM,QD,c2,c3,c4,hfr,htk,Tb,Zms,Zmr,Zmt,Nat.reduceAdd]
 ·obtain⟨w1,j2,c2,_⟩:=Yx fu (d+2) L j1 hL 0 12 (by omega) ⟨by omega,by omega⟩;obtain⟨w2,j3,c3,_⟩:=V9 fu (d+3) L j2 hL 9000 (by omega);unfold Z1 Ud at c2 c3;have hsn:=Ax x.rs w1 w2;have hl2:(fl rdc (x.rs++[(w1,w2)])).length=(x.rs.length+1)*2:=by rw[Ze Zj];simp
  have ht2:Zqy ((x.rs.length+1)*2) (fl rdc (x.rs++[(w1,w2)]))=fl rdc (x.rs++[(w1,w2)]):=Zm1 (by omega);have hl3:(x.rs++[(w1,w2)]).length=x.rs.length+1:=by simp
  have hmk:=Tb x.k x.nm x.tm x.a x.b x.c x.e (x.rs++[(w1,w2)]);rw[hl3]at hmk;refine⟨⟨x.k,x.nm,x.tm,x.a,x.b,x.c,x.e,false,x.rs++[(w1,w2)]⟩,j3,⟨rfl,by show(x.rs++[(w1,w2)]).length<=100;omega⟩, ?_⟩;simp(disch:=omega)only[Zd,QM,QD,c2,c3,hfr,hsn,hl2,ht2,hmk,Zms,Zmr,Zmt,Nat.reduceAdd]
 ·by_cases h0:0<x.rs.length
  ·obtain⟨w1,j2,c2,b3,b4⟩:=V9 fu (d+3) L j1 hL (x.rs.length:Int) (by omega);obtain⟨q,rfl⟩: ∃q:Nat,w1=q:=⟨w1.toNat,by omega⟩;obtain⟨w2,j3,c3,_⟩:=L8 fu (d+2) L j2 hL [-1001,0,99999] (by simp);replace c3:cl fu (d+5) fn_synoptickeep_Src_Pick [V.ptr 1000000 0,V.c (C.sl 3 [C.v (.int .i64 (-1001)),C.v (.int .i64 0),C.v (.int .i64 99999)])] [Z1 L j2]=_:=c3;unfold Z1 Ud at c2 c3;have hq:q<x.rs.length:=by omega
   have hput:putAt (fl rdc x.rs) (q*2+1) [C.v (.int .i64 w2)]=fl rdc (x.rs.set q (x.rs[q].1,w2)):=Zeq Zj hq (k:=1) (xs:=[C.v (.int .i64 w2)]) (Zmu rfl) rfl;have hl3:(x.rs.set q (x.rs[q].1,w2)).length=x.rs.length:=Zqq;have hl2:(fl rdc (x.rs.set q (x.rs[q].1,w2))).length=x.rs.length*2:=by rw[Ze Zj,hl3]
   have ht2:Zqy (x.rs.length*2) (fl rdc (x.rs.set q (x.rs[q].1,w2)))=fl rdc (x.rs.set q (x.rs[q].1,w2)):=Zm1 (by omega);have hmk:=Tb x.k x.nm x.tm x.a x.b x.c x.e (x.rs.set q (x.rs[q].1,w2));rw[hl3]at hmk;refine⟨⟨x.k,x.nm,x.tm,x.a,x.b,x.c,x.e,false,x.rs.set q (x.rs[q].1,w2)⟩,j3,⟨rfl,by show(x.rs.set q (x.rs[q].1,w2)).length<=100;omega⟩, ?_⟩;simp(disch:=omega)only[Zd,QM,QD,c2,c3,Zmv,hfr,hput,hl2,ht2,hmk,Zms,Zmr,Zmt,Nat.reduceAdd]
  ·refine⟨⟨x.k,x.nm,x.tm,x.a,x.b,x.c,x.e,false,x.rs⟩,j1,⟨rfl,by show x.rs.length<=100;omega⟩, ?_⟩;simp(disch:=omega)only[Zd,QM,QD,hfr,htk,Tb,Zms,Zmr,Zmt,Nat.reduceAdd]
 ·refine⟨⟨x.k,x.nm,x.tm,x.a,x.b,x.c,Zqu.wrap (x.e+1),false,x.rs⟩,j1,⟨rfl,by show x.rs.length<=100;omega⟩, ?_⟩;simp(disch:=omega)only[Zd,QM,QD,hfr,htk,Tb,Zms,Zmr,Zmt,Nat.reduceAdd]
omit hL in
theorem Zbl (X:List Raw) (hX:X.length<=9223372036854775807) (m:Nat) (hm:m<=200): ∃b:Bool,cl fu (d+2) fn_synopticdata_SmallAll [V.c (C.sl X.length (fl rawC X)),I (m:Int)] []=OK (B b)/\(b=true->X.length<=m/\ ∀x∈X,x.rs.length<=40):=by
 rw[eq_synopticdata_SmallAll];by_cases hl:X.length<=m
 rotate_left
 ·refine⟨false, ?_,λe=>by cases e⟩;simp(disch:=omega)only[Zd,QM,QD]
 have hS: ∀x:Raw,cl fu (d+1) fn_synopticdata_Small [V.agg (rawC x)] []=OK (B (decide ((x.nm.size:Int)<=40)&&decide ((x.rs.length:Int)<=40))):=λx=>by
  unfold rawC;rw[eq_synopticdata_Small];by_cases h1:(x.nm.size:Int)<=40
  ·rw[decide_eq_true h1];simp only[cond_true,Zk3,Bool.true_and]
  ·rw[decide_eq_false h1];rfl
 simp(disch:=omega)only[Zd,QM,QD];rcases Yf (λj=> ∃h:j<X.length,¬((X[j].nm.size:Int)<=40/\(X[j].rs.length:Int)<=40)) X.length with hA|⟨k,hk,⟨_,hA1⟩,hA2⟩
 ·have hz: ∀j (hj:j<X.length),(X[j].nm.size:Int)<=40/\(X[j].rs.length:Int)<=40:=λj hj=>Decidable.byContradiction λq=>hA j hj ⟨hj,q⟩;refine⟨true, ?_,λ_=>⟨hl,λx hx=> ?_⟩⟩
  ·rw[Zh (λj:Nat=>(false,(j:Int),())) 0 (false,(X.length:Int),()) X.length ?_ ?_ ?_ (by omega)]
   ·simp only[Zd,QM]
   ·rfl
   ·intro j hj;have hat:=Zy Zr hj;have h1:=hS X[j];rw[decide_eq_true (hz j hj).1,decide_eq_true (hz j hj).2]at h1;unfold rawC at h1;simp(disch:=omega)only[Zd,QM,QD,Zmv,hat,rawC,Zmw,Zmz,h1,Zm3,Zm2]
   ·simp(disch:=omega)only[Zd,QM,QD]
  ·obtain⟨j,hj,rfl⟩:=Znp.1 hx;have:=(hz j hj).2;omega
 ·refine⟨false, ?_,λe=>by cases e⟩;rw[Zh (λj:Nat=>(false,(j:Int),())) 1 (false,(k:Int),()) k ?_ ?_ ?_ (by omega)]
  ·simp only[Zd,QM]
  ·rfl
  ·intro j hj;have hat:=Zy Zr (show j<X.length by omega);have hz:(X[j].nm.size:Int)<=40/\(X[j].rs.length:Int)<=40:=Decidable.byContradiction λq=>hA2 j hj ⟨by omega,q⟩;have h1:=hS X[j];rw[decide_eq_true hz.1,decide_eq_true hz.2]at h1;unfold rawC at h1;simp(disch:=omega)only[Zd,QM,QD,Zmv,hat,rawC,Zmw,Zmz,h1,Zm3,Zm2]
  ·have hat:=Zy Zr hk;have h1:=hS X[k];have hb:(decide ((X[k].nm.size:Int)<=40)&&decide ((X[k].rs.length:Int)<=40))=false:=by
    cases e:(decide ((X[k].nm.size:Int)<=40)&&decide ((X[k].rs.length:Int)<=40))with
    |false=>rfl
    |true=>
     rw[Zmq,decide_eq_true_iff,decide_eq_true_iff]at e;exact absurd e hA1
   rw[hb]at h1;unfold rawC at h1;simp(disch:=omega)only[Zd,QM,QD,Zmv,hat,rawC,Zmw,Zmz,h1]
end
end Go.Proofs.YtobmbacppbkgeaaGreatDoor
namespace Go.Proofs.YtobmbacppbkgeaaGreatDoor
open Go Go.PM Go.Grid
attribute [local congr] Ni Nj Nk K7 Nl Nm K8 K9 Ja Jb Nn Np Jc Cp Cq Cr Cs Ct Cv Cw Cx Cy Cu Nr Ns Cz Nt Nu Tf Nv Nq
def exR {A:Type} (J:A->Prop) (o:Option (Nat×A)):Prop:= ∃y,o=some (0,y)/\J y
theorem Nw {A B:Type} {body:A->Option (Nat×A)} {fu:Nat} {x:A} {K:Nat×A->Option B} (R:Option B->Prop) (J:Nat->A->Prop) (k:Nat) (hx:J 0 x)
  (h: ∀j y,j<k->J j y->exR (J (j+1)) (body y)) (he: ∀y,J k y->body y=some (1,y)) (hf:k<fu) (h0: ∀z,J k z->R (K (0,z))):R ((iter body fu x).bind K):=by
 obtain⟨e,z,hi,hq⟩:=Zas (body:=body) (λj y=>J j y) (λe z=>e=0/\J k z) k 0 fu x hx (λj y _ hj hJ=>by
  obtain⟨y',h1,h2⟩:=h j y (by omega) hJ;exact⟨y', .inl ⟨h1,h2⟩⟩) (λy hJ=>by
  rw[Zmt]at hJ;exact⟨0,y,he y hJ,rfl,hJ⟩) hf
 obtain⟨rfl,hJ⟩:=hq;rw[hi];exact h0 z hJ
theorem Zjj {A B:Type} {x:Option A} {K:A->Option B} (R:Option B->Prop) (P:A->Prop) (h: ∃a,x=some a/\P a) (h2: ∀a,P a->R (K a)):R (x.bind K):=by
 obtain⟨a,rfl,h1⟩:=h;exact h2 a h1
def jS (L:List Int) (j:Nat) (y:Bool×Int×(C×Int×Unit)×Unit):Prop:= ∃i:Nat,y=(false,(j:Int),(C.sl L.length (ints L),(i:Int),()),())
theorem Zk6 {c:C} {R:List Rw} (h:isRw c R): ∃c':C,nrm c'=C.sl (R.length/2) (Zqy (R.length/2*4) (fl rwc R))/\ ∀{T:Type} (k:C->Option T),sliceC 4 none (some (I ((R.length/2:Nat):Int))) c k=k c':=by
 have h1:=h.1;have hb: ∀{T:Type} (n:Nat) (k:Nat->Option T),bound (some (I ((n/2:Nat):Int))) n n k=k (n/2):=λn k=>by
  simp only[bound];rw[decide_eq_true (show(0:Int)<=((n/2:Nat):Int) by omega),decide_eq_true (show((n/2:Nat):Int)<=(n:Int) by omega)];simp only[Zd,QM,Zmv]
 cases c with
 |sl n cs=>
  rw[K1]at h1;injection h1 with h2 h3
  subst h2;subst h3;refine⟨C.sl (R.length/2) (Zqy (R.length/2*4) (fl rwc R)),K1 ..,λk=> ?_⟩;simp only[sliceC];rw[hb];simp only[bound,Zm5,Zns,Zp8]
 |nl=>
  rw[Zcy]at h1;injection h1 with h2 h3
  rw[<-h2,<-h3];refine⟨C.nl,rfl,λk=> ?_⟩;simp only[sliceC];rw[hb];rfl
 |_=>cases h1
section
variable (fu d:Nat) (hf:18446744073709551616<=fu)
include hf
set_option maxHeartbeats 16000000 in
theorem sp_OperatorRows (X:List Raw) (hX:X.length<=9223372036854775807) (l:List Int) (n code weight:Int):cl fu (d+10) fn_synopticlaw21_OperatorRows [V.c (C.sl X.length (fl rawC X)),V.c (C.sl l.length (ints l)),I n,I code,I weight] []=OK (B true):=by
 have hA:=Zjb fu d hf;obtain⟨b,hS,hSb⟩:=Zbl fu (d+7) hf X hX 40 (by omega);replace hS:cl fu (d+9) fn_synopticdata_SmallAll [V.c (C.sl X.length (fl rawC X)),I 40] []=_:=hS;rw[eq_synopticlaw21_OperatorRows];simp(disch:=omega)only[Zd,QM,QD,hS];cases b with
 |false=>simp(disch:=omega)only[Zd,QM,QD,hA]
 |true=>
 obtain⟨hXl,hXr⟩:=hSb rfl;have hN:=Zmk fu (d+8) l;have hL:(l.take 2000).length<=2000:=by simp;omega
 generalize l.take 2000=L at hN hL;obtain⟨A,j1,⟨hA1,hA2⟩,k1⟩:=Zgn fu (d+3) hf L hL 0;obtain⟨A',j2,⟨hB1,hB2⟩,k2⟩:=Zbk fu (d+2) L hL hf j1;obtain⟨Z,hZ,hZl,hZo⟩: ∃Z:List Raw,fl Vd A++fl Vd A'=fl rawC Z/\A.length+A'.length=Z.length/\ ∀x∈Z,ownR x/\x.rs.length<=11:=by
  refine⟨A.map Zjg++A'.map Zjg, ?_, ?_, ?_⟩
  ·rw[Na,<-Zeo,<-Zeo]
  ·simp
  ·intro x hx;rcases Zoc.1 hx with hx|hx
   ·obtain⟨y,hy,rfl⟩:=Zpu.1 hx;have h3:y.rs.length<=11:=(hA2 y hy).2.1;exact⟨⟨rfl,by show y.rs.length<=100;omega⟩,h3⟩
   ·obtain⟨y,hy,rfl⟩:=Zpu.1 hx;have h3:y.rs.length<=11:=(hB2 y hy).1;exact⟨⟨rfl,by show y.rs.length<=100;omega⟩,h3⟩
 have hfA:=Ze Y7 A;have hfB:=Ze Y7 A';have hfZ:=Ze Zr Z;have hdZ:Z.length*8/8=Z.length:=by omega
 have htZ:Zqy (Z.length*8) (fl rawC Z)=fl rawC Z:=Zm1 (by omega);unfold Z1 Ud at hN k1 k2;simp(disch:=omega)only[Zd,N0,out1,out2,QM,QD,hN,k1,k2,hfA,hfB,hZ,hZl,hfZ,htZ,Zms,Zmr,Zmt,Nat.reduceAdd];refine Zjj (λo=>o=OK (B true)) (λp=> ∃(Y:List Raw) (j:Nat),(Y.length=Z.length/\ ∀x∈Y,x.rs.length<=100)/\p=(0,(fl rawC Z,fl rawC Y,(C.sl L.length (ints L),((j:Nat):Int),()),()))) ?_ ?_
 ·by_cases h0:0<Z.length
  ·obtain⟨v,j3,k3,b3,b4⟩:=V9 fu (d+7) L j2 hL (Z.length:Int) (by omega);obtain⟨q,rfl⟩: ∃q:Nat,v=q:=⟨v.toNat,by omega⟩;have hq:q<Z.length:=by omega
   have hat:=Zy Zr hq;have hput:=λy:Raw=>Zeq Zr (l:=Z) (k:=0) (xs:=rawC y) hq (Zmu rfl) (x:=y) (by unfold putAt;simp[Zr]);obtain⟨ho1,ho2⟩:=hZo Z[q] (Znf _);generalize Z[q]=x at hat ho1 ho2;obtain⟨y,j4,hy,k4⟩:=Zk5 fu (d+3) L hL hf x ho1 (by omega) j3;replace hput:putAt (fl rawC Z) (q*8) (rawC y)=_:=hput y;have e1:=Ek ho1;rw[e1]at k4 hat;rw[Ek hy]at k4 hput;have hfY:=Ze Zr (Z.set q y);rw[Zqq]at hfY;unfold Z1 Ud at k3 k4;refine⟨(0,(fl rawC Z,fl rawC (Z.set q y),(C.sl L.length (ints L),(j4:Int),()),())), ?_,Z.set q y,j4,⟨Zqq,λz hz=> ?_⟩,rfl⟩
   ·simp(disch:=omega)only[Zd,N0,out1,out2,QM,QD,hZ,hZl,k3,htZ,hat,k4,hput,hfY,hfZ,Zmv,Zmw,Zmz,Zms,Zmr,Zmt,Nat.reduceAdd]
   ·rcases Zpm hz with hz|rfl
    ·have:=(hZo z hz).2;omega
    ·exact hy.2
  ·refine⟨(0,(fl rawC Z,fl rawC Z,(C.sl L.length (ints L),(j2:Int),()),())), ?_,Z,j2,⟨rfl,λz hz=> ?_⟩,rfl⟩
   ·simp(disch:=omega)only[Zd,N0,out1,out2,QM,QD,hZ,hZl,Zmt,htZ,hfZ]
   ·have:=(hZo z hz).2;omega
 ·rintro p ⟨Y,j3,⟨hY1,hY2⟩,rfl⟩
  have hfY:=Ze Zr Y;have hdY:Y.length*8/8=Y.length:=by omega
  have htY:Zqy (Y.length*8) (fl rawC Y)=fl rawC Y:=Zm1 (by omega);simp(disch:=omega)only[Zd,N0,out1,out2,QM,QD,hfZ,hfY,hdZ,hdY,htZ,htY];refine Nw (λo=>o=OK (B true)) (jS L) 3 ⟨j3,rfl⟩ ?_ ?_ (by omega) ?_
  ·rintro j y hj ⟨i,rfl⟩
   obtain⟨W,rr,hW,hdr⟩: ∃(W:List Raw) (rr:List C),okX W/\Zqx j [C.sl X.length (fl rawC X),C.sl Z.length (fl rawC Z),C.sl Y.length (fl rawC Y)]=C.sl W.length (fl rawC W)::rr:=by
    rcases(show j=0\/j=1\/j=2 by omega)with rfl|rfl|rfl
    ·exact⟨X,_,⟨by omega,λx hx=>by have:=hXr x hx;omega⟩,rfl⟩
    ·exact⟨Z,_,⟨by omega,λx hx=>by have:=(hZo x hx).2;omega⟩,rfl⟩
    ·exact⟨Y,[],⟨by omega,λx hx=>by have:=hY2 x hx;omega⟩,rfl⟩
   obtain⟨kk,i1,e1,_⟩:=Yx fu (d+6) L i hL 1 8 (by omega) ⟨by omega,by omega⟩;unfold Z1 Ud at e1;simp(disch:=omega)only[Zd,N0,out1,out2,QM,QD,Zmv,Zn6,hfZ,hfY,hdZ,hdY,htZ,htY,hdr,e1,Zms,Zmr,Zmt,Nat.reduceAdd];refine Nw (exR (jS L (j+1))) (jS L) 2 ⟨i1,rfl⟩ ?_ ?_ (by omega) ?_
   ·clear e1
    rintro jk y hjk ⟨i,rfl⟩
    obtain⟨K,rr2,hK⟩: ∃(K:Int) (rr2:List C),Zqx jk [C.v (.int .i64 n),C.v (.int .i64 kk)]=C.v (.int .i64 K)::rr2:=by
     rcases(show jk=0\/jk=1 by omega)with rfl|rfl
     ·exact⟨_,_,rfl⟩
     ·exact⟨_,[],rfl⟩
    obtain⟨cc,i1,e1,_⟩:=Yx fu (d+6) L i hL 1 11 (by omega) ⟨by omega,by omega⟩;unfold Z1 Ud at e1;simp(disch:=omega)only[Zd,N0,out1,out2,QM,QD,Zmv,Zn6,hK,e1,Zms,Zmr,Zmt,Nat.reduceAdd];refine Nw (exR (jS L (jk+1))) (jS L) 2 ⟨i1,rfl⟩ ?_ ?_ (by omega) ?_
    ·clear e1
     rintro jc y hjc ⟨i,rfl⟩
     obtain⟨Cd,rr3,hC⟩: ∃(Cd:Int) (rr3:List C),Zqx jc [C.v (.int .i64 code),C.v (.int .i64 cc)]=C.v (.int .i64 Cd)::rr3:=by
      rcases(show jc=0\/jc=1 by omega)with rfl|rfl
      ·exact⟨_,_,rfl⟩
      ·exact⟨_,[],rfl⟩
     obtain⟨ww,i1,e1,_⟩:=Yx fu (d+6) L i hL 1 100 (by omega) ⟨by omega,by omega⟩;unfold Z1 Ud at e1;simp(disch:=omega)only[Zd,N0,out1,out2,QM,QD,Zmv,Zn6,hC,e1,Zms,Zmr,Zmt,Nat.reduceAdd];refine Nw (exR (jS L (jc+1))) (jS L) 2 ⟨i1,rfl⟩ ?_ ?_ (by omega) ?_
     ·clear e1
      rintro jw y hjw ⟨i,rfl⟩
      obtain⟨Wt,rr4,hWt⟩: ∃(Wt:Int) (rr4:List C),Zqx jw [C.v (.int .i64 weight),C.v (.int .i64 ww)]=C.v (.int .i64 Wt)::rr4:=by
       rcases(show jw=0\/jw=1 by omega)with rfl|rfl
       ·exact⟨_,_,rfl⟩
       ·exact⟨_,[],rfl⟩
      obtain⟨e,c,R,hR,hR1,hR2,r1,r2⟩:=Zgs fu (d+1) hf K Cd Wt W hW;obtain⟨s1,s2⟩:=Zdo fu (d+5) hf R hR1 hR2;obtain⟨bh,s3,s4⟩:=Zgt fu (d+5) hf R hR1 hR2;obtain⟨c',hn',hsl⟩:=Zk6 hR;have hnr:=hR.1;have hsl2:=λ{T:Type} (k:Nat->List C->Option T)=>hR.2 k;have htd:Zqz (R.length:Int) 2=((R.length/2:Nat):Int):=(Int.ofNat_tdiv R.length 2).symm;refine⟨(false,(jw:Int)+1,(C.sl L.length (ints L),(i:Int),()),()), ?_,⟨i,rfl⟩⟩;simp(disch:=omega)only[Zd,N0,out1,out2,QM,QD,Zmv,Zn6,hWt,r1,r2,hnr,hsl2,htd,hsl,hn',s1,s2,s3,s4,beq_self_eq_true,Zms,Zmr,Zmt,Nat.reduceAdd]
     ·rintro y ⟨i,rfl⟩
      simp(disch:=omega)only[Zd,N0,out1,out2,QM,QD]
     ·clear e1
      rintro y ⟨i,rfl⟩
      refine⟨(false,(jc:Int)+1,(C.sl L.length (ints L),(i:Int),()),()), ?_,⟨i,rfl⟩⟩;simp(disch:=omega)only[Zd,N0,out1,out2,QM,QD]
    ·rintro y ⟨i,rfl⟩
     simp(disch:=omega)only[Zd,N0,out1,out2,QM,QD]
    ·clear e1
     rintro y ⟨i,rfl⟩
     refine⟨(false,(jk:Int)+1,(C.sl L.length (ints L),(i:Int),()),()), ?_,⟨i,rfl⟩⟩;simp(disch:=omega)only[Zd,N0,out1,out2,QM,QD]
   ·rintro y ⟨i,rfl⟩
    simp(disch:=omega)only[Zd,N0,out1,out2,QM,QD]
   ·clear e1
    rintro y ⟨i,rfl⟩
    refine⟨(false,(j:Int)+1,(C.sl L.length (ints L),(i:Int),()),()), ?_,⟨i,rfl⟩⟩;simp(disch:=omega)only[Zd,N0,out1,out2,QM,QD]
  ·rintro y ⟨i,rfl⟩
   simp(disch:=omega)only[Zd,N0,out1,out2,QM,QD]
  ·rintro y ⟨i,rfl⟩
   simp(disch:=omega)only[Zd,N0,out1,out2,QM,QD,hA]
end
end Go.Proofs.YtobmbacppbkgeaaGreatDoor
namespace Go.PM
open Go
def Zer (P:Program) (r:TypeId->Option (List TypeId)):List Field->Nat->Option (List TypeId)
 | [],_=>some []
 |f::fs,off=>if f.offset=off then(r f.type).bind λl=>if l.length=P.cellsOf f.type then(Zer P r fs (off+l.length)).map (l++ ·)else none else none
def Ha (P:Program):Nat->TypeId->Option (List TypeId)
 |0,_=>none
 |d+1,t=>match P.underlying t with
  |some (.struct fs)=>(Zer P (Ha P d) fs.toList 0).bind λl=>if l.length=P.cellsOf t then some l else none
  |some (.array n e)=>(Ha P d e).bind λl=>if l.length=P.cellsOf e/\n*l.length=P.cellsOf t then some (Zrq n l).flatten else none
  |_=>some [t]
section
variable {H:Type} {enc:TypeId×Value->H} {P:Program} {w:World} {base:Nat} {spare:Nat->Bool} {held:Bool}
def Leaves (enc:TypeId×Value->H) (P:Program) (w:World) (base:Nat) (spare:Nat->Bool) (held:Bool) (ls:List TypeId) (cs:List Value):Prop:=
 cs.length=ls.length/\ ∀(i:Nat) (l:TypeId) (u:Value),ls[i]? =some l->cs[i]? =some u-> ∃fuel x,DataW.trod enc P w base spare held fuel l [u]=some x
theorem Leaves.append {a b:List TypeId} {x y:List Value} (h:Leaves enc P w base spare held a x) (h':Leaves enc P w base spare held b y):Leaves enc P w base spare held (a++b) (x++y):=by
 refine⟨by simp[h.1,h'.1],λi l u hl hu=> ?_⟩;by_cases hi:i<a.length
 ·rw[Znt hi]at hl;rw[Znt (by rw[h.1];exact hi)]at hu;exact h.2 i l u hl hu
 ·rw[Zoe (by omega)]at hl;rw[Zoe (by rw[h.1];omega),h.1]at hu;exact h'.2 _ l u hl hu
theorem El {A B:Type} {f:A->Option B}: ∀{l:List A} {r:List B},l.mapM f=some r-> ∀a∈l,∃b,f a=some b
 | [],_,_,a,ha=>by cases ha
 |x::l,r,h,a,ha=>by
  rw[Zqa]at h;obtain⟨b,h1,h⟩:=Zm6.1 h;obtain⟨bs,h2,_⟩:=Zm6.1 h;rcases Znl.1 ha with rfl|ha
  ·exact⟨b,h1⟩
  ·exact El h2 a ha
theorem Hc {r:TypeId->Option (List TypeId)} {cs:List Value} (hr: ∀t l,r t=some l-> ∀fuel vs x,DataW.trod enc P w base spare held fuel t vs=some x->Leaves enc P w base spare held l vs) {n:Nat}: ∀(fs:List Field) (off:Nat) (ls:List TypeId),Zer P r fs off=some ls->off+ls.length<=cs.length->
  (∀f∈fs,∃x,DataW.trod enc P w base spare held n f.type ((cs.drop f.offset).take (P.cellsOf f.type))=some x)->Leaves enc P w base spare held ls ((cs.drop off).take ls.length)
 | [],off,ls,h,_,_=>by
  injection h with h
  subst h;exact⟨by simp,λi l u hl _=>by simp at hl⟩
 |f::fs,off,ls,h,hlen,hall=>by
  unfold Zer at h;split at h
  ·rename_i ho;obtain⟨l,h1,h⟩:=Zm6.1 h;split at h
   ·rename_i hl;obtain⟨ls',h2,rfl⟩:=Znq.1 h;obtain⟨x,hx⟩:=hall f (by simp);have a1:=hr _ _ h1 _ _ _ hx;rw[Znb]at hlen;have a2:=Hc hr fs (off+l.length) ls' h2 (by omega) λg hg=>hall g (Znm _ hg);rw[ho,<-hl]at a1;have e:(cs.drop off).take (l++ls').length=(cs.drop off).take l.length++(cs.drop (off+l.length)).take ls'.length:=by
     rw[Znb,List.take_add,Zqc]
    rw[e];exact a1.append a2
   ·cases h
  ·cases h
theorem Kg {l:List TypeId} {m:Nat} (hl:l.length=m) {cs:List Value}: ∀(n:Nat),n*m<=cs.length->(∀i,i<n->Leaves enc P w base spare held l ((cs.drop (i*m)).take m))->Leaves enc P w base spare held (Zrq n l).flatten (cs.take (n*m))
 |0,_,_=>⟨by simp,λi l u hl _=>by simp at hl⟩
 |n+1,h,hall=>by
  have ih:=Kg hl n (by rw[Zot]at h;omega) λi hi=>hall i (by omega);have h1:=hall n (by omega);rw[List.replicate_succ',List.flatten_concat,Zot,List.take_add];exact ih.append h1
theorem Jd: ∀(d:Nat) (t:TypeId) (ls:List TypeId),Ha P d t=some ls-> ∀fuel cs x,DataW.trod enc P w base spare held fuel t cs=some x->Leaves enc P w base spare held ls cs
 |0,t,ls,h=>by cases h
 |d+1,t,ls,h=>by
  intro fuel cs x hx;cases fuel with
  |zero=>cases hx
  |succ n=>
  rw[DataW.trod_step]at hx;unfold Ha at h;split at h
  ·rename_i fs ht;obtain⟨l,h1,h⟩:=Zm6.1 h;split at h
   ·rename_i hl;injection h with h
    subst h;simp only[DataW.trodStep,ht]at hx;split at hx
    ·rename_i hc;obtain⟨xs,hm,_⟩:=Znq.1 hx;have:=Hc (cs:=cs) (λt l hr=>Jd d t l hr) fs.toList 0 l h1 (by omega) (El hm);rw[Zns,Zm1 (by omega)]at this;exact this
    ·cases hx
   ·cases h
  ·rename_i m e ht;obtain⟨l,h1,h⟩:=Zm6.1 h;split at h
   ·rename_i hl;injection h with h
    subst h;simp only[DataW.trodStep,ht]at hx;split at hx
    ·rename_i hc;obtain⟨xs,hm,_⟩:=Znq.1 hx;have:=Kg (enc:=enc) (P:=P) (w:=w) (base:=base) (spare:=spare) (held:=held) hl.1 (cs:=cs) m (by rw[<-hl.1];omega) λi hi=>by
      obtain⟨y,hy⟩:=El hm i (Zrz.2 hi);exact Jd d e l h1 _ _ _ hy
     rw[Zm1 (by rw[<-hl.1];omega)]at this;exact this
    ·cases hx
   ·cases h
  ·rename_i hne1 hne2;injection h with h
   subst h;have h1: ∃u,cs=[u]:=by
    unfold DataW.trodStep at hx;split at hx<;>first|exact⟨_,rfl⟩|(rename_i ht;exact absurd ht (hne1 _))|(rename_i ht;exact absurd ht (hne2 _ _))|cases hx
   obtain⟨u,rfl⟩:=h1;refine⟨rfl,λi l v hl hv=> ?_⟩;cases i with
   |zero=>
    simp at hl hv;subst hl hv;exact⟨n+1,x,by rw[DataW.trod_step];exact hx⟩
   |succ i=>simp at hl
end
def N2 (P:Program):Nat->TypeId->C->Prop
 |0,_,_=>False
 |d+1,t,c=>match P.underlying t with
  |some .bool=> ∃b,c= .v (.bool b)
  |some (.int k)=> ∃z,c= .v (.int k z)/\(Lit.int k z).wf=true
  |some .string=> ∃s:ByteArray,c= .v (.string s)/\s.size<=maxLen
  |some (.slice e)=>c= .nl\/ ∃(ls:List TypeId) (n:Nat) (cs:List C),c= .sl n cs/\Ha P d e=some ls/\n<=maxLen/\cs.length=n*ls.length/\ ∀(i j:Nat) (l:TypeId),i<n->ls[j]? =some l-> ∃y,cs[i*ls.length+j]? =some y/\N2 P d l y
  |_=>False
def okT (P:Program):Nat->TypeId->Bool
 |0,_=>false
 |d+1,t=>match P.underlying t with
  |some .bool=>true
  |some (.int _)=>true
  |some .string=>true
  |some (.slice e)=>match Ha P d e with
   |some ls=>Zqv ls.length (P.cellsOf e)&&Nat.blt 0 ls.length&&ls.all (okT P d)
   |none=>false
  |_=>false
section
variable {H:Type} {enc:TypeId×Value->H} {P:Program} {w:World} {base:Nat} {spare:Nat->Bool} {held:Bool}
theorem Zjk: ∀(d:Nat) (t:TypeId),okT P d t=true-> ∀fuel u x,DataW.trod enc P w base spare held fuel t [u]=some x-> ∃c,RC w (λb _=>b<w.heap.size) c u/\N2 P d t c
 |0,t,h=>by cases h
 |d+1,t,h=>by
  intro fuel u x hx;have hx0:=hx;cases fuel with
  |zero=>cases hx
  |succ n=>
  rw[DataW.trod_step]at hx;unfold okT at h;split at h
  ·rename_i ht;unfold DataW.trodStep at hx;rw[ht]at hx;cases u<;>first|cases hx|skip
   rename_i b;exact⟨.v (.bool b), .v rfl,by unfold N2;rw[ht];exact⟨b,rfl⟩⟩
  ·rename_i k ht;unfold DataW.trodStep at hx;rw[ht]at hx;cases u<;>first|cases hx|skip
   rename_i k' z;simp only at hx;split at hx
   ·rename_i hk;obtain⟨rfl,hw⟩:=hk;exact⟨.v (.int _ z), .v rfl,by unfold N2;rw[ht];exact⟨z,rfl,hw⟩⟩
   ·cases hx
  ·rename_i ht;unfold DataW.trodStep at hx;rw[ht]at hx;cases u<;>first|cases hx|skip
   rename_i b;simp only at hx;split at hx
   ·rename_i hk;exact⟨.v (.string b), .v rfl,by unfold N2;rw[ht];exact⟨b,rfl,hk⟩⟩
   ·cases hx
  ·rename_i e ht;split at h
   ·rename_i ls hls;simp only[Zmq]at h;obtain⟨⟨h1,h2⟩,h3⟩:=h;have h1:=Zmp h1;have h2:0<ls.length:=Zmu h2;unfold N2;simp only[ht];rcases Go.Deep.open_slice ht hx0 with⟨hcs,_⟩|⟨a,len,cap,m,n',D,Pl,hcs,hb,hlc,hcm,hm,_,hrow⟩
    ·injection hcs with hcs
     subst hcs;exact⟨.nl, .nl, .inl rfl⟩
    ·injection hcs with hcs
     subst hcs;have hlm:len<=m:=by rw[hm];split<;>omega
     by_cases h0:len=0
     ·subst h0;exact⟨.sl 0 [], .sl0 hcm, .inr ⟨ls,0,[],rfl,hls,Znv _,by simp,λi j l hi=>by omega⟩⟩
     ·have hq: ∀q,q<len*ls.length-> ∃c v,w.cell? (a.add q)=some v/\RC w (λb _=>b<w.heap.size) c v/\ ∃l,ls[q%ls.length]? =some l/\N2 P d l c:=λq hq=>by
       have hi:q/ls.length<len:=Zsn (by rw[Zo7];exact hq);have hj:q%ls.length<ls.length:=Zrr _ h2;obtain⟨cs',c1,c2⟩:=hrow (q/ls.length) (by omega);obtain⟨_,e2,e3⟩:=World.cells?_some c1;have hL:=Jd d e ls hls _ _ _ c2;have hjc:q%ls.length<cs'.length:=by rw[hL.1];exact hj
       obtain⟨f',x',hx'⟩:=hL.2 _ _ _ (Zm0 hj) (Zm0 hjc);obtain⟨c,hc1,hc2⟩:=Zjk d _ (Zm7.1 h3 _ (Znf hj)) _ _ _ hx';refine⟨c,cs'[q%ls.length], ?_,hc1,_,Zm0 hj,hc2⟩;have e4:=e3 (q%ls.length) (by rw[<-h1];exact hj);rw[Go.Deep.add_add,<-h1,Zo7,Zqp,Zm0 hjc]at e4;exact e4
      have hq': ∀q:{q//q<len*ls.length},∃p:C×Value,w.cell? (a.add q.1)=some p.2/\RC w (λb _=>b<w.heap.size) p.1 p.2/\ ∃l,ls[q.1%ls.length]? =some l/\N2 P d l p.1:=λq=>by
       obtain⟨c,v,hh⟩:=hq q.1 q.2;exact⟨(c,v),hh⟩
      obtain⟨F,hF⟩:=Classical.axiomOfChoice hq';have hpos:0<len*ls.length:=Zqs (by omega) h2;have hspot:=World.cell?_spot (hF ⟨0,hpos⟩).1;have hadd0:a.add 0=a:=by unfold Addr.add;simp
      rw[hadd0]at hspot;have hadd: ∀q,a.add q=⟨a.block,a.off+q,none⟩:=λq=>by
       obtain⟨b,o,sp⟩:=a;simp only at hspot;subst hspot;unfold Addr.add;by_cases h:q=0<;>simp[h]
      let cs:List C:=(Zq6 (len*ls.length)).map λq=>if hh:q<len*ls.length then(F ⟨q,hh⟩).1 else .nl
      have hcs: ∀q (hh:q<len*ls.length),cs[q]? =some (F ⟨q,hh⟩).1:=λq hh=>by
       show((Zq6 (len*ls.length)).map _)[q]? =_;rw[Zm9,List.getElem?_range hh];simp[hh]
      have hcl:cs.length=len*ls.length:=by show((Zq6 (len*ls.length)).map _).length=_;simp
      have ha:a=⟨a.block,a.off,none⟩:=by
       have:=hadd 0;rw[hadd0,Znz]at this;exact this
      refine⟨.sl len cs, ?_, .inr ⟨ls,len,cs,rfl,hls,by omega,hcl,λi j l hi hj=> ?_⟩⟩
      ·rw[ha];refine RC.sl (us:=λq=>if hh:q<len*ls.length then(F ⟨q,hh⟩).2 else .bool false) hlc hcm (λq c hc=> ?_) (λq c hc=> ?_)
       ·have hh:q<len*ls.length:=by rw[<-hcl];exact(Zmx.1 hc).1
        have e:=(hF ⟨q,hh⟩).1;rw[hadd q]at e;rw[dif_pos hh];exact⟨e,World.block_lt_of_cell? w ⟨a.block,a.off+q,none⟩ e⟩
       ·have hh:q<len*ls.length:=by rw[<-hcl];exact(Zmx.1 hc).1
        rw[hcs q hh]at hc;injection hc with hc
        subst hc;rw[dif_pos hh];exact(hF ⟨q,hh⟩).2.1
      ·have hjl:j<ls.length:=(Zmx.1 hj).1;have hh:i*ls.length+j<len*ls.length:=by
        have:=Zn9 ls.length (show i+1<=len by omega);rw[Zot]at this;omega
       refine⟨_,hcs _ hh, ?_⟩;obtain⟨l',e1,e2⟩:=(hF ⟨_,hh⟩).2.2;have e3:(i*ls.length+j)%ls.length=j:=by rw[Zo7,Nat.mul_add_mod,Nat.mod_eq_of_lt hjl]
       simp only[e3]at e1;rw[hj]at e1;injection e1 with e1
       subst e1;exact e2
   ·cases h
  ·cases h
theorem Zbm {A:Type} {n:Nat} {Q:Nat->A->Prop} (h: ∀i,i<n-> ∃c,Q i c): ∃ys:List A,ys.length=n/\ ∀i y,ys[i]? =some y->Q i y:=by
 induction n with
 |zero=>exact⟨[],rfl,λi y h=>by simp at h⟩
 |succ n ih=>
  obtain⟨ys,h1,h2⟩:=ih λi hi=>h i (by omega);obtain⟨c,hc⟩:=h n (by omega);refine⟨ys++[c],by simp[h1],λi y hy=> ?_⟩;by_cases hi:i<ys.length
  ·rw[Znt hi]at hy;exact h2 i y hy
  ·rw[Zoe (by omega)]at hy;have:i=n:=by
    have:=(Zmx.1 hy).1;simp at this;omega
   subst this;rw[h1,Zph]at hy;simp at hy;subst hy;exact hc
end
end Go.PM
namespace Go.Proofs.YtobmbacppbkgeaaGreatDoor
open Go Go.PM
theorem Zmo {A:Type} {e:A->List C} {m:Nat} (hm: ∀x,(e x).length=m) {X:List A} {i j:Nat} (hi:i<X.length) (hj:j<m):(fl e X)[i*m+j]? =(e X[i])[j]? :=by
 rw[<-Znd,Zy hm hi,Znt (by rw[hm];exact hj)]
theorem Zes {A:Type} {e:A->List C} {m:Nat} (hm: ∀x,(e x).length=m) (h0:0<m) {n:Nat} {cs:List C} (hl:cs.length=n*m) (h: ∀i,i<n-> ∃x:A,∀j,j<m->cs[i*m+j]? =(e x)[j]?): ∃X:List A,X.length=n/\cs=fl e X:=by
 obtain⟨X,h1,h2⟩:=Zbm (Q:=λi x=> ∀j,j<m->cs[i*m+j]? =(e x)[j]?) h;refine⟨X,h1, ?_⟩;apply List.ext_getElem?;intro q;by_cases hq:q<n*m
 ·have hi:q/m<n:=Zsn (by rw[Zo7];exact hq);have hj:q%m<m:=Zrr _ h0;have e1:q=q/m*m+q%m:=by have:=Zqp q m;rw[Zo7]at this;exact this.symm
  have hiX:q/m<X.length:=by rw[h1];exact hi
  have e2:=h2 (q/m) _ (Zm0 hiX) (q%m) hj;have e3:=Zmo hm hiX hj;rw[e1,e2,e3]
 ·rw[Zqg.2 (by omega),Zqg.2 (by rw[Ze hm,h1];omega)]
theorem Zk7:Ha Tryz.prog 3 46=some [3,3]:=by kernel_rfl
theorem Sa {d:Nat} {c:C} (h:N2 Tryz.prog (d+1) 3 c): ∃z,c= .v (.int .i64 z):=by
 unfold N2 at h;rw[show Tryz.prog.underlying 3=some (.int .i64) by kernel_rfl]at h;obtain⟨z,h,_⟩:=h;exact⟨z,h⟩
set_option maxRecDepth 10000 in
theorem Zk8 {c:C} (h:N2 Tryz.prog (3+1) 32 c): ∃(z:Bool) (rs:List (Int×Int)),c=Zdk z rs/\rs.length<=maxLen:=by
 unfold N2 at h;rw[show Tryz.prog.underlying 32=some (.slice 46) by kernel_rfl]at h;rcases h with rfl|⟨ls,n,cs,rfl,hls,hn,hl,hr⟩
 ·exact⟨true,[],rfl,Znv _⟩
 ·rw[Zk7]at hls;injection hls with hls
  subst hls;obtain⟨X,h1,rfl⟩:=Zes (e:=rdc) (m:=2) Zj (by omega) (n:=n) (cs:=cs) hl λi hi=>by
   obtain⟨y0,e0,f0⟩:=hr i 0 _ hi rfl;obtain⟨y1,e1,f1⟩:=hr i 1 _ hi rfl;obtain⟨a,rfl⟩:=Sa f0;obtain⟨b,rfl⟩:=Sa f1;refine⟨(a,b),λj hj=> ?_⟩;have:j=0\/j=1:=by omega
   rcases this with rfl|rfl
   ·exact e0
   ·exact e1
  subst h1;exact⟨false,X,rfl,hn⟩
theorem Zjl:Ha Tryz.prog 4 34=some [3,9,3,3,3,3,3,32]:=by kernel_rfl
theorem Zk9 {d:Nat} {c:C} (h:N2 Tryz.prog (d+1) 9 c): ∃s,c= .v (.string s):=by
 unfold N2 at h;rw[show Tryz.prog.underlying 9=some .string by kernel_rfl]at h;obtain⟨s,h,_⟩:=h;exact⟨s,h⟩
set_option maxRecDepth 10000 in
theorem Zjm {c:C} (h:N2 Tryz.prog (4+1) 22 c):c= .nl\/ ∃X:List Raw,c=C.sl X.length (fl rawC X)/\X.length<=maxLen:=by
 unfold N2 at h;rw[show Tryz.prog.underlying 22=some (.slice 34) by kernel_rfl]at h;rcases h with rfl|⟨ls,n,cs,rfl,hls,hn,hl,hr⟩
 ·exact .inl rfl
 ·rw[Zjl]at hls;injection hls with hls
  subst hls;obtain⟨X,h1,rfl⟩:=Zes (e:=rawC) (m:=8) Zr (by omega) (n:=n) (cs:=cs) hl λi hi=>by
   obtain⟨y0,e0,f0⟩:=hr i 0 _ hi rfl;obtain⟨y1,e1,f1⟩:=hr i 1 _ hi rfl;obtain⟨y2,e2,f2⟩:=hr i 2 _ hi rfl;obtain⟨y3,e3,f3⟩:=hr i 3 _ hi rfl;obtain⟨y4,e4,f4⟩:=hr i 4 _ hi rfl;obtain⟨y5,e5,f5⟩:=hr i 5 _ hi rfl;obtain⟨y6,e6,f6⟩:=hr i 6 _ hi rfl;obtain⟨y7,e7,f7⟩:=hr i 7 _ hi rfl;obtain⟨k,rfl⟩:=Sa f0;obtain⟨nm,rfl⟩:=Zk9 f1;obtain⟨t,rfl⟩:=Sa f2;obtain⟨a,rfl⟩:=Sa f3;obtain⟨b,rfl⟩:=Sa f4;obtain⟨c,rfl⟩:=Sa f5;obtain⟨e,rfl⟩:=Sa f6;obtain⟨z,rs,rfl,_⟩:=Zk8 f7;refine⟨⟨k,nm,t,a,b,c,e,z,rs⟩,λj hj=> ?_⟩;have:j=0\/j=1\/j=2\/j=3\/j=4\/j=5\/j=6\/j=7:=by omega
   rcases this with rfl|rfl|rfl|rfl|rfl|rfl|rfl|rfl<;>assumption
  subst h1;exact .inr ⟨X,rfl,hn⟩
theorem Zjn:okT Tryz.prog 5 22=true:=by kernel_rfl
section
variable {H:Type} {enc:TypeId×Value->H} {w:World} {base:Nat} {spare:Nat->Bool} {held:Bool} {fuel:Nat} {v:Value} {x:DataW H×List MemPlace}
set_option maxRecDepth 10000 in
theorem open_reps (h:DataW.trod enc Tryz.prog w base spare held fuel 22 [v]=some x): ∃X:List Raw,RC w (λb _=>b<w.heap.size) (C.sl X.length (fl rawC X)) v/\X.length<=maxLen:=by
 obtain⟨c,h1,h2⟩:=Zjk 5 22 Zjn _ _ _ h;rcases Zjm h2 with rfl|⟨X,rfl,hX⟩
 ·cases h1;exact⟨[],RC.sl0 (Znv _),Znv _⟩
 ·exact⟨X,h1,hX⟩
end
end Go.Proofs.YtobmbacppbkgeaaGreatDoor
