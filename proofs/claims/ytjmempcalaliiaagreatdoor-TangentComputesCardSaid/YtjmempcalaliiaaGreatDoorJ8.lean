/- Parts put together: W, Gc, Gd, Ge, Ea, H, Eb, Ec, Ed, Ee, Ef, Eg, Eh, Ei, Ej, Ek, El, Fa, Fb, Fc, Fd, Fe, Ff, Fp, Nb, Nc, Pa, Pb, Pc, Pd, Fi, Pe, Pi, Pj, Fs, Pk, Pl, Pm, Iy, Pn, Po. -/
import Derived.Test.YtjmempcalaliiaaGreatDoorJ5
import Derived.Test.YtjmempcalaliiaaGreatDoorEq
import Derived.Test.YtjmempcalaliiaaGreatDoorJ6
set_option linter.defProp false
set_option linter.unusedSimpArgs false
set_option linter.unusedVariables false
open Int renaming tdiv→Zx8,toNat→Zy9,tmod→Zya,fdiv→Zyc,mul_one→Zzf
open Go.IntKind renaming i64→Zx2,bits→Zx9
open List renaming range→Zyf,take→Zx6,drop→Zx5,replicate→Zyx,Perm→Zy8,range_succ→Zza,filter_append→Zzb,filter_nil→Zzc,flatMap_append→Zzd,length_append→Zze,getD_cons_zero→Zzg,getD_cons_succ→Zzh,pairwise_lt_range→Zzi
open Nat renaming beq→Zx3,ble→Zx4,succ→Zyb,add_mul→Zyk
namespace Go.PM
open Go
theorem Uq {x:Int} (h1: -9223372036854775808<=x) (h2:x<=9223372036854775807):Zx2.wrap x=x:=IntWalk.i64_in x ⟨by omega,by omega⟩
theorem Zri {a b:Int} (h:a<b):decide (a<b)=true:=decide_eq_true h
theorem Zrj {a b:Int} (h:b<=a):decide (a<b)=false:=decide_eq_false (by omega)
theorem dle_t {a b:Int} (h:a<=b):decide (a<=b)=true:=decide_eq_true h
theorem dle_f {a b:Int} (h:b<a):decide (a<=b)=false:=decide_eq_false (by omega)
theorem dgt_t {a b:Int} (h:b<a):decide (a>b)=true:=decide_eq_true h
theorem dgt_f {a b:Int} (h:a<=b):decide (a>b)=false:=decide_eq_false (by omega)
theorem dge_t {a b:Int} (h:b<=a):decide (a≥b)=true:=decide_eq_true h
theorem dge_f {a b:Int} (h:a<b):decide (a≥b)=false:=decide_eq_false (by omega)
theorem Zn0 {a b:Int} (h:a=b):(a==b)=true:=beq_iff_eq.2 h
theorem H6 {a b:Int} (h:a≠b):(a==b)=false:=beq_eq_false_iff_ne.2 h
theorem Zsf {a b:Int} (h:a≠b):(a !=b)=true:=bne_iff_ne.2 h
theorem Zn1 {a b:Int} (h:a=b):(a !=b)=false:=by subst h;simp
def fl {A:Type} (e:A->List C) (l:List A):List C:=l.flatMap e
section
variable {A:Type} {e:A->List C} {m:Nat}
@[simp] theorem fl_nil:fl e []=[]:=rfl
theorem R1 (x:A) (l:List A):fl e (x::l)=e x++fl e l:=by simp[fl]
theorem H7 (l l':List A):fl e (l++l')=fl e l++fl e l':=by simp[fl]
theorem Jy (l:List A) (x:A):fl e l++e x=fl e (l++[x]):=by simp[fl]
theorem Zh (h: ∀x,(e x).length=m): ∀l:List A,(fl e l).length=l.length*m
 | []=>by simp[fl]
 |x::l=>by rw[R1,Ztb,h,Zh h l,Zs3,Zt9];omega
theorem Ep (h: ∀x,(e x).length=m): ∀(k:Nat) (l:List A),(fl e l).drop (k*m)=fl e (l.drop k)
 |0,l=>by simp
 |k+1,[]=>by simp[fl]
 |k+1,x::l=>by
  rw[R1,Zt9,Zvt,Zxq];rw[show(e x).drop (m+k*m)=[] from Zvm (by rw[h];omega),h,Zvw,Zt3,Ep h k l];rfl
theorem Zb6 (h: ∀x,(e x).length=m): ∀(k:Nat) (l:List A),(fl e l).take (k*m)=fl e (l.take k)
 |0,l=>by simp
 |k+1,[]=>by simp[fl]
 |k+1,x::l=>by
  rw[R1,Zt9,Zvt,Zvv];rw[Ztc (by rw[h];omega),h,Zvw,Zb6 h k l,Zvj,R1]
theorem Jz (h: ∀x,(e x).length=m) {k:Nat} {l:List A} (hk:k<l.length):(fl e l).drop (k*m)=e l[k]++fl e (l.drop (k+1)):=by
 rw[Ep h,Ztz hk,R1]
end
theorem Ut (P:Nat->Prop) [DecidablePred P] (n:Nat):(∀j,j<n-> ¬P j)\/ ∃k,k<n/\P k/\ ∀j,j<k-> ¬P j:=by
 induction n with
 |zero=>left;intro j hj;omega
 |succ n ih=>
  rcases ih with ih|⟨k,h1,h2,h3⟩
  ·by_cases h:P n
   ·exact .inr ⟨n,by omega,h,ih⟩
   ·left;intro j hj;by_cases e:j=n
    ·subst e;exact h
    ·exact ih j (by omega)
  ·exact .inr ⟨k,by omega,h2,h3⟩
theorem Zk {A:Type} {body:A->Option (Nat×A)} {x:A} {fu:Nat} (f:Nat->A) (e:Nat) (z:A) (k:Nat) (hx:x=f 0) (h: ∀j,j<k->body (f j)=some (0,f (j+1))) (he:body (f k)=some (e+1,z)) (hf:k<fu):iter body fu x=some (e,z):=by
 rw[hx];exact Jt f e z k 0 fu (λj _ hj=>h j (by omega)) (by rw[Zs4];exact he) hf
theorem Zha {A:Type} {body:A->Option (Nat×A)} {x:A} {fu:Nat} (J:A->Prop) (m:A->Nat) (e:Nat) (z:A) (hx:J x) (hm:m x<fu) (h: ∀y,J y->(∃y',body y=some (0,y')/\J y'/\m y'<m y)\/body y=some (e+1,z)):iter body fu x=some (e,z):=by
 obtain⟨e',z',h1,h2,h3⟩:=H5 (body:=body) J m (λe' z'=>e'=e/\z'=z) (λy hy=>(h y hy).imp id λhh=>⟨e,z,hh,rfl,rfl⟩) fu x hx hm;rw[h1,h2,h3]
theorem Rl {A:Type} (body:A->Option (Nat×A)) (n:Nat) (x:A):iter body (n+1) x=(body x).bind λp=>natD p.1 (iter body n p.2) λm=>some (m,p.2):=by
 simp only[iter]
 congr 1
def QM:=And.intro @obs (And.intro @rC_c (And.intro @Zr7 (And.intro @Zr8 (And.intro @H4 (And.intro @Zr9 (And.intro @rS_sb (And.intro @rF_sb (And.intro @Zkh (And.intro @Zki (And.intro @Znj (And.intro @rO_ob (And.intro @Zrf (And.intro @Znk (And.intro @asI_int (And.intro @asB_bool (And.intro @Zgv (And.intro @Zij (And.intro @Zik (And.intro @Zp0 (And.intro @Zsa (And.intro @Znl (And.intro @Zgw (And.intro @Wn (And.intro @ct (And.intro @cf (And.intro @Zrg (And.intro @Zkj (And.intro @Zkk (And.intro @Znm (And.intro @Zsb (And.intro @Zp1 (And.intro @Zp2 (And.intro @Zp3 (And.intro @Zp4 (And.intro @Bool.and_true (And.intro @Bool.true_and (And.intro @Bool.and_self (And.intro @Zkl (And.intro @Bool.not_true (And.intro @Bool.not_false (And.intro @Bool.and_false (And.intro @Bool.false_and (And.intro @Bool.or_false (And.intro @Bool.false_or (And.intro @Bool.or_true @Bool.true_or)))))))))))))))))))))))))))))))))))))))))))))
def QD:=And.intro @Uq (And.intro @Zri (And.intro @Zrj (And.intro @dle_t (And.intro @dle_f (And.intro @dgt_t (And.intro @dgt_f (And.intro @dge_t (And.intro @dge_f (And.intro @Zn0 (And.intro @H6 (And.intro @Zsf (And.intro @Zn1 (And.intro @Zp7 (And.intro @Zp5 @Zp6))))))))))))))
end Go.PM
namespace Go.Proofs.YtjmempcalaliiaaGreatDoor
open Go Go.PM Go.Grid
def plc (p:Pl):List C:=[.v (.int .i64 p.f), .v (.int .i64 p.a), .v (.int .i64 p.b), .v (.int .i64 p.c)]
theorem Zr (p:Pl):(plc p).length=4:=rfl
def wcs (w:Nat->Nat):List C:=(Zyf 12).map λv=> .v (.int .i64 (w v))
abbrev OK (r:V):Option Out:=some ⟨r,[],none⟩
def X8 (f a b c:Int):Bool:=decide (0<=f/\f<20/\0<=a/\a<=840/\0<=b/\b<=840/\0<=c/\c<=840/\a+b+c=840)
theorem Wu {p:Pl} (h:p.ok):X8 p.f p.a p.b p.c=true:=by
 obtain⟨h1,h2⟩:=h;exact decide_eq_true (by omega)
theorem Zb7 (fu d:Nat) (f a b c:Int):cl fu (d+1) fn_synopticref02_Valid [V.agg [.v (.int .i64 f), .v (.int .i64 a), .v (.int .i64 b), .v (.int .i64 c)]] []=OK (B (X8 f a b c)):=by
 rw[eq_synopticref02_Valid];by_cases h1:0<=f
 case neg=>rw[show X8 f a b c=false from decide_eq_false (by omega)];simp(disch:=omega)only[QM,QD]
 by_cases h2:f<20
 case neg=>rw[show X8 f a b c=false from decide_eq_false (by omega)];simp(disch:=omega)only[QM,QD]
 by_cases h3:0<=a
 case neg=>rw[show X8 f a b c=false from decide_eq_false (by omega)];simp(disch:=omega)only[QM,QD]
 by_cases h4:a<=840
 case neg=>rw[show X8 f a b c=false from decide_eq_false (by omega)];simp(disch:=omega)only[QM,QD]
 by_cases h5:0<=b
 case neg=>rw[show X8 f a b c=false from decide_eq_false (by omega)];simp(disch:=omega)only[QM,QD]
 by_cases h6:b<=840
 case neg=>rw[show X8 f a b c=false from decide_eq_false (by omega)];simp(disch:=omega)only[QM,QD]
 by_cases h7:0<=c
 case neg=>rw[show X8 f a b c=false from decide_eq_false (by omega)];simp(disch:=omega)only[QM,QD]
 by_cases h8:c<=840
 case neg=>rw[show X8 f a b c=false from decide_eq_false (by omega)];simp(disch:=omega)only[QM,QD]
 by_cases h9:a+b+c=840
 ·rw[show X8 f a b c=true from decide_eq_true (by omega)];simp(disch:=omega)only[QM,QD]
 ·rw[show X8 f a b c=false from decide_eq_false (by omega)];simp(disch:=omega)only[QM,QD]
theorem twenty {f:Nat} (h:f<20):f=0\/f=1\/f=2\/f=3\/f=4\/f=5\/f=6\/f=7\/f=8\/f=9\/f=10\/f=11\/f=12\/f=13\/f=14\/f=15\/f=16\/f=17\/f=18\/f=19:=by omega
theorem My (fu d f:Nat) (h:f<20):cl fu (d+1) fn_synopticref02_Corners [I f] []=OK (V.tup [V.agg [.v (.int .i64 (crn f).1), .v (.int .i64 (crn f).2.1), .v (.int .i64 (crn f).2.2)],I 0]):=by
 rw[eq_synopticref02_Corners];rcases twenty h with rfl|rfl|rfl|rfl|rfl|rfl|rfl|rfl|rfl|rfl|rfl|rfl|rfl|rfl|rfl|rfl|rfl|rfl|rfl|rfl<;>(show @Eq (Option Out) _ _;kernel_rfl)
theorem C4 (fu d:Nat) (p:Pl) (h:p.ok):cl fu (d+2) fn_synopticref02_Weights [V.agg (plc p)] []=OK (V.agg (wcs (wt p))):=by
 obtain⟨f,a,b,c⟩:=p;unfold plc;rw[eq_synopticref02_Weights];simp only;rw[My fu d f h.1];have hf:f<20:=h.1;rcases twenty hf with rfl|rfl|rfl|rfl|rfl|rfl|rfl|rfl|rfl|rfl|rfl|rfl|rfl|rfl|rfl|rfl|rfl|rfl|rfl|rfl<;>(show @Eq (Option Out) _ _;kernel_rfl)
theorem Zku (fu d:Nat) (w:Nat->Nat) (hw: ∀v,w v<=840) (f:Nat) (h:f<20):cl fu (d+2) fn_synopticref02_On [I f,V.agg (wcs w)] []=OK (V.tup [V.agg (plc (onW w f)),B (onW w f).full]):=by
 have e:cl fu (d+2) fn_synopticref02_On [I f,V.agg (wcs w)] []=OK (V.tup [V.agg (plc (onW w f)),B (Zx2.wrap (Zx2.wrap ((w (crn f).1:Int)+(w (crn f).2.1:Int))+(w (crn f).2.2:Int))==840)]):=by
  rw[eq_synopticref02_On,My fu d f h];rcases twenty h with rfl|rfl|rfl|rfl|rfl|rfl|rfl|rfl|rfl|rfl|rfl|rfl|rfl|rfl|rfl|rfl|rfl|rfl|rfl|rfl<;>(show @Eq (Option Out) _ _;kernel_rfl)
 rw[e];have h1:=hw (crn f).1;have h2:=hw (crn f).2.1;have h3:=hw (crn f).2.2;simp(disch:=omega)only[Uq];have e2:((w (crn f).1:Int)+(w (crn f).2.1:Int)+(w (crn f).2.2:Int)==840)=(onW w f).full:=by
  rw[Zu0,Mx,beq_iff_eq];show _↔w (crn f).1+w (crn f).2.1+w (crn f).2.2=840;omega
 rw[e2]
def Tc (w:Nat->Nat) (j:Nat):List Pl:=((Zyf j).map (onW w)).filter Pl.full
theorem Su (w:Nat->Nat) (j:Nat):Tc w (j+1)=if(onW w j).full then Tc w j++[onW w j]else Tc w j:=by
 unfold Tc;rw[Zu5,Zu1,Zzb];simp only[Zua,Zv9,List.filter_cons,Zzc];split<;>simp
theorem C5 (w:Nat->Nat) (j:Nat):(Tc w j).length<=j:=by
 unfold Tc;refine Ztq (Zwo _ _) ?_;simp
theorem Zn2 {p:Pl} (h:p.ok) (v:Nat):wt p v<=840:=by
 have h2:=h.2;unfold wt wt3
 (repeat' split)<;>omega
theorem Zqa (l:List Pl) (q:Pl):fl plc l++[.v (.int .i64 q.f), .v (.int .i64 q.a), .v (.int .i64 q.b), .v (.int .i64 q.c)]=fl plc (l++[q]):=Jy l q
theorem X2 (l:List Pl):l.length*4/4=l.length:=Zve _ (by omega)
theorem Zin (w:Nat->Nat):putAt [C.v (.int .i64 0),C.v (.int .i64 0),C.v (.int .i64 0),C.v (.int .i64 0),C.v (.int .i64 0),C.v (.int .i64 0),C.v (.int .i64 0),C.v (.int .i64 0),C.v (.int .i64 0),C.v (.int .i64 0),C.v (.int .i64 0),C.v (.int .i64 0)] 0 (wcs w)=wcs w:=id rfl
theorem Zes (w:Nat->Nat):Zx6 12 (wcs w)=wcs w:=id rfl
theorem C6 (w:Nat->Nat):(wcs w).length=12:=id rfl
theorem H8 (fu d:Nat) (hf:18446744073709551616<=fu) (p:Pl) (h:p.ok):
  cl fu (d+3) fn_synopticref02_Addresses [V.agg (plc p)] []=OK (V.tup [V.c (C.sl (Rf p).length (fl plc (Rf p))),I 0]):=by
 have e1:=C4 fu d p h;have hv:=Wu h;unfold plc at e1⊢;rw[eq_synopticref02_Addresses,Zb7,hv,e1];simp only[QM,Zin,Zes,C6,Zs4,show Zx4 12 12=true from rfl];rw[show(([]:List C),(0:Int),())=(λj:Nat=>(fl plc (Tc (wt p) j),(j:Int),())) 0 from rfl,Jt (λj:Nat=>(fl plc (Tc (wt p) j),(j:Int),())) 0 (fl plc (Tc (wt p) 20),(20:Int),()) 20 0 fu ?_ ?_ (by omega)]
 ·simp(disch:=omega)only[QM,QD,Zh Zr,X2,Zs4];rw[Ztc (by rw[Zh Zr];omega)];rfl
 ·intro j _ hj;have hl:=C5 (wt p) j;rw[Su];have e2:=Zku fu d (wt p) (Zn2 h) j (by omega);unfold plc at e2;simp(disch:=omega)only[QM,QD,e2,Zh Zr,X2,Zs3,Zs9,Zs4,Nat.reduceAdd];cases hfull:(onW (wt p) j).full with
  |true=>
   simp(disch:=omega)only[QM,QD,Zqa,Zh Zr,Ztb,Zs3,Zs9,Zs4,if_true,Zt0,Zuo]
  |false=>
   simp(disch:=omega)only[QM,QD,Zwf,if_false,Zt0,Zuo]
 ·simp(disch:=omega)only[QM,QD,Zh Zr,X2,Zs4];rfl
end Go.Proofs.YtjmempcalaliiaaGreatDoor
namespace Go.Proofs.YtjmempcalaliiaaGreatDoor
open Go Go.PM Go.Grid
theorem Lx (fu d:Nat) (hf:18446744073709551616<=fu) (p:Pl) (h:p.ok):cl fu (d+4) fn_synopticref02_Normal [V.agg (plc p)] []=OK (V.tup [V.agg (plc (norm p)),I 0]):=by
 have e1:=H8 fu d hf p h;obtain⟨r,hr⟩:=Ld h;rw[hr]at e1;unfold plc at e1⊢;rw[eq_synopticref02_Normal,e1];simp(disch:=omega)only[QM,QD,R1,plc,Zt1,Zt3,Zs3]
theorem Zb8 (p q:Pl):((p.f:Int)==q.f&&((p.a:Int)==q.a&&((p.b:Int)==q.b&&(p.c:Int)==q.c)))=decide (p=q):=by
 obtain⟨f,a,b,c⟩:=p;obtain⟨f',a',b',c'⟩:=q;rw[Zu0];simp only[Zs1,beq_iff_eq,decide_eq_true_eq,Pl.mk.injEq];omega
theorem F4 (fu d:Nat) (hf:18446744073709551616<=fu) (p:Pl) (h:p.ok):cl fu (d+5) fn_synopticref02_IsNormal [V.agg (plc p)] []=OK (B (isN p)):=by
 have e1:=Lx fu d hf p h;unfold plc at e1⊢;rw[eq_synopticref02_IsNormal,e1];simp(disch:=omega)only[QM,QD,Zs3,Zs9,Zb8,Nat.reduceAdd];unfold isN;rw[show decide (p=norm p)=decide (norm p=p) from by rw[Zu0];simp[eq_comm]]
theorem Zqb (fu d:Nat) (f:Int):cl fu (d+1) fn_place_face [I f] []=OK (B (decide (0<=f/\f<20))):=by
 rw[eq_place_face];by_cases h1:0<=f
 ·simp(disch:=omega)only[QM,QD];by_cases h2:f<20
  ·rw[Zri h2,decide_eq_true ⟨h1,h2⟩]
  ·rw[Zrj (by omega),decide_eq_false (by omega)]
 ·rw[decide_eq_false (by omega: ¬(0<=f/\f<20))];simp(disch:=omega)only[QM,QD]
theorem Zet (fu d:Nat) (hf:18446744073709551616<=fu) (f a b c:Int):cl fu (d+2) fn_place_Valid [V.agg [.v (.int .i64 f), .v (.int .i64 a), .v (.int .i64 b), .v (.int .i64 c)]] []=OK (B (X8 f a b c)):=by
 rw[eq_place_Valid,Zqb];obtain⟨fu',rfl⟩: ∃n,fu=n+4:=⟨fu-4,by omega⟩;by_cases h3:0<=a
 case neg=>rw[show X8 f a b c=false from decide_eq_false (by omega)];rw[Rl];simp(disch:=omega)only[QM,QD,Zu9,Zub,Zuu]
 by_cases h4:a<=840
 case neg=>rw[show X8 f a b c=false from decide_eq_false (by omega)];rw[Rl];simp(disch:=omega)only[QM,QD,Zu9,Zub,Zuu]
 by_cases h5:0<=b
 case neg=>rw[show X8 f a b c=false from decide_eq_false (by omega)];rw[Rl];simp(disch:=omega)only[QM,QD,Zu9,Zub,Zuu,Zwb,Rl,Zwu,Zvx,Zuv]
 by_cases h6:b<=840
 case neg=>rw[show X8 f a b c=false from decide_eq_false (by omega)];rw[Rl];simp(disch:=omega)only[QM,QD,Zu9,Zub,Zuu,Zwb,Rl,Zwu,Zvx,Zuv]
 by_cases h7:0<=c
 case neg=>rw[show X8 f a b c=false from decide_eq_false (by omega)];rw[Rl];simp(disch:=omega)only[QM,QD,Zu9,Zub,Zuu,Zwb,Rl,Zwu,Zvx,Zuv,Int.reduceAdd,Int.reduceToNat]
 by_cases h8:c<=840
 case neg=>rw[show X8 f a b c=false from decide_eq_false (by omega)];rw[Rl];simp(disch:=omega)only[QM,QD,Zu9,Zub,Zuu,Zwb,Rl,Zwu,Zvx,Zuv,Int.reduceAdd,Int.reduceToNat]
 simp(disch:=omega)only[QM,QD,Zu9,Zub,Zuu,Zwb,Rl,Zwu,Zvx,Zuv,Int.reduceAdd,Int.reduceToNat];by_cases h1:0<=f/\f<20
 ·rw[decide_eq_true h1];by_cases h9:a+b+c=840
  ·rw[show X8 f a b c=true from decide_eq_true (by omega)];simp(disch:=omega)only[QM,QD]
  ·rw[show X8 f a b c=false from decide_eq_false (by omega)];simp(disch:=omega)only[QM,QD]
 ·rw[decide_eq_false h1,show X8 f a b c=false from decide_eq_false (by omega)];simp(disch:=omega)only[QM,QD]
theorem sp_of (fu d:Nat) (p:Pl) (h:p.ok):cl fu (d+1) fn_place_of [V.agg (plc p)] []=OK (V.agg (wcs (wt p))):=by
 obtain⟨f,a,b,c⟩:=p;unfold plc;rw[eq_place_of];have hf:f<20:=h.1;rcases twenty hf with rfl|rfl|rfl|rfl|rfl|rfl|rfl|rfl|rfl|rfl|rfl|rfl|rfl|rfl|rfl|rfl|rfl|rfl|rfl|rfl<;>(show @Eq (Option Out) _ _;kernel_rfl)
theorem Zhb {w:Nat->Nat} (hw: ∀v,w v<=840) {f:Nat} (h:f<20):X8 (onW w f).f (onW w f).a (onW w f).b (onW w f).c=(onW w f).full:=by
 have h1:=hw (crn f).1;have h2:=hw (crn f).2.1;have h3:=hw (crn f).2.2;rw[Zu0,Mx];unfold X8;rw[decide_eq_true_eq];show(0:Int)<=(f:Nat)/\((f:Nat):Int)<20/\(0:Int)<=((w (crn f).1:Nat):Int)/\((w (crn f).1:Nat):Int)<=840/\(0:Int)<=((w (crn f).2.1:Nat):Int)/\((w (crn f).2.1:Nat):Int)<=840/\(0:Int)<=((w (crn f).2.2:Nat):Int)/\((w (crn f).2.2:Nat):Int)<=840/\((w (crn f).1:Nat):Int)+((w (crn f).2.1:Nat):Int)+((w (crn f).2.2:Nat):Int)=840↔w (crn f).1+w (crn f).2.1+w (crn f).2.2=840;omega
theorem Zrk (fu d:Nat) (hf:18446744073709551616<=fu) (w:Nat->Nat) (hw: ∀v,w v<=840) (f:Nat) (h:f<20):cl fu (d+3) fn_place_on [I f,V.agg (wcs w)] []=OK (V.tup [V.agg (plc (onW w f)),B (onW w f).full]):=by
 have e:cl fu (d+3) fn_place_on [I f,V.agg (wcs w)] []=((cl fu (d+2) fn_place_Valid [V.agg (plc (onW w f))] []).bind λout=>rC out.r λc6=>asB c6 λb=>OK (V.tup [V.agg (plc (onW w f)),B b])):=by
  rw[eq_place_on];rcases twenty h with rfl|rfl|rfl|rfl|rfl|rfl|rfl|rfl|rfl|rfl|rfl|rfl|rfl|rfl|rfl|rfl|rfl|rfl|rfl|rfl<;>(show @Eq (Option Out) _ _;kernel_rfl)
 rw[e];unfold plc;rw[Zet fu d hf,Zhb hw h];simp only[QM]
theorem J0 {w:Nat->Nat}: ∀{k:Nat},(∀j,j<k->(onW w j).full=false)->Tc w k=[]
 |0,_=>rfl
 |k+1,h=>by rw[Su,h k (by omega),J0 (λj hj=>h j (by omega))];rfl
theorem Ly {w:Nat->Nat} {k:Nat} (hk:(onW w k).full=true) (h: ∀j,j<k->(onW w j).full=false): ∀n,k<n-> ∃r,Tc w n=onW w k::r
 |0,hn=>by omega
 |n+1,hn=>by
  by_cases e:k=n
  ·subst e;exact⟨[],by rw[Su,hk,J0 h];rfl⟩
  ·obtain⟨r,hr⟩:=Ly hk h n (by omega);rw[Su,hr];split
   ·exact⟨r++[onW w n],rfl⟩
   ·exact⟨r,rfl⟩
theorem Wv (fu d:Nat) (hf:18446744073709551616<=fu) (p:Pl) (h:p.ok):cl fu (d+4) fn_place_Normal [V.agg (plc p)] []=OK (V.tup [V.agg (plc (norm p)),I 0]):=by
 have e1:=sp_of fu (d+2) p h;have hv:=Wu h;unfold plc at e1⊢;rw[eq_place_Normal,Zet fu (d+1) hf,hv,e1];simp only[QM,Zin,Zes,C6,Zs4,show Zx4 12 12=true from rfl];obtain⟨r,hr⟩:=Ld h;have hm:=Jw h;obtain⟨k,hk,hke,hkl⟩: ∃k,k<20/\onW (wt p) k=norm p/\ ∀j,j<k->(onW (wt p) j).full=false:=by
  rcases Ut (λj=>(onW (wt p) j).full=true) 20 with h0|⟨k,h1,h2,h3⟩
  ·exfalso;obtain⟨g,g1,g2,g3⟩:=Lc.1 hm;exact h0 g g1 (by rw[g2];exact Mx.2 g3)
  ·refine⟨k,h1, ?_,λj hj=>by simpa using h3 j hj⟩;obtain⟨r',this⟩:=Ly h2 (λj hj=>by simpa using h3 j hj) 20 h1;have this:Rf p=onW (wt p) k::r':=this;rw[hr]at this;exact(List.cons.inj this).1.symm
 rw[show((0:Int),(0:Int),((0:Int),(0:Int),(0:Int),(0:Int),()),())=(λj:Nat=>((0:Int),(j:Int),((0:Int),(0:Int),(0:Int),(0:Int),()),())) 0 from rfl,Jt (λj:Nat=>((0:Int),(j:Int),((0:Int),(0:Int),(0:Int),(0:Int),()),())) 1 (0,(k:Int),((norm p).f,(norm p).a,(norm p).b,(norm p).c,()),()) k 0 fu ?_ ?_ (by omega)]
 ·simp only[QM]
 ·intro j _ hj;have e2:=Zrk fu d hf (wt p) (Zn2 h) j (by omega);rw[hkl j (by omega)]at e2;unfold plc at e2;simp(disch:=omega)only[QM,QD,e2,Zs3,Zs9,Zs4,Nat.reduceAdd,Zt0,Zuo]
 ·have e2:=Zrk fu d hf (wt p) (Zn2 h) k hk;rw[hke,Mx.2 (El h).2]at e2;unfold plc at e2;simp(disch:=omega)only[QM,QD,e2,Zs3,Zs9,Zs4,Nat.reduceAdd]
end Go.Proofs.YtjmempcalaliiaaGreatDoor
namespace Go.Grid
def pre (n f i j:Nat):List Pl:=(Zyf f).flatMap (face n)++((Zyf i).flatMap (row n f)++(Zyf j).map (pt n f i))
def Uf (n f i j:Nat):List Pl:=(pre n f i j).filter isN
theorem pre_j (n f i j:Nat):pre n f i (j+1)=pre n f i j++[pt n f i j]:=by
 unfold pre;rw[Zza,List.map_append];simp[List.append_assoc]
theorem Zrl (n f i:Nat):pre n f i (n+1-i)=pre n f (i+1) 0:=by
 unfold pre;rw[Zza,Zzd];simp[row]
theorem Zrm (n f:Nat):pre n f (n+1) 0=pre n (f+1) 0 0:=by
 unfold pre;rw[Zza (n:=f),Zzd];simp[face]
theorem Zqc (n:Nat):pre n 20 0 0=pts n:=by unfold pre pts;simp
theorem Zn3 (n f i j:Nat):Uf n f i (j+1)=if norm (pt n f i j)=pt n f i j then Uf n f i j++[pt n f i j]else Uf n f i j:=by
 unfold Uf;rw[pre_j,Zzb];simp only[List.filter_cons,Zzc,isN,decide_eq_true_eq];split<;>simp
theorem Zsg {n f i j:Nat} (h:Yb n) {q:Pl} (hq:q∈pre n f i j):plt q (pt n f i j):=by
 have hst:=Vi h;have hmul: ∀{i j:Nat},i<j->i*(840/n)<j*(840/n):=λhij=>Nat.mul_lt_mul_of_pos_right hij (by omega);simp only[pre,List.mem_append,List.mem_flatMap,List.mem_range,List.mem_map,face,row]at hq;rcases hq with⟨f',h1,i',_,j',_,rfl⟩|⟨i',h1,j',_,rfl⟩|⟨j',h1,rfl⟩
 ·exact .inl h1
 ·exact .inr ⟨rfl, .inl (hmul h1)⟩
 ·exact .inr ⟨rfl, .inr ⟨rfl,hmul h1⟩⟩
theorem Zn4 {n f i j:Nat} (h:Yb n):pt n f i j∉Uf n f i j:=λhm=>Kr _ (Zsg h (List.mem_filter.1 hm).1)
theorem Qj {B:Type} {g:Nat->List B} {m:Nat} (h: ∀x,(g x).length<=m): ∀k,((Zyf k).flatMap g).length<=k*m
 |0=>by simp
 |k+1=>by
  rw[Zza,Zzd,Zze,Nat.succ_mul];have:=Qj h k;have:=h k;simp only[List.flatMap_cons,List.flatMap_nil,List.append_nil];omega
theorem Zn5 (n f i:Nat) (h:n<=8):(row n f i).length<=9:=by unfold row;simp;omega
theorem Zqd (n f:Nat) (h:n<=8):(face n f).length<=81:=by
 unfold face;have:=Qj (g:=row n f) (λi=>Zn5 n f i h) (n+1);omega
theorem Uy {n f i j:Nat} (h:Yb n) (hf:f<=20) (hi:i<=9) (hj:j<=9):(Uf n f i j).length<=2000:=by
 refine Nat.le_trans (List.length_filter_le _ _) ?_;unfold pre;rw[Zze,Zze,List.length_map,List.length_range];have h1:=Qj (g:=face n) (λf=>Zqd n f h.2) f;have h2:=Qj (g:=row n f) (λi=>Zn5 n f i h.2) i;omega
theorem Zeu (n:Nat):Uf n 20 0 0=Zg n:=by unfold Uf;rw[Zqc];rfl
theorem Zkv {p:Pl} (h:p.ok) (ha:0<p.a) (hb:0<p.b) (hc:0<p.c):isN p=true:=decide_eq_true (Zg3 h ha hb hc)
end Go.Grid
namespace Go.Proofs.YtjmempcalaliiaaGreatDoor
open Go Go.PM Go.Grid
theorem Ww (p q:Pl):eqT Tryz.prog 20 ty_api_Place (plc p) (plc q)=some (decide (p=q)):=by
 have:eqT Tryz.prog 20 ty_api_Place (plc p) (plc q)=some ((p.f:Int)==q.f&&((p.a:Int)==q.a&&((p.b:Int)==q.b&&((p.c:Int)==q.c&&true)))):=by kernel_rfl
 rw[this,Bool.and_true,Zb8]
def esn:Nat->List Pl->List (List C×List C)
 |_,[]=>[]
 |k,p::r=>(plc p,[.v (.int .i64 k)])::esn (k+1) r
theorem Zev (p:Pl): ∀(l:List Pl) (k:Nat),esn k l++[(plc p,[.v (.int .i64 ((k+l.length:Nat):Int))])]=esn k (l++[p])
 | [],k=>by simp[esn]
 |q::l,k=>by
  simp only[esn,Zt1,Zs3];rw[<-Zev p l (k+1),show k+(l.length+1)=k+1+l.length by omega]
theorem Zn6 (p:Pl):Zfn (plc p) (plc p)=true:=by simp[plc,Zfn,ceq]
theorem Zio {p:Pl}: ∀(l:List Pl) (k i:Nat),p∉l->mfind Tryz.prog ty_api_Place (plc p) (esn k l) i=some none
 | [],k,i,_=>by simp[esn,mfind]
 |q::l,k,i,h=>by
  simp only[esn,mfind,Ww];rw[decide_eq_false (λe=>h (by simp[e]))];simp only[cf];exact Zio l (k+1) (i+1) (λe=>h (by simp[e]))
theorem Zip {p:Pl}: ∀(l:List Pl) (k i:Nat),p∈l->mfind Tryz.prog ty_api_Place (plc p) (esn k l) i=some (some (i+l.idxOf p,[.v (.int .i64 ((k+l.idxOf p:Nat):Int))]))
 | [],k,i,h=>by cases h
 |q::l,k,i,h=>by
  simp only[esn,mfind,Ww];by_cases e:p=q
  ·subst e;rw[decide_eq_true rfl];simp[Zn6,need]
  ·rw[decide_eq_false e];simp only[cf];have hm:p∈l:=by rcases Ztl.1 h with h|h;exact absurd h e;exact h
   rw[Zip l (k+1) (i+1) hm,List.idxOf_cons];have:(q==p)=false:=by simpa using Ne.symm e
   rw[this];simp only[cond_false];rw[show i+1+l.idxOf p=i+(l.idxOf p+1) by omega,show k+1+l.idxOf p=k+(l.idxOf p+1) by omega]
theorem Zkw (es:List (List C×List C)) (k v:List C):mput es none k v=es++[(k,v)]:=id rfl
abbrev netC (n:Nat) (l:List Pl):List C:=[.v (.int .i64 n), .v (.int .i64 ((840/n:Nat):Int)),C.sl l.length (fl plc l),C.mp ty_api_Place ty_int (some 4) none (esn 0 l),C.nl,C.nl,C.nl]
abbrev Zkx (n:Nat) (l:List Pl):Int×Int×List C×List (List C×List C)×C×C×C×Unit:=((n:Int),((840/n:Nat):Int),fl plc l,esn 0 l,C.nl,C.nl,C.nl,())
theorem C7 {n:Nat} (h:Yb n):Zx2.wrap (Zx8 840 n)=((840/n:Nat):Int):=by
 rcases Q0 h with rfl|rfl|rfl|rfl|rfl|rfl|rfl|rfl<;>rfl
theorem Mz {n i:Nat} (h:Yb n) (hi:i<=n):i*(840/n)<=840:=by
 have:=Zup (840/n) hi;rw[Rh h]at this;exact this
theorem Px {n i:Nat} (h:Yb n) (hi:i<=n):Zx2.wrap ((i:Int)*((840/n:Nat):Int))=((i*(840/n):Nat):Int):=by
 have:=Mz h hi;rw[show((i:Int)*((840/n:Nat):Int))=((i*(840/n):Nat):Int) from(Zu4 _ _).symm];exact Uq (Int.le_trans (by decide) (Int.natCast_nonneg _)) (Int.le_trans (Int.ofNat_le.2 this) (by decide))
theorem M0 (l:List Pl) (f a b c:Nat):fl plc l++[.v (.int .i64 f), .v (.int .i64 a), .v (.int .i64 b), .v (.int .i64 c)]=fl plc (l++[⟨f,a,b,c⟩]):=Jy l ⟨f,a,b,c⟩
theorem Zky (l:List Pl) (f a b c:Nat):esn 0 l++[([.v (.int .i64 f), .v (.int .i64 a), .v (.int .i64 b), .v (.int .i64 c)],[.v (.int .i64 (l.length:Int))])]=esn 0 (l++[⟨f,a,b,c⟩]):=by
 have:=Zev ⟨f,a,b,c⟩ l 0;rw[Zs4]at this;exact this
theorem Zhc (fu d:Nat) (hf:18446744073709551616<=fu) (n:Nat) (h:Yb n):cl fu (d+5) fn_mesh_Points [I n] []=some ⟨V.ptr 1000000 0,[.ob ty_mesh_Net 0 (netC n (Zg n))],none⟩:=by
 have hn:=h;unfold Yb at hn;rw[eq_mesh_Points,C7 h,show(!((n:Int)==0))=true from by rw[H6 (by omega)];rfl,Wn];rw[Zk (λf:Nat=>((f:Int),Zkx n (Uf n f 0 0),())) 0 ((20:Int),Zkx n (Uf n 20 0 0),()) 20 ?_ ?_ ?_ (by omega)]
 ·rw[Zeu];simp(disch:=omega)only[QM,QD,Zh Zr,X2,Zs4];rw[Ztc (by rw[Zh Zr];omega)]
 ·rfl
 ·intro f hf';have hl:(Uf n f 0 0).length<=2000:=Uy h (by omega) (by omega) (by omega);simp(disch:=omega)only[QM,QD,Zh Zr,X2];rw[Zk (λi:Nat=>((i:Int),Zkx n (Uf n f i 0),())) 0 (((n+1:Nat):Int),Zkx n (Uf n f (n+1) 0),()) (n+1) ?_ ?_ ?_ (by omega)]
  ·have hl:(Uf n f (n+1) 0).length<=2000:=Uy h (by omega) (by omega) (by omega);simp(disch:=omega)only[QM,QD,Zh Zr,X2,Zt0,Zuo];unfold Uf;rw[Zrm]
  ·rfl
  ·intro i hi;have hl:(Uf n f i 0).length<=2000:=Uy h (by omega) (by omega) (by omega);simp(disch:=omega)only[QM,QD,Zh Zr,X2];rw[Zk (λj:Nat=>((j:Int),Zkx n (Uf n f i j),())) 0 (((n+1-i:Nat):Int),Zkx n (Uf n f i (n+1-i)),()) (n+1-i) ?_ ?_ ?_ (by omega)]
   ·have hl:(Uf n f i (n+1-i)).length<=2000:=Uy h (by omega) (by omega) (by omega);simp(disch:=omega)only[QM,QD,Zh Zr,X2,Zt0,Zuo];unfold Uf;rw[Zrl]
   ·rfl
   ·intro j hj;have hl:(Uf n f i j).length<=2000:=Uy h (by omega) (by omega) (by omega);have hnot:=Zn4 (f:=f) (i:=i) (j:=j) h;have hc:Zx2.wrap (((n:Int)-(i:Int)-(j:Int))*((840/n:Nat):Int))=(((n-i-j)*(840/n):Nat):Int):=by
     rw[show(n:Int)-i-j=((n-i-j:Nat):Int) by omega,Px h (by omega)]
    have e2:=Wv fu d hf (pt n f i j) (Znz h hf' (by omega));have e3:=Zio (Uf n f i j) 0 0 hnot;have e4:=Zb8 (norm (pt n f i j)) (pt n f i j);have e5:=Zn3 n f i j;generalize hz:decide (norm (pt n f i j)=pt n f i j)=z at e4;replace e5:Uf n f i (j+1)=bif z then Uf n f i j++[pt n f i j]else Uf n f i j:=by
     cases z with
     |true=>rw[e5,if_pos (of_decide_eq_true hz)];rfl
     |false=>rw[e5,if_neg (of_decide_eq_false hz)];rfl
    clear hz;simp only[plc]at e2 e3;generalize norm (pt n f i j)=q at e2 e4 e5;simp only[pt]at e2 e3 e4 e5;simp(disch:=omega)only[QM,QD,hc,Px h (show i<=n by omega),Px h (show j<=n by omega),e2,e4,Zs3,Zs9,Zs4,Nat.reduceAdd,Zh Zr,X2];rw[e5];cases z with
    |true=>
     simp(disch:=omega)only[QM,QD,mfd,e3,Zkw,M0,Zky,Zh Zr,X2,Ztb,Zs3,Zs9,Zs4,Zt0,Zuo]
    |false=>
     simp(disch:=omega)only[QM,QD,Zt0,Zuo]
   ·have hl:(Uf n f i (n+1-i)).length<=2000:=Uy h (by omega) (by omega) (by omega);simp(disch:=omega)only[QM,QD,Zh Zr,X2]
  ·have hl:(Uf n f (n+1) 0).length<=2000:=Uy h (by omega) (by omega) (by omega);simp(disch:=omega)only[QM,QD,Zh Zr,X2]
 ·have hl:(Uf n 20 0 0).length<=2000:=Uy h (by omega) (by omega) (by omega);simp(disch:=omega)only[QM,QD,Zh Zr,X2];rfl
end Go.Proofs.YtjmempcalaliiaaGreatDoor
namespace Go.PM
open Go
def hdt {A:Type} (x:A):A:=x
theorem Za {A:Type} (x:A):hdt x=x:=id rfl
theorem Zkz:Zx3 1000000 (OUT+0)=true:=id rfl
theorem out1:Zx3 1000001 (OUT+1)=true:=id rfl
theorem out2:Zx3 1000002 (OUT+2)=true:=id rfl
section
variable {R A B':Type}
theorem Zu {x x':Option A} {k:A->Option B'} (h:hdt x=x'):x.bind k=x'.bind k:=by rw[<-h];rfl
theorem Zv {b b':Bool} {k:Option R} (h:hdt b=b'):need b k=need b' k:=by rw[<-h];rfl
theorem Zw {b b':Bool} {x y:R} (h:hdt b=b'):(bif b then x else y)=(bif b' then x else y):=by rw[<-h];rfl
theorem Yd {c c':List C} {k:C->List C->Option R} (h:hdt c=c'):unc c k=unc c' k:=by rw[<-h];rfl
theorem Zx {c c':List V} {k:V->List V->Option R} (h:hdt c=c'):uncV c k=uncV c' k:=by rw[<-h];rfl
theorem Zy {c c':List PM.Obj} {k:PM.Obj->List PM.Obj->Option R} (h:hdt c=c'):uncO c k=uncO c' k:=by rw[<-h];rfl
theorem Ye {c c':List (List V)} {k:List V->List (List V)->Option R} (h:hdt c=c'):unI c k=unI c' k:=by rw[<-h];rfl
theorem Yf {kd:IntKind} {c c':C} {k:Int->Option R} (h:hdt c=c'):asI kd c k=asI kd c' k:=by rw[<-h];rfl
theorem Yg {c c':C} {k:Bool->Option R} (h:hdt c=c'):asB c k=asB c' k:=by rw[<-h];rfl
theorem Yh {c c':C} {k:ByteArray->Option R} (h:hdt c=c'):asS c k=asS c' k:=by rw[<-h];rfl
theorem Zz {c c':C} {k:Nat->List C->Option R} (h:hdt c=c'):asSl c k=asSl c' k:=by rw[<-h];rfl
theorem Z0 {c c':C} {k:FuncId->List C->Option R} (h:hdt c=c'):asFn c k=asFn c' k:=by rw[<-h];rfl
theorem Yi {c c':C} {k:List C->Option R} (h:hdt c=c'):asP c k=asP c' k:=by rw[<-h];rfl
theorem Z1 {c c':C} {ky:Nat->Option R} {k:FuncId->List C->Option R} (h:hdt c=c'):Zaj c ky k=Zaj c' ky k:=by rw[<-h];rfl
theorem Yt {x x':V} {k:C->Option R} (h:hdt x=x'):rC x k=rC x' k:=by rw[<-h];rfl
theorem Yu {x x':V} {k:List C->Option R} (h:hdt x=x'):rA x k=rA x' k:=by rw[<-h];rfl
theorem Yv {x x':V} {k:List V->Option R} (h:hdt x=x'):rT x k=rT x' k:=by rw[<-h];rfl
theorem Yw {x x':V} {k:List V->Option R} (h:hdt x=x'):rG x k=rG x' k:=by rw[<-h];rfl
theorem Yx {x x':V} {m:Nat} {k:Option R} (h:hdt x=x'):rP x m k=rP x' m k:=by rw[<-h];rfl
theorem Yy {x x':V} {m:Nat} {k:Nat->Option R} (h:hdt x=x'):rW x m k=rW x' m k:=by rw[<-h];rfl
theorem Yz {o o':PM.Obj} {t fz:Nat} {k:List C->Option R} (h:hdt o=o'):rO o t fz k=rO o' t fz k:=by rw[<-h];rfl
theorem Y1 {o o':PM.Obj} {t n:Nat} {k:List C->Option R} (h:hdt o=o'):rN o t n k=rN o' t n k:=by rw[<-h];rfl
theorem Y2 {o o':PM.Obj} {t:Nat} {k:Nat->List C->Option R} (h:hdt o=o'):rF o t k=rF o' t k:=by rw[<-h];rfl
theorem Y4 {o o':PM.Obj} {t fz:Nat} {k:List C->Option R} (h:hdt o=o'):rS o t fz k=rS o' t fz k:=by rw[<-h];rfl
theorem Z2 {x x':List V} {k:Option R} (h:hdt x=x'):nilV x k=nilV x' k:=by rw[<-h];rfl
theorem Z3 {n n':Nat} {a:Option R} {b:Nat->Option R} (h:hdt n=n'):natD n a b=natD n' a b:=by rw[<-h];rfl
theorem Y5 {x x':A} {k:A->Option R} (h:hdt x=x'):bd x k=bd x' k:=by rw[<-h];rfl
theorem Z4 {body:A->Option (Nat×A)} {fu:Nat} {x x':A} (h:hdt x=x'):iter body fu x=iter body fu x':=by rw[<-h];rfl
theorem Z5 {I:Type} {body:I->A->Option (Nat×A)} {l l':List I} {x x':A} (h1:hdt l=l') (h:hdt x=x'):overK body l x=overK body l' x':=by rw[<-h,<-h1];rfl
theorem Zj {sz:Nat} {lo lo' hi hi':Option V} {c c':C} {k:C->Option R} (h1:hdt lo=lo') (h2:hdt hi=hi') (h:hdt c=c'):sliceC sz lo hi c k=sliceC sz lo' hi' c' k:=by rw[<-h,<-h1,<-h2];rfl
theorem Z6 {c c':C} {kt et:TypeId} {ka va:Option Nat} {k:List (List C×List C)->Option R} (h:hdt c=c'):Zcz c kt et ka va k=Zcz c' kt et ka va k:=by rw[<-h];rfl
end
end Go.PM
namespace Go.PM
open Go
theorem Zsh {R:Type} (g t:Nat) (ps:List PC) (k:List PC->Option R):rPk (.pk g t (.ps ps) none) t k=k ps:=by
 show need (Zx3 t t) (k ps)=_;rw[show Zx3 t t=true from Zun t];rfl
theorem Zk0 {R:Type} (p:PC) (ps:List PC) (k:PC->List PC->Option R):uncP (p::ps) k=k p ps:=id rfl
theorem Zsi {R:Type} (c:C) (k:C->Option R):asPc (.c c) k=k c:=id rfl
theorem Zsj {R:Type} (te:TypeId) (row:List C) (k:List C->Option R):asRw te (.r te row) k=k row:=by
 show need (Zx3 te te) (k row)=_;rw[show Zx3 te te=true from Zun te];rfl
theorem Zqe {R:Type} (te:TypeId) (row:List C) (k:List C->Option R):asRow te (.r te row) k=k row:=by
 show need (Zx3 te te) (k row)=_;rw[show Zx3 te te=true from Zun te];rfl
theorem Zn7 {R:Type} (te:TypeId) (k:List C->Option R):asRow te (.c .nl) k=k []:=id rfl
theorem Zn8 {R:Type} (k:Option R):nilP [] k=k:=id rfl
theorem H9 {R:Type} (te:TypeId) (row cs:List C) (k:List C->Option R) (h:cs.length=row.length):rowBack te row false [.sb te 0 cs] k=k cs:=by
 show need (Zx3 te te&&Zx3 cs.length row.length&&Zx3 0 0) (k cs)=_;rw[show Zx3 te te=true from Zun te,h,show Zx3 row.length row.length=true from Zun _];rfl
theorem Zk1 {R:Type} (te:TypeId) (row cs:List C) (k:List C->Option R) (h:cs.length=row.length):rowBack te row true [.sb te row.length cs] k=k cs:=by
 show need (Zx3 te te&&Zx3 cs.length row.length&&Zx3 row.length cs.length) (k cs)=_;rw[show Zx3 te te=true from Zun te,h,show Zx3 row.length row.length=true from Zun _];rfl
set_option linter.defProp false in
def QE:=And.intro @Zsh (And.intro @Zk0 (And.intro @Zsi (And.intro @Zsj (And.intro @Zqe (And.intro @Zn7 @Zn8)))))
end Go.PM
namespace Go.Proofs.YtjmempcalaliiaaGreatDoor
open Go Go.PM Go.Grid
attribute [local congr] Zu Zv Zw Yd Zx Zy Ye Yf Yg Yh Zz Z0 Yi Yt Yu Yv Yw Yx Yz Y1 Y2 Y4 Yy Z2 Z3 Y5 Z4 Z5 Zj Z6 Z1
abbrev Zn9 (n:Nat) (cs:List C):List PC:=[PC.c (C.v (.int .i64 n)),PC.c (C.v (.int .i64 ((840/n:Nat):Int))),PC.c (C.sl (Zg n).length (fl plc (Zg n))),PC.c (C.mp ty_api_Place ty_int (some 4) none (esn 0 (Zg n))),PC.r ty_api_Cell cs,PC.c .nl,PC.c .nl]
abbrev Lm (g n:Nat) (cs:List C):PM.Obj:= .pk g ty_mesh_Net (.ps (Zn9 n cs)) none
theorem Y7 {n:Nat} (h:Yb n):(Zg n).length<=700:=by
 rw[Tb h];rcases Q0 h with rfl|rfl|rfl|rfl|rfl|rfl|rfl|rfl<;>decide
section
variable (fu d:Nat) (hf:18446744073709551616<=fu)
theorem Rm (f a b c:Nat) (x y z:Int) (h:a<=10000/\b<=10000/\c<=10000) (hx: -10000<=x/\x<=10000) (hy: -10000<=y/\y<=10000) (hz: -10000<=z/\z<=10000):
  cl fu (d+1) fn_mesh_moved [V.agg (plc ⟨f,a,b,c⟩),I x,I y,I z] []=OK (V.agg [C.v (.int .i64 f),C.v (.int .i64 (a+x)),C.v (.int .i64 (b+y)),C.v (.int .i64 (c+z))]):=by
 simp only[plc];rw[eq_mesh_moved,Uq (by omega) (by omega),Uq (by omega) (by omega),Uq (by omega) (by omega)]
include hf
theorem Zhd (g n:Nat) (h:Yb n) (p:Pl) (hp:p∈pts n) (cs:List C):
  cl fu (d+5) fn_mesh_Net_at [V.ptr 1000000 0,V.agg (plc p)] [Lm g n cs]=some ⟨I (idx n p),[Lm g n cs],none⟩:=by
 have hok:=C1 h hp;have e1:=Wv fu d hf p hok;have e2:=Zip (Zg n) 0 0 (Zer h hp);simp only[plc]at e1 e2⊢;rw[eqp_mesh_Net_at];simp(disch:=omega)only[Za,QM,QD,e1,mfd,e2,orZ,Zs3,Zs9,Zs4,Nat.reduceAdd];rfl
omit hf in
theorem J1 {α:Type} {le:α->α->Prop} (anti: ∀a b,le a b->le b a->a=b): ∀{p q:List α},p.Perm q->p.Pairwise le->q.Pairwise le->p=q
 | [],q,h,_,_=>(List.nil_perm.1 h).symm
 |a::p,[],h,_,_=>by have:=h.length_eq;simp at this
 |a::p,b::q,h,hp,hq=>by
  rw[Zue]at hp hq;have e:a=b:=by
   have h1:a∈b::q:=h.mem_iff.1 (Zum ..);have h2:b∈a::p:=h.mem_iff.2 (Zum ..);rcases Ztl.1 h1 with h1|h1
   ·exact h1
   ·rcases Ztl.1 h2 with h2|h2
    ·exact h2.symm
    ·exact anti a b (hp.1 b h2) (hq.1 a h1)
  subst e;rw[J1 anti h.cons_inv hp.2 hq.2]
omit hf in
theorem Zhe (l:List Int):(Vh l).Perm l:=List.mergeSort_perm ..
omit hf in
theorem Zk2 (l:List Int):(Vh l).Pairwise (λa b=>a<=b):=by
 have:=List.pairwise_mergeSort (le:=λx y:Int=>decide (x<=y)) (λa b c h1 h2=>by simp at*;omega) (λa b=>by simp;omega) l;exact this.imp λh=>by simpa using h
omit hf in
theorem Zoa {l m:List Int} (hp:m.Perm l) (hs:m.Pairwise (λa b=>a<=b)):Vh l=m:=
 J1 (λa b h1 h2=>Int.le_antisymm h1 h2) ((Zhe l).trans hp.symm) (Zk2 l) hs
omit hf in
theorem Zqf (i j k:Nat):Vh [(i:Int),j,k]=[((Xr i j k).1:Int),((Xr i j k).2.1:Int),((Xr i j k).2.2:Int)]:=by
 unfold Xr;split<;>split<;>try split
 all_goals
  refine Zoa ?_ (by simp;omega);first
  |exact .refl _
  |exact .swap _ _ _
  |exact(Zy8.swap _ _ _).cons _
  |exact(Zy8.swap _ _ _).trans ((Zy8.swap _ _ _).cons _)
  |exact((Zy8.swap _ _ _).cons _).trans (.swap _ _ _)
  |exact((Zy8.swap _ _ _).trans ((Zy8.swap _ _ _).cons _)).trans (.swap _ _ _)
end
end Go.Proofs.YtjmempcalaliiaaGreatDoor
namespace Go.Proofs.YtjmempcalaliiaaGreatDoor
open Go Go.PM Go.Grid
attribute [local congr] Zu Zv Zw Yd Zx Zy Ye Yf Yg Yh Zz Z0 Yi Yt Yu Yv Yw Yx Yz Y1 Y2 Y4 Yy Z2 Z3 Y5 Z4 Z5 Zj Z6 Z1
abbrev pl3 (p q r:Pl):List C:=[.v (.int .i64 p.f), .v (.int .i64 p.a), .v (.int .i64 p.b), .v (.int .i64 p.c), .v (.int .i64 q.f), .v (.int .i64 q.a), .v (.int .i64 q.b), .v (.int .i64 q.c), .v (.int .i64 r.f), .v (.int .i64 r.a), .v (.int .i64 r.b), .v (.int .i64 r.c)]
def trC (t:Nat×Nat×Nat):List C:=[.v (.int .i64 t.1), .v (.int .i64 t.2.1), .v (.int .i64 t.2.2)]
theorem Ym (t:Nat×Nat×Nat):(trC t).length=3:=rfl
section
variable (fu d:Nat) (hf:18446744073709551616<=fu)
theorem Zk3 (g n f a b c:Nat) (h:Yb n) (hb:a<=840/\b<=840/\c<=840) (cs:List C):
  cl fu (d+2) fn_mesh_Net_upward [V.ptr 1000000 0,V.agg (plc ⟨f,a,b,c⟩)] [Lm g n cs]=some ⟨V.agg (pl3 ⟨f,a+840/n,b,c⟩ ⟨f,a,b+840/n,c⟩ ⟨f,a,b,c+840/n⟩),[Lm g n cs],none⟩:=by
 have hs:=Vi h;have m1:=Rm fu d f a b c ((840/n:Nat):Int) 0 0 (by omega) (by omega) (by omega) (by omega);have m2:=Rm fu d f a b c 0 ((840/n:Nat):Int) 0 (by omega) (by omega) (by omega) (by omega);have m3:=Rm fu d f a b c 0 0 ((840/n:Nat):Int) (by omega) (by omega) (by omega) (by omega);simp only[plc]at m1 m2 m3⊢;rw[eqp_mesh_Net_upward];simp(disch:=omega)only[Za,QM,QD,m1,m2,m3,Zs3,Zs9,Zs4,Nat.reduceAdd,Zwj];rfl
theorem Zew (g n f a b c:Nat) (h:Yb n) (hb:a<=840/\b<=840/\c<=840) (cs:List C):
  cl fu (d+2) fn_mesh_Net_downward [V.ptr 1000000 0,V.agg (plc ⟨f,a,b,c⟩)] [Lm g n cs]=some ⟨V.agg (pl3 ⟨f,a,b+840/n,c+840/n⟩ ⟨f,a+840/n,b,c+840/n⟩ ⟨f,a+840/n,b+840/n,c⟩),[Lm g n cs],none⟩:=by
 have hs:=Vi h;have m1:=Rm fu d f a b c 0 ((840/n:Nat):Int) ((840/n:Nat):Int) (by omega) (by omega) (by omega) (by omega);have m2:=Rm fu d f a b c ((840/n:Nat):Int) 0 ((840/n:Nat):Int) (by omega) (by omega) (by omega) (by omega);have m3:=Rm fu d f a b c ((840/n:Nat):Int) ((840/n:Nat):Int) 0 (by omega) (by omega) (by omega) (by omega);simp only[plc]at m1 m2 m3⊢;rw[eqp_mesh_Net_downward];simp(disch:=omega)only[Za,QM,QD,m1,m2,m3,Zs3,Zs9,Zs4,Nat.reduceAdd,Zwj];rfl
theorem Zob (i j k:Nat):cl fu (d+1) fn_slices_Sort_sint_int [V.ws 1000000 3] [.ob ty_3_int 0 [.v (.int .i64 i), .v (.int .i64 j), .v (.int .i64 k)]]=some ⟨.tup [],[.ob ty_3_int 0 (trC (Xr i j k))],none⟩:=by
 have e:cl fu (d+1) fn_slices_Sort_sint_int [V.ws 1000000 3] [.ob ty_3_int 0 [.v (.int .i64 i), .v (.int .i64 j), .v (.int .i64 k)]]=some ⟨.tup [],[.ob ty_3_int 0 (ints (Vh [(i:Int),j,k]))],none⟩:=by kernel_rfl
 rw[e,Zqf];rfl
include hf
theorem Ziq (g n:Nat) (h:Yb n) (p q r:Pl) (hp:p∈pts n) (hq:q∈pts n) (hr:r∈pts n) (L:List (Nat×Nat×Nat)) (hL:L.length<=100000):
  cl fu (d+6) fn_mesh_Net_cell [V.ptr 1000000 0,V.agg (pl3 p q r)] [Lm g n (fl trC L)]=some ⟨V.tup [],[Lm 1 n (fl trC (L++[tc n p q r]))],none⟩:=by
 have hfl:=Zh Ym L;have hdv:L.length*3/3=L.length:=by omega
 have a1:=Zhd fu d hf 0 n h p hp (fl trC L);have a2:=Zhd fu d hf 0 n h q hq (fl trC L);have a3:=Zhd fu d hf 0 n h r hr (fl trC L);have hsn:fl trC L++[.v (.int .i64 (tc n p q r).1), .v (.int .i64 (tc n p q r).2.1), .v (.int .i64 (tc n p q r).2.2)]=fl trC (L++[tc n p q r]):=Jy L _;have hfl2:(fl trC (L++[tc n p q r])).length=(L.length+1)*3:=by rw[Zh Ym,Ztb];rfl
 have hs:=Zob fu (d+4) (idx n p) (idx n q) (idx n r);generalize hi:idx n p=ip at*
 generalize hj:idx n q=iq at*
 generalize hk:idx n r=ir at*
 unfold tc at hsn hfl2⊢;rw[hi,hj,hk]at hsn hfl2⊢;simp only[plc]at a1 a2 a3;unfold Lm Zn9 at a1 a2 a3⊢;rw[eqp_mesh_Net_cell];generalize (Zg n).length=nl at*
 generalize fl plc (Zg n)=nc at*
 generalize esn 0 (Zg n)=es at*
 simp(disch:=omega)only[Za,QM,QD,Zs3,Zs9,Zs4,Nat.reduceAdd];rw[Zk (λj:Nat=>(((j:Nat):Int),(match j with|0=>[C.v (.int .i64 0),C.v (.int .i64 0),C.v (.int .i64 0)]|1=>[C.v (.int .i64 ip),C.v (.int .i64 0),C.v (.int .i64 0)]|2=>[C.v (.int .i64 ip),C.v (.int .i64 iq),C.v (.int .i64 0)]|_=>[C.v (.int .i64 ip),C.v (.int .i64 iq),C.v (.int .i64 ir)]),((n:Int),(((840/n:Nat):Int)),C.sl nl nc,C.mp ty_api_Place ty_int (some 4) none es,fl trC L,C.nl,C.nl,()),())) 0
  ((3:Int),[C.v (.int .i64 ip),C.v (.int .i64 iq),C.v (.int .i64 ir)],((n:Int),(((840/n:Nat):Int)),C.sl nl nc,C.mp ty_api_Place ty_int (some 4) none es,fl trC L,C.nl,C.nl,()),()) 3 ?_ ?_ ?_ (by omega)]
 ·simp(disch:=omega)only[Za,QM,QD,hs,trC,Zs3,Zs9,Zs4,Nat.reduceAdd,hfl,hdv,Zuv,Zuu,hsn,hfl2]
 ·rfl
 ·intro j hj;rcases(show j=0\/j=1\/j=2 by omega)with rfl|rfl|rfl
  ·simp(disch:=omega)only[Za,QM,QD,QE,a1,Nat.reduceMul,Zs2,Zx0,Zu9,show Zy9 1=1 from rfl,show Zy9 2=2 from rfl,show((1:Nat):Int)=1 from rfl,show((2:Nat):Int)=2 from rfl,Zub,Zvx,Zvj,Zuy,Zuu,Zuv,Zs3,Zs9,Zs4,Nat.reduceAdd];rfl
  ·simp(disch:=omega)only[Za,QM,QD,QE,a2,Nat.reduceMul,Zs2,Zx0,Zu9,show Zy9 1=1 from rfl,show Zy9 2=2 from rfl,show((1:Nat):Int)=1 from rfl,show((2:Nat):Int)=2 from rfl,Zub,Zvx,Zvj,Zuy,Zuu,Zuv,Zs3,Zs9,Zs4,Nat.reduceAdd];rfl
  ·simp(disch:=omega)only[Za,QM,QD,QE,a3,Nat.reduceMul,Zs2,Zx0,Zu9,show Zy9 1=1 from rfl,show Zy9 2=2 from rfl,show((1:Nat):Int)=1 from rfl,show((2:Nat):Int)=2 from rfl,Zub,Zvx,Zvj,Zuy,Zuu,Zuv,Zs3,Zs9,Zs4,Nat.reduceAdd];rfl
 ·rfl
end
end Go.Proofs.YtjmempcalaliiaaGreatDoor
namespace Go.Proofs.YtjmempcalaliiaaGreatDoor
open Go Go.PM Go.Grid
attribute [local congr] Zu Zv Zw Yd Zx Zy Ye Yf Yg Yh Zz Z0 Yi Yt Yu Yv Yw Yx Yz Y1 Y2 Y4 Yy Z2 Z3 Y5 Z4 Z5 Zj Z6 Z1
def Uw (n f a b:Nat):List (Nat×Nat×Nat):=(Zyf f).flatMap (Jx n)++((Zyf a).flatMap (rowC n f)++(Zyf b).flatMap (X7 n f a))
theorem Zhf (n f a b:Nat):Uw n f a b++X7 n f a b=Uw n f a (b+1):=by
 unfold Uw;rw[Zu5,Zva];simp[Zt5]
theorem Zoc (n f a:Nat):Uw n f a (n-a)=Uw n f (a+1) 0:=by
 unfold Uw;rw[Zu5 (n:=a),Zva];simp[rowC]
theorem Zod (n f:Nat):Uw n f n 0=Uw n (f+1) 0 0:=by
 unfold Uw;rw[Zu5 (n:=f),Zva];simp[Jx]
theorem C8 (n:Nat):Uw n 20 0 0=tri n:=by unfold Uw tri;simp
theorem C9 (n f a b:Nat):(X7 n f a b).length<=2:=by unfold X7;split<;>simp
theorem Zir (n f a:Nat) (h:n<=8):(rowC n f a).length<=16:=by
 have:=Qj (g:=X7 n f a) (λb=>C9 n f a b) (n-a);unfold rowC;omega
theorem Zoe (n f:Nat) (h:n<=8):(Jx n f).length<=128:=by
 have:=Qj (g:=rowC n f) (λa=>Zir n f a h) n;unfold Jx;omega
theorem Zb9 {n f a b:Nat} (h:n<=8) (hf:f<=20) (ha:a<=9) (hb:b<=9):(Uw n f a b).length<=5000:=by
 have h1:=Qj (g:=Jx n) (λa=>Zoe n a h) f;have h2:=Qj (g:=rowC n f) (λa=>Zir n f a h) a;have h3:=Qj (g:=X7 n f a) (λb=>C9 n f a b) b;unfold Uw;rw[Ztb,Ztb];omega
theorem J2 {n f i j:Nat} (hf:f<20) (h:i+j<=n):pt n f i j∈pts n:=En.2 ⟨f,i,j,hf,h,rfl⟩
section
variable (fu d:Nat) (hf:18446744073709551616<=fu)
include hf
theorem Zof (g n:Nat) (h:Yb n) (f a b:Nat) (hf':f<20) (hab:a+b<n) (L:List (Nat×Nat×Nat)) (hL:L.length<=50000):
  ∃g',cl fu (d+7) fn_mesh_Net_cells [V.ptr 1000000 0,V.agg [.v (.int .i64 f), .v (.int .i64 ((a*(840/n):Nat):Int)), .v (.int .i64 ((b*(840/n):Nat):Int)), .v (.int .i64 (((n-1-a-b)*(840/n):Nat):Int))]] [Lm g n (fl trC L)]=some ⟨V.tup [],[Lm g' n (fl trC (L++X7 n f a b))],none⟩:=by
 have hs:=Vi h;have hn:=h;unfold Yb at hn;have ha:a*(840/n)<=840:=Mz h (by omega);have hb:b*(840/n)<=840:=Mz h (by omega);have hc:(n-1-a-b)*(840/n)<=840:=Mz h (by omega);have u1:=Zk3 fu (d+4) g n f (a*(840/n)) (b*(840/n)) ((n-1-a-b)*(840/n)) h ⟨ha,hb,hc⟩ (fl trC L);have e1:(⟨f,a*(840/n)+840/n,b*(840/n),(n-1-a-b)*(840/n)⟩:Pl)=pt n f (a+1) b:=by
  unfold pt;rw[Zt9,show n-1-a-b=n-(a+1)-b by omega]
 have e2:(⟨f,a*(840/n),b*(840/n)+840/n,(n-1-a-b)*(840/n)⟩:Pl)=pt n f a (b+1):=by
  unfold pt;rw[Zt9,show n-1-a-b=n-a-(b+1) by omega]
 have e3:(⟨f,a*(840/n),b*(840/n),(n-1-a-b)*(840/n)+840/n⟩:Pl)=pt n f a b:=by
  unfold pt;rw[<-Zt9,show(n-1-a-b).succ=n-a-b by omega]
 rw[e1,e2,e3]at u1;have p1:=J2 (n:=n) (i:=a+1) (j:=b) hf' (by omega);have p2:=J2 (n:=n) (i:=a) (j:=b+1) hf' (by omega);have p3:=J2 (n:=n) (i:=a) (j:=b) hf' (by omega);have c1:=Ziq fu d hf (Zyb g) n h _ _ _ p1 p2 p3 L (by omega);by_cases hd:a+b+1<n
 ·have e4:((n-1-a-b)*(840/n))=(n-2-a-b)*(840/n)+840/n:=by rw[<-Zt9,show(n-2-a-b).succ=n-1-a-b by omega]
  have hc2:(n-2-a-b)*(840/n)<=840:=by omega
  have m1:=Rm fu (d+5) f (a*(840/n)) (b*(840/n)) ((n-1-a-b)*(840/n)) 0 0 (0-((840/n:Nat):Int)) (by omega) (by omega) (by omega) (by omega);have e5:((((n-1-a-b)*(840/n):Nat):Int)+(0-((840/n:Nat):Int)))=(((n-2-a-b)*(840/n):Nat):Int):=by omega
  rw[e5]at m1;have u2:=Zew fu (d+4) (Zyb (Zyb g)) n f (a*(840/n)) (b*(840/n)) ((n-2-a-b)*(840/n)) h ⟨ha,hb,hc2⟩ (fl trC (L++[tc n (pt n f (a+1) b) (pt n f a (b+1)) (pt n f a b)]));have e6:(⟨f,a*(840/n),b*(840/n)+840/n,(n-2-a-b)*(840/n)+840/n⟩:Pl)=pt n f a (b+1):=by rw[<-e4];exact e2
  have e7:(⟨f,a*(840/n)+840/n,b*(840/n),(n-2-a-b)*(840/n)+840/n⟩:Pl)=pt n f (a+1) b:=by rw[<-e4];exact e1
  have e8:(⟨f,a*(840/n)+840/n,b*(840/n)+840/n,(n-2-a-b)*(840/n)⟩:Pl)=pt n f (a+1) (b+1):=by
   unfold pt;rw[Zt9,Zt9,show n-2-a-b=n-(a+1)-(b+1) by omega]
  rw[e6,e7,e8]at u2;have p4:=J2 (n:=n) (i:=a+1) (j:=b+1) hf' (by omega);have c2:=Ziq fu d hf (Zyb (Zyb (Zyb g))) n h _ _ _ p2 p1 p4 (L++[tc n (pt n f (a+1) b) (pt n f a (b+1)) (pt n f a b)]) (by simp;omega);have hge:((840/n:Nat):Int)<=(((n-1-a-b)*(840/n):Nat):Int):=by omega
  have hL2:L++X7 n f a b=(L++[tc n (pt n f (a+1) b) (pt n f a (b+1)) (pt n f a b)])++[tc n (pt n f a (b+1)) (pt n f (a+1) b) (pt n f (a+1) (b+1))]:=by
   unfold X7;rw[if_pos hd];simp
  rw[hL2];generalize tc n (pt n f (a+1) b) (pt n f a (b+1)) (pt n f a b)=t1 at*
  generalize tc n (pt n f a (b+1)) (pt n f (a+1) b) (pt n f (a+1) (b+1))=t2 at*
  simp only[plc,Zwj]at u1 u2 m1;generalize pt n f (a+1) b=q1 at*
  generalize pt n f a (b+1)=q2 at*
  generalize pt n f a b=q3 at*
  generalize pt n f (a+1) (b+1)=q4 at*
  unfold Lm Zn9 at u1 u2 c1 c2⊢;refine⟨Zyb (Zyb (Zyb (Zyb g))), ?_⟩;rw[eqp_mesh_Net_cells];generalize (Zg n).length=nl at*
  generalize fl plc (Zg n)=nc at*
  generalize esn 0 (Zg n)=es at*
  generalize a*(840/n)=x at*
  generalize b*(840/n)=y at*
  generalize (n-1-a-b)*(840/n)=z at*
  generalize (n-2-a-b)*(840/n)=z2 at*
  simp(disch:=omega)only[Za,QM,QD,QE,u1,c1,m1,u2,c2,Zs3,Zs9,Zs4,Nat.reduceAdd]
 ·have hz:n-1-a-b=0:=by omega
  have hlt:(((n-1-a-b)*(840/n):Nat):Int)<((840/n:Nat):Int):=by rw[hz,Zub];omega
  have hL2:L++X7 n f a b=L++[tc n (pt n f (a+1) b) (pt n f a (b+1)) (pt n f a b)]:=by
   unfold X7;rw[if_neg hd]
  rw[hL2];generalize tc n (pt n f (a+1) b) (pt n f a (b+1)) (pt n f a b)=t1 at*
  simp only[plc]at u1;generalize pt n f (a+1) b=q1 at*
  generalize pt n f a (b+1)=q2 at*
  generalize pt n f a b=q3 at*
  unfold Lm Zn9 at u1 c1⊢;refine⟨Zyb (Zyb g), ?_⟩;rw[eqp_mesh_Net_cells];generalize (Zg n).length=nl at*
  generalize fl plc (Zg n)=nc at*
  generalize esn 0 (Zg n)=es at*
  generalize a*(840/n)=x at*
  generalize b*(840/n)=y at*
  generalize (n-1-a-b)*(840/n)=z at*
  simp(disch:=omega)only[Za,QM,QD,QE,u1,c1,Zs3,Zs9,Zs4,Nat.reduceAdd]
end
end Go.Proofs.YtjmempcalaliiaaGreatDoor
namespace Go.Proofs.YtjmempcalaliiaaGreatDoor
open Go Go.PM Go.Grid
attribute [local congr] Zu Zv Zw Yd Zx Zy Ye Yf Yg Yh Zz Z0 Yi Yt Yu Yv Yw Yx Yz Y1 Y2 Y4 Yy Z2 Z3 Y5 Z4 Z5 Zj Z6 Z1
section
variable {α:Type} (le:α->α->Bool)
theorem Ga (x:α): ∀l,(Zg9 le x l).Perm (x::l)
 | []=> .refl _
 |y::l=>by
  unfold Zg9;split
  ·exact .refl _
  ·exact((Ga x l).cons y).trans (.swap x y l)
theorem Xp: ∀l,(Rj le l).Perm l
 | []=> .refl _
 |x::l=>(Ga le x (Rj le l)).trans ((Xp l).cons x)
variable {le} (ht: ∀a b,le a b=true\/le b a=true) (htr: ∀a b c,le a b=true->le b c=true->le a c=true)
include ht htr
theorem Zex (x:α): ∀{l:List α},l.Pairwise (λa b=>le a b=true)->(Zg9 le x l).Pairwise (λa b=>le a b=true)
 | [],_=>by simp[Zg9]
 |y::l,h=>by
  unfold Zg9;rw[Zue]at h;split
  ·rename_i hxy;rw[Zue,Zue];exact⟨λz hz=>(Ztl.1 hz).elim (λe=>e▸hxy) λhz=>htr _ _ _ hxy (h.1 z hz),h⟩
  ·rename_i hxy;rw[Zue];refine⟨λz hz=> ?_,Zex x h.2⟩;rcases Ztl.1 ((Ga le x l).mem_iff.1 hz)with rfl|hz
   ·exact(ht _ _).resolve_left hxy
   ·exact h.1 z hz
theorem Le: ∀l,(Rj le l).Pairwise (λa b=>le a b=true)
 | []=> .nil
 |x::l=>Zex ht htr x (Le l)
end
theorem J3 {a b:Nat×Nat×Nat}:leT a b=true↔a.1<b.1\/a.1=b.1/\(a.2.1<b.2.1\/a.2.1=b.2.1/\a.2.2<=b.2.2):=by simp[leT]
theorem T1 {a b:Ed}:leZ a b=true↔a.1<b.1\/a.1=b.1/\a.2<=b.2:=by simp[leZ]
def trI (t:Nat×Nat×Nat):List Int:=[(t.1:Int),(t.2.1:Int),(t.2.2:Int)]
def edI (e:Ed):List Int:=[e.1,e.2]
def edC (e:Ed):List C:=[.v (.int .i64 e.1), .v (.int .i64 e.2)]
theorem Xq (e:Ed):(edC e).length=2:=rfl
theorem Zca (L:List (Nat×Nat×Nat)):fl trC L=ints (L.flatMap trI):=by
 induction L with
 |nil=>rfl
 |cons x L ih=>rw[R1,ih,Zuq];rfl
theorem J4 (L:List Ed):fl edC L=ints (Uv L):=by
 induction L with
 |nil=>rfl
 |cons x L ih=>rw[R1,ih,Ns];rfl
theorem Zqg (a b:Nat×Nat×Nat):(¬lexZ [0,1,2] (trI b) (trI a)<0)↔leT a b=true:=by
 rw[J3,Se,Se,Se];simp only[trI,lexZ,Zzg,Zzh];omega
theorem Zqh (a b:Ed):(¬lexZ [0,1] (edI b) (edI a)<0)↔leZ a b=true:=by
 rw[T1,Se,Se];simp only[edI,lexZ,Zzg,Zzh];omega
theorem Zog (a b:Nat×Nat×Nat) (h:leT a b=true) (h':leT b a=true):a=b:=by
 rw[J3]at h h';obtain⟨a1,a2,a3⟩:=a;obtain⟨b1,b2,b3⟩:=b;simp only at h h';have e1:a1=b1:=by omega
 have e2:a2=b2:=by omega
 have e3:a3=b3:=by omega
 rw[e1,e2,e3]
theorem Zey (a b:Ed) (h:leZ a b=true) (h':leZ b a=true):a=b:=by
 rw[T1]at h h';obtain⟨a1,a2⟩:=a;obtain⟨b1,b2⟩:=b;simp only at h h';have e1:a1=b1:=by omega
 have e2:a2=b2:=by omega
 rw[e1,e2]
section
variable (fu d:Nat)
theorem Zoh (L:List (Nat×Nat×Nat)) (hl:L.length<=1000000):cl fu (d+1) fn_slices_SortFunc_sapi_Cell_api_Cell [V.own 1000000 0 L.length,V.c (C.fn fn_mesh_Build_1 [])] [.sb ty_api_Cell 0 (fl trC L)]=
  some ⟨.tup [],[.sb ty_api_Cell 0 (fl trC (Rj leT L))],none⟩:=by
 have e:cl fu (d+1) fn_slices_SortFunc_sapi_Cell_api_Cell [V.own 1000000 0 L.length,V.c (C.fn fn_mesh_Build_1 [])] [.sb ty_api_Cell 0 (fl trC L)]=(Tt (fl trC L)).bind λzs=>need (Zx3 1000000 OUT&&Zx3 0 0&&Zx3 fn_mesh_Build_1 fn_mesh_Build_1&&Zx3 ty_api_Cell ty_api_Cell&&Zx3 0 0&&Zx3 zs.length (L.length*3)&&Zx4 L.length 4611686018427387903) (some ⟨.tup [],[.sb ty_api_Cell 0 (ints (R0 3 (N2 3 (lexZ [0,1,2]) L.length zs)))],none⟩):=by kernel_rfl
 have hlen:(L.flatMap trI).length=L.length*3:=by
  have:=Zh Ym L;rw[Zca]at this;simpa using this
 have e1:Zx3 1000000 OUT=true:=rfl;obtain⟨l',h1,h2,h3⟩:=Cx (k:=3) (g:=trI) (λ_=>rfl) (lexZ_swo [0,1,2]) L;have h4:l'=Rj leT L:=J1 Zog (h1.trans (Xp leT L).symm) (h2.imp λ{a b} h=>(Zqg a b).1 h) (Le (λa b=>by rw[J3,J3];omega) (λa b c h h'=>by rw[J3]at h h'⊢;omega) L);rw[e,Zca,Rz];simp(disch:=omega)only[Za,QM,QD,hlen,e1];rw[h3,h4,Zca]
theorem Zoi (L:List Ed) (hl:L.length<=1000000):cl fu (d+1) fn_slices_SortFunc_sapi_Edge_api_Edge [V.own 1000000 0 L.length,V.c (C.fn fn_mesh_Build_2 [])] [.sb ty_api_Edge 0 (fl edC L)]=
  some ⟨.tup [],[.sb ty_api_Edge 0 (fl edC (Rj leZ L))],none⟩:=by
 have e:cl fu (d+1) fn_slices_SortFunc_sapi_Edge_api_Edge [V.own 1000000 0 L.length,V.c (C.fn fn_mesh_Build_2 [])] [.sb ty_api_Edge 0 (fl edC L)]=(Tt (fl edC L)).bind λzs=>need (Zx3 1000000 OUT&&Zx3 0 0&&Zx3 fn_mesh_Build_2 fn_mesh_Build_2&&Zx3 ty_api_Edge ty_api_Edge&&Zx3 0 0&&Zx3 zs.length (L.length*2)&&Zx4 L.length 4611686018427387903) (some ⟨.tup [],[.sb ty_api_Edge 0 (ints (R0 2 (N2 2 (lexZ [0,1]) L.length zs)))],none⟩):=by kernel_rfl
 have hlen:(Uv L).length=L.length*2:=Q6 L;have e1:Zx3 1000000 OUT=true:=rfl;obtain⟨l',h1,h2,h3⟩:=Cx (k:=2) (g:=edI) (λ_=>rfl) (lexZ_swo [0,1]) L;have h4:l'=Rj leZ L:=J1 Zey (h1.trans (Xp leZ L).symm) (h2.imp λ{a b} h=>(Zqh a b).1 h) (Le (λa b=>by rw[T1,T1];omega) (λa b c h h'=>by rw[T1]at h h'⊢;omega) L);have h5: ∀l:List Ed,l.flatMap edI=Uv l:=λl=>rfl;rw[e,J4,Rz];simp(disch:=omega)only[Za,QM,QD,hlen,e1];rw[h5,h5]at h3;rw[h3,h4,J4]
theorem Ba {α:Type} [Inhabited α] [DecidableEq α] (l:List α):(Lib.compact l).length<=l.length:=by
 unfold Lib.compact Lib.compactUpTo;rw[Zti];exact Ztq (Zwo ..) (by simp)
theorem Fl {α:Type} [Inhabited α] [DecidableEq α] {l:List α} {x:α} (h:x∈Lib.compact l):x∈l:=by
 unfold Lib.compact Lib.compactUpTo at h;obtain⟨j,hj,rfl⟩:=Zvh.1 h;have:=Zut.1 (Zw0.1 hj).1;rw[getElem!_pos l.toArray j (by simpa using this)];simp
theorem Zhg (L:List Ed) (hl:L.length<=1000000): ∃pad:List Ed,pad.length=L.length/\cl fu (d+1) fn_slices_Compact_sapi_Edge_api_Edge [V.own 1000000 0 L.length] [.sb ty_api_Edge 0 (fl edC L)]=
  some ⟨V.c (C.sl (Lib.compact L).length (fl edC (Lib.compact L))),[.sb ty_api_Edge (fl edC L).length (fl edC pad)],none⟩:=by
 have e:cl fu (d+1) fn_slices_Compact_sapi_Edge_api_Edge [V.own 1000000 0 L.length] [.sb ty_api_Edge 0 (fl edC L)]=(Tt (fl edC L)).bind λzs=>(Mw zs).bind λl=>need (Zx3 1000000 OUT&&Zx3 0 0&&Zx3 ty_api_Edge ty_api_Edge&&Zx3 0 0&&Zx3 l.length L.length&&Zx4 L.length 4611686018427387903&&Zx4 (Lib.compact l).length L.length)
   (some ⟨.c (.sl (Lib.compact l).length (ints (Uv (Lib.compact l)))),[.sb ty_api_Edge (fl edC L).length (ints (Uv (Zen l L.length)))],none⟩):=by kernel_rfl
 have e1:Zx3 1000000 OUT=true:=rfl;have hle:=Ba L;refine⟨Zen L L.length,Fi hle, ?_⟩;rw[e,J4,Rz,J4,J4];show(Mw (Uv L)).bind _=_;rw[Zgy];simp(disch:=omega)only[Za,QM,QD,e1]
end
end Go.Proofs.YtjmempcalaliiaaGreatDoor
namespace Go.Proofs.YtjmempcalaliiaaGreatDoor
open Go Go.PM Go.Grid
attribute [local congr] Zu Zv Zw Yd Zx Zy Ye Yf Yg Yh Zz Z0 Yi Yt Yu Yv Yw Yx Yz Y1 Y2 Y4 Yy Z2 Z3 Y5 Z4 Z5 Zj Z6 Z1
theorem Zrn {a b:Nat} (h:a<b):Nat.blt a b=true:=Zvd h
def Py (R:List (List Int)) (i:Nat) (z:Int):List (List Int):=R.set i (R.getD i []++[z])
def Bb (R:List (List Int)) (e:Ed):List (List Int):=Py (Py R e.1.toNat e.2) e.2.toNat e.1
def Td (N:Nat) (E:List Ed):List (List Int):=E.foldl Bb (Zyx N [])
noncomputable def nxt (n:Nat):List (List Int):=(Td (Zg n).length (edg n)).map Vh
theorem Wx (P:Nat->Prop) {i j k:Nat} (h1:P i) (h2:P j) (h3:P k):P (Xr i j k).1/\P (Xr i j k).2.1/\P (Xr i j k).2.2:=by
 unfold Xr;split<;>split<;>try split
 all_goals exact⟨by assumption,by assumption,by assumption⟩
theorem Zcb {n:Nat} (h:Yb n): ∀t∈tri n,t.1<(Zg n).length/\t.2.1<(Zg n).length/\t.2.2<(Zg n).length:=by
 intro t ht;unfold tri Jx rowC at ht;simp only[Zu6,Zut]at ht;obtain⟨f,hf,a,ha,b,hb,ht⟩:=ht;have hp: ∀i j,i+j<=n->idx n (pt n f i j)<(Zg n).length:=λi j hij=>C2 h (J2 hf hij);unfold X7 at ht;rcases Ztl.1 ht with rfl|ht
 ·exact Wx (λx=>x<(Zg n).length) (hp _ _ (by omega)) (hp _ _ (by omega)) (hp _ _ (by omega))
 ·split at ht
  ·rename_i hd;obtain rfl:=Zxd.1 ht;exact Wx (λx=>x<(Zg n).length) (hp _ _ (by omega)) (hp _ _ (by omega)) (hp _ _ (by omega))
  ·cases ht
theorem Zqi {n:Nat} (h:Yb n): ∀e∈C3 n,(0<=e.1/\e.1<((Zg n).length:Nat))/\(0<=e.2/\e.2<((Zg n).length:Nat)):=by
 intro e he;obtain⟨t,ht,he⟩:=Zu6.1 he;obtain⟨h1,h2,h3⟩:=Zcb h t ((Xp leT _).mem_iff.1 ht);simp only[Ks,Ztl,Zvo,or_false]at he;rcases he with rfl|rfl|rfl<;>(simp only;omega)
theorem Gb {n:Nat} (h:Yb n): ∀e∈edg n,(0<=e.1/\e.1<((Zg n).length:Nat))/\(0<=e.2/\e.2<((Zg n).length:Nat)):=
 λe he=>Zqi h e ((Xp leZ _).mem_iff.1 (Fl he))
theorem Bc {n:Nat} (h:Yb n):(tri n).length<=5000:=by
 unfold Yb at h;rw[<-C8];exact Zb9 (by omega) (by omega) (by omega) (by omega)
theorem Kt (L:List (Nat×Nat×Nat)):(L.flatMap Ks).length=L.length*3:=by
 induction L with
 |nil=>rfl
 |cons x L ih=>rw[Zuq,Ztb,ih,Zs3];simp only[Ks,Zs3,Zs9];omega
theorem Zis {n:Nat} (h:Yb n):(C3 n).length<=15000:=by
 unfold C3;rw[Kt,(Xp leT _).length_eq];have:=Bc h;omega
theorem Uu {n:Nat} (h:Yb n):(edg n).length<=15000:=
 Ztq (Ba _) (by rw[(Xp leZ _).length_eq];exact Zis h)
theorem Sv (R:List (List Int)) (i:Nat) (z:Int):(Py R i z).length=R.length:=by simp[Py]
theorem Zcc {R:List (List Int)} {m:Nat} (h: ∀r∈R,r.length<=m) (i:Nat):(R.getD i []).length<=m:=by
 rw[Ztj];cases hi:R[i]? with
 |none=>simp
 |some r=>exact h r (Zte hi)
theorem Bd {R:List (List Int)} {m:Nat} (h: ∀r∈R,r.length<=m) (i:Nat) (z:Int): ∀r∈Py R i z,r.length<=m+1:=by
 intro r hr;rcases List.mem_or_eq_of_mem_set hr with hr|rfl
 ·have:=h r hr;omega
 ·have:=Zcc h i;rw[Ztb,Zs3,Zs9];omega
theorem Zez (R:List (List Int)) (i:Nat) (r:List Int):(R.map ints).set i (ints r)=(R.set i r).map ints:=List.map_set.symm
theorem Wy (R:List (List Int)) (i:Nat):(R.map ints).getD i []=ints (R.getD i []):=by
 rw[Ztj,Ztj,Ztg];cases R[i]? <;>rfl
theorem Ud (r:List Int) (z:Int):ints r++[C.v (.int .i64 z)]=ints (r++[z]):=by simp[ik]
theorem Ze0 (N:Nat) (E:List Ed) (e:Ed):Td N (E++[e])=Bb (Td N E) e:=by simp[Td]
theorem Lz (N:Nat) (E:List Ed):(Td N E).length=N:=by
 have key: ∀(E:List Ed) (R:List (List Int)),(E.foldl Bb R).length=R.length:=by
  intro E
  induction E with
  |nil=>intro R;rfl
  |cons e E ih=>intro R;rw[Zuz,ih];unfold Bb;rw[Sv,Sv]
 unfold Td;rw[key];simp
theorem Wz (N:Nat) (E:List Ed): ∀r∈Td N E,r.length<=2*E.length:=by
 have key: ∀(E:List Ed) (R:List (List Int)) (m:Nat),(∀r∈R,r.length<=m)-> ∀r∈E.foldl Bb R,r.length<=m+2*E.length:=by
  intro E
  induction E with
  |nil=>intro R m h r hr;have:=h r hr;simp;omega
  |cons e E ih=>
   intro R m h r hr;rw[Zuz]at hr;have:=ih _ (m+1+1) (Bd (Bd h _ _) _ _) r hr;rw[Zs3];omega
 intro r hr;have:=key E _ 0 (λr hr=>by rw[Zwe hr];simp) r hr;omega
theorem Zsk (t:Nat×Nat×Nat):fl edC (Ks t)=[C.v (.int .i64 t.1),C.v (.int .i64 t.2.1),C.v (.int .i64 t.1),C.v (.int .i64 t.2.2),C.v (.int .i64 t.2.1),C.v (.int .i64 t.2.2)]:=rfl
def F5 (R:List (List Int)) (j:Nat):List (List Int):=(R.take j).map Vh++R.drop j
theorem Fo (R:List (List Int)) (j:Nat):(F5 R j).length=R.length:=by
 unfold F5;rw[Ztb,Zti,<-Ztb,Zwn]
theorem Zoj {R:List (List Int)} {j:Nat} (hj:j<R.length):(F5 R j).getD j []=R[j]:=by
 unfold F5;rw[Ztj,Zul (by simp;omega)];simp[Zuf (Nat.le_of_lt hj),hj]
theorem Zok {R:List (List Int)} {j:Nat} (hj:j<R.length):(F5 R j).set j (Vh R[j])=F5 R (j+1):=by
 unfold F5;have h1:((R.take j).map Vh).length=j:=by simp;omega
 rw[Zwk _ _ (by omega),h1,Zv8,Ztz hj,List.set_cons_zero,Ztw hj,Zu1,Zt5];rfl
theorem Zk4 (R:List (List Int)):F5 R 0=R:=by simp[F5]
theorem Zol (R:List (List Int)):F5 R R.length=R.map Vh:=by simp[F5]
section
variable (fu d:Nat)
theorem Zom (r:List Int) (h:r.length<=1000000):cl fu (d+1) fn_slices_Sort_sint_int [V.own 1000000 0 r.length] [.sb ty_int 0 (ints r)]=some ⟨.tup [],[.sb ty_int 0 (ints (Vh r))],none⟩:=by
 have e:cl fu (d+1) fn_slices_Sort_sint_int [V.own 1000000 0 r.length] [.sb ty_int 0 (ints r)]=orP (sortP ty_int) (sortWsP ty_3_int) [.own 1000000 0 r.length] [.sb ty_int 0 (ints r)]:=by kernel_rfl
 have hw:=Zko (t:=ty_int) (l:=r) (by omega);have hs:sortP ty_int [.own 1000000 0 r.length] [.sb ty_int 0 (ints r)]=some ⟨.tup [],[.sb ty_int 0 (ints (Vh r))],none⟩:=by
  rw[sortP,hw];exact Zvr ..
 rw[e,orP,hs]
variable (hf:18446744073709551616<=fu)
include hf
theorem Zk5 (n:Nat) (h:Yb n) (f a b:Nat) (hf':f<20) (hab:a+b<n): ∃g',cl fu (d+7) fn_mesh_Net_cells [V.ptr 1000000 0,V.agg [.v (.int .i64 f), .v (.int .i64 ((a*(840/n):Nat):Int)), .v (.int .i64 ((b*(840/n):Nat):Int)), .v (.int .i64 (((n-1-a-b)*(840/n):Nat):Int))]] [Lm 0 n (fl trC (Uw n f a b))]=some ⟨V.tup [],[Lm g' n (fl trC (Uw n f a (b+1)))],none⟩:=by
 have hn:=h;unfold Yb at hn;have h5:(Uw n f a b).length<=5000:=Zb9 hn.2 (Nat.le_of_lt hf') (show a<=9 by omega) (show b<=9 by omega);have h6:=Zof fu d hf 0 n h f a b hf' hab (Uw n f a b) (Ztq h5 (Zs5 rfl));rw[Zhf]at h6;exact h6
set_option maxHeartbeats 8000000 in
set_option maxRecDepth 4000 in
theorem Zon (n:Nat) (h:Yb n): ∃c:C,cl fu (d+8) fn_mesh_Build [I n] []=some ⟨V.ptr 1000000 0,[.ob ty_mesh_Net 0 [C.v (.int .i64 n),C.v (.int .i64 ((840/n:Nat):Int)),C.sl (Zg n).length (fl plc (Zg n)),C.mp ty_api_Place ty_int (some 4) none (esn 0 (Zg n)),c,C.sl (edg n).length (fl edC (edg n)),C.sl (nxt n).length ((nxt n).map λr=>C.sl r.length (ints r))]],none⟩:=by
 have hn:=h;unfold Yb at hn;have hs:=Vi h;have hP:=Zhc fu (d+2) hf n h;have hC:=Zk5 fu d hf n h;have hNl:=Y7 h;have hlT:=Bc h;unfold Lm Zn9 at hC;unfold netC at hP;have heI:=Gb h;have heL:=Uu h;have hrL:=Zis h;unfold nxt;generalize hE:edg n=E at*
 generalize hNl2:(Zg n).length=N at*
 generalize fl plc (Zg n)=nc at*
 generalize esn 0 (Zg n)=es at*
 have eO0:Zx3 1000000 (OUT+0)=true:=rfl;refine⟨C.sl (Rj leT (tri n)).length (fl trC (Rj leT (tri n))), ?_⟩;rw[eq_mesh_Build,hP];simp(disch:=omega)only[Za,QM,QD,QE,eO0,Zs3,Zs9,Zs4,Nat.reduceAdd];rw[Zk (λf:Nat=>(((f:Nat):Int),((n:Int),(((840/n:Nat):Int)),C.sl N nc,C.mp ty_api_Place ty_int (some 4) none es,fl trC (Uw n f 0 0),C.nl,C.nl,()),())) 0
  ((20:Int),((n:Int),(((840/n:Nat):Int)),C.sl N nc,C.mp ty_api_Place ty_int (some 4) none es,fl trC (tri n),C.nl,C.nl,()),()) 20 ?_ ?_ ?_ (by omega)]
 ·generalize hT0:tri n=T0 at*
  generalize hT:Rj leT T0=T at*
  have hTl:T.length=T0.length:=by rw[<-hT];exact(Xp leT T0).length_eq
  have hfl0:=Zh Ym T0;have hflT:=Zh Ym T;have hdv0:T0.length*3/3=T0.length:=by omega
  have hdvT:T.length*3/3=T.length:=by omega
  have s1:=Zoh fu (d+6) T0 (by omega);rw[hT]at s1;have b1: ∀{R:Type} (k:List C->Option R),rowBack ty_api_Cell (fl trC T0) false [.sb ty_api_Cell 0 (fl trC T)] k=k (fl trC T):=λk=>H9 _ _ _ k (by omega);simp(disch:=omega)only[Za,QM,QD,QE,hfl0,hdv0,s1,b1,hflT,hdvT];rw[Zk (λj:Nat=>(((j:Nat):Int),((n:Int),(((840/n:Nat):Int)),C.sl N nc,C.mp ty_api_Place ty_int (some 4) none es,C.sl T.length (fl trC T),fl edC ((T.take j).flatMap Ks),C.nl,()),())) 0
   (((T.length:Nat):Int),((n:Int),(((840/n:Nat):Int)),C.sl N nc,C.mp ty_api_Place ty_int (some 4) none es,C.sl T.length (fl trC T),fl edC (T.flatMap Ks),C.nl,()),()) T.length ?_ ?_ ?_ (by omega)]
  rotate_left
  ·rfl
  ·intro j hj;have hat:=Jz Ym hj;have hln:(fl edC ((T.take j).flatMap Ks)).length=(j*3)*2:=by rw[Zh Xq,Kt,Zty,Zuf (by omega)]
   have hdl:(j*3)*2/2=j*3:=by omega
   have happ:fl edC ((T.take j).flatMap Ks)++[C.v (.int .i64 T[j].1),C.v (.int .i64 T[j].2.1),C.v (.int .i64 T[j].1),C.v (.int .i64 T[j].2.2),C.v (.int .i64 T[j].2.1),C.v (.int .i64 T[j].2.2)]=fl edC ((T.take (j+1)).flatMap Ks):=by
    rw[<-Zsk,<-H7,Ztw hj,Zva];simp
   have hln2:(fl edC ((T.take (j+1)).flatMap Ks)).length=(j*3+3)*2:=by rw[Zh Xq,Kt,Zty,Zuf (by omega)];omega
   simp(disch:=omega)only[Za,QM,QD,Zs2,hat,trC,Zt1,Zt3,hln,hdl,happ,hln2];rfl
  ·rw[Zud];simp(disch:=omega)only[Za,QM,QD]
  have hraw:T.flatMap Ks=C3 n:=by unfold C3;rw[hT0,hT]
  rw[hraw];have hEd:Lib.compact (Rj leZ (C3 n))=E:=hE;generalize C3 n=W at*
  have hflW:=Zh Xq W;have hdvW:W.length*2/2=W.length:=by omega
  have s2:=Zoi fu (d+6) W (by omega);have hZl:(Rj leZ W).length=W.length:=(Xp leZ W).length_eq;generalize Rj leZ W=Z at*
  have hflZ:=Zh Xq Z;have hdvZ:Z.length*2/2=Z.length:=by omega
  have b2: ∀{R:Type} (k:List C->Option R),rowBack ty_api_Edge (fl edC W) false [.sb ty_api_Edge 0 (fl edC Z)] k=k (fl edC Z):=λk=>H9 _ _ _ k (by omega);obtain⟨pad,hpad,s3⟩:=Zhg fu (d+6) Z (by omega);rw[hEd]at s3;have hflP:=Zh Xq pad;have b3: ∀{R:Type} (k:List C->Option R),rowBack ty_api_Edge (fl edC Z) true [.sb ty_api_Edge (Z.length*2) (fl edC pad)] k=k (fl edC pad):=λk=>by rw[<-hflZ];exact Zk1 _ _ _ k (by omega)
  have hflE:=Zh Xq E;simp(disch:=omega)only[Za,QM,QD,QE,hflW,hdvW,s2,b2,hflZ,hdvZ,s3,b3,Zs2,Zv3,decide_true];rw[Zk (λj:Nat=>(((j:Nat):Int),((n:Int),(((840/n:Nat):Int)),C.sl N nc,C.mp ty_api_Place ty_int (some 4) none es,C.sl T.length (fl trC T),C.sl E.length (fl edC E),(Td N (E.take j)).map ints,()),())) 0
   (((E.length:Nat):Int),((n:Int),(((840/n:Nat):Int)),C.sl N nc,C.mp ty_api_Place ty_int (some 4) none es,C.sl T.length (fl trC T),C.sl E.length (fl edC E),(Td N E).map ints,()),()) E.length ?_ ?_ ?_ (by omega)]
  rotate_left
  ·show _=(((0:Nat):Int),_,());simp only[Zuy,Td,Zxz,List.map_replicate];rfl
  ·intro j hj;have hat:=Jz Xq hj;have hin:=heI E[j] (Zt6 hj);have hps:Td N (E.take (j+1))=Bb (Td N (E.take j)) E[j]:=by rw[Ztw hj,Ze0]
   have hRl:=Lz N (E.take j);have hRb:=Wz N (E.take j);rw[Zty,Zuf (by omega)]at hRb;rw[hps];generalize Td N (E.take j)=R at*
   generalize E[j]=e at*
   obtain⟨ea,eb⟩:=e
   dsimp only at hin
   obtain⟨x,rfl⟩: ∃x:Nat,ea=x:=⟨ea.toNat,by omega⟩;obtain⟨y,rfl⟩: ∃y:Nat,eb=y:=⟨eb.toNat,by omega⟩;have hg1:=Zcc hRb x;have hg2:=Zcc (Bd hRb x (y:Int)) y;have hl1:=Sv R x (y:Int);have hpe:Bb R ((x:Int),(y:Int))=Py (Py R x (y:Int)) y (x:Int):=rfl;have hp1: ∀i z,R.set i (R.getD i []++[z])=Py R i z:=λi z=>rfl;have hp2: ∀i z,(Py R x (y:Int)).set i ((Py R x (y:Int)).getD i []++[z])=Py (Py R x (y:Int)) i z:=λi z=>rfl;have hl2:=Sv (Py R x (y:Int)) y (x:Int);rw[hpe];simp(disch:=omega)only[Za,QM,QD,Zrn,Ze,hat,edC,Zt1,Zt3,Zs2,Zta,Zto,Zti,Wy,Ud,Zez,hp1,hp2,hRl,hl1,hl2,Ztb,Zs3,Zs9,Zs4];rfl
  ·rw[Zud];simp(disch:=omega)only[Za,QM,QD]
  have hRl:=Lz N E;have hRb:=Wz N E;generalize Td N E=R at*
  simp(disch:=omega)only[Za,QM,QD,Zti];rw[Zk (λj:Nat=>(((j:Nat):Int),((n:Int),(((840/n:Nat):Int)),C.sl N nc,C.mp ty_api_Place ty_int (some 4) none es,C.sl T.length (fl trC T),C.sl E.length (fl edC E),(F5 R j).map ints,()),())) 0
   (((R.length:Nat):Int),((n:Int),(((840/n:Nat):Int)),C.sl N nc,C.mp ty_api_Place ty_int (some 4) none es,C.sl T.length (fl trC T),C.sl E.length (fl edC E),(R.map Vh).map ints,()),()) R.length ?_ ?_ ?_ (by omega)]
  rotate_left
  ·rw[Zk4];rfl
  ·intro j hj;have hml:=Fo R j;have hgt:=Zoj hj;have hst:=Zok hj;have hml2:=Fo R (j+1);have hrl:=hRb R[j] (Zt6 hj);have s4:=Zom fu (d+6) R[j] (by omega);have hsl:=Zbx R[j];generalize R[j]=r at*
   have b4: ∀{R:Type} (k:List C->Option R),rowBack ty_int (ints r) false [.sb ty_int 0 (ints (Vh r))] k=k (ints (Vh r)):=λk=>H9 _ _ _ k (by rw[Ze,Ze];exact hsl);simp(disch:=omega)only[Za,QM,QD,Zrn,Zs2,Zta,Zto,Zti,Wy,hgt,Ze,s4,b4,Zez,hst,hml,hml2];rfl
  ·rw[Zol];simp(disch:=omega)only[Za,QM,QD,Zti]
  have hmm:List.map (λ(r:List C)=>C.sl (r.length/1) r) ((R.map Vh).map ints)=(R.map Vh).map λr=>C.sl r.length (ints r):=by
   rw[Zw7];apply Zvk;intro r _;show C.sl ((ints r).length/1) (ints r)=_;rw[Ze,Zto]
  simp(disch:=omega)only[Za,QM,QD,Zti,hmm]
 ·rfl
 ·intro f hf';simp(disch:=omega)only[Za,QM,QD];rw[Zk (λa:Nat=>(((a:Nat):Int),((n:Int),(((840/n:Nat):Int)),C.sl N nc,C.mp ty_api_Place ty_int (some 4) none es,fl trC (Uw n f a 0),C.nl,C.nl,()),())) 0
   ((n:Int),((n:Int),(((840/n:Nat):Int)),C.sl N nc,C.mp ty_api_Place ty_int (some 4) none es,fl trC (Uw n f n 0),C.nl,C.nl,()),()) n ?_ ?_ ?_ (by omega)]
  ·simp(disch:=omega)only[Za,QM,QD];rw[Zod];rfl
  ·rfl
  ·intro a ha;simp(disch:=omega)only[Za,QM,QD];rw[Zk (λb:Nat=>(((b:Nat):Int),((n:Int),(((840/n:Nat):Int)),C.sl N nc,C.mp ty_api_Place ty_int (some 4) none es,fl trC (Uw n f a b),C.nl,C.nl,()),())) 0
    (((n-a:Nat):Int),((n:Int),(((840/n:Nat):Int)),C.sl N nc,C.mp ty_api_Place ty_int (some 4) none es,fl trC (Uw n f a (n-a)),C.nl,C.nl,()),()) (n-a) ?_ ?_ ?_ (by omega)]
   ·simp(disch:=omega)only[Za,QM,QD];rw[Zoc];rfl
   ·rfl
   ·intro b hb;obtain⟨g',hC⟩:=hC f a b hf' (by omega);have w1:Zx2.wrap ((a:Int)*((840/n:Nat):Int))=((a*(840/n):Nat):Int):=Px h (by omega);have w2:Zx2.wrap ((b:Int)*((840/n:Nat):Int))=((b*(840/n):Nat):Int):=Px h (by omega);have w3:Zx2.wrap (((n:Int)-1-(a:Int)-(b:Int))*((840/n:Nat):Int))=(((n-1-a-b)*(840/n):Nat):Int):=by
     rw[show(n:Int)-1-(a:Int)-(b:Int)=((n-1-a-b:Nat):Int) by omega];exact Px h (by omega)
    simp(disch:=omega)only[Za,QM,QD,QE,w1,w2,w3,hC];rfl
   ·simp(disch:=omega)only[Za,QM,QD]
  ·simp(disch:=omega)only[Za,QM,QD]
 ·rw[C8];simp(disch:=omega)only[Za,QM,QD];rfl
end
end Go.Proofs.YtjmempcalaliiaaGreatDoor
namespace Go.Proofs.YtjmempcalaliiaaGreatDoor
open Go Go.PM Go.Grid
theorem Nt (fu d n:Nat) (h:Yb n):cl fu (d+1) fn_synopticref03_Count [I n] []=OK (I ((10*n*n+2:Nat):Int)):=by
 rw[eq_synopticref03_Count];rcases Q0 h with rfl|rfl|rfl|rfl|rfl|rfl|rfl|rfl<;>(show @Eq (Option Out) _ _;kernel_rfl)
theorem Zqj (n f i j:Nat):Uf n f i (j+1)=bif isN (pt n f i j)then Uf n f i j++[pt n f i j]else Uf n f i j:=by
 rw[Zn3];unfold isN;by_cases h:norm (pt n f i j)=pt n f i j
 ·rw[if_pos h,decide_eq_true h];rfl
 ·rw[if_neg h,decide_eq_false h];rfl
theorem Ze1 {n:Nat}:((10*n*n+2:Nat):Int)≠0:=by omega
theorem Zcd (fu d:Nat) (hf:18446744073709551616<=fu) (n:Nat) (h:Yb n):cl fu (d+6) fn_synopticref03_Nodes [I n] []=OK (V.tup [V.c (C.sl (Zg n).length (fl plc (Zg n))),I 0]):=by
 have hn:=h;unfold Yb at hn;have hst:=Vi h;rw[eq_synopticref03_Nodes,Nt fu (d+4) n h,C7 h];simp only[QM];rw[H6 Ze1,H6 (show(n:Int)≠0 by omega)];simp only[QM];rw[Zk (λf:Nat=>(fl plc (Uf n f 0 0),(f:Int),())) 0 (fl plc (Uf n 20 0 0),(20:Int),()) 20 ?_ ?_ ?_ (by omega)]
 ·rw[Zeu];simp(disch:=omega)only[QM,QD,Zh Zr,X2,Zs4];rw[Ztc (by rw[Zh Zr];omega)]
 ·rfl
 ·intro f hf';have hl:(Uf n f 0 0).length<=2000:=Uy h (by omega) (by omega) (by omega);simp(disch:=omega)only[QM,QD,Zh Zr,X2];rw[Zk (λi:Nat=>(fl plc (Uf n f i 0),((i*(840/n):Nat):Int),())) 0 (fl plc (Uf n f (n+1) 0),(((n+1)*(840/n):Nat):Int),()) (n+1) ?_ ?_ ?_ (by omega)]
  ·have hl:(Uf n f (n+1) 0).length<=2000:=Uy h (by omega) (by omega) (by omega);simp(disch:=omega)only[QM,QD,Zh Zr,X2,Zt0,Zuo];unfold Uf;rw[Zrm]
  ·simp only[Zub];rfl
  ·intro i hi;have hl:(Uf n f i 0).length<=2000:=Uy h (by omega) (by omega) (by omega);have hA:=Mz h (show i<=n by omega);have hA1:(i+1)*(840/n)=i*(840/n)+840/n:=Zt9 _ _;rw[hA1];generalize hAe:i*(840/n)=A at hA⊢;simp(disch:=omega)only[QM,QD,Zh Zr,X2];rw[Zk (λj:Nat=>(fl plc (Uf n f i j),((j*(840/n):Nat):Int),())) 0 (fl plc (Uf n f i (n+1-i)),(((n+1-i)*(840/n):Nat):Int),()) (n+1-i) ?_ ?_ ?_ (by omega)]
   ·have hl:(Uf n f i (n+1-i)).length<=2000:=Uy h (by omega) (by omega) (by omega);generalize hst':840/n=s at*
    simp(disch:=omega)only[QM,QD,Zh Zr,X2,Zt0];unfold Uf;rw[Zrl]
   ·simp only[Zub];rfl
   ·intro j hj;have hl:(Uf n f i j).length<=2000:=Uy h (by omega) (by omega) (by omega);have hs:=Zg4 (n:=n) (i:=i) (j:=j) h (by omega);have hB1:(j+1)*(840/n)=j*(840/n)+840/n:=Zt9 _ _;have hok:=Znz (f:=f) h hf' (show i+j<=n by omega);have hN:=F4 fu d hf (pt n f i j) hok;have hin:0<A->0<j*(840/n)->0<(n-i-j)*(840/n)->isN (pt n f i j)=true:=λh1 h2 h3=>Zkv hok (by show 0<i*(840/n);omega) h2 h3;have hup:=Zqj n f i j;rw[hB1];simp only[plc]at hN;generalize isN (pt n f i j)=z at hN hin hup;simp only[pt]at hN hup;rw[hAe]at hs hN hup;generalize j*(840/n)=B at*
    generalize (n-i-j)*(840/n)=D at*
    generalize 840/n=s at*
    have hD:(840:Int)-A-B=(D:Int):=by omega
    rw[hup];by_cases c1:0<A
    ·by_cases c2:0<B
     ·by_cases c3:0<D
      ·rw[hin c1 c2 c3];simp(disch:=omega)only[QM,QD,hD,M0,Zh Zr,X2,Ztb,Zs3,Zs9,Zs4,Zt0]
      ·cases z<;>simp(disch:=omega)only[QM,QD,hD,hN,M0,Zh Zr,X2,Ztb,Zs3,Zs9,Zs4,Zt0]
     ·cases z<;>simp(disch:=omega)only[QM,QD,hD,hN,M0,Zh Zr,X2,Ztb,Zs3,Zs9,Zs4,Zt0]
    ·cases z<;>simp(disch:=omega)only[QM,QD,hD,hN,M0,Zh Zr,X2,Ztb,Zs3,Zs9,Zs4,Zt0]
   ·have hl:(Uf n f i (n+1-i)).length<=2000:=Uy h (by omega) (by omega) (by omega);have hs:=Zg4 (n:=n) (i:=i) (j:=n-i) h (by omega);have h1:(n+1-i)*(840/n)=(n-i)*(840/n)+840/n:=by rw[show n+1-i=n-i+1 by omega,Zt9]
    rw[hAe,show n-i-(n-i)=0 by omega]at hs;rw[h1];generalize (n-i)*(840/n)=B at*
    generalize 840/n=s at*
    simp(disch:=omega)only[QM,QD,Zh Zr,X2,Zt0]
  ·have hl:(Uf n f (n+1) 0).length<=2000:=Uy h (by omega) (by omega) (by omega);have h1:(n+1)*(840/n)=840+840/n:=by rw[Zt9,Rh h]
   rw[h1];generalize 840/n=s at*
   simp(disch:=omega)only[QM,QD,Zh Zr,X2,Zt0]
 ·have hl:(Uf n 20 0 0).length<=2000:=Uy h (by omega) (by omega) (by omega);simp(disch:=omega)only[QM,QD,Zh Zr,X2];rfl
theorem Zqk (fu d:Nat) (p q:Pl):cl fu (d+1) fn_synopticref03_less [V.agg (plc p),V.agg (plc q)] []=OK (B (decide (plt p q))):=by
 unfold plc;rw[eq_synopticref03_less];by_cases h1:p.f=q.f
 ·by_cases h2:p.a=q.a
  ·by_cases h3:p.b<q.b
   ·rw[decide_eq_true (show plt p q from .inr ⟨h1, .inr ⟨h2,h3⟩⟩)];simp(disch:=omega)only[QM,QD]
   ·rw[decide_eq_false (show ¬plt p q from by unfold plt;omega)];simp(disch:=omega)only[QM,QD]
  ·by_cases h3:p.a<q.a
   ·rw[decide_eq_true (show plt p q from .inr ⟨h1, .inl h3⟩)];simp(disch:=omega)only[QM,QD]
   ·rw[decide_eq_false (show ¬plt p q from by unfold plt;omega)];simp(disch:=omega)only[QM,QD]
 ·by_cases h3:p.f<q.f
  ·rw[decide_eq_true (show plt p q from .inl h3)];simp(disch:=omega)only[QM,QD]
  ·rw[decide_eq_false (show ¬plt p q from by unfold plt;omega)];simp(disch:=omega)only[QM,QD]
theorem J5 {l:List Pl} (h:l.Pairwise plt) {i j:Nat} (hi:i<l.length) (hj:j<l.length) (hij:i<j):plt l[i] l[j]:=Zwc.1 h i j hi hj hij
theorem Zql (fu d:Nat) (hf:18446744073709551616<=fu) (l:List Pl) (hl:l.length<=1000000) (hs:l.Pairwise plt) (k:Nat) (hk:k<l.length):
  cl fu (d+2) fn_synopticref03_find [V.c (C.sl l.length (fl plc l)),V.agg (plc l[k])] []=OK (I k):=by
 have hq:plc l[k]=[.v (.int .i64 l[k].f), .v (.int .i64 l[k].a), .v (.int .i64 l[k].b), .v (.int .i64 l[k].c)]:=rfl;rw[hq,eq_synopticref03_find];rw[Zha (λy:Int×Int×Unit=> ∃lo hi:Nat,y=((lo:Int),(hi:Int),())/\lo<=k/\k<=hi/\hi<=l.length) (λy=>(y.2.1-y.1).toNat) 0 ((k:Int),(k:Int),()) ?_ ?_ ?_]
 ·have hd:=Jz Zr hk;simp(disch:=omega)only[QM,QD,Zs2,hd,plc,Zt1,Zt3,Zn0]
 ·exact⟨0,l.length,rfl,Zt4 _,by omega,Ztf _⟩
 ·simp only[];omega
 ·rintro _ ⟨lo,hi,rfl,g1,g2,g3⟩
  by_cases hlt:lo<hi
  ·left;have hm:Zx8 ((lo:Int)+(hi:Int)) 2=(((lo+hi)/2:Nat):Int):=by
    rw[show((lo:Int)+(hi:Int))=((lo+hi:Nat):Int) from by omega];rfl
   have hml:(lo+hi)/2<l.length:=by omega
   have hd:=Jz Zr hml;have hless:=Zqk fu d l[(lo+hi)/2] l[k];simp only[plc]at hless;by_cases hmk:(lo+hi)/2<k
   ·rw[decide_eq_true (J5 hs hml hk hmk)]at hless;refine⟨((((lo+hi)/2+1:Nat):Int),(hi:Int),()), ?_,⟨(lo+hi)/2+1,hi,rfl,by omega,g2,g3⟩, ?_⟩
    ·simp(disch:=omega)only[QM,QD,hm,Zs2,hd,plc,Zt1,Zt3,hless,Zt0,Zuo]
    ·simp only[];omega
   ·have hn: ¬plt l[(lo+hi)/2] l[k]:=by
     rcases Nat.lt_or_ge k ((lo+hi)/2)with h|h
     ·exact λh'=>Kr _ (Zkt h' (J5 hs hk hml h))
     ·have:(lo+hi)/2=k:=by omega
      simp only[this];exact Kr _
    rw[decide_eq_false hn]at hless;refine⟨((lo:Int),(((lo+hi)/2:Nat):Int),()), ?_,⟨lo,(lo+hi)/2,rfl,g1,by omega,by omega⟩, ?_⟩
    ·simp(disch:=omega)only[QM,QD,hm,Zs2,hd,plc,Zt1,Zt3,hless]
    ·simp only[];omega
  ·right;have e1:lo=k:=by omega
   have e2:hi=k:=by omega
   subst e1 e2;simp(disch:=omega)only[QM,QD]
theorem Zk6 (fu d:Nat) (hf:18446744073709551616<=fu) (n:Nat) (h:Yb n) (p:Pl) (hp:p∈pts n):
  cl fu (d+5) fn_synopticref03_at [V.c (C.sl (Zg n).length (fl plc (Zg n))),I p.f,I p.a,I p.b] []=OK (I (idx n p)):=by
 have hok:=C1 h hp;have hs:=hok.2;have e1:=Lx fu d hf p hok;have e2:=Zql fu (d+2) hf (Zg n) (by have:=Y7 h;omega) (Zb4 h) (idx n p) (C2 h hp);rw[Zg8 h hp]at e2;have hc:(840:Int)-p.a-p.b=p.c:=by omega
 simp only[plc]at e1 e2;rw[eq_synopticref03_at];simp(disch:=omega)only[QM,QD,hc,e1,e2,Zs3,Zs9,Zs4,Nat.reduceAdd]
end Go.Proofs.YtjmempcalaliiaaGreatDoor
namespace Go.Proofs.YtjmempcalaliiaaGreatDoor
open Go Go.PM Go.Grid
attribute [local congr] Zu Zv Zw Yd Zx Zy Ye Yf Yg Yh Zz Z0 Yi Yt Yu Yv Yw Yx Yz Y1 Y2 Y4 Yy Z2 Z3 Y5 Z4 Z5 Zj Z6 Z1
theorem Ug {A B:Type} {body:A->Option (Nat×A)} {fu:Nat} {x:A} {K:Nat×A->Option B} (R:Option B->Prop) (J:A->Prop) (m:A->Nat) (Q:Nat->A->Prop) (hx:J x) (hm:m x<fu)
  (h: ∀y,J y->(∃y',body y=some (0,y')/\J y'/\m y'<m y)\/ ∃e z,body y=some (e+1,z)/\Q e z) (hK: ∀e z,Q e z->R (K (e,z))):R ((iter body fu x).bind K):=by
 obtain⟨e,z,h1,h2⟩:=H5 (body:=body) J m Q h fu x hx hm;rw[h1];exact hK e z h2
theorem Zk7 (i j k:Nat):(Xr i j k).1+(Xr i j k).2.1+(Xr i j k).2.2=i+j+k:=by
 unfold Xr;split<;>split<;>try split
 all_goals first|rfl|(simp only;omega)|omega
theorem Zk8 (i j k:Nat):(if(k:Int)<(if(j:Int)<i then(j:Int)else i)then(k:Int)else(if(j:Int)<i then(j:Int)else i))=((Xr i j k).1:Int):=by
 unfold Xr
 repeat' split
 all_goals first|(simp only at*;done)|(simp only at*;omega)|omega
theorem Zk9 (i j k:Nat):(if(k:Int)>(if(j:Int)>i then(j:Int)else i)then(k:Int)else(if(j:Int)>i then(j:Int)else i))=((Xr i j k).2.2:Int):=by
 unfold Xr
 repeat' split
 all_goals first|(simp only at*;done)|(simp only at*;omega)|omega
theorem Zce {A:Type} {e:A->List C} {m:Nat} (hm: ∀x,(e x).length=m) (L B:List A) (i:Nat):putAt (fl e L) (i*m) (fl e B)=fl e (L.take i++B++L.drop (i+B.length)):=by
 unfold putAt;rw[Zb6 hm,Zh hm,<-Zyk,Ep hm,H7,H7]
section
variable (fu d:Nat) (hf:18446744073709551616<=fu)
theorem Ze2 (i j k:Nat) (hi:i<=1000000) (hj:j<=1000000) (hk:k<=1000000):cl fu (d+1) fn_synopticref03_cell [I i,I j,I k] []=OK (V.agg (trC (Xr i j k))):=by
 have h1:=Zk8 i j k;have h2:=Zk9 i j k;have h3:=Zk7 i j k;have e1:Zx2.wrap (Zx2.wrap ((i:Int)+j)+k)=(i:Int)+j+k:=by rw[Uq (x:=(i:Int)+j) (by omega) (by omega),Uq (by omega) (by omega)]
 have e2:(i:Int)+j+k-((Xr i j k).1:Int)-((Xr i j k).2.2:Int)=((Xr i j k).2.1:Int):=by omega
 rw[eq_synopticref03_cell,h1,h2,e1];simp(disch:=omega)only[Za,QM,QD,e2];rfl
include hf
theorem Zla (L:List (Nat×Nat×Nat)) (hL:L.length<=100000) (x:Nat×Nat×Nat): ∃k,k<=L.length/\
  cl fu (d+1) fn_synopticref03_insert [V.own 1000000 0 L.length,V.agg (trC x)] [.sb ty_api_Cell 0 (fl trC L)]=some ⟨V.own 1000001 0 (L.length+1),[.dead, .sb ty_api_Cell 0 (fl trC (L.take k++x::L.drop k))],none⟩:=by
 have hfl:=Zh Ym L;have hz:fl trC L++[C.v (.int .i64 0),C.v (.int .i64 0),C.v (.int .i64 0)]=fl trC (L++[(0,0,0)]):=Jy L (0,0,0);have hflz:(fl trC (L++[(0,0,0)])).length=(L.length+1)*3:=by rw[Zh Ym,Ztb];rfl
 unfold trC;rw[eq_synopticref03_insert];refine Ug (A:=(Nat×List C)×Int×Unit) (B:=Out) (fu:=fu) (λo=> ∃k,k<=L.length/\o=some ⟨V.own 1000001 0 (L.length+1),[.dead, .sb ty_api_Cell 0 (fl trC (L.take k++x::L.drop k))],none⟩)
  (λy=> ∃k:Nat,k<=L.length/\y=((L.length,fl trC L),(k:Int),())) (λy=>y.2.1.toNat) (λe y=>e=0/\ ∃k:Nat,k<=L.length/\y=((L.length,fl trC L),(k:Int),())) ?_ ?_ ?_ ?_
 ·exact⟨L.length,Ztf _,rfl⟩
 ·show((L.length:Nat):Int).toNat<fu;omega
 ·rintro y ⟨k,hk,rfl⟩
  cases k with
  |zero=>
   refine .inr ⟨0,_, ?_,rfl,0,hk,rfl⟩;simp(disch:=omega)only[Za,QM,QD]
  |succ k=>
   have hat:=Jz Ym (l:=L) (k:=k) (by omega);have hk1:((k+1:Nat):Int)-1=(k:Int):=by omega
   have go: ∀{b:Option (Nat×((Nat×List C)×Int×Unit))},b=some (0,((L.length,fl trC L),(k:Int),()))\/b=some (1,((L.length,fl trC L),((k+1:Nat):Int),()))->
     (∃y',b=some (0,y')/\(∃k:Nat,k<=L.length/\y'=((L.length,fl trC L),(k:Int),()))/\y'.2.1.toNat<((k+1:Nat):Int).toNat)\/ ∃e z,b=some (e+1,z)/\e=0/\ ∃k:Nat,k<=L.length/\z=((L.length,fl trC L),(k:Int),()):=by
    intro b hb;rcases hb with rfl|rfl
    ·exact .inl ⟨_,rfl,⟨k,by omega,rfl⟩,by show(k:Int).toNat<_;omega⟩
    ·exact .inr ⟨0,_,rfl,rfl,k+1,hk,rfl⟩
   refine go ?_;have hat1:Zx5 (k*3+1) (fl trC L)=C.v (.int .i64 L[k].2.1)::C.v (.int .i64 L[k].2.2)::fl trC (L.drop (k+1)):=by rw[<-Zv4,hat];rfl
   have hat2:Zx5 (k*3+2) (fl trC L)=C.v (.int .i64 L[k].2.2)::fl trC (L.drop (k+1)):=by rw[<-Zv4,hat];rfl
   generalize L[k]=t at*
   obtain⟨t1,t2,t3⟩:=t;obtain⟨x1,x2,x3⟩:=x;simp only at hat hat1 hat2⊢;by_cases q1:x1<t1
   ·simp(disch:=omega)only[Za,QM,QD,hk1,Zs4,Zs2,hat,hat1,hat2,trC,Zt1,Zt3];exact .inl trivial
   by_cases q2:x1=t1
   ·by_cases q3:x2<t2
    ·simp(disch:=omega)only[Za,QM,QD,hk1,Zs4,Zs2,hat,hat1,hat2,trC,Zt1,Zt3];exact .inl trivial
    by_cases q4:x2=t2
    ·by_cases q5:x3<t3
     ·simp(disch:=omega)only[Za,QM,QD,hk1,Zs4,Zs2,hat,hat1,hat2,trC,Zt1,Zt3];exact .inl trivial
     ·simp(disch:=omega)only[Za,QM,QD,hk1,Zs4,Zs2,hat,hat1,hat2,trC,Zt1,Zt3];exact .inr trivial
    ·simp(disch:=omega)only[Za,QM,QD,hk1,Zs4,Zs2,hat,hat1,hat2,trC,Zt1,Zt3];exact .inr trivial
   ·simp(disch:=omega)only[Za,QM,QD,hk1,Zs4,Zs2,hat,hat1,hat2,trC,Zt1,Zt3];exact .inr trivial
 ·rintro e z ⟨rfl,k,hk,rfl⟩
  refine⟨k,hk, ?_⟩;have hx1:[C.v (.int .i64 x.1),C.v (.int .i64 x.2.1),C.v (.int .i64 x.2.2)]=fl trC [x]:=by simp[fl,trC]
  have hput:putAt (fl trC (L++[(0,0,0)])) (k*3) (fl trC [x])=fl trC ((L++[(0,0,0)]).take k++[x]++(L++[(0,0,0)]).drop (k+1)):=Zce Ym _ [x] k;by_cases hkl:k=L.length
  ·subst hkl;have hres:(L++[(0,0,0)]).take L.length++[x]++(L++[(0,0,0)]).drop (L.length+1)=L.take L.length++x::L.drop L.length:=by simp
   rw[hres]at hput;have hfl2:(fl trC (L.take L.length++x::L.drop L.length)).length=(L.length+1)*3:=by rw[Zh Ym];simp
   have htk:Zx6 ((L.length+1)*3) (fl trC (L.take L.length++x::L.drop L.length))=fl trC (L.take L.length++x::L.drop L.length):=Ztc (by omega);have hmin:Nat.min (L.length+1-L.length) (L.length+1-(L.length+1))=0:=by simp
   have hc1:((L.length:Nat):Int)+1=((L.length+1:Nat):Int):=by omega
   simp(disch:=omega)only[Za,QM,QD,hfl,hz,hflz,hc1,Zs2,hmin,Zs4,hx1,hput,hfl2,htk]
  ·have hcp:Zx6 ((L.length-k)*3) (Zx5 (k*3) (fl trC (L++[(0,0,0)])))=fl trC (L.drop k):=by
    rw[Ep Ym,Zb6 Ym]
    congr 1
    rw[List.drop_append_of_le_length hk,Zu2 (by simp),Ztc (by simp)]
   have hput1:putAt (fl trC (L++[(0,0,0)])) ((k+1)*3) (fl trC (L.drop k))=fl trC ((L++[(0,0,0)]).take (k+1)++L.drop k):=by
    rw[Zce Ym,Zuc,show Zx5 (k+1+(L.length-k)) (L++[((0,0,0):Nat×Nat×Nat)])=[] from Zvm (by rw[Ztb,Zwp];omega),Zvc]
   have hflc:(fl trC ((L++[(0,0,0)]).take (k+1)++L.drop k)).length=(L.length+1)*3:=by rw[Zh Ym];simp;omega
   have hput2:putAt (fl trC ((L++[(0,0,0)]).take (k+1)++L.drop k)) (k*3) (fl trC [x])=fl trC (L.take k++x::L.drop k):=by
    rw[Zce Ym]
    congr 1
    have e1:((L++[(0,0,0)]).take (k+1)++L.drop k).take k=L.take k:=by
     rw[Zu2 (by simp;omega),Zxb,Zuf (by omega),Zu2 hk]
    have e2:((L++[(0,0,0)]).take (k+1)++L.drop k).drop (k+[x].length)=L.drop k:=by
     rw[Zxq,Zvm (by simp;omega)];simp[Zuf (show k+1<=L.length+1 by omega)]
    rw[e1,e2];simp
   have hfl2:(fl trC (L.take k++x::L.drop k)).length=(L.length+1)*3:=by rw[Zh Ym];simp;omega
   have htk:Zx6 ((L.length+1)*3) (fl trC (L.take k++x::L.drop k))=fl trC (L.take k++x::L.drop k):=Ztc (by omega);obtain⟨q,hq⟩: ∃q,L.length-k=q+1:=⟨L.length-k-1,by omega⟩;have hmin:Nat.min (L.length+1-k) (L.length+1-(k+1))=q+1:=by
    show min _ _=_;omega
   have hc1:((k:Nat):Int)+1=((k+1:Nat):Int):=by omega
   rw[hq]at hcp;simp(disch:=omega)only[Za,QM,QD,hfl,hz,hflz,hc1,Zs2,hmin,Zs4,hcp,hput1,hflc,hx1,hput2,hfl2,htk]
end
end Go.Proofs.YtjmempcalaliiaaGreatDoor
namespace Go.Proofs.YtjmempcalaliiaaGreatDoor
open Go Go.PM Go.Grid
attribute [local congr] Zu Zv Zw Yd Zx Zy Ye Yf Yg Yh Zz Z0 Yi Yt Yu Yv Yw Yx Yz Y1 Y2 Y4 Yy Z2 Z3 Y5 Z4 Z5 Zj Z6 Z1
abbrev T3:=Nat×Nat×Nat
def Ln (K:List T3×T3->Nat) (L:List T3) (x:T3):List T3:=L.take (K (L,x))++x::L.drop (K (L,x))
def Vt (K:List T3×T3->Nat) (l:List T3):List T3:=l.foldl (Ln K) []
theorem Gc (K:List T3×T3->Nat) (l:List T3) (x:T3):Vt K (l++[x])=Ln K (Vt K l) x:=by simp[Vt]
theorem W0 (K:List T3×T3->Nat) (L:List T3) (x:T3):(Ln K L x).Perm (x::L):=by
 unfold Ln;refine List.perm_middle.trans ?_;rw[Zwn]
theorem W3 (K:List T3×T3->Nat) (l:List T3):(Vt K l).Perm l:=by
 have key: ∀(l acc:List T3),(l.foldl (Ln K) acc).Perm (acc++l):=by
  intro l
  induction l with
  |nil=>intro acc;simp
  |cons x l ih=>
   intro acc;rw[Zuz];refine(ih _).trans (((W0 K acc x).append_right l).trans ?_);exact(List.perm_middle (l₁:=acc) (a:=x) (l₂:=l)).symm
 exact key l []
theorem Fp (K:List T3×T3->Nat) (l:List T3):(Vt K l).length=l.length:=(W3 K l).length_eq
section
variable (fu d:Nat) (hf:18446744073709551616<=fu)
include hf
theorem Zsl (n:Nat) (h:Yb n) (f i j:Nat) (hf':f<20) (hij:i+j<=n) (x y:Int) (hx:x=((i*(840/n):Nat):Int)) (hy:y=((j*(840/n):Nat):Int)):
  cl fu (d+5) fn_synopticref03_at [V.c (C.sl (Zg n).length (fl plc (Zg n))),I f,I x,I y] []=OK (I (idx n (pt n f i j))):=by
 subst hx hy;have:=Zk6 fu d hf n h (pt n f i j) (J2 hf' hij);generalize idx n (pt n f i j)=k at*
 simp only[pt]at this;exact this
set_option maxHeartbeats 8000000 in
theorem Zcf (n:Nat) (h:Yb n): ∃L:List T3,L.Perm (tri n)/\cl fu (d+7) fn_synopticref03_Cells [I n] []=OK (V.tup [V.c (C.sl L.length (fl trC L)),I 0]):=by
 have hn:=h;unfold Yb at hn;have hst:=Vi h;obtain⟨K,hK⟩: ∃K:List T3×T3->Nat,∀p:List T3×T3,p.1.length<=100000->cl fu (d+6) fn_synopticref03_insert [V.own 1000000 0 p.1.length,V.agg (trC p.2)] [.sb ty_api_Cell 0 (fl trC p.1)]=some ⟨V.own 1000001 0 (p.1.length+1),[.dead, .sb ty_api_Cell 0 (fl trC (p.1.take (K p)++p.2::p.1.drop (K p)))],none⟩:=by
  refine Classical.axiomOfChoice (r:=λ(p:List T3×T3) (k:Nat)=>p.1.length<=100000->cl fu (d+6) fn_synopticref03_insert [V.own 1000000 0 p.1.length,V.agg (trC p.2)] [.sb ty_api_Cell 0 (fl trC p.1)]=some ⟨V.own 1000001 0 (p.1.length+1),[.dead, .sb ty_api_Cell 0 (fl trC (p.1.take k++p.2::p.1.drop k))],none⟩) λp=> ?_;by_cases hp:p.1.length<=100000
  ·obtain⟨k,_,hk⟩:=Zla fu (d+5) hf p.1 hp p.2;exact⟨k,λ_=>hk⟩
  ·exact⟨0,λh=>absurd h hp⟩
 have hK: ∀L x,L.length<=100000->cl fu (d+6) fn_synopticref03_insert [V.own 1000000 0 L.length,V.agg (trC x)] [.sb ty_api_Cell 0 (fl trC L)]=some ⟨V.own 1000001 0 (L.length+1),[.dead, .sb ty_api_Cell 0 (fl trC (Ln K L x))],none⟩:=λL x hl=>hK (L,x) hl;have hpl: ∀L x,(Ln K L x).length=L.length+1:=λL x=>by rw[(W0 K L x).length_eq];rfl
 refine⟨Vt K (tri n),W3 K (tri n), ?_⟩;have hle: ∀{f a b:Nat},f<=20->a<=9->b<=9->(Vt K (Uw n f a b)).length<=5000:=λh1 h2 h3=>by rw[Fp];exact Zb9 hn.2 h1 h2 h3
 have hdv: ∀L:List T3,L.length*3/3=L.length:=λL=>by omega
 have hfl: ∀L:List T3,(fl trC L).length=L.length*3:=λL=>Zh Ym L;have hat:=λf i j hf' hij x y hx hy=>Zsl fu (d+1) hf n h f i j hf' hij x y hx hy;have hN:=Zcd fu d hf n h;have hNl:=Y7 h;have hidx: ∀{f i j:Nat},f<20->i+j<=n->idx n (pt n f i j)<=1000000:=λh1 h2=>by have:=C2 h (J2 (n:=n) h1 h2);omega
 rw[eq_synopticref03_Cells,hN,C7 h];generalize (Zg n).length=N at*
 generalize fl plc (Zg n)=nc at*
 simp only[Za,QM];rw[Zn1 rfl,H6 (show(n:Int)≠0 by omega)];simp only[Za,QM];rw[Zk (λf:Nat=>(fl trC (Vt K (Uw n f 0 0)),(f:Int),())) 0 (fl trC (Vt K (tri n)),(20:Int),()) 20 ?_ ?_ ?_ (by omega)]
 ·have h1:(Vt K (tri n)).length<=5000:=by rw[Fp];exact Bc h
  have htk:Zx6 ((Vt K (tri n)).length*3) (fl trC (Vt K (tri n)))=fl trC (Vt K (tri n)):=Ztc (by rw[hfl];omega);simp(disch:=omega)only[Za,QM,QD,hdv,hfl,Zs4,htk]
 ·rfl
 ·intro f hf';have h1:=hle (f:=f) (a:=0) (b:=0) (by omega) (by omega) (by omega);simp(disch:=omega)only[Za,QM,QD,hdv,hfl];rw[Zk (λi:Nat=>(fl trC (Vt K (Uw n f i 0)),((i*(840/n):Nat):Int),())) 0 (fl trC (Vt K (Uw n f n 0)),((n*(840/n):Nat):Int),()) n ?_ ?_ ?_ (by omega)]
  ·simp(disch:=omega)only[Za,QM,QD,hdv,hfl];rw[Zod];rfl
  ·simp only[Zub];rfl
  ·intro i hi;have h1:=hle (f:=f) (a:=i) (b:=0) (by omega) (by omega) (by omega);have hA:=Mz h (show i+1<=n by omega);have hA1:(i+1)*(840/n)=i*(840/n)+840/n:=Zt9 _ _;rw[hA1]at hA⊢;simp(disch:=omega)only[Za,QM,QD,hdv,hfl];rw[Zk (λj:Nat=>(fl trC (Vt K (Uw n f i j)),((j*(840/n):Nat):Int),())) 0 (fl trC (Vt K (Uw n f i (n-i))),(((n-i)*(840/n):Nat):Int),()) (n-i) ?_ ?_ ?_ (by omega)]
   ·simp(disch:=omega)only[Za,QM,QD,hdv,hfl];rw[Zoc];simp only[Zt0]
   ·simp only[Zub];rfl
   ·intro j hj;have h1:=hle (f:=f) (a:=i) (b:=j) (by omega) (by omega) (by omega);have hB1:(j+1)*(840/n)=j*(840/n)+840/n:=Zt9 _ _;have hAB:=Mz h (show i+j+1<=n by omega);have hAB1:(i+j+1)*(840/n)=i*(840/n)+j*(840/n)+840/n:=by rw[Zt9,Zyk]
    rw[hAB1]at hAB;have a1:=hat f (i+1) j hf' (by omega) (((i*(840/n):Nat):Int)+((840/n:Nat):Int)) ((j*(840/n):Nat):Int) (by rw[hA1];omega) rfl;have a2:=hat f i (j+1) hf' (by omega) ((i*(840/n):Nat):Int) (((j*(840/n):Nat):Int)+((840/n:Nat):Int)) rfl (by rw[hB1];omega);have a3:=hat f i j hf' (by omega) ((i*(840/n):Nat):Int) ((j*(840/n):Nat):Int) rfl rfl;have i1:=hidx (f:=f) (i:=i+1) (j:=j) hf' (by omega);have i2:=hidx (f:=f) (i:=i) (j:=j+1) hf' (by omega);have i3:=hidx (f:=f) (i:=i) (j:=j) hf' (by omega);have c1:=Ze2 fu (d+5) _ _ _ i1 i2 i3;have n1:=hK (Vt K (Uw n f i j)) (Xr (idx n (pt n f (i+1) j)) (idx n (pt n f i (j+1))) (idx n (pt n f i j))) (by omega);rw[hB1];by_cases hd:i+j+1<n
    ·have hAB2:=Mz h (show i+j+2<=n by omega);have hAB3:(i+j+2)*(840/n)=i*(840/n)+j*(840/n)+840/n+840/n:=by rw[Zt9,hAB1]
     rw[hAB3]at hAB2;have a4:=hat f (i+1) (j+1) hf' (by omega) (((i*(840/n):Nat):Int)+((840/n:Nat):Int)) (((j*(840/n):Nat):Int)+((840/n:Nat):Int)) (by rw[hA1];omega) (by rw[hB1];omega);have i4:=hidx (f:=f) (i:=i+1) (j:=j+1) hf' (by omega);have c2:=Ze2 fu (d+5) _ _ _ i2 i1 i4;have n2:=hK (Ln K (Vt K (Uw n f i j)) (Xr (idx n (pt n f (i+1) j)) (idx n (pt n f i (j+1))) (idx n (pt n f i j)))) (Xr (idx n (pt n f i (j+1))) (idx n (pt n f (i+1) j)) (idx n (pt n f (i+1) (j+1)))) (by rw[hpl];omega);have hL:Vt K (Uw n f i (j+1))=Ln K (Ln K (Vt K (Uw n f i j)) (Xr (idx n (pt n f (i+1) j)) (idx n (pt n f i (j+1))) (idx n (pt n f i j)))) (Xr (idx n (pt n f i (j+1))) (idx n (pt n f (i+1) j)) (idx n (pt n f (i+1) (j+1)))):=by
      rw[<-Zhf,show X7 n f i j=[tc n (pt n f (i+1) j) (pt n f i (j+1)) (pt n f i j)]++[tc n (pt n f i (j+1)) (pt n f (i+1) j) (pt n f (i+1) (j+1))] by unfold X7;rw[if_pos hd];rfl,<-Zt5,Gc,Gc];rfl
     rw[hL];generalize idx n (pt n f (i+1) j)=q1 at*
     generalize idx n (pt n f i (j+1))=q2 at*
     generalize idx n (pt n f i j)=q3 at*
     generalize idx n (pt n f (i+1) (j+1))=q4 at*
     generalize Xr q1 q2 q3=t1 at*
     generalize Xr q2 q1 q4=t2 at*
     have l1:=hpl (Vt K (Uw n f i j)) t1;rw[l1]at n2;have l2:=hpl (Ln K (Vt K (Uw n f i j)) t1) t2;generalize Ln K (Ln K (Vt K (Uw n f i j)) t1) t2=L2 at*
     generalize Ln K (Vt K (Uw n f i j)) t1=L1 at*
     generalize Vt K (Uw n f i j)=L0 at*
     generalize i*(840/n)=A at*
     generalize j*(840/n)=B at*
     generalize 840/n=s at*
     obtain⟨t11,t12,t13⟩:=t1;obtain⟨t21,t22,t23⟩:=t2;simp only[trC]at c1 n1 c2 n2;simp(disch:=omega)only[Za,QM,QD,a1,a2,a3,a4,c1,n1,c2,n2,out1,hdv,hfl,l1,l2,Zs3,Zs9,Zs4,Nat.reduceAdd,Zt0]
    ·have hnn:i+j+1=n:=by omega
     have hL:Vt K (Uw n f i (j+1))=Ln K (Vt K (Uw n f i j)) (Xr (idx n (pt n f (i+1) j)) (idx n (pt n f i (j+1))) (idx n (pt n f i j))):=by
      rw[<-Zhf,show X7 n f i j=[tc n (pt n f (i+1) j) (pt n f i (j+1)) (pt n f i j)] by unfold X7;rw[if_neg hd],Gc];rfl
     have hAB4:i*(840/n)+j*(840/n)+840/n=840:=by rw[<-hAB1,hnn];exact Rh h
     rw[hL];generalize idx n (pt n f (i+1) j)=q1 at*
     generalize idx n (pt n f i (j+1))=q2 at*
     generalize idx n (pt n f i j)=q3 at*
     generalize Xr q1 q2 q3=t1 at*
     have l1:=hpl (Vt K (Uw n f i j)) t1;generalize Ln K (Vt K (Uw n f i j)) t1=L1 at*
     generalize Vt K (Uw n f i j)=L0 at*
     generalize i*(840/n)=A at*
     generalize j*(840/n)=B at*
     generalize 840/n=s at*
     obtain⟨t11,t12,t13⟩:=t1;simp only[trC]at c1 n1;simp(disch:=omega)only[Za,QM,QD,a1,a2,a3,c1,n1,out1,hdv,hfl,l1,Zs3,Zs9,Zs4,Nat.reduceAdd,Zt0]
   ·have hend:i*(840/n)+(n-i)*(840/n)=840:=by rw[<-Zyk,show i+(n-i)=n by omega];exact Rh h
    have h1:=hle (f:=f) (a:=i) (b:=n-i) (by omega) (by omega) (by omega);generalize (n-i)*(840/n)=B at*
    simp(disch:=omega)only[Za,QM,QD,hdv,hfl]
  ·have h1:=hle (f:=f) (a:=n) (b:=0) (by omega) (by omega) (by omega);have hend:=Rh h;generalize n*(840/n)=B at*
   simp(disch:=omega)only[Za,QM,QD,hdv,hfl]
 ·have h1:=hle (f:=20) (a:=0) (b:=0) (by omega) (by omega) (by omega);simp(disch:=omega)only[Za,QM,QD,hdv,hfl];rw[C8];rfl
end
end Go.Proofs.YtjmempcalaliiaaGreatDoor
namespace Go.Proofs.YtjmempcalaliiaaGreatDoor
open Go Go.PM Go.Grid
attribute [local congr] Zu Zv Zw Yd Zx Zy Ye Yf Yg Yh Zz Z0 Yi Yt Yu Yv Yw Yx Yz Y1 Y2 Y4 Yy Z2 Z3 Y5 Z4 Z5 Zj Z6 Z1
def Rq (z:Int):List Int->List Int
 | []=>[z]
 |y::l=>if y<z then y::Rq z l else if y=z then y::l else z::y::l
theorem Be {z x:Int}: ∀{l:List Int},x∈Rq z l↔x=z\/x∈l
 | []=>by simp[Rq]
 |y::l=>by
  unfold Rq;split
  ·rw[Ztl,Be,Ztl];exact⟨λh=>h.elim (λh=> .inr (.inl h)) λh=>h.elim .inl λh=> .inr (.inr h),λh=>h.elim (λh=> .inr (.inl h)) λh=>h.elim .inl λh=> .inr (.inr h)⟩
  ·split
   ·rename_i h1 h2;subst h2;simp
   ·simp
theorem Ze3 {z:Int}: ∀{l:List Int},l.Pairwise (λa b=>a<b)->(Rq z l).Pairwise (λa b=>a<b)
 | [],h=>by simp[Rq]
 |y::l,h=>by
  rw[Zue]at h;unfold Rq;split
  ·rename_i h1;rw[Zue];refine⟨λx hx=> ?_,Ze3 h.2⟩;rcases Be.1 hx with rfl|hx
   ·exact h1
   ·exact h.1 x hx
  ·split
   ·rw[Zue];exact h
   ·rename_i h1 h2;rw[Zue,Zue];refine⟨λx hx=> ?_,h⟩;rcases Ztl.1 hx with rfl|hx
    ·omega
    ·have:=h.1 x hx;omega
theorem Fq (z:Int): ∀l,(Rq z l).length<=l.length+1
 | []=>by simp[Rq]
 |y::l=>by
  unfold Rq;have:=Fq z l;split
  ·simp;omega
  ·split<;>simp
theorem Zit (z:Int): ∀l:List Int,∃k,k<=l.length/\(∀j (h:j<l.length),j<k->l[j]<z)/\(∀h:k<l.length,¬l[k]<z)/\((∀h:k<l.length,l[k]≠z)->Rq z l=l.take k++z::l.drop k)/\ ∀h:k<l.length,l[k]=z->Rq z l=l
 | []=>⟨0,by simp,by simp,by simp,by simp[Rq],by simp⟩
 |y::l=>by
  obtain⟨k,h1,h2,h3,h4,h5⟩:=Zit z l;by_cases hy:y<z
  ·refine⟨k+1,by simp;omega,λj hj hjk=> ?_,λh=>h3 (by simp at h;omega),λh=> ?_,λh e=> ?_⟩
   ·cases j with
    |zero=>exact hy
    |succ j=>exact h2 j (by simp at hj;omega) (by omega)
   ·unfold Rq;rw[if_pos hy,h4 λh'=>h (by simp;omega)];rfl
   ·unfold Rq;rw[if_pos hy,h5 (by simp at h;omega) e]
  ·refine⟨0,by simp,λj hj hjk=>by omega,λ_=>hy,λh=> ?_,λh e=> ?_⟩
   ·have:y≠z:=h (by simp);unfold Rq;rw[if_neg hy,if_neg this];rfl
   ·have e:y=z:=e;unfold Rq;rw[if_neg hy,if_pos e]
def rC1 (r:List Int):C:=match r with| []=> .nl|_::_=> .sl r.length (ints r)
theorem Te {R:Type} (r:List Int) (k:Nat->List C->Option R):asSl (rC1 r) k=k r.length (ints r):=by cases r<;>rfl
theorem Zsm {r:List Int} (h:r≠[]):rC1 r= .sl r.length (ints r):=by cases r with|nil=>exact absurd rfl h|cons x r=>rfl
theorem Gd (r:List Int) (k:Nat):(ints r).drop k=ints (r.drop k):=(Zxk).symm
theorem Ge (r:List Int) (k:Nat):(ints r).take k=ints (r.take k):=(Zxl).symm
theorem Zlb (r:List Int) (k:Nat) (hk:k<=r.length): ∃c:C,(∀{R:Type} (k':C->Option R),sliceC 1 (some (I k)) none (rC1 r) k'=k' c)/\ ∀{R:Type} (k':Nat->List C->Option R),asSl c k'=k' (r.length-k) (ints (r.drop k)):=by
 cases r with
 |nil=>
  have:k=0:=by simpa using hk
  subst this;exact⟨.nl,λk'=>rfl,λk'=>rfl⟩
 |cons x r=>
  refine⟨.sl ((x::r).length-k) (ints ((x::r).drop k)),λk'=> ?_,λk'=>rfl⟩;have h1:decide ((0:Int)<=(k:Int))=true:=decide_eq_true (by omega);have h2:decide ((k:Int)<=(((x::r).length:Nat):Int))=true:=decide_eq_true (by omega);have h3:((k:Int)).toNat=k:=Zs2 k;show bound none (x::r).length (x::r).length (λh=>bound (some (I k)) 0 h λa=>k' (.sl (h-a) (((ints (x::r)).drop (a*1)).take ((h-a)*1))))=_;show need (decide ((0:Int)<=(k:Int))&&decide ((k:Int)<=(((x::r).length:Nat):Int))) (k' (.sl ((x::r).length-(k:Int).toNat) (((ints (x::r)).drop ((k:Int).toNat*1)).take (((x::r).length-(k:Int).toNat)*1))))=_;rw[h1,h2,h3,Zta,Zta,Gd,Ztc (by rw[Ze,Zuc];omega)];rfl
theorem W4 (R:List (List Int)) {i:Nat} (hi:i<R.length):(R.map rC1).drop i=rC1 (R.getD i [])::(R.map rC1).drop (i+1):=by
 rw[Ztz (by simpa using hi),Zvn,Ztj,Zs6 hi];rfl
theorem Zoo (R:List (List Int)) {i:Nat} (hi:i<R.length) (r:List Int):putAt (R.map rC1) i [rC1 r]=(R.set i r).map rC1:=by
 unfold putAt;rw[List.map_set,Zwh,if_pos (by simpa using hi)];simp
theorem Zqm (N:Nat):reps N [C.nl]=(Zyx N ([]:List Int)).map rC1:=by
 induction N with
 |zero=>rfl
 |succ N ih=>rw[Zvi,Zua,<-ih];unfold reps;rw[Zvi,List.flatten_cons];rfl
def N6 (R:List (List Int)) (p:Nat×Nat):List (List Int):=R.set p.1 (Rq p.2 (R.getD p.1 []))
def prs (t:T3):List (Nat×Nat):=[(t.1,t.2.1),(t.1,t.2.2),(t.2.1,t.2.2),(t.2.1,t.1),(t.2.2,t.1),(t.2.2,t.2.1)]
theorem M1 (R:List (List Int)) (p:Nat×Nat):(N6 R p).length=R.length:=by simp[N6]
theorem Ag (l:List (Nat×Nat)): ∀R,(l.foldl N6 R).length=R.length:=by
 induction l with
 |nil=>intro R;rfl
 |cons p l ih=>intro R;rw[Zuz,ih,M1]
theorem Zlc (R:List (List Int)) (p:Nat×Nat) (i:Nat):(N6 R p).getD i []=if i=p.1/\i<R.length then Rq p.2 (R.getD i [])else R.getD i []:=by
 unfold N6;rw[Ztj,Zxi];by_cases h:p.1=i
 ·subst h;by_cases hl:p.1<R.length
  ·simp[hl]
  ·rw[if_pos rfl,if_neg hl,if_neg (λe=>hl e.2),Ztj,Zux (by omega)]
 ·rw[if_neg h,if_neg (λe=>h e.1.symm),Ztj]
theorem Zld {R:List (List Int)} {p:Nat×Nat} (h:Rq p.2 (R.getD p.1 [])=R.getD p.1 []):N6 R p=R:=by
 unfold N6;rw[h];by_cases hl:p.1<R.length
 ·rw[Ztj,Zs6 hl];exact List.set_getElem_self hl
 ·exact List.set_eq_of_length_le (by omega)
theorem Zhh (l:List (Nat×Nat)): ∀(R:List (List Int)) (i:Nat),(∀r,R.getD i []=r->r.Pairwise (λa b=>a<b))->((l.foldl N6 R).getD i []).Pairwise (λa b=>a<b)/\(i<R.length-> ∀x,x∈(l.foldl N6 R).getD i []↔x∈R.getD i []\/ ∃k:Nat,x=k/\(i,k)∈l)/\((l.foldl N6 R).getD i []).length<=(R.getD i []).length+l.length:=by
 induction l with
 |nil=>intro R i h;exact⟨h _ rfl,λ_ x=>by simp,by simp⟩
 |cons p l ih=>
  intro R i h;rw[Zuz];have hg:=Zlc R p i;obtain⟨a1,a2,a3⟩:=ih (N6 R p) i (λr hr=>by
   subst hr;rw[hg];split
   ·exact Ze3 (h _ rfl)
   ·exact h _ rfl)
  refine⟨a1,λhi x=> ?_, ?_⟩
  ·rw[a2 (by rw[M1];exact hi),hg];by_cases hp:i=p.1
   ·subst hp;rw[if_pos ⟨rfl,hi⟩,Be];constructor
    ·rintro ((rfl|h1)|⟨k,h1,h2⟩)
     ·exact .inr ⟨p.2,rfl,Zum ..⟩
     ·exact .inl h1
     ·exact .inr ⟨k,h1,Ztp _ h2⟩
    ·rintro (h1|⟨k,h1,h2⟩)
     ·exact .inl (.inr h1)
     ·rcases Ztl.1 h2 with h2|h2
      ·have e:k=p.2:=congrArg Prod.snd h2;exact .inl (.inl (h1.trans (by rw[e])))
      ·exact .inr ⟨k,h1,h2⟩
   ·rw[if_neg (λe=>hp e.1)];constructor
    ·rintro (h1|⟨k,h1,h2⟩)
     ·exact .inl h1
     ·exact .inr ⟨k,h1,Ztp _ h2⟩
    ·rintro (h1|⟨k,h1,h2⟩)
     ·exact .inl h1
     ·rcases Ztl.1 h2 with h2|h2
      ·subst h2;exact absurd rfl hp
      ·exact .inr ⟨k,h1,h2⟩
  ·rw[hg]at a3;rw[Zs3];split at a3
   ·have:=Fq p.2 (R.getD i []);omega
   ·omega
theorem prs_length (L:List T3):(L.flatMap prs).length=L.length*6:=by
 induction L with
 |nil=>rfl
 |cons x L ih=>rw[Zuq,Ztb,ih,Zs3];simp only[prs,Zs3,Zs9];omega
theorem Gf (N i:Nat):(Zyx N ([]:List Int)).getD i []=[]:=by
 rw[Ztj,Zwg];split<;>rfl
theorem Pz {N:Nat} {l:List (Nat×Nat)} (i:Nat):((l.foldl N6 (Zyx N [])).getD i []).Pairwise (λa b=>a<b)/\(i<N-> ∀x,x∈(l.foldl N6 (Zyx N [])).getD i []↔ ∃k:Nat,x=k/\(i,k)∈l)/\((l.foldl N6 (Zyx N [])).getD i []).length<=l.length:=by
 obtain⟨h1,h2,h3⟩:=Zhh l (Zyx N []) i (λr hr=>by rw[Gf]at hr;subst hr;exact .nil);refine⟨h1,λhi x=> ?_, ?_⟩
 ·rw[h2 (by simpa using hi),Gf];simp
 ·rw[Gf]at h3;simpa using h3
end Go.Proofs.YtjmempcalaliiaaGreatDoor
namespace Go.Proofs.YtjmempcalaliiaaGreatDoor
open Go Go.PM Go.Grid
attribute [local congr] Zu Zv Zw Yd Zx Zy Ye Yf Yg Yh Zz Z0 Yi Yt Yu Yv Yw Yx Yz Y1 Y2 Y4 Yy Z2 Z3 Y5 Z4 Z5 Zj Z6 Z1
def Pa (N:Nat) (l:List (Nat×Nat)):List (List Int):=l.foldl N6 (Zyx N [])
theorem Zle (N:Nat) (l:List (Nat×Nat)) (p:Nat×Nat):Pa N (l++[p])=N6 (Pa N l) p:=by simp[Pa]
theorem Fs (N:Nat) (l:List (Nat×Nat)):(Pa N l).length=N:=by unfold Pa;rw[Ag];simp
theorem put2 (a b:C):putAt [C.v (.int .i64 0),C.v (.int .i64 0)] 0 [a,b]=[a,b]:=rfl
theorem ints_at (r:List Int) {m:Nat} (h:m<r.length):(ints r).drop m=C.v (.int .i64 r[m])::ints (r.drop (m+1)):=by
 rw[Gd,Ztz h];rfl
section
variable (fu d:Nat) (hf:18446744073709551616<=fu)
include hf
set_option maxHeartbeats 8000000 in
theorem Ah (n:Nat) (h:Yb n): ∃L:List T3,L.Perm (tri n)/\cl fu (d+8) fn_synopticref03_around [I n] []=OK (V.c (C.sl (Zg n).length ((Pa (Zg n).length (L.flatMap prs)).map rC1))):=by
 have hn:=h;unfold Yb at hn;obtain⟨L,hp,hC⟩:=Zcf fu d hf n h;have hN:=Tb h;have hNl:=Y7 h;have hcnt:=Nt fu (d+6) n h;rw[<-hN]at hcnt;have hin: ∀t∈L,t.1<(Zg n).length/\t.2.1<(Zg n).length/\t.2.2<(Zg n).length:=λt ht=>Zcb h t (hp.mem_iff.1 ht);have hLl:L.length<=5000:=by rw[hp.length_eq];exact Bc h
 refine⟨L,hp, ?_⟩;generalize (Zg n).length=N at*
 have hR0:(Pa N []).map rC1=reps N [C.nl]:=by rw[Zqm];rfl
 have hRl:=Fs N;have hrow: ∀l i,((Pa N l).getD i []).length<=l.length:=λl i=>(Pz (N:=N) (l:=l) i).2.2;rw[eq_synopticref03_around,hC];simp(disch:=omega)only[Za,QM,QD,hcnt,Zs2,Qw,Zs3,Zs9,Zs4,Zta];rw[Zk (λj:Nat=>((Pa N ((L.take j).flatMap prs)).map rC1,(j:Int),())) 0 ((Pa N (L.flatMap prs)).map rC1,((L.length:Nat):Int),()) L.length ?_ ?_ ?_ (by omega)]
 ·have htk:Zx6 N ((Pa N (L.flatMap prs)).map rC1)=(Pa N (L.flatMap prs)).map rC1:=Ztc (by rw[Zti,hRl];exact Ztf _);simp(disch:=omega)only[Za,QM,QD,Zti,hRl,Zto,Zta,Zs4,htk]
 ·rw[<-hR0];rfl
 ·intro j hj;have hat:=Jz Ym hj;have hts:=hin L[j] (Zt6 hj);have hnx:(L.take (j+1)).flatMap prs=(L.take j).flatMap prs++prs L[j]:=by rw[Ztw hj,Zva];simp
  have hl0:((L.take j).flatMap prs).length=j*6:=by rw[prs_length,Zty,Zuf (by omega)]
  rw[hnx];generalize (L.take j).flatMap prs=l0 at*
  generalize L[j]=t at*
  obtain⟨x,y,z⟩:=t;simp only[trC]at hat hts;simp(disch:=omega)only[Za,QM,QD,Zs2,hat,Zt1,Zt3,Zti,hRl,Zto,Zta];rw[Zk (λq:Nat=>((Pa N (l0++(prs (x,y,z)).take q)).map rC1,(q:Int),())) 0 ((Pa N (l0++prs (x,y,z))).map rC1,(6:Int),()) 6 ?_ ?_ ?_ (by omega)]
  ·simp(disch:=omega)only[Za,QM,QD,Zti,hRl,Zto,Zta];rfl
  ·simp only[Zuy,Zvc];rfl
  ·intro q hq;have hpl:(prs (x,y,z)).length=6:=rfl;have hq':q<(prs (x,y,z)).length:=hq;have hnx2:l0++(prs (x,y,z)).take (q+1)=(l0++(prs (x,y,z)).take q)++[(prs (x,y,z))[q]]:=by rw[Ztw hq',Zt5]
   have hl1:(l0++(prs (x,y,z)).take q).length<=30000:=by rw[Ztb,Zty,hl0];omega
   have h12:Zx6 2 (Zx5 (q*2) [C.v (.int .i64 (x:Int)),C.v (.int .i64 (y:Int)),C.v (.int .i64 (x:Int)),C.v (.int .i64 (z:Int)),C.v (.int .i64 (y:Int)),C.v (.int .i64 (z:Int)),C.v (.int .i64 (y:Int)),C.v (.int .i64 (x:Int)),C.v (.int .i64 (z:Int)),C.v (.int .i64 (x:Int)),C.v (.int .i64 (z:Int)),C.v (.int .i64 (y:Int))])=[C.v (.int .i64 ((prs (x,y,z))[q].1:Int)),C.v (.int .i64 ((prs (x,y,z))[q].2:Int))]:=by
    rcases(show q=0\/q=1\/q=2\/q=3\/q=4\/q=5 by omega)with rfl|rfl|rfl|rfl|rfl|rfl<;>rfl
   have hpin:(prs (x,y,z))[q].1<N:=by
    rcases(show q=0\/q=1\/q=2\/q=3\/q=4\/q=5 by omega)with rfl|rfl|rfl|rfl|rfl|rfl<;>(simp only[prs,List.getElem_cons_zero,List.getElem_cons_succ];omega)
   rw[hnx2,Zle];generalize (prs (x,y,z))[q]=pr at*
   generalize l0++(prs (x,y,z)).take q=l1 at*
   obtain⟨a,b⟩:=pr;simp only at hpin h12;have hrl:=hrow l1 a;have hRN:=hRl l1;generalize Pa N l1=R at*
   have hdr:=W4 R (show a<R.length by omega);have hput:=Zoo R (show a<R.length by omega);obtain⟨k,k1,k2,k3,k4,k5⟩:=Zit (b:Int) (R.getD a []);obtain⟨c,c1,c2⟩:=Zlb (R.getD a []) k k1;have hadd:N6 R (a,b)=R.set a (Rq (b:Int) (R.getD a [])):=rfl;have hsame:=Zld (R:=R) (p:=(a,b));simp only at hsame;have hal:=M1 R (a,b);generalize R.getD a []=row at*
   simp(disch:=omega)only[Za,QM,QD,Zs2,Zuc,Zs3,Zs9,Zs4,Nat.reduceAdd,h12,Zti,hRN,Zto,Zta,put2];rw[Zk (λm:Nat=>(R.map rC1,(m:Int),[C.v (.int .i64 (a:Int)),C.v (.int .i64 (b:Int))],())) 0 (R.map rC1,(k:Int),[C.v (.int .i64 (a:Int)),C.v (.int .i64 (b:Int))],()) k ?_ ?_ ?_ (by omega)]
   ·have hnew:Rq (b:Int) row=row.take k++(b:Int)::row.drop k->putAt (R.map rC1) a [C.sl (k+(1+(row.length-k))) (ints (row.take k)++([C.v (.int .i64 (b:Int))]++ints (row.drop k)))]=(N6 R (a,b)).map rC1:=by
     intro e;have e1:(row.take k++(b:Int)::row.drop k).length=k+(1+(row.length-k)):=by rw[Ztb,Zs3,Zuc,Zty,Zuf k1];omega
     have e2:ints (row.take k++(b:Int)::row.drop k)=ints (row.take k)++([C.v (.int .i64 (b:Int))]++ints (row.drop k)):=by simp[ik]
     rw[hadd,e,<-hput,Zsm (by simp),e1,e2]
    have e0:Zx5 1 [C.v (.int .i64 (a:Int)),C.v (.int .i64 (b:Int))]=[C.v (.int .i64 (b:Int))]:=rfl;by_cases hk:k<row.length
    ·have hia:=ints_at row hk;by_cases hb:row[k]=(b:Int)
     ·rw[hsame (k5 hk hb)];simp(disch:=omega)only[Za,QM,QD,Zs4,Zta,Zto,Zs2,hdr,Te,hia,e0,Zti,hRN];rfl
     ·have hnew:=hnew (k4 λ_=>hb);have hnl:(putAt (R.map rC1) a [C.sl (k+(1+(row.length-k))) (ints (row.take k)++([C.v (.int .i64 (b:Int))]++ints (row.drop k)))]).length=N:=by rw[hnew,Zti,hal,hRN]
      simp(disch:=omega)only[Za,QM,QD,Zs4,Zta,Zto,Zs2,hdr,Te,hia,e0,c1,c2,Zti,hRN,Ze,Ge,Ztb,Zs3,Zs9,Zuc,Zty,Zuf,hnl,decide_true];rw[hnew];rfl
    ·have hnew:=hnew (k4 λh=>absurd h hk);have hnl:(putAt (R.map rC1) a [C.sl (k+(1+(row.length-k))) (ints (row.take k)++([C.v (.int .i64 (b:Int))]++ints (row.drop k)))]).length=N:=by rw[hnew,Zti,hal,hRN]
     simp(disch:=omega)only[Za,QM,QD,Zs4,Zta,Zto,Zs2,hdr,Te,e0,c1,c2,Zti,hRN,Ze,Ge,Ztb,Zs3,Zs9,Zuc,Zty,Zuf,hnl,decide_true];rw[hnew];rfl
   ·rfl
   ·intro m hm;have hml:m<row.length:=by omega
    have hlt:=k2 m hml hm;have hia:=ints_at row hml;have e0:Zx5 1 [C.v (.int .i64 (a:Int)),C.v (.int .i64 (b:Int))]=[C.v (.int .i64 (b:Int))]:=rfl;simp(disch:=omega)only[Za,QM,QD,Zs4,Zta,Zto,Zs2,hdr,Te,hia,e0,Zti,hRN];rfl
   ·have e0:Zx5 1 [C.v (.int .i64 (a:Int)),C.v (.int .i64 (b:Int))]=[C.v (.int .i64 (b:Int))]:=rfl;by_cases hk:k<row.length
    ·have hge:=k3 hk;have hia:=ints_at row hk;simp(disch:=omega)only[Za,QM,QD,Zs4,Zta,Zto,Zs2,hdr,Te,hia,e0,Zti,hRN]
    ·simp(disch:=omega)only[Za,QM,QD,Zs4,Zta,Zto,Zs2,hdr,Te,e0,Zti,hRN]
  ·simp(disch:=omega)only[Za,QM,QD,Zti,hRl,Zto,Zta];rfl
 ·rw[Zud];simp(disch:=omega)only[Za,QM,QD,Zti,hRl,Zto,Zta]
end
end Go.Proofs.YtjmempcalaliiaaGreatDoor
namespace Go.Proofs.YtjmempcalaliiaaGreatDoor
open Go Go.PM Go.Grid
attribute [local congr] Zu Zv Zw Yd Zx Zy Ye Yf Yg Yh Zz Z0 Yi Yt Yu Yv Yw Yx Yz Y1 Y2 Y4 Yy Z2 Z3 Y5 Z4 Z5 Zj Z6 Z1
def ltE (a b:Ed):Prop:=a.1<b.1\/a.1=b.1/\a.2<b.2
theorem Bf (a:Ed): ¬ltE a a:=by unfold ltE;omega
theorem Zlf {a b:Ed} (h:ltE a b): ¬ltE b a:=by unfold ltE at*;omega
theorem J6: ∀{p q:List Ed},p.Pairwise ltE->q.Pairwise ltE->(∀x,x∈p↔x∈q)->p=q
 | [],[],_,_,_=>rfl
 | [],b::q,_,_,h=>by have:=(h b).2 (Zum ..);cases this
 |a::p,[],_,_,h=>by have:=(h a).1 (Zum ..);cases this
 |a::p,b::q,hp,hq,h=>by
  rw[Zue]at hp hq;have e:a=b:=by
   rcases Ztl.1 ((h a).1 (Zum ..))with h1|h1
   ·exact h1
   ·rcases Ztl.1 ((h b).2 (Zum ..))with h2|h2
    ·exact h2.symm
    ·exact absurd (hp.1 b h2) (Zlf (hq.1 a h1))
  subst e;have:p=q:=J6 hp.2 hq.2 λx=>by
   constructor
   ·intro hx;rcases Ztl.1 ((h x).1 (Ztp _ hx))with h1|h1
    ·subst h1;exact absurd (hp.1 x hx) (Bf x)
    ·exact h1
   ·intro hx;rcases Ztl.1 ((h x).2 (Ztp _ hx))with h1|h1
    ·subst h1;exact absurd (hq.1 x hx) (Bf x)
    ·exact h1
  rw[this]
theorem Bg {α:Type} [Inhabited α] (l:List α) {j:Nat} (hj:j<l.length):l.toArray[j]! =l[j]:=by
 rw[getElem!_pos l.toArray j (by simpa using hj)];simp
theorem Gg {α:Type} [Inhabited α] [DecidableEq α] (l:List α) {j:Nat} (hj:j<l.length):Lib.keeps l.toArray j=true↔j=0\/ ∃h:0<j,l[j]≠l[j-1]:=by
 unfold Lib.keeps;rw[Bg l hj,Bg l (show j-1<l.length by omega)];simp;constructor
 ·rintro (h|h)
  ·exact .inl h
  ·by_cases h0:j=0
   ·exact .inl h0
   ·exact .inr ⟨by omega,h⟩
 ·rintro (h|⟨_,h⟩)
  ·exact .inl h
  ·exact .inr h
theorem compact_all {α:Type} [Inhabited α] [DecidableEq α] (l:List α): ∀(j:Nat) (hj:j<l.length),l[j]∈Lib.compact l:=by
 have key: ∀(j:Nat) (hj:j<l.length),Lib.keeps l.toArray j=true->l[j]∈Lib.compact l:=by
  intro j hj hk;unfold Lib.compact Lib.compactUpTo;rw[<-Bg l hj];exact List.mem_map_of_mem (Zw0.2 ⟨Zut.2 hj,hk⟩)
 intro j
 induction j with
 |zero=>intro hj;exact key 0 hj ((Gg l hj).2 (.inl rfl))
 |succ j ih=>
  intro hj;by_cases e:l[j+1]=l[j]
  ·rw[e];exact ih (by omega)
  ·exact key (j+1) hj ((Gg l hj).2 (.inr ⟨by omega,e⟩))
theorem Ze4 (l:List Ed) (h:l.Pairwise λa b=>leZ a b=true):(Lib.compact l).Pairwise ltE:=by
 unfold Lib.compact Lib.compactUpTo;rw[List.pairwise_map,List.pairwise_filter];refine(Zzi (n:=l.length)).imp_of_mem λ{a b} ha hb hab ka kb=> ?_;have ha:=Zut.1 ha;have hb:=Zut.1 hb;rw[Bg l ha,Bg l hb];rcases(Gg l hb).1 kb with h0|⟨h0,hne⟩
 ·omega
 have g:=Zwc.1 h;have h1:leZ l[a] l[b-1]=true:=by
  by_cases e:a=b-1
  ·subst e;rw[T1];exact .inr ⟨rfl,by omega⟩
  ·exact g a (b-1) ha (by omega) (by omega)
 have h2:leZ l[b-1] l[b]=true:=g (b-1) b (by omega) hb (by omega);have h3:l[b]≠l[b-1]:=hne;generalize l[a]=u at*
 generalize l[b]=v at*
 generalize l[b-1]=w at*
 have h4: ¬leZ v w=true:=λe=>h3 (Zey _ _ e h2);rw[T1]at h1 h2 h4;unfold ltE;omega
theorem Zqn (n:Nat):(edg n).Pairwise ltE:=Ze4 _ (Le (λa b=>by rw[T1,T1];omega) (λa b c h h'=>by rw[T1]at h h'⊢;omega) _)
theorem Ziu (n:Nat) (e:Ed):e∈edg n↔e∈C3 n:=by
 constructor
 ·intro h;exact(Xp leZ _).mem_iff.1 (Fl h)
 ·intro h;have h:=(Xp leZ _).mem_iff.2 h;obtain⟨j,hj,rfl⟩:=Zw4 h;exact compact_all _ j hj
theorem Ze5 (n:Nat) (e:Ed):e∈C3 n↔ ∃t∈tri n,e∈Ks t:=by
 unfold C3;rw[Zu6];exact⟨λ⟨t,h,h'⟩=>⟨t,(Xp leT _).mem_iff.1 h,h'⟩,λ⟨t,h,h'⟩=>⟨t,(Xp leT _).mem_iff.2 h,h'⟩⟩
theorem Ze6 {i j k:Nat} (h1:i≠j) (h2:i≠k) (h3:j≠k):(Xr i j k).1<(Xr i j k).2.1/\(Xr i j k).2.1<(Xr i j k).2.2:=by
 unfold Xr;split<;>split<;>try split
 all_goals first|(simp only;omega)|omega
theorem pt_ne {n f a b a' b':Nat} (h:Yb n) (hne:a≠a'\/b≠b'):pt n f a b≠pt n f a' b':=by
 intro e;have hs:=Vi h;have e1:a*(840/n)=a'*(840/n):=congrArg Pl.a e;have e2:b*(840/n)=b'*(840/n):=congrArg Pl.b e;rcases hne with hne|hne
 ·exact hne (Zxe (by omega) e1)
 ·exact hne (Zxe (by omega) e2)
theorem Zop {n:Nat} (h:Yb n): ∀t∈tri n,t.1<t.2.1/\t.2.1<t.2.2:=by
 intro t ht;unfold tri Jx rowC at ht;simp only[Zu6,Zut]at ht;obtain⟨f,hf,a,ha,b,hb,ht⟩:=ht;have hp: ∀i j i' j',i+j<=n->i'+j'<=n->(i≠i'\/j≠j')->idx n (pt n f i j)≠idx n (pt n f i' j'):=λi j i' j' h1 h2 h3 e=>pt_ne h h3 (Zp9 h (J2 hf h1) (J2 hf h2) rfl e);unfold X7 at ht;rcases Ztl.1 ht with rfl|ht
 ·exact Ze6 (hp _ _ _ _ (by omega) (by omega) (by omega)) (hp _ _ _ _ (by omega) (by omega) (by omega)) (hp _ _ _ _ (by omega) (by omega) (by omega))
 ·split at ht
  ·obtain rfl:=Zxd.1 ht;exact Ze6 (hp _ _ _ _ (by omega) (by omega) (by omega)) (hp _ _ _ _ (by omega) (by omega) (by omega)) (hp _ _ _ _ (by omega) (by omega) (by omega))
  ·cases ht
def rowE (i:Nat) (r:List Int):List Ed:=(r.filter λk=>decide ((i:Int)<k)).map λk=>((i:Int),k)
def edgR (N:Nat) (A:List (List Int)):List Ed:=(Zyf N).flatMap λi=>rowE i (A.getD i [])
theorem Zqo {n:Nat} (h:Yb n) {L:List T3} (hp:L.Perm (tri n)):edgR (Zg n).length (Pa (Zg n).length (L.flatMap prs))=edg n:=by
 refine J6 ?_ (Zqn n) λe=> ?_
 ·unfold edgR;refine Q7 (Q:=λa b=>a<b) Zzi (λi _=> ?_) λi _ j _ hij u hu v hv=> ?_
  ·unfold rowE;rw[List.pairwise_map];exact((Pz i).1.filter _).imp λ{a b} h=> .inr ⟨rfl,h⟩
  ·unfold rowE at hu hv;obtain⟨x,_,rfl⟩:=Zvh.1 hu;obtain⟨y,_,rfl⟩:=Zvh.1 hv;refine .inl ?_;show(i:Int)<(j:Int);omega
 ·rw[Ziu,Ze5];unfold edgR;rw[Zu6];constructor
  ·rintro ⟨i,hi,he⟩
   have hi:=Zut.1 hi;unfold rowE at he;obtain⟨k,hk,rfl⟩:=Zvh.1 he;obtain⟨h1,h2⟩:=Zw0.1 hk;have h2:=of_decide_eq_true h2;obtain⟨k',rfl,h3⟩:=((Pz i).2.1 hi k).1 h1;obtain⟨t,ht,h4⟩:=Zu6.1 h3;have ht:=hp.mem_iff.1 ht;obtain⟨l1,l2⟩:=Zop h t ht;refine⟨t,ht, ?_⟩;obtain⟨x,y,z⟩:=t;simp only[prs,Ks,Ztl,Zvo,or_false,Prod.mk.injEq]at h4 l1 l2⊢;omega
  ·rintro ⟨t,ht,he⟩
   obtain⟨l1,l2⟩:=Zop h t ht;obtain⟨b1,b2,b3⟩:=Zcb h t ht;have hL:=hp.mem_iff.2 ht;have key: ∀i k:Nat,(i,k)∈prs t->i<k->i<(Zg n).length->e=((i:Int),(k:Int))-> ∃a,a∈Zyf (Zg n).length/\e∈rowE a ((Pa (Zg n).length (L.flatMap prs)).getD a []):=by
    intro i k hik hlt hi e1;refine⟨i,Zut.2 hi, ?_⟩;unfold rowE;rw[e1];refine Zvh.2 ⟨(k:Int),Zw0.2 ⟨((Pz i).2.1 hi _).2 ⟨k,rfl,Zu6.2 ⟨t,hL,hik⟩⟩,decide_eq_true (by omega)⟩,rfl⟩
   simp only[Ks,Ztl,Zvo,or_false]at he;rcases he with e1|e1|e1
   ·exact key t.1 t.2.1 (by simp[prs]) l1 b1 e1
   ·exact key t.1 t.2.2 (by simp[prs]) (by omega) b1 e1
   ·exact key t.2.1 t.2.2 (by simp[prs]) l2 b2 e1
section
variable (fu d:Nat) (hf:18446744073709551616<=fu)
include hf
set_option maxHeartbeats 4000000 in
theorem Qk (n:Nat) (h:Yb n):cl fu (d+9) fn_synopticref03_Edges [I n] []=OK (V.tup [V.c (C.sl (edg n).length (fl edC (edg n))),I 0]):=by
 obtain⟨L,hp,hA⟩:=Ah fu d hf n h;have hE:=Zqo h hp;have heL:=Uu h;have hNl:=Y7 h;have hcnt:=Nt fu (d+7) n h;have hRl:=Fs (Zg n).length (L.flatMap prs);have hin: ∀i,∀k∈(Pa (Zg n).length (L.flatMap prs)).getD i [],i<(Zg n).length->0<=k/\k<=1000:=by
  intro i k hk hi;obtain⟨k',rfl,h3⟩:=((Pz i).2.1 hi k).1 hk;obtain⟨t,ht,h4⟩:=Zu6.1 h3;obtain⟨b1,b2,b3⟩:=Zcb h t (hp.mem_iff.1 ht);obtain⟨x,y,z⟩:=t;simp only[prs,Ztl,Zvo,or_false,Prod.mk.injEq]at h4 b1 b2 b3;omega
 have hrl: ∀i,((Pa (Zg n).length (L.flatMap prs)).getD i []).length<=30000:=λi=>by
  have h1:((Pa (Zg n).length (L.flatMap prs)).getD i []).length<=(L.flatMap prs).length:=(Pz i).2.2;have h2:=Bc h;rw[prs_length,hp.length_eq]at h1;omega
 generalize Pa (Zg n).length (L.flatMap prs)=A at*
 unfold edgR at hE;generalize (Zg n).length=N at*
 have hpre: ∀j,j<=N->((Zyf j).flatMap λi=>rowE i (A.getD i [])).length<=15000:=by
  intro j hj;rw[<-hE]at heL;refine Ztq ?_ heL;obtain⟨m,rfl⟩:=Nat.exists_eq_add_of_le hj;rw[List.range_add,Zva,Ztb];omega
 rw[<-hE];rw[eq_synopticref03_Edges,hcnt];simp only[Za,QM];rw[H6 Ze1,hA];simp only[Za,QM];rw[Zk (λj:Nat=>(fl edC ((Zyf j).flatMap λi=>rowE i (A.getD i [])),(j:Int),())) 0 (fl edC ((Zyf N).flatMap λi=>rowE i (A.getD i [])),(N:Int),()) N ?_ ?_ ?_ (by omega)]
 ·have hl:=Zh Xq ((Zyf N).flatMap λi=>rowE i (A.getD i []));generalize (Zyf N).flatMap (λi=>rowE i (A.getD i []))=E at*
  have hdv:E.length*2/2=E.length:=by omega
  have htk:Zx6 (E.length*2) (fl edC E)=fl edC E:=Ztc (by omega);simp(disch:=omega)only[Za,QM,QD,hl,hdv,Zs4,htk]
 ·rfl
 ·intro j hj;have hdr:=W4 A (show j<A.length by omega);have hb:=hpre j (by omega);have hb2:=hpre (j+1) (by omega);have hsu:(Zyf (j+1)).flatMap (λi=>rowE i (A.getD i []))=(Zyf j).flatMap (λi=>rowE i (A.getD i []))++rowE j (A.getD j []):=by rw[Zu5,Zva];simp
  rw[hsu]at hb2⊢;have hk:=λk hk=>hin j k hk hj;have hrl:=hrl j;generalize (Zyf j).flatMap (λi=>rowE i (A.getD i []))=E0 at*
  generalize A.getD j []=row at*
  have hdv: ∀E:List Ed,E.length*2/2=E.length:=λE=>by omega
  have hl:=λE=>Zh Xq E;have hro: ∀m,m<=row.length->(rowE j (row.take m)).length<=m:=by
   intro m hm;unfold rowE;rw[Zti];exact Ztq (Zwo ..) (by rw[Zty];omega)
  simp(disch:=omega)only[Za,QM,QD,Te,Zs2,Zta,hdr,hl,hdv];rw[Zk (λm:Nat=>(fl edC (E0++rowE j (row.take m)),(m:Int),())) 0 (fl edC (E0++rowE j row),((row.length:Nat):Int),()) row.length ?_ ?_ ?_ (by omega)]
  ·simp(disch:=omega)only[Za,QM,QD,hl,hdv];rfl
  ·simp only[Zuy,rowE,Zzc,Zv9,Zvc];rfl
  ·intro m hm;have hia:=ints_at row hm;have hkm:=hk row[m] (Zt6 hm);have hr1:=hro m (by omega);have hr2:=hro (m+1) (by omega);have hst:rowE j (row.take (m+1))=rowE j (row.take m)++(if(j:Int)<row[m]then[((j:Int),row[m])]else[]):=by
    unfold rowE;rw[Ztw hm,Zzb,Zu1];by_cases hlt:(j:Int)<row[m]
    ·rw[if_pos hlt];simp[hlt]
    ·rw[if_neg hlt];simp[hlt]
   rw[hst]at hr2⊢;generalize row[m]=v at*
   generalize rowE j (row.take m)=E1 at*
   have hEl:(E0++E1).length<=100000:=by rw[Ztb];omega
   by_cases hlt:(j:Int)<v
   ·rw[if_pos hlt]at hr2⊢;rw[<-Zt5];have hsn:fl edC (E0++E1)++[C.v (.int .i64 (j:Int)),C.v (.int .i64 v)]=fl edC (E0++E1++[((j:Int),v)]):=Jy (E0++E1) ((j:Int),v);have hsl:(E0++E1++[((j:Int),v)]).length=(E0++E1).length+1:=by rw[Ztb];rfl
    generalize E0++E1++[((j:Int),v)]=E3 at*
    generalize E0++E1=E2 at*
    simp(disch:=omega)only[Za,QM,QD,Te,Zs2,Zta,hia,hl,hdv,hsn,hsl];rfl
   ·rw[if_neg hlt,Zvc];generalize E0++E1=E2 at*
    simp(disch:=omega)only[Za,QM,QD,Te,Zs2,Zta,hia,hl,hdv];rfl
  ·rw[Zud];simp(disch:=omega)only[Za,QM,QD,hl,hdv]
 ·have hl:=Zh Xq ((Zyf N).flatMap λi=>rowE i (A.getD i []));have hle:=hpre N (by omega);generalize (Zyf N).flatMap (λi=>rowE i (A.getD i []))=E at*
  have hdv:E.length*2/2=E.length:=by omega
  simp(disch:=omega)only[Za,QM,QD,hl,hdv]
end
end Go.Proofs.YtjmempcalaliiaaGreatDoor
namespace Go.Proofs.YtjmempcalaliiaaGreatDoor
open Go Go.PM Go.Grid
attribute [local congr] Zu Zv Zw Yd Zx Zy Ye Yf Yg Yh Zz Z0 Yi Yt Yu Yv Yw Yx Yz Y1 Y2 Y4 Yy Z2 Z3 Y5 Z4 Z5 Zj Z6 Z1
def bytes (bs:List Int):Prop:=(∀x∈bs,0<=x/\x<=255)/\bs.length<=1000
abbrev Yo (bs:List Int) (i:Nat):PM.Obj:= .ob ty_synopticfield_Codes 0 [C.sl bs.length (ik .u8 bs),C.v (.int .i64 (i:Int))]
def wid (lo hi:Int) (l:List Int):Prop:= ∀v∈l,lo<=v/\v<=hi
theorem Ze7 {lo hi:Int} {l:List Int} {v:Int} (h:wid lo hi l) (hv:lo<=v/\v<=hi):wid lo hi (l++[v]):=by
 intro x hx;rcases Zvb.1 hx with hx|hx
 ·exact h x hx
 ·rw[Zxd.1 hx];exact hv
theorem Sf {lo hi lo' hi':Int} {l:List Int} (h:wid lo hi l) (h1:lo'<=lo) (h2:hi<=hi'):wid lo' hi' l:=λv hv=>by have:=h v hv;omega
theorem Zoq {lo hi:Int} {l:List Int} (h:wid lo hi l) {j:Nat} (hj:j<l.length):lo<=l[j]/\l[j]<=hi:=h _ (Zt6 hj)
theorem ik_at (kd:IntKind) (r:List Int) {m:Nat} (h:m<r.length):(ik kd r).drop m=C.v (.int kd r[m])::ik kd (r.drop (m+1)):=by
 unfold ik;rw[<-Zxk,Ztz h,Zua]
theorem or24 {x y:Nat} (hx:x<16777216) (hy:y<16777216): ∃z:Nat,z<16777216/\Zx2.wrap ((BitVec.ofInt (Zx9 .i64) (x:Int)|||BitVec.ofInt (Zx9 .i64) (y:Int)).toNat:Int)=(z:Int):=by
 have h1: ∀x:Nat,x<16777216->(BitVec.ofInt (Zx9 .i64) (x:Int)).toNat=x:=by
  intro x hx;rw[BitVec.toNat_ofInt];show(((x:Int)%((2^64:Nat):Int))).toNat=x;omega
 have h2:(BitVec.ofInt (Zx9 .i64) (x:Int)|||BitVec.ofInt (Zx9 .i64) (y:Int)).toNat=x|||y:=by rw[BitVec.toNat_or,h1 x hx,h1 y hy]
 have h3:x|||y<2^24:=Nat.or_lt_two_pow (by omega) (by omega)
 refine⟨x|||y,by omega, ?_⟩;rw[h2,Uq (by omega) (by omega)]
section
variable (fu d:Nat) (hf:18446744073709551616<=fu)
theorem Zqp (bs:List Int) (i:Nat):cl fu (d+1) fn_synopticfield_Codes_Left [V.ptr 1000000 0] [Yo bs i]=some ⟨B (decide (i<bs.length)),[Yo bs i],none⟩:=by
 unfold Yo;rw[eq_synopticfield_Codes_Left];by_cases h:i<bs.length
 ·rw[decide_eq_true h];simp(disch:=omega)only[Za,QM,QD]
 ·rw[decide_eq_false h];simp(disch:=omega)only[Za,QM,QD]
theorem X1 {bs:List Int} (hb:bytes bs) {i:Nat} (hi:i<=1000) (n:Nat) (hn:1<=n/\n<=1000000):
  ∃v j:Nat,v<n/\j<=1000/\cl fu (d+2) fn_synopticfield_Codes_Next [V.ptr 1000000 0,I n] [Yo bs i]=some ⟨I v,[Yo bs j],none⟩:=by
 have hL:=Zqp fu d bs i;obtain⟨hb,hl⟩:=hb;unfold Yo at hL⊢;rw[eq_synopticfield_Codes_Next,hL];by_cases h:i<bs.length
 ·have hx:=hb bs[i] (Zt6 h);have hia:=ik_at .u8 bs h;have e1:Zx2.wrap bs[i]=bs[i]:=Uq (by omega) (by omega);have e2:Zya bs[i] (n:Int)=bs[i]%(n:Int):=IntWalk.rem_in _ _ hx.1;have e3:(i:Int)+1-1=(i:Int):=by omega
  have h1:0<=bs[i]%(n:Int):=Int.emod_nonneg _ (by omega);have h2:bs[i]%(n:Int)<n:=Int.emod_lt_of_pos _ (by omega);rw[decide_eq_true h];refine⟨(bs[i]%(n:Int)).toNat,i+1,by omega,by omega, ?_⟩;rw[Zw5 h1];simp(disch:=omega)only[Za,QM,QD,Zs3,Zs9,Zs4,Nat.reduceAdd,e3,Zs2,Zta,hia,e1,e2,Zt0,Zuo]
 ·rw[decide_eq_false h];refine⟨0,i,by omega,hi, ?_⟩;simp(disch:=omega)only[Za,QM,QD,Zs3,Zs9,Zs4,Nat.reduceAdd];rfl
theorem Zcg {bs:List Int} (hb:bytes bs) {i:Nat} (hi:i<=1000):
  ∃n j:Nat,(n=1\/n=2)/\j<=1000/\cl fu (d+3) fn_synopticfield_Codes_Frequency [V.ptr 1000000 0] [Yo bs i]=some ⟨I n,[Yo bs j],none⟩:=by
 obtain⟨v,j,hv,hj,e⟩:=X1 fu d hb hi 5 (by omega);unfold Yo at e⊢;rw[eq_synopticfield_Codes_Frequency];replace e:cl fu (d+2) fn_synopticfield_Codes_Next [V.ptr 1000000 0,I 5] _=_:=e;have hdr: ∃n:Nat,(n=1\/n=2)/\ ∃r,Zx5 v [C.v (.int .i64 1),C.v (.int .i64 1),C.v (.int .i64 1),C.v (.int .i64 1),C.v (.int .i64 2)]=C.v (.int .i64 (n:Int))::r:=by
  rcases(show v=0\/v=1\/v=2\/v=3\/v=4 by omega)with rfl|rfl|rfl|rfl|rfl
  ·exact⟨1, .inl rfl,_,rfl⟩
  ·exact⟨1, .inl rfl,_,rfl⟩
  ·exact⟨1, .inl rfl,_,rfl⟩
  ·exact⟨1, .inl rfl,_,rfl⟩
  ·exact⟨2, .inr rfl,_,rfl⟩
 obtain⟨n,hn,r,hdr⟩:=hdr;refine⟨n,j,hn,hj, ?_⟩;simp(disch:=omega)only[Za,QM,QD,e,Zs3,Zs9,Zs4,Nat.reduceAdd,Zs2,Zta,hdr]
theorem W5 {bs:List Int} (hb:bytes bs) {i:Nat} (hi:i<=1000):
  ∃a b c j:Nat,(1<=a/\a<=4)/\(1<=b/\b<=4)/\(1<=c/\c<=4)/\j<=1000/\cl fu (d+3) fn_synopticfield_Codes_Scheme [V.ptr 1000000 0] [Yo bs i]=some ⟨V.agg [C.v (.int .i64 (a:Int)),C.v (.int .i64 (b:Int)),C.v (.int .i64 (c:Int))],[Yo bs j],none⟩:=by
 obtain⟨v1,j1,hv1,hj1,e1⟩:=X1 fu d hb hi 4 (by omega);obtain⟨v2,j2,hv2,hj2,e2⟩:=X1 fu d hb hj1 4 (by omega);obtain⟨v3,j3,hv3,hj3,e3⟩:=X1 fu d hb hj2 4 (by omega);unfold Yo at e1 e2 e3⊢;replace e1:cl fu (d+2) fn_synopticfield_Codes_Next [V.ptr 1000000 0,I 4] _=_:=e1;replace e2:cl fu (d+2) fn_synopticfield_Codes_Next [V.ptr 1000000 0,I 4] _=_:=e2;replace e3:cl fu (d+2) fn_synopticfield_Codes_Next [V.ptr 1000000 0,I 4] _=_:=e3;refine⟨1+v1,1+v2,1+v3,j3,by omega,by omega,by omega,hj3, ?_⟩;rw[eq_synopticfield_Codes_Scheme];simp(disch:=omega)only[Za,QM,QD,e1,e2,e3,Zs3,Zs9,Zs4,Nat.reduceAdd,Zt0,Zuo]
theorem Lg {bs:List Int} (hb:bytes bs) {i:Nat} (hi:i<=1000) (most:Nat) (hm:most<=10000000000000):
  ∃(v:Int) (j:Nat),(-(most:Int)<=v/\v<=most)/\j<=1000/\cl fu (d+3) fn_synopticfield_Codes_Signed [V.ptr 1000000 0,I most] [Yo bs i]=some ⟨I v,[Yo bs j],none⟩:=by
 obtain⟨v1,j1,hv1,hj1,e1⟩:=X1 fu d hb hi 256 (by omega);obtain⟨v2,j2,hv2,hj2,e2⟩:=X1 fu d hb hj1 256 (by omega);obtain⟨v3,j3,hv3,hj3,e3⟩:=X1 fu d hb hj2 256 (by omega);obtain⟨v4,j4,hv4,hj4,e4⟩:=X1 fu d hb hj3 2 (by omega);unfold Yo at e1 e2 e3 e4⊢;replace e1:cl fu (d+2) fn_synopticfield_Codes_Next [V.ptr 1000000 0,I 256] _=_:=e1;replace e2:cl fu (d+2) fn_synopticfield_Codes_Next [V.ptr 1000000 0,I 256] _=_:=e2;replace e3:cl fu (d+2) fn_synopticfield_Codes_Next [V.ptr 1000000 0,I 256] _=_:=e3;replace e4:cl fu (d+2) fn_synopticfield_Codes_Next [V.ptr 1000000 0,I 2] _=_:=e4;have w1:(v1:Int)*2^16=((v1*65536:Nat):Int):=by omega
 have w2:(v2:Int)*2^8=((v2*256:Nat):Int):=by omega
 obtain⟨z,hz,o1⟩:=or24 (x:=v1*65536) (y:=v2*256) (by omega) (by omega);obtain⟨y,hy,o2⟩:=or24 (x:=z) (y:=v3) hz (by omega);have t1:Zya (y:Int) ((most:Int)+1)=((y%(most+1):Nat):Int):=by
  rw[IntWalk.rem_in _ _ (by omega),Int.natCast_emod,Zt0];rfl
 have hq:y%(most+1)<=most:=by have:=Zxs y (show 0<most+1 by omega);omega
 rw[eq_synopticfield_Codes_Signed];simp(disch:=omega)only[Za,QM,QD,e1,e2,w1,w2,o1,e3,o2,t1,Zs3,Zs9,Zs4,Nat.reduceAdd];generalize y%(most+1)=q at*
 by_cases h4:v4=1
 ·refine⟨0-(q:Int),j4,by omega,hj4, ?_⟩;simp(disch:=omega)only[Za,QM,QD,e4,Zs3,Zs9,Zs4,Nat.reduceAdd]
 ·refine⟨(q:Int),j4,by omega,hj4, ?_⟩;simp(disch:=omega)only[Za,QM,QD,e4,Zs3,Zs9,Zs4,Nat.reduceAdd]
theorem Zqq (bs:List Int) (k:Nat):cl fu (d+1) fn_synopticfield_New [V.c (C.sl bs.length (ik .u8 bs)),I (k:Int)] []=some ⟨V.ptr 1000000 0,[Yo (bs.take k) 0],none⟩:=by
 rw[eq_synopticfield_New];unfold Yo;by_cases h:k<bs.length
 ·have e1:(ik .u8 bs).take k=ik .u8 (bs.take k):=Zxl.symm;simp(disch:=omega)only[Za,QM,QD,Zs2,Zta,e1,Zty,Zuf];rfl
 ·rw[show bs.take k=bs from Ztc (by omega)];simp(disch:=omega)only[Za,QM,QD];rfl
end
end Go.Proofs.YtjmempcalaliiaaGreatDoor
namespace Go.Proofs.YtjmempcalaliiaaGreatDoor
open Go Go.PM Go.Grid
attribute [local congr] Zu Zv Zw Yd Zx Zy Ye Yf Yg Yh Zz Z0 Yi Yt Yu Yv Yw Yx Yz Y1 Y2 Y4 Yy Z2 Z3 Y5 Z4 Z5 Zj Z6 Z1
abbrev stC (n:Nat) (dp fw:List Int):List C:=[C.v (.int .i64 (n:Int)),C.sl dp.length (ints dp),C.sl fw.length (ints fw)]
structure StOk (n:Nat) (dp fw:List Int):Prop where
 dl:dp.length=(Zg n).length
 fl:fw.length=(edg n).length
 dw:wid 0 16777216 dp
 fw:wid (-1000000) 1000000 fw
theorem R2 {n:Nat} (h:n=1\/n=2):Yb n:=by unfold Yb;omega
section
variable (fu d:Nat) (hf:18446744073709551616<=fu)
include hf
set_option maxHeartbeats 4000000 in
theorem Lh {bs:List Int} (hb:bytes bs) {i:Nat} (hi:i<=1000) (n most:Nat) (hn:n<=1000000) (hm:most<=10000000000000) (top:Int) (ht:(most:Int)<=top/\9<=top):
  ∃(l:List Int) (j:Nat),l.length=n/\wid (-top) top l/\j<=1000/\cl fu (d+4) fn_synopticfield_Codes_Vector [V.ptr 1000000 0,I n,I most] [Yo bs i]=some ⟨V.c (C.sl l.length (ints l)),[Yo bs j],none⟩:=by
 obtain⟨v1,j1,hv1,hj1,e1⟩:=Lg fu d hb hi most (by omega);obtain⟨v2,j2,hv2,hj2,e2⟩:=Lg fu d hb hj1 most (by omega);obtain⟨v3,j3,hv3,hj3,e3⟩:=Lg fu d hb hj2 most (by omega);obtain⟨v4,j4,hv4,hj4,e4⟩:=Lg fu d hb hj3 9 (by omega);have hN:=λ(i:Nat) (hi:i<=1000)=>X1 fu (d+1) hb hi 7 (by omega);replace e4:cl fu (d+3) fn_synopticfield_Codes_Signed [V.ptr 1000000 0,I 9] _=_:=e4;unfold Yo at*
 rw[eq_synopticfield_Codes_Vector];simp(disch:=omega)only[Za,QM,QD,e1,e2,e3,e4,Zs3,Zs9,Zs4,Nat.reduceAdd];refine Ug (A:=List C×Int×(C×Int×Unit)×Unit) (B:=Out) (fu:=fu) (λo=> ∃(l:List Int) (j:Nat),l.length=n/\wid (-top) top l/\j<=1000/\o=some ⟨V.c (C.sl l.length (ints l)),[Yo bs j],none⟩)
  (λy=> ∃(l:List Int) (j:Nat),l.length<=n/\wid (-top) top l/\j<=1000/\y=(ints l,((l.length:Nat):Int),(C.sl bs.length (ik .u8 bs),(j:Int),()),())) (λy=>(n:Int).toNat-y.2.1.toNat)
  (λe y=>e=0/\ ∃(l:List Int) (j:Nat),l.length=n/\wid (-top) top l/\j<=1000/\y=(ints l,((l.length:Nat):Int),(C.sl bs.length (ik .u8 bs),(j:Int),()),())) ?_ ?_ ?_ ?_
 ·exact⟨[],j4,by simp,(by intro v hv;cases hv),hj4,rfl⟩
 ·show(n:Int).toNat-(0:Int).toNat<fu;omega
 ·rintro y ⟨l,j,hl,hw,hj,rfl⟩
  by_cases hlt:l.length<n
  ·obtain⟨v,k,hv,hk,e5⟩:=hN j hj;replace e5:cl fu (d+3) fn_synopticfield_Codes_Next [V.ptr 1000000 0,I 7] _=_:=e5;have w0:Zx2.wrap (0-(most:Int))=0-(most:Int):=Uq (by omega) (by omega);obtain⟨x,r,hx,hdr⟩: ∃(x:Int) (r:List C),(-top<=x/\x<=top)/\Zx5 v [C.v (.int .i64 v1),C.v (.int .i64 v2),C.v (.int .i64 v3),C.v (.int .i64 v4),C.v (.int .i64 0),C.v (.int .i64 (most:Int)),C.v (.int .i64 (0-(most:Int)))]=C.v (.int .i64 x)::r:=by
    rcases(show v=0\/v=1\/v=2\/v=3\/v=4\/v=5\/v=6 by omega)with rfl|rfl|rfl|rfl|rfl|rfl|rfl
    ·exact⟨v1,_,by omega,rfl⟩
    ·exact⟨v2,_,by omega,rfl⟩
    ·exact⟨v3,_,by omega,rfl⟩
    ·exact⟨v4,_,by omega,rfl⟩
    ·exact⟨0,_,by omega,rfl⟩
    ·exact⟨(most:Int),_,by omega,rfl⟩
    ·exact⟨0-(most:Int),_,by omega,rfl⟩
   refine .inl ⟨(ints (l++[x]),(((l++[x]).length:Nat):Int),(C.sl bs.length (ik .u8 bs),(k:Int),()),()), ?_,⟨l++[x],k,by simp;omega,Ze7 hw hx,hk,rfl⟩, ?_⟩
   ·simp(disch:=omega)only[Za,QM,QD,e5,Zs3,Zs9,Zs4,Nat.reduceAdd,w0,Zs2,Zta,hdr,Ze,Zto,Ud,Ztb,Zt0,Zuo]
   ·show(n:Int).toNat-(((l++[x]).length:Nat):Int).toNat<(n:Int).toNat-((l.length:Nat):Int).toNat;rw[Ztb,Zwp];omega
  ·refine .inr ⟨0,(ints l,((l.length:Nat):Int),(C.sl bs.length (ik .u8 bs),(j:Int),()),()), ?_,rfl,l,j,by omega,hw,hj,rfl⟩;simp(disch:=omega)only[Za,QM,QD,Ze,Zto,Zta]
 ·rintro e z ⟨rfl,l,j,hl,hw,hj,rfl⟩
  refine⟨l,j,hl,hw,hj, ?_⟩;have htk:Zx6 l.length (ints l)=ints l:=Ztc (by rw[Ze];exact Ztf _);simp(disch:=omega)only[Za,QM,QD,Ze,Zto,Zta,Zs4,htk]
omit hf in
theorem Zqr (x:Int): ∃v,(0<=v/\v<=16777216)/\cl fu (d+1) fn_synopticref28_Clip [I x,I 0,I 16777216] []=OK (I v):=by
 rw[eq_synopticref28_Clip];exact⟨_,by constructor<;>(repeat' split)<;>omega,rfl⟩
omit hf in
theorem Rn (n:Nat) (h:Yb n):cl fu (d+1) fn_synopticref22_Nodes [I n] []=OK (I ((Zg n).length:Int)):=by
 rw[Tb h,eq_synopticref22_Nodes];rcases Q0 h with rfl|rfl|rfl|rfl|rfl|rfl|rfl|rfl<;>(show @Eq (Option Out) _ _;kernel_rfl)
set_option maxHeartbeats 4000000 in
theorem Zor {bs:List Int} (hb:bytes bs) {i:Nat} (hi:i<=1000) (n:Nat) (h:Yb n):
  ∃(dp fw:List Int) (j:Nat),StOk n dp fw/\j<=1000/\cl fu (d+10) fn_synopticfield_Codes_State [V.ptr 1000000 0,I n] [Yo bs i]=some ⟨V.agg (stC n dp fw),[Yo bs j],none⟩:=by
 have hE:=Qk fu d hf n h;have heL:=Uu h;have hNl:=Y7 h;have hN22:=Rn fu (d+8) n h;obtain⟨v1,j1,hv1,hj1,e1⟩:=X1 fu (d+7) hb hi 4 (by omega);replace e1:cl fu (d+9) fn_synopticfield_Codes_Next [V.ptr 1000000 0,I 4] _=_:=e1;obtain⟨m1,r1,hm1,hd1⟩: ∃(m:Nat) (r:List C),m<=1000000/\Zx5 v1 [C.v (.int .i64 0),C.v (.int .i64 30),C.v (.int .i64 5000),C.v (.int .i64 1000000)]=C.v (.int .i64 (m:Int))::r:=by
  rcases(show v1=0\/v1=1\/v1=2\/v1=3 by omega)with rfl|rfl|rfl|rfl
  ·exact⟨0,_,by omega,rfl⟩
  ·exact⟨30,_,by omega,rfl⟩
  ·exact⟨5000,_,by omega,rfl⟩
  ·exact⟨1000000,_,by omega,rfl⟩
 obtain⟨fw,j2,hl2,hw2,hj2,e2⟩:=Lh fu (d+5) hf hb hj1 (edg n).length m1 (by omega) (by omega) 1000000 (by omega);obtain⟨v3,j3,hv3,hj3,e3⟩:=X1 fu (d+7) hb hj2 4 (by omega);replace e3:cl fu (d+9) fn_synopticfield_Codes_Next [V.ptr 1000000 0,I 4] _=_:=e3;obtain⟨m3,r3,hm3,hd3⟩: ∃(m:Nat) (r:List C),m<=2500000/\Zx5 v3 [C.v (.int .i64 0),C.v (.int .i64 40),C.v (.int .i64 100000),C.v (.int .i64 2500000)]=C.v (.int .i64 (m:Int))::r:=by
  rcases(show v3=0\/v3=1\/v3=2\/v3=3 by omega)with rfl|rfl|rfl|rfl
  ·exact⟨0,_,by omega,rfl⟩
  ·exact⟨40,_,by omega,rfl⟩
  ·exact⟨100000,_,by omega,rfl⟩
  ·exact⟨2500000,_,by omega,rfl⟩
 obtain⟨v4,j4,hv4,hj4,e4⟩:=X1 fu (d+7) hb hj3 3 (by omega);replace e4:cl fu (d+9) fn_synopticfield_Codes_Next [V.ptr 1000000 0,I 3] _=_:=e4;obtain⟨m4,r4,hm4,hd4⟩: ∃(m:Nat) (r:List C),m<=90000/\Zx5 v4 [C.v (.int .i64 0),C.v (.int .i64 30),C.v (.int .i64 90000)]=C.v (.int .i64 (m:Int))::r:=by
  rcases(show v4=0\/v4=1\/v4=2 by omega)with rfl|rfl|rfl
  ·exact⟨0,_,by omega,rfl⟩
  ·exact⟨30,_,by omega,rfl⟩
  ·exact⟨90000,_,by omega,rfl⟩
 obtain⟨l5,j5,hl5,hw5,hj5,e5⟩:=Lh fu (d+5) hf hb hj4 (Zg n).length m4 (by omega) (by omega) 90000 (by omega);obtain⟨cp,hcp⟩: ∃cp:Int->Int,∀x,(0<=cp x/\cp x<=16777216)/\cl fu (d+9) fn_synopticref28_Clip [I x,I 0,I 16777216] []=OK (I (cp x)):=Classical.axiomOfChoice (r:=λx v=>(0<=v/\v<=16777216)/\cl fu (d+9) fn_synopticref28_Clip [I x,I 0,I 16777216] []=OK (I v)) λx=>Zqr fu (d+8) x;have hcl:=λx=>(hcp x).2;refine⟨l5.map λx=>cp ((m3:Int)+x),fw,j5,⟨by rw[Zti,hl5],hl2,λv hv=> ?_,hw2⟩,hj5, ?_⟩
 ·obtain⟨x,_,rfl⟩:=Zvh.1 hv;exact(hcp _).1
 unfold Yo at*
 generalize edg n=E at*
 generalize (Zg n).length=N at*
 rw[eq_synopticfield_Codes_State,hE];simp(disch:=omega)only[Za,QM,QD,e1,Zs3,Zs9,Zs4,Nat.reduceAdd,Zs2,Zta,hd1,e2,e3,hd3,e4,hd4,hN22,e5];rw[Zk (λj:Nat=>((j:Int),((0:Int),C.nl,C.nl,()),((n:Int),ints ((l5.take j).map λx=>cp ((m3:Int)+x)),C.sl fw.length (ints fw),()),(C.sl bs.length (ik .u8 bs),(j5:Int),()),())) 0 (((l5.length:Nat):Int),((0:Int),C.nl,C.nl,()),((n:Int),ints (l5.map λx=>cp ((m3:Int)+x)),C.sl fw.length (ints fw),()),(C.sl bs.length (ik .u8 bs),(j5:Int),()),()) l5.length ?_ ?_ ?_ (by omega)]
 ·have htk:Zx6 l5.length (ints (l5.map λx=>cp ((m3:Int)+x)))=ints (l5.map λx=>cp ((m3:Int)+x)):=Ztc (by rw[Ze,Zti];exact Ztf _);simp(disch:=omega)only[Za,QM,QD,Ze,Zto,Zta,Zs4,Zti,htk];unfold stC;rw[Zti]
 ·rfl
 ·intro j hj;have hia:=ints_at l5 hj;have hx:=Zoq hw5 hj;have hsn:ints ((l5.take j).map λx=>cp ((m3:Int)+x))++[C.v (.int .i64 (cp ((m3:Int)+l5[j])))]=ints ((l5.take (j+1)).map λx=>cp ((m3:Int)+x)):=by
   rw[Ztw hj,Zu1,Ud];rfl
  generalize l5[j]=x at*
  simp(disch:=omega)only[Za,QM,QD,Zs2,Zta,hia,hcl,Ze,Zto,Zti,Zty,Zuf,hsn];rfl
 ·rw[Zud];simp(disch:=omega)only[Za,QM,QD,Ze,Zto,Zta,Zti]
end
end Go.Proofs.YtjmempcalaliiaaGreatDoor
namespace Go.Proofs.YtjmempcalaliiaaGreatDoor
open Go Go.PM Go.Grid
attribute [local congr] Zu Zv Zw Yd Zx Zy Ye Yf Yg Yh Zz Z0 Yi Yt Yu Yv Yw Yx Yz Y1 Y2 Y4 Yy Z2 Z3 Y5 Z4 Z5 Zj Z6 Z1
def at0 (l:List Int) (i:Nat):Int:=l.getD i 0
theorem Q8 {l:List Int} {i:Nat} (h:i<l.length):at0 l i=l[i]:=by
 unfold at0;rw[Ztj,Zs6 h];rfl
theorem Zm (l:List Int) {i:Nat} (h:i<l.length):(ints l).drop i=C.v (.int .i64 (at0 l i))::ints (l.drop (i+1)):=by
 rw[ints_at l h,Q8 h]
theorem J7 (l:List Int) {i:Nat} (h:i<l.length) (v:Int):putAt (ints l) i [C.v (.int .i64 v)]=ints (l.set i v):=by
 unfold putAt;rw[Zwh,if_pos h,Ge,Gd];simp[ik]
def Uh (l:List Int) (i:Nat) (v:Int):List Int:=l.set i (at0 l i+v)
theorem Xk (l:List Int) (i:Nat) (v:Int):(Uh l i v).length=l.length:=by simp[Uh]
theorem P0 (l:List Int) (i:Nat) (v:Int) (k:Nat):at0 (Uh l i v) k=at0 l k+if k=i/\i<l.length then v else 0:=by
 unfold Uh at0;rw[Ztj,Zxi];by_cases h:i=k
 ·subst h;by_cases hl:i<l.length
  ·simp[hl,Ztj]
  ·rw[if_pos rfl,if_neg hl,if_neg (λe=>hl e.2),Ztj,Zux (by omega)];rfl
 ·rw[if_neg h,if_neg (λe=>h e.1.symm),Ztj];simp
theorem Vx (l:List Int) {i:Nat} (h:i<l.length) (v:Int):putAt (ints l) i [C.v (.int .i64 (at0 l i+v))]=ints (Uh l i v):=J7 l h _
def Yk (lo hi:Int) (l:List Int):Bool:=l.any λv=> !(decide (lo<=v)&&decide (v<=hi))
theorem Z7 {lo hi:Int} {l:List Int}:Yk lo hi l=false↔wid lo hi l:=by
 unfold Yk wid;rw[Zu8];simp
theorem Pb (n:Nat):(edgesL n).length=(edg n).length:=by simp[edgesL]
theorem Zhi (n:Nat) {j:Nat} (h':j<(edg n).length):(edgesL n)[j]? =some [I ((j:Nat):Int),V.agg [C.v (.int .i64 (edg n)[j].1),C.v (.int .i64 (edg n)[j].2)]]:=by
 unfold edgesL;rw[Ztg,List.getElem?_zipIdx,Zs6 h'];simp
theorem W6 (n:Nat) {j:Nat} (h:j<(edgesL n).length) (h':j<(edg n).length):(edgesL n)[j]=[I ((j:Nat):Int),V.agg [C.v (.int .i64 (edg n)[j].1),C.v (.int .i64 (edg n)[j].2)]]:=by
 have:=Zhi n h';rw[Zs6 h]at this;exact Option.some.inj this
theorem Ze8 (n:Nat) {j:Nat} (h:j<(edg n).length):(edgesL n).drop j=[I ((j:Nat):Int),V.agg [C.v (.int .i64 (edg n)[j].1),C.v (.int .i64 (edg n)[j].2)]]::(edgesL n).drop (j+1):=by
 rw[Ztz (by rw[Pb];exact h),W6 n _ h]
section
variable (fu d:Nat) (hf:18446744073709551616<=fu)
theorem W7 (v lo hi:Int):cl fu (d+1) fn_flux_within [I v,I lo,I hi] []=OK (B (decide (lo<=v)&&decide (v<=hi))):=by
 rw[eq_flux_within];by_cases h:lo<=v
 ·simp(disch:=omega)only[Za,QM,QD]
 ·simp(disch:=omega)only[Za,QM,QD]
theorem Zch (v lo hi:Int):cl fu (d+2) fn_flux_outside_1 [I v,V.c (C.cp [C.v (.int .i64 lo)]),V.c (C.cp [C.v (.int .i64 hi)])] []=OK (B (!(decide (lo<=v)&&decide (v<=hi)))):=by
 have e:=W7 fu d v lo hi;generalize (decide (lo<=v)&&decide (v<=hi))=b at*
 rw[eq_flux_outside_1];simp only[Za,QM,e]
include hf
theorem Tu (l:List Int) (hl:l.length<=1000000) (lo hi:Int):cl fu (d+5) fn_flux_outside [V.c (C.sl l.length (ints l)),I lo,I hi] []=OK (B (Yk lo hi l)):=by
 have h1:=λv=>Zch fu d v lo hi;rw[eq_flux_outside,eq2_slices_ContainsFunc_sint_int,eq2_slices_IndexFunc_sint_int];rcases Ut (λj=> ∃h:j<l.length,(!(decide (lo<=l[j])&&decide (l[j]<=hi)))=true) l.length with hn|⟨k,hk,⟨hk2,hb⟩,hn⟩
 ·have hall:Yk lo hi l=false:=by
   unfold Yk;rw[Zu8];intro v hv;obtain⟨j,hj,rfl⟩:=Zw4 hv;exact λe=>hn j hj ⟨hj,e⟩
  rw[hall,Zk (λj:Nat=>((0:Int),(j:Int),())) 0 ((0:Int),((l.length:Nat):Int),()) l.length ?_ ?_ ?_ (by omega)]
  ·simp(disch:=omega)only[Za,QM,QD]
  ·rfl
  ·intro j hj;have hia:=ints_at l hj;have hv:=hn j hj;have hv:(!(decide (lo<=l[j])&&decide (l[j]<=hi)))=false:=by
    cases e:(!(decide (lo<=l[j])&&decide (l[j]<=hi)))
    ·rfl
    ·exact absurd ⟨hj,e⟩ hv
   have h1:=h1 l[j];rw[hv]at h1;simp(disch:=omega)only[Za,QM,QD,Zs2,Zta,hia,h1];rfl
  ·simp(disch:=omega)only[Za,QM,QD]
 ·have hall:Yk lo hi l=true:=by
   unfold Yk;rw[Zws];exact⟨l[k],Zt6 hk2,hb⟩
  rw[hall,Zk (λj:Nat=>((0:Int),(j:Int),())) 1 ((k:Int),(k:Int),()) k ?_ ?_ ?_ (by omega)]
  ·simp(disch:=omega)only[Za,QM,QD]
  ·rfl
  ·intro j hj;have hjl:j<l.length:=by omega
   have hia:=ints_at l hjl;have hv:=hn j hj;have hv:(!(decide (lo<=l[j])&&decide (l[j]<=hi)))=false:=by
    cases e:(!(decide (lo<=l[j])&&decide (l[j]<=hi)))
    ·rfl
    ·exact absurd ⟨hjl,e⟩ hv
   have h1:=h1 l[j];rw[hv]at h1;simp(disch:=omega)only[Za,QM,QD,Zs2,Zta,hia,h1];rfl
  ·have hia:=ints_at l hk2;have h1:=h1 l[k];rw[hb]at h1;simp(disch:=omega)only[Za,QM,QD,Zs2,Zta,hia,h1]
omit hf in
theorem Ziv (n:Nat) (h:Yb n):cl fu (d+1) fn_mesh_Frequency [I n] []=OK (B true):=by
 unfold Yb at h;rw[eq_mesh_Frequency];simp(disch:=omega)only[Za,QM,QD]
omit hf in
theorem Vj (n:Nat) (h:Yb n):cl fu (d+2) fn_grid_Count [I n] []=OK (I ((Zg n).length:Int)):=by
 rw[Tb h,eq_grid_Count,Ziv fu d n h];simp only[Za,QM];rcases Q0 h with rfl|rfl|rfl|rfl|rfl|rfl|rfl|rfl<;>(show @Eq (Option Out) _ _;kernel_rfl)
theorem Qr (n:Nat) (h:Yb n):cl fu (d+9) fn_grid_Edges [I n] []=OK (V.tup [V.c (C.sl (edg n).length (fl edC (edg n))),I 0]):=by
 obtain⟨c,e⟩:=Zon fu d hf n h;have e0:=Ziv fu (d+7) n h;generalize edg n=E at*
 generalize (Zg n).length=N at*
 generalize fl plc (Zg n)=nc at*
 generalize esn 0 (Zg n)=es at*
 generalize nxt n=nx at*
 rw[eq_grid_Edges,e0];simp(disch:=omega)only[Za,QM,QD,e,Zkz,H4,Zs3,Zs9,Zs4,Nat.reduceAdd]
theorem Zlg (n:Nat) (h:Yb n) (dp fw:List Int) (h1:dp.length=(Zg n).length) (h2:fw.length=(edg n).length) (h3:wid 0 16777216 dp) (h4:wid (-16777216) 16777216 fw):
  cl fu (d+10) fn_flux_Check [V.agg (stC n dp fw)] []=OK (I 0):=by
 have hNl:=Y7 h;have heL:=Uu h;have e1:=Qr fu d hf n h;have e2:=Vj fu (d+7) n h;have e3:=Tu fu (d+4) hf dp (by omega) 0 16777216;have e4:=Tu fu (d+4) hf fw (by omega) (-16777216) 16777216;rw[Z7.2 h3]at e3;rw[Z7.2 h4]at e4;generalize edg n=E at*
 generalize (Zg n).length=N at*
 unfold stC;rw[eq_flux_Check];simp(disch:=omega)only[Za,QM,QD,e1,e2,e3,e4]
theorem Zos (n:Nat) (h:Yb n) (l:Nat) (go:Nat->Bool) (r:List C): ∃out lg,cl fu (d+10) fn_flux_edges_1 [V.c (C.yl l go (edgesL n)),V.c (C.cp (C.v (.int .i64 (n:Int))::r))] []=some out/\out.log=some lg/\(lg.st=true\/lg.rest=[]):=by
 have e1:=Qr fu d hf n h;have heL:=Uu h;have hed:=λ{j:Nat} (hj:j<(edg n).length)=>Ze8 n hj;have hell:=Pb n;rw[eq_flux_edges_1];simp(disch:=omega)only[Za,QM,QD,e1];generalize edgesL n=EL at*
 generalize edg n=E at*
 refine Ug (A:=Int×Log×Unit) (B:=Out) (fu:=fu) (λo=> ∃out lg,o=some out/\out.log=some lg/\(lg.st=true\/lg.rest=[]))
  (λs=> ∃i:Nat,i<=E.length/\s=((i:Int),⟨l,go,i,EL.drop i,false⟩,())) (λs=>E.length-s.1.toNat) (λ_ z=>z.2.1.st=true\/z.2.1.rest=[]) ⟨0,by omega,rfl⟩ ?_ ?_ ?_
 ·show E.length-(0:Int).toNat<fu;omega
 ·rintro y ⟨i,hi,rfl⟩
  by_cases hlt:i<E.length
  ·have hd:=hed hlt;have hat:=Jz Xq hlt;cases hg:go i with
   |true=>
    refine .inl ⟨(((i+1:Nat):Int),⟨l,go,i+1,EL.drop (i+1),false⟩,()), ?_,⟨i+1,by omega,rfl⟩, ?_⟩
    ·simp(disch:=omega)only[Za,QM,QD,Zs2,hat,edC,Zt1,Zt3,hd,Jr,Js,hg,Zt0,Zuo]
    ·show E.length-((i+1:Nat):Int).toNat<E.length-(i:Int).toNat;omega
   |false=>
    refine .inr ⟨1,((i:Int),⟨l,go,i+1,EL.drop (i+1),true⟩,()), ?_, .inl rfl⟩;simp(disch:=omega)only[Za,QM,QD,Zs2,hat,edC,Zt1,Zt3,hd,Jr,Js,hg]
  ·refine .inr ⟨0,((i:Int),⟨l,go,i,EL.drop i,false⟩,()), ?_, .inr ?_⟩
   ·simp(disch:=omega)only[Za,QM,QD]
   ·show EL.drop i=[];rw[Zwy];omega
 ·rintro e z hz
  refine⟨⟨V.tup [],[],some z.2.1⟩,z.2.1, ?_,rfl,hz⟩;cases e<;>rfl
omit hf in
theorem Zhj (n:Nat) (h:Yb n):prim.iter (d+10) fn_flux_edges_1 [C.cp [C.v (.int .i64 (n:Int))]]=some (edgesL n):=by
 show(bif Zx4 10 (d+10)then iterC fn_flux_edges_1 [C.cp [C.v (.int .i64 (n:Int))]]else none)=_;unfold Yb at h;rw[show Zx4 10 (d+10)=true from Zvd (by omega)];show need (decide (1<=(n:Int))&&decide ((n:Int)<=8)) (some (edgesL (n:Int).toNat))=_;rw[decide_eq_true (show 1<=(n:Int) by omega),decide_eq_true (show(n:Int)<=8 by omega),Zs2];rfl
end
end Go.Proofs.YtjmempcalaliiaaGreatDoor
namespace Go.Proofs.YtjmempcalaliiaaGreatDoor
open Go Go.PM Go.Grid
attribute [local congr] Zu Zv Zw Yd Zx Zy Ye Yf Yg Yh Zz Z0 Yi Yt Yu Yv Yw Yx Yz Y1 Y2 Y4 Yy Z2 Z3 Y5 Z4 Z5 Zj Z6 Z1
def mv1 (l:List Int) (e:Int×Int) (u v:Int):List Int:=Uh (Uh l e.1.toNat u) e.2.toNat v
def Xc (N:Nat) (E:List (Int×Int)):List Int:=E.foldl (λl e=>mv1 l e 1 1) (Zyx N 0)
def Vz (l:List Int) (P:List ((Int×Int)×Int)):List Int:=P.foldl (λl p=>mv1 l p.1 (-p.2) p.2) l
theorem Ro (l:List Int) (e:Int×Int) (u v:Int):(mv1 l e u v).length=l.length:=by unfold mv1;rw[Xk,Xk]
theorem W8 (N:Nat) (E:List (Int×Int)) (e:Int×Int):Xc N (E++[e])=mv1 (Xc N E) e 1 1:=by simp[Xc]
theorem W9 (l:List Int) (P:List ((Int×Int)×Int)) (p:(Int×Int)×Int):Vz l (P++[p])=mv1 (Vz l P) p.1 (-p.2) p.2:=by simp[Vz]
theorem Sg (P:List ((Int×Int)×Int)): ∀l,(Vz l P).length=l.length:=by
 induction P with
 |nil=>intro l;rfl
 |cons p P ih=>intro l;show(Vz (mv1 l p.1 (-p.2) p.2) P).length=_;rw[ih,Ro]
theorem Zhk (l:List Int) (e:Int×Int) (u v:Int) (k:Nat):at0 (mv1 l e u v) k=at0 l k+(if k=e.1.toNat/\k<l.length then u else 0)+if k=e.2.toNat/\k<l.length then v else 0:=by
 unfold mv1;rw[P0,P0,Xk]
 congr 1
 ·congr 1
  by_cases h:k=e.1.toNat
  ·subst h;rfl
  ·rw[if_neg (λq=>h q.1),if_neg (λq=>h q.1)]
 ·by_cases h:k=e.2.toNat
  ·subst h;rfl
  ·rw[if_neg (λq=>h q.1),if_neg (λq=>h q.1)]
theorem Ziw (N:Nat) (i:Nat):at0 (Zyx N 0) i=0:=by
 unfold at0;rw[Ztj,Zwg];split<;>rfl
theorem Si (N:Nat) (E:List (Int×Int)):(Xc N E).length=N:=by
 have key: ∀(E:List (Int×Int)) (l:List Int),(E.foldl (λl e=>mv1 l e 1 1) l).length=l.length:=by
  intro E
  induction E with
  |nil=>intro l;rfl
  |cons e E ih=>intro l;rw[Zuz,ih,Ro]
 unfold Xc;rw[key];simp
theorem Zot (E:List (Int×Int)): ∀(l:List Int) (k:Nat),at0 l k<=at0 (E.foldl (λl e=>mv1 l e 1 1) l) k/\at0 (E.foldl (λl e=>mv1 l e 1 1) l) k<=at0 l k+2*E.length/\((∃e∈E,k=e.1.toNat\/k=e.2.toNat)->k<l.length->at0 l k+1<=at0 (E.foldl (λl e=>mv1 l e 1 1) l) k):=by
 induction E with
 |nil=>intro l k;exact⟨Int.le_refl _,by simp,λ⟨e,he,_⟩=>by cases he⟩
 |cons e E ih=>
  intro l k;rw[Zuz];obtain⟨h1,h2,h3⟩:=ih (mv1 l e 1 1) k;have hm:=Zhk l e 1 1 k;rw[Zs3];refine⟨?_, ?_, ?_⟩
  ·split at hm<;>split at hm<;>omega
  ·split at hm<;>split at hm<;>omega
  ·rintro ⟨e',he,hk⟩ hlt
   rcases Ztl.1 he with rfl|he
   ·rcases hk with hk|hk
    ·rw[if_pos ⟨hk,hlt⟩]at hm;split at hm<;>omega
    ·rw[if_pos (c:=k=e'.2.toNat/\k<l.length) ⟨hk,hlt⟩]at hm;split at hm<;>omega
   ·have:=h3 ⟨e',he,hk⟩ (by rw[Ro];exact hlt);split at hm<;>split at hm<;>omega
theorem Zix (N:Nat) (E:List (Int×Int)) (k:Nat):0<=at0 (Xc N E) k/\at0 (Xc N E) k<=2*E.length:=by
 obtain⟨h1,h2,_⟩:=Zot E (Zyx N 0) k;rw[Ziw]at h1 h2;exact⟨h1,by unfold Xc;omega⟩
section
variable (fu d:Nat) (hf:18446744073709551616<=fu)
theorem Zhl (n:Nat) (h:Yb n):cl fu (d+11) fn_flux_Degrees [I n] []=OK (V.tup [V.c (C.sl (Zg n).length (ints (Xc (Zg n).length (edg n)))),I 0]):=by
 have hn:=h;unfold Yb at hn;have hNl:=Y7 h;have heL:=Uu h;have e1:=W7 fu (d+9) (n:Int) 1 8;rw[decide_eq_true (show 1<=(n:Int) by omega),decide_eq_true (show(n:Int)<=8 by omega)]at e1;have e2:=Vj fu (d+8) n h;have e3:=Zhj d n h;have e4:=eq_flux_edges fu (d+9) (n:Int);have hel:=Pb n;have hea:=λ{j:Nat} (h1:j<(edgesL n).length) (h2:j<(edg n).length)=>W6 n h1 h2;have hin:=Gb h;generalize edgesL n=EL at*
 generalize edg n=E at*
 generalize (Zg n).length=N at*
 have hr0:reps N [C.v (.int .i64 0)]=ints (Xc N []):=by
  unfold Xc reps;simp[ik]
 have hdl:=Si N;rw[eq_flux_Degrees];simp(disch:=omega)only[Za,QM,QD,e1,e2,e4,Zs2,Zta,hr0,Ze,hdl];rw[show prim.iter (d+10) fn_flux_edges_1 [C.cp [C.v (.int .i64 (n:Int))]]=some EL from e3];simp(disch:=omega)only[Za,QM,QD,Zs2,Zta,hr0,Ze,hdl];have hov:=Zkm (body:=(λit (y:(List C×Unit)×Unit)=>
    uncV it λx r=>
    rC x λc3=>
    asI .i64 c3 λi1=>
    uncV r λx1 r1=>
    rA x1 λcs1=>
    need (Zx3 cs1.length 2)<|
    unc cs1 λc4 r2=>
    asI .i64 c4 λi2=>
    unc r2 λc5 _=>
    asI .i64 c5 λi3=>
    nilV r1<|
    need (inR i2 (y.1.1.length/1))<|
    unc (Zx5 (0+(i2.toNat*1)) y.1.1) λc6 _=>
    asI .i64 c6 λi4=>
    need (inR i2 (y.1.1.length/1))<|
    need (((Zx4 0 (0+(i2.toNat*1)))&&(Zx4 ((0+(i2.toNat*1))+1) y.1.1.length))&&true)<|
    need (inR i3 (y.1.1.length/1))<|
    unc (Zx5 (0+(i3.toNat*1)) (putAt y.1.1 (0+(i2.toNat*1)) ([C.v (.int .i64 (Zx2.wrap (i4+1)))]))) λc7 _=>
    asI .i64 c7 λi5=>
    need (inR i3 (y.1.1.length/1))<|
    need (((Zx4 0 (0+(i3.toNat*1)))&&(Zx4 ((0+(i3.toNat*1))+1) ((putAt y.1.1 (0+(i2.toNat*1)) ([C.v (.int .i64 (Zx2.wrap (i4+1)))])).length)))&&true)<|
    bd (putAt (putAt y.1.1 (0+(i2.toNat*1)) ([C.v (.int .i64 (Zx2.wrap (i4+1)))])) (0+(i3.toNat*1)) ([C.v (.int .i64 (Zx2.wrap (i5+1)))])) λcs2=>
    need (((Zx3 ((y.1.1.length/1)*1) cs2.length)&&true)&&true)<|
    some (0,((cs2,()),())))) EL (λj:Nat=>((ints (Xc N (E.take j)),()),())) (by
   intro j hj;have hj':j<E.length:=by omega
   have hia:=hea hj hj';have hin:=hin E[j] (Zt6 hj');have hst:Xc N (E.take (j+1))=mv1 (Xc N (E.take j)) E[j] 1 1:=by rw[Ztw hj',W8]
   have hbd:=Zix N (E.take j);have htl:(E.take j).length<=15000:=by rw[Zty];omega
   have hD:=hdl (E.take j);rw[hia,hst];generalize Xc N (E.take j)=D at*
   generalize E[j]=e at*
   obtain⟨ea,eb⟩:=e;simp only at hin⊢;obtain⟨x,rfl⟩: ∃x:Nat,ea=x:=⟨ea.toNat,by omega⟩;obtain⟨y,rfl⟩: ∃y:Nat,eb=y:=⟨eb.toNat,by omega⟩;have d1:=Zm D (i:=x) (by omega);have b1:=hbd x;have p1:=Vx D (i:=x) (by omega) 1;have hB:=Xk D x 1;have hBa:=P0 D x 1 y;have hm:mv1 D ((x:Int),(y:Int)) 1 1=Uh (Uh D x 1) y 1:=by unfold mv1;rw[Zs2,Zs2]
   rw[hm];have b2:0<=at0 (Uh D x 1) y/\at0 (Uh D x 1) y<=40000:=by
    have:=hbd y;split at hBa<;>omega
   generalize Uh D x 1=D1 at*
   have d2:=Zm D1 (i:=y) (by omega);have p2:=Vx D1 (i:=y) (by omega) 1;have hB2:=Xk D1 y 1;generalize Uh D1 y 1=D2 at*
   simp(disch:=omega)only[Za,QM,QD,Zs3,Zs9,Zs4,Nat.reduceAdd,Zs2,Zta,Zto,Ze,hD,d1,p1,hB,d2,p2,hB2])
 rw[hel,Zud]at hov;rw[show overK _ EL ((ints (Xc N []),()),())=_ from hov];have htk:Zx6 N (ints (Xc N E))=ints (Xc N E):=Ztc (by rw[Ze,hdl];exact Ztf _);simp(disch:=omega)only[Za,QM,QD,Zs4,Zta,Zto,Ze,hdl,htk]
end
end Go.Proofs.YtjmempcalaliiaaGreatDoor
namespace Go.Proofs.YtjmempcalaliiaaGreatDoor
open Go Go.PM Go.Grid
attribute [local congr] Zu Zv Zw Yd Zx Zy Ye Yf Yg Yh Zz Z0 Yi Yt Yu Yv Yw Yx Yz Y1 Y2 Y4 Yy Z2 Z3 Y5 Z4 Z5 Zj Z6 Z1
def lim (dp dg:List Int) (k:Int):Int:=Zx8 (at0 dp k.toNat) (at0 dg k.toNat)
def shr (w:Int) (s:Nat):Int:=Zyc w (2^s)
def amt (w p q:Int):Int:=if w>p then p else if w< -q then -q else w
def amE (dp dg fw:List Int) (s:Nat) (E:List (Int×Int)) (j:Nat):Int:=amt (shr (at0 fw j) s) (lim dp dg (E.getD j (0,0)).1) (lim dp dg (E.getD j (0,0)).2)
def amL (dp dg fw:List Int) (s:Nat) (E:List (Int×Int)) (k:Nat):List Int:=(Zyf k).map (amE dp dg fw s E)
theorem Bh (E:List (Int×Int)) {j:Nat} (h:j<E.length):E.getD j (0,0)=E[j]:=by
 rw[Ztj,Zs6 h];rfl
theorem Q9 {lo hi:Int} {l:List Int} (h:wid lo hi l) (h0:lo<=0/\0<=hi) (k:Nat):lo<=at0 l k/\at0 l k<=hi:=by
 by_cases hk:k<l.length
 ·rw[Q8 hk];exact Zoq h hk
 ·unfold at0;rw[Ztj,Zux (by omega)];exact h0
section
variable (fu d:Nat) (hf:18446744073709551616<=fu)
include hf
theorem Bi (a b c:Nat) (ha:1<=a/\a<=4) (hb:1<=b/\b<=4) (hc:1<=c/\c<=4):cl fu (d+6) fn_flux_CheckScheme [V.agg [C.v (.int .i64 (a:Int)),C.v (.int .i64 (b:Int)),C.v (.int .i64 (c:Int))]] []=OK (I 0):=by
 have e:=Tu fu d hf [(a:Int),(b:Int),(c:Int)] (by simp) 1 4;rw[Z7.2 (by intro v hv;simp only[Ztl,Zvo,or_false]at hv;omega)]at e;replace e:cl fu (d+5) fn_flux_outside [V.c (C.sl 3 [C.v (.int .i64 (a:Int)),C.v (.int .i64 (b:Int)),C.v (.int .i64 (c:Int))]),I 1,I 4] []=OK (B false):=e;rw[eq_flux_CheckScheme];simp only[Za,QM,e]
omit hf in
theorem Bj (l:List Int) (h0:0<l.length) (hl:l.length<=1000000):cl fu (d+1) fn_slices_Clone_sint_int [V.c (C.sl l.length (ints l))] []=some ⟨V.own 1000000 0 l.length,[.sb ty_int 0 (ints l)],none⟩:=by
 have hb:Zx3 l.length 0=false:=by
  cases e:Zx3 l.length 0
  ·rfl
  ·have:=Zs0 e;omega
 have htk:Zx6 l.length (ints l)=ints l:=Ztc (by rw[Ze];exact Ztf _);rw[eq_slices_Clone_sint_int,hb];simp(disch:=omega)only[Za,QM,QD,Ze,Zta,Zs4,htk]
end
end Go.Proofs.YtjmempcalaliiaaGreatDoor
namespace Go.Proofs.YtjmempcalaliiaaGreatDoor
open Go Go.PM Go.Grid
attribute [local congr] Zu Zv Zw Yd Zx Zy Ye Yf Yg Yh Zz Z0 Yi Yt Yu Yv Yw Yx Yz Y1 Y2 Y4 Yy Z2 Z3 Y5 Z4 Z5 Zj Z6 Z1
theorem Zqs {l m:List Int} (hl:l.length=m.length) (h: ∀k,k<l.length->at0 l k=at0 m k):l=m:=by
 refine Zwa hl λk h1 h2=> ?_;rw[<-Q8 h1,<-Q8 h2];exact h k h1
def net (P:List ((Int×Int)×Int)) (k:Nat):Int:=(P.map λp=>(if k=p.1.1.toNat then -p.2 else 0)+(if k=p.1.2.toNat then p.2 else 0)).sum
theorem Ze9 (p:(Int×Int)×Int) (P:List ((Int×Int)×Int)) (k:Nat):net (p::P) k=(if k=p.1.1.toNat then -p.2 else 0)+(if k=p.1.2.toNat then p.2 else 0)+net P k:=by unfold net;rw[Zua,Zwv]
theorem Zlh (l:List Int) (p:(Int×Int)×Int) (P:List ((Int×Int)×Int)):Vz l (p::P)=Vz (mv1 l p.1 (-p.2) p.2) P:=rfl
theorem Ziy: ∀(P:List ((Int×Int)×Int)) (l:List Int) (k:Nat),k<l.length->at0 (Vz l P) k=at0 l k+net P k
 | [],l,k,_=>by simp[Vz,net]
 |p::P,l,k,h=>by
  rw[Zlh,Ziy P _ k (by rw[Ro];exact h),Zhk,Ze9];by_cases h1:k=p.1.1.toNat<;>by_cases h2:k=p.1.2.toNat<;>simp only[h,h1,h2,and_true,if_true,if_false,false_and,true_and]<;>omega
def isL (c:C) (l:List Int):Prop:=nrm c=C.sl l.length (ints l)/\ ∀{R:Type} (k:Nat->List C->Option R),asSl c k=k l.length (ints l)
theorem X3 (l:List Int):isL (C.sl l.length (ints l)) l:=⟨by rw[Znl],λk=>by rw[Zij]⟩
theorem Rp:isL C.nl []:=⟨by rw[Zgw];rfl,λk=>by rw[Zik];rfl⟩
section
variable (fu d:Nat) (hf:18446744073709551616<=fu)
include hf
theorem Er (a b:List Int) (ha:a.length<=1000000) (hb:b.length<=1000000):cl fu (d+1) fn_synopticref25_Ints [V.c (C.sl a.length (ints a)),V.c (C.sl b.length (ints b))] []=OK (B (decide (a=b))):=by
 rw[eq_synopticref25_Ints];by_cases hl:a.length=b.length
 ·rcases Ut (λj=>at0 a j≠at0 b j) a.length with hn|⟨k,hk,hne,hlt⟩
  ·rw[decide_eq_true (Zqs hl λk hk=>Classical.not_not.1 (hn k hk))];simp(disch:=omega)only[Za,QM,QD];rw[Zk (λj:Nat=>(false,((j:Nat):Int),())) 0 (false,((a.length:Nat):Int),()) a.length ?_ ?_ ?_ (by omega)]
   ·simp(disch:=omega)only[Za,QM,QD]
   ·rfl
   ·intro j hj;have e1:=Zm a hj;have e2:=Zm b (i:=j) (by omega);have e3:=Classical.not_not.1 (hn j hj);rw[<-e3]at e2;simp(disch:=omega)only[Za,QM,QD,Zs2,Zta,e1,e2];rfl
   ·simp(disch:=omega)only[Za,QM,QD]
  ·rw[decide_eq_false (λe:a=b=>hne (by rw[e]))];simp(disch:=omega)only[Za,QM,QD];rw[Zk (λj:Nat=>(false,((j:Nat):Int),())) 1 (false,((k:Nat):Int),()) k ?_ ?_ ?_ (by omega)]
   ·simp(disch:=omega)only[Za,QM,QD]
   ·rfl
   ·intro j hj;have e1:=Zm a (i:=j) (by omega);have e2:=Zm b (i:=j) (by omega);have e3:=Classical.not_not.1 (hlt j hj);rw[<-e3]at e2;simp(disch:=omega)only[Za,QM,QD,Zs2,Zta,e1,e2];rfl
   ·have e1:=Zm a (i:=k) (by omega);have e2:=Zm b (i:=k) (by omega);simp(disch:=omega)only[Za,QM,QD,Zs2,Zta,e1,e2]
 ·rw[decide_eq_false (λe:a=b=>hl (by rw[e]))];simp(disch:=omega)only[Za,QM,QD]
theorem Zaa (n m:Int) (c1 c2 c3 c4:C) {a b a' b':List Int} (h1:isL c1 a) (h2:isL c2 b) (h3:isL c3 a') (h4:isL c4 b') (l1:a.length<=1000000) (l2:b.length<=1000000) (l3:a'.length<=1000000) (l4:b'.length<=1000000):
  cl fu (d+2) fn_synopticref29_Same [V.agg [C.v (.int .i64 n),c1,c2],V.agg [C.v (.int .i64 m),c3,c4]] []=OK (B (decide (n=m/\a=a'/\b=b'))):=by
 have e1:=Er fu d hf a a' l1 l3;have e2:=Er fu d hf b b' l2 l4;rw[eq_synopticref29_Same,h1.1,h2.1,h3.1,h4.1];by_cases q1:n=m
 ·by_cases q2:a=a'
  ·rw[decide_eq_true q2]at e1;rw[show decide (n=m/\a=a'/\b=b')=decide (b=b') from decide_eq_decide.2 ⟨λq=>q.2.2,λq=>⟨q1,q2,q⟩⟩];simp(disch:=omega)only[Za,QM,QD,e1,e2]
  ·rw[decide_eq_false q2]at e1;rw[decide_eq_false (λq:n=m/\a=a'/\b=b'=>q2 q.2.1)];simp(disch:=omega)only[Za,QM,QD,e1]
 ·rw[decide_eq_false (λq:n=m/\a=a'/\b=b'=>q1 q.1)];simp(disch:=omega)only[Za,QM,QD]
end
end Go.Proofs.YtjmempcalaliiaaGreatDoor
namespace Go.Proofs.YtjmempcalaliiaaGreatDoor
open Go Go.PM Go.Grid
attribute [local congr] Zu Zv Zw Yd Zx Zy Ye Yf Yg Yh Zz Z0 Yi Yt Yu Yv Yw Yx Yz Y1 Y2 Y4 Yy Z2 Z3 Y5 Z4 Z5 Zj Z6 Z1
theorem Zhm {l:List Int} (h: ∀x∈l,0<=x/\x<=255) {k:Nat} (hk:k<=1000):bytes (l.take k):=⟨λx hx=>h x (Zvu hx),by rw[Zty];omega⟩
def rs (dp:List Int) (r:List Int):Int:=(r.map λk=>at0 dp k.toNat).sum
theorem Zci {n:Nat} (h:Yb n):0<(edg n).length:=by
 have hm:tc n (pt n 0 1 0) (pt n 0 0 1) (pt n 0 0 0)∈tri n:=by
  have hn:=h;unfold Yb at hn;unfold tri Jx rowC X7;simp only[Zu6,Zut];exact⟨0,by omega,0,by omega,0,by omega,Zum ..⟩
 exact List.length_pos_of_mem ((Ziu n _).2 ((Ze5 n _).2 ⟨_,hm,Zum ..⟩))
structure Vst (n:Nat) (dp fw:List Int):Prop where
 dl:dp.length=(Zg n).length
 fl:fw.length=(edg n).length
 dw:wid 0 16777216 dp
 fw:wid (-16777216) 16777216 fw
theorem StOk.vst {n:Nat} {dp fw:List Int} (h:StOk n dp fw):Vst n dp fw:=⟨h.dl,h.fl,h.dw,Sf h.fw (by omega) (by omega)⟩
theorem Zhn {lo hi:Int} {l:List Int} {k:Nat} (hk:k<l.length) (h: ¬(lo<=at0 l k/\at0 l k<=hi)):Yk lo hi l=true:=by
 cases e:Yk lo hi l with
 |true=>rfl
 |false=>
  rw[Q8 hk]at h;exact absurd (Z7.1 e _ (Zt6 hk)) h
theorem Zcj {lo hi:Int} {l:List Int} (h: ∀k,k<l.length->lo<=at0 l k/\at0 l k<=hi):wid lo hi l:=λv hv=>by
 obtain⟨k,hk,rfl⟩:=Zt7.1 hv;rw[<-Q8 hk];exact h k hk
theorem Ku {n:Nat} (h:Yb n):0<(Zg n).length:=by rw[Tb h];omega
section
variable (fu d:Nat) (hf:18446744073709551616<=fu)
theorem Zsn (x:Int) (n:Nat) (hn:1<=n/\n<=1000000000000): ∃v:Nat,v<n/\cl fu (d+1) fn_synopticfield_Mod [I x,I (n:Int)] []=OK (I (v:Int)):=by
 rw[eq_synopticfield_Mod];have h1:Zya x n=x-n*Zx8 x n:=by have:=Int.tmod_add_mul_tdiv x n;omega
 have h2: -(n:Int)<Zya x n/\Zya x n<n:=by
  have:=Int.tmod_lt_of_pos x (by omega:(0:Int)<n);have:=Int.lt_tmod_of_pos x (by omega:(0:Int)<n);omega
 generalize Zya x n=q at*
 by_cases h0:q<0
 ·refine⟨(q+n).toNat,by omega, ?_⟩;rw[Zw5 (by omega)];simp(disch:=omega)only[Za,QM,QD]
 ·refine⟨q.toNat,by omega, ?_⟩;rw[Zw5 (by omega)];simp(disch:=omega)only[Za,QM,QD]
end
end Go.Proofs.YtjmempcalaliiaaGreatDoor
namespace Go.Proofs.YtjmempcalaliiaaGreatDoor
open Go Go.PM Go.Grid
attribute [local congr] Zu Zv Zw Yd Zx Zy Ye Yf Yg Yh Zz Z0 Yi Yt Yu Yv Yw Yx Yz Y1 Y2 Y4 Yy Z2 Z3 Y5 Z4 Z5 Zj Z6 Z1
def clp (x:Int):Int:=if 16777216<(if -16777216>x then -16777216 else x)then 16777216 else if -16777216>x then -16777216 else x
theorem Zso (x:Int): -16777216<=clp x/\clp x<=16777216:=by
 unfold clp
 repeat' split
 all_goals omega
def slE (dp:List Int) (E:List (Int×Int)) (j:Nat):Int:=at0 dp (E.getD j (0,0)).1.toNat-at0 dp (E.getD j (0,0)).2.toNat
def acc1 (a b:Nat) (f s:Int):Int:=clp (f+(shr s b-shr f a))
def accE (a b:Nat) (dp fw:List Int) (E:List (Int×Int)) (j:Nat):Int:=acc1 a b (at0 fw j) (slE dp E j)
def Zou (a b:Nat) (dp fw:List Int) (E:List (Int×Int)) (k:Nat):List Int:=(Zyf k).map (accE a b dp fw E)
theorem Zfa (a b:Nat) (dp fw:List Int) (E:List (Int×Int)) (k:Nat):(Zou a b dp fw E k).length=k:=by simp[Zou]
theorem Zck (f:Nat->Int) (n:Nat) {j:Nat} (h:j<n):at0 ((Zyf n).map f) j=f j:=by
 unfold at0;rw[Ztj,Ztg,Zw3 h];rfl
theorem Zfb (a b:Nat) (dp fw:List Int) (E:List (Int×Int)) (k:Nat):wid (-16777216) 16777216 (Zou a b dp fw E k):=λv hv=>by
 unfold Zou at hv;obtain⟨j,_,rfl⟩:=Zvh.1 hv;exact Zso _
theorem Zsp {w:Int} (s:Nat) {m:Int} (hm:0<=m) (h: -m<=w/\w<=m): -m-1<=shr w s/\shr w s<=m:=by
 unfold shr;have hp:(1:Int)<=2^s:=by
  have:0<2^s:=Nat.pow_pos (by omega);have e:((2^s:Nat):Int)=(2:Int)^s:=by push_cast;rfl
  omega
 generalize (2:Int)^s=q at*
 rw[Zv7 _ (by omega)];constructor
 ·refine Int.le_ediv_of_mul_le (by omega) ?_;have:(-m-1)*q<=(-m-1)*1:=Zwz (by omega) hp;omega
 ·have h1:w/q<=m/q:=Int.ediv_le_ediv (by omega) h.2;have h2:m/q<=m:=Int.ediv_le_self _ hm;omega
section
variable (fu d:Nat) (hf:18446744073709551616<=fu)
include hf
end
end Go.Proofs.YtjmempcalaliiaaGreatDoor
namespace Go.Proofs.YtjmempcalaliiaaGreatDoor
open Go Go.PM Go.Grid
attribute [local congr] Zu Zv Zw Yd Zx Zy Ye Yf Yg Yh Zz Z0 Yi Yt Yu Yv Yw Yx Yz Y1 Y2 Y4 Yy Z2 Z3 Y5 Z4 Z5 Zj Z6 Z1
def stF (n a b:Nat) (dp fw:List Int):List Int:=Zou a b dp fw (edg n) (edg n).length
def stA (n a b c:Nat) (dp fw:List Int):List Int:=amL dp (Xc (Zg n).length (edg n)) (stF n a b dp fw) c (edg n) (edg n).length
def stD (n a b c:Nat) (dp fw:List Int):List Int:=Vz dp ((edg n).zip (stA n a b c dp fw))
def stBad (n a b c:Nat) (dp fw:List Int):Bool:=Yk 0 16777216 (stD n a b c dp fw)
theorem Bl (n a b:Nat) (dp fw:List Int):(stF n a b dp fw).length=(edg n).length:=Zfa ..
theorem Zho (n a b c:Nat) (dp fw:List Int):(stD n a b c dp fw).length=dp.length:=Sg ..
theorem Vst.acc {n:Nat} {dp fw:List Int} (h:Vst n dp fw) (a b:Nat):Vst n dp (stF n a b dp fw):=⟨h.dl,Bl ..,h.dw,Zfb _ _ _ _ _ _⟩
theorem Vst.step {n:Nat} {dp fw:List Int} (h:Vst n dp fw) {a b c:Nat} (ho:stBad n a b c dp fw=false):Vst n (stD n a b c dp fw) (stF n a b dp fw):=⟨by rw[Zho];exact h.dl,Bl ..,Z7.1 ho,Zfb _ _ _ _ _ _⟩
section
variable (fu d:Nat) (hf:18446744073709551616<=fu)
include hf
end
end Go.Proofs.YtjmempcalaliiaaGreatDoor
namespace Go.Proofs.YtjmempcalaliiaaGreatDoor
open Go Go.PM Go.Grid
def sc (a b c:Nat):Nat:=30*2^(max a b+c)
def scA (a b c:Nat):Nat:=30*2^(max a b+c-a)
def scB (a b c:Nat):Nat:=30*2^(max a b+c-b)
def tp (a b:Nat):Nat:=30*2^max a b-30*2^(max a b-a)
def tr (a b:Nat):Nat:=30*2^(max a b-b)
theorem pw (m k s:Nat) (h:s<=m) (e:k=m-s):30*2^m=30*2^k*2^s:=by
 rw[Nat.mul_assoc,<-Nat.pow_add,e,Nat.sub_add_cancel h]
theorem sc_a (a b c:Nat):sc a b c=scA a b c*2^a:=pw _ _ _ (by omega) rfl
theorem sc_b (a b c:Nat):sc a b c=scB a b c*2^b:=pw _ _ _ (by omega) rfl
theorem scB_c (a b c:Nat):scB a b c=tr a b*2^c:=pw _ _ _ (by omega) (by omega)
theorem Zcl (a b c:Nat):scA a b c<=sc a b c:=by
 unfold scA sc;exact Zw2 _ (Zv6 (by omega) (by omega))
theorem Zhp (a b c:Nat):scB a b c<=sc a b c:=by
 unfold scB sc;exact Zw2 _ (Zv6 (by omega) (by omega))
theorem scD_c (a b c:Nat):sc a b c-scA a b c=tp a b*2^c:=by
 have h1:sc a b c=30*2^max a b*2^c:=pw _ _ _ (by omega) (by omega);have h2:scA a b c=30*2^(max a b-a)*2^c:=pw _ _ _ (by omega) (by omega);rw[h1,h2,tp,Nat.sub_mul]
theorem Bm {a b c:Nat} (ha:a<=4) (hb:b<=4) (hc:c<=4):sc a b c<=7680:=by
 have h:2^(max a b+c)<=2^8:=Zv6 (by omega) (by omega);unfold sc;omega
theorem Zqt (x q:Int) (s:Nat):shr (x+q*2^s) s=shr x s+q:=by
 unfold shr;have hp:(0:Int)<2^s:=Int.pow_pos (by omega);rw[Zv7 _ (by omega),Zv7 _ (by omega),Int.add_mul_ediv_right _ _ (by omega)]
theorem Es (q:Int) (s:Nat):shr (q*2^s) s=q:=by
 have:=Zqt 0 q s;rw[Zwb]at this;rw[this];unfold shr;rw[Int.zero_fdiv];omega
theorem Nu (s:Nat):((2^s:Nat):Int)=2^s:=by simp
theorem sc_aI (a b c:Nat):((sc a b c:Nat):Int)=(scA a b c:Int)*2^a:=by rw[sc_a,Zu4,Nu]
theorem sc_bI (a b c:Nat):((sc a b c:Nat):Int)=(scB a b c:Int)*2^b:=by rw[sc_b,Zu4,Nu]
theorem Zsq (a b c:Nat):((scB a b c:Nat):Int)=(tr a b:Int)*2^c:=by rw[scB_c,Zu4,Nu]
theorem Zsr (a b c:Nat):((sc a b c:Nat):Int)-(scA a b c:Int)=(tp a b:Int)*2^c:=by
 have h1:=Zcl a b c;have h2:=congrArg (λn:Nat=>(n:Int)) (scD_c a b c);simp only[Zu4,Nu]at h2;omega
def tF (a b c:Nat) (hd hf:List Int) (E:List (Int×Int)) (j:Nat):Int:=((sc a b c:Int)-scA a b c)*at0 hf j+(scB a b c:Int)*(at0 hd (E.getD j (0,0)).1.toNat-at0 hd (E.getD j (0,0)).2.toNat)
def tG (a b:Nat) (hd hf:List Int) (E:List (Int×Int)) (j:Nat):Int:=(tp a b:Int)*at0 hf j+(tr a b:Int)*(at0 hd (E.getD j (0,0)).1.toNat-at0 hd (E.getD j (0,0)).2.toNat)
theorem Zov (a b c:Nat) (hd hf:List Int) (E:List (Int×Int)) (j:Nat):tF a b c hd hf E j=tG a b hd hf E j*2^c:=by
 unfold tF tG;rw[Zsr,Zsq,Int.add_mul]
 congr 1
 ·rw[Zxm,Zw6 (2^c),<-Zxm]
 ·rw[Zxm,Zw6 (2^c),<-Zxm]
def tAm (a b c:Nat) (dg br hd hf:List Int) (E:List (Int×Int)) (j:Nat):Int:=
 if at0 br j=1 then Zx8 (sc a b c) (at0 dg (E.getD j (0,0)).1.toNat)*at0 hd (E.getD j (0,0)).1.toNat
 else if at0 br j= -1 then -(Zx8 (sc a b c) (at0 dg (E.getD j (0,0)).2.toNat)*at0 hd (E.getD j (0,0)).2.toNat)
 else tG a b hd hf E j
def tFL (a b c:Nat) (hd hf:List Int) (E:List (Int×Int)) (k:Nat):List Int:=(Zyf k).map (tF a b c hd hf E)
def tAL (a b c:Nat) (dg br hd hf:List Int) (E:List (Int×Int)) (k:Nat):List Int:=(Zyf k).map (tAm a b c dg br hd hf E)
def tDL (a b c:Nat) (dg br hd hf:List Int) (E:List (Int×Int)):List Int:=Vz (hd.map λx=>(sc a b c:Int)*x) (E.zip (tAL a b c dg br hd hf E E.length))
theorem Kv (a b c:Nat) (hd hf:List Int) (E:List (Int×Int)) (k:Nat):(tFL a b c hd hf E k).length=k:=by simp[tFL]
theorem Kw (a b c:Nat) (dg br hd hf:List Int) (E:List (Int×Int)) (k:Nat):(tAL a b c dg br hd hf E k).length=k:=by simp[tAL]
theorem Kx (a b c:Nat) (dg br hd hf:List Int) (E:List (Int×Int)):(tDL a b c dg br hd hf E).length=hd.length:=by unfold tDL;rw[Sg,Zti]
theorem Zqu (f:Int->Int) (h0:f 0=0) (l:List Int) (k:Nat):at0 (l.map f) k=f (at0 l k):=by
 unfold at0;rw[Ztj,Ztg,Ztj];cases l[k]? with
 |none=>exact h0.symm
 |some v=>rfl
theorem Zcm (f g:Nat->Int): ∀n,((Zyf n).map λj=>f j+g j).sum=((Zyf n).map f).sum+((Zyf n).map g).sum
 |0=>rfl
 |n+1=>by
  simp only[Zu5,Zu1,Zxv,Zcm f g n,Zua,Zv9,Zwv,List.sum_nil];omega
end Go.Proofs.YtjmempcalaliiaaGreatDoor
namespace Go.Proofs.YtjmempcalaliiaaGreatDoor
open Go Go.PM Go.Grid
attribute [local congr] Zu Zv Zw Yd Zx Zy Ye Yf Yg Yh Zz Z0 Yi Yt Yu Yv Yw Yx Yz Y1 Y2 Y4 Yy Z2 Z3 Y5 Z4 Z5 Zj Z6 Z1
def J8 (E:List (Int×Int)) (k:Nat):Int:=(E.map λe=>(if k=e.1.toNat then(1:Int)else 0)+(if k=e.2.toNat then 1 else 0)).sum
theorem P3 (e:Int×Int) (E:List (Int×Int)) (k:Nat):J8 (e::E) k=(if k=e.1.toNat then(1:Int)else 0)+(if k=e.2.toNat then 1 else 0)+J8 E k:=by unfold J8;rw[Zua,Zwv]
theorem Zcn (k:Nat): ∀E,0<=J8 E k
 | []=>by simp[J8]
 |e::E=>by
  rw[P3];have:=Zcn k E
  repeat' split
  all_goals omega
theorem Zab (k:Nat): ∀(E:List (Int×Int)) (j:Nat),J8 (E.take j) k<=J8 E k
 | [],j=>by simp
 |e::E,0=>by rw[Zuy];exact Zcn k _
 |e::E,j+1=>by
  rw[Zvj,P3,P3];have:=Zab k E j;omega
theorem Zow (k:Nat): ∀(E:List (Int×Int)) (l:List Int),k<l.length->at0 (E.foldl (λl e=>mv1 l e 1 1) l) k=at0 l k+J8 E k
 | [],l,_=>by simp[J8]
 |e::E,l,h=>by
  rw[Zuz,Zow k E _ (by rw[Ro];exact h),Zhk,P3];by_cases h1:k=e.1.toNat<;>by_cases h2:k=e.2.toNat<;>simp only[h,h1,h2,and_true,if_true,if_false,false_and,true_and]<;>omega
theorem Zox {N:Nat} (E:List (Int×Int)) {k:Nat} (hk:k<N):at0 (Xc N E) k=J8 E k:=by
 unfold Xc;rw[Zow k E _ (by rw[Zv3];exact hk),Ziw];omega
theorem Ziz {m:Int} (hm:0<=m) (k:Nat): ∀P:List ((Int×Int)×Int),(∀p∈P,-m<=p.2/\p.2<=m)-> -(m*J8 (P.map (·.1)) k)<=net P k/\net P k<=m*J8 (P.map (·.1)) k
 | [],_=>by simp[net,J8]
 |p::P,h=>by
  have h1:=h p (Zum ..);have h2:=Ziz hm k P λq hq=>h q (Ztp _ hq);rw[Zua,P3,Ze9,Zx1,Zx1];by_cases q1:k=p.1.1.toNat<;>by_cases q2:k=p.1.2.toNat
  ·rw[if_pos q1,if_pos q2,if_pos q1,if_pos q2,Zzf];omega
  ·rw[if_pos q1,if_neg q2,if_pos q1,if_neg q2,Zzf,Zvz];omega
  ·rw[if_neg q1,if_pos q2,if_neg q1,if_pos q2,Zzf,Zvz];omega
  ·rw[if_neg q1,if_neg q2,if_neg q1,if_neg q2,Zvz];omega
theorem Zco (E:List (Int×Int)) (am:List Int) (h:am.length=E.length) (j:Nat):((E.zip am).take j).map (·.1)=E.take j:=by
 rw[Zxl,List.map_fst_zip (by omega)]
theorem Zss {n:Nat} (hn:n=1\/n=2): ∀v∈Xc (Zg n).length (edg n),v=5\/v=6:=by
 have h:((Xc (Zg n).length (edg n)).all λv=>decide (v=5\/v=6))=true:=by rcases hn with rfl|rfl<;>kernel_rfl
 intro v hv;exact of_decide_eq_true (Ztk.1 h v hv)
theorem M2 {n:Nat} (hn:n=1\/n=2) {k:Nat} (hk:k<(Zg n).length):at0 (Xc (Zg n).length (edg n)) k=5\/at0 (Xc (Zg n).length (edg n)) k=6:=by
 rw[Q8 (by rw[Si];exact hk)];exact Zss hn _ (Zt6 _)
theorem Zcp (a b c:Nat) {v:Int} (h:v=5\/v=6):(sc a b c:Int)=Zx8 (sc a b c) v*v/\0<=Zx8 (sc a b c) v/\Zx8 (sc a b c) v<=sc a b c:=by
 unfold sc;generalize 2^(max a b+c)=x;rw[Int.tdiv_eq_ediv_of_nonneg (by omega)];rcases h with rfl|rfl<;>omega
theorem Ui {p x m:Int} {P:Int} (hp:0<=p/\p<=P) (hx: -m<=x/\x<=m) (hm:0<=m): -(P*m)<=p*x/\p*x<=P*m:=by
 have h1:p*x<=p*m:=Zvy hx.2 hp.1;have h2:p* -m<=p*x:=Zvy hx.1 hp.1;have h3:p*m<=P*m:=Int.mul_le_mul_of_nonneg_right hp.2 hm;rw[Int.mul_neg]at h2;omega
theorem Zoy {a b c:Nat} (ha:a<=4) (hb:b<=4) (hc:c<=4) {hd hf:List Int} {E:List (Int×Int)} {m:Int} (hm:0<=m) (h1: ∀i,-m<=at0 hd i/\at0 hd i<=m) (h2: ∀i,-m<=at0 hf i/\at0 hf i<=m) (j:Nat): -(23040*m)<=tF a b c hd hf E j/\tF a b c hd hf E j<=23040*m:=by
 unfold tF;have s1:=Bm ha hb hc;have s2:=Zcl a b c;have s3:=Zhp a b c;have x1:=h1 (E.getD j (0,0)).1.toNat;have x2:=h1 (E.getD j (0,0)).2.toNat;have m1:=Ui (p:=(sc a b c:Int)-scA a b c) (P:=7680) (by omega) (h2 j) hm;have m2:=Ui (p:=(scB a b c:Int)) (P:=7680) (x:=at0 hd (E.getD j (0,0)).1.toNat-at0 hd (E.getD j (0,0)).2.toNat) (m:=2*m) (by omega) (by omega) (by omega);omega
theorem Zhq {a b c:Nat} (ha:a<=4) (hb:b<=4) (hc:c<=4) {n:Nat} (hn:n=1\/n=2) {br hd hf:List Int} {m:Int} (hm:0<=m) (h1: ∀i,-m<=at0 hd i/\at0 hd i<=m) (h2: ∀i,-m<=at0 hf i/\at0 hf i<=m) {j:Nat} (hj:j<(edg n).length):
  -(23040*m)<=tAm a b c (Xc (Zg n).length (edg n)) br hd hf (edg n) j/\tAm a b c (Xc (Zg n).length (edg n)) br hd hf (edg n) j<=23040*m:=by
 have hin:=Gb (R2 hn) _ (Zt6 hj);have s1:=Bm ha hb hc;have q1:=Zcp a b c (M2 hn (k:=(edg n)[j].1.toNat) (by omega));have q2:=Zcp a b c (M2 hn (k:=(edg n)[j].2.toNat) (by omega));have m1:=Ui (P:=7680) ⟨q1.2.1,by omega⟩ (h1 (edg n)[j].1.toNat) hm;have m2:=Ui (P:=7680) ⟨q2.2.1,by omega⟩ (h1 (edg n)[j].2.toNat) hm;have m3:=Zoy ha hb hc (E:=edg n) hm h1 h2 j;have e3:tG a b hd hf (edg n) j=shr (tF a b c hd hf (edg n) j) c:=by rw[Zov,Es]
 have m4:=Zsp c (m:=23040*m) (by omega) m3;have m5: -(23040*m)<=tG a b hd hf (edg n) j:=by
  have h0:tG a b hd hf (edg n) j*2^c=tF a b c hd hf (edg n) j:=(Zov ..).symm;have hp:(1:Int)<=2^c:=by
   have:=Nat.pow_pos (n:=c) (show 0<2 by omega);have e:=Nu c;omega
  by_cases hneg:tG a b hd hf (edg n) j<0
  ·have:tG a b hd hf (edg n) j*2^c<=tG a b hd hf (edg n) j*1:=Zwz (by omega) hp;omega
  ·omega
 unfold tAm;rw[Bh _ hj];split
 ·omega
 ·split
  ·omega
  ·rw[e3]at m5⊢;omega
section
variable (fu d:Nat) (hf:18446744073709551616<=fu)
theorem Ky (v lo hi:Int):cl fu (d+1) fn_tangent_within [I v,I lo,I hi] []=OK (B (decide (lo<=v)&&decide (v<=hi))):=by
 rw[eq_tangent_within];by_cases h:lo<=v
 ·simp(disch:=omega)only[Za,QM,QD]
 ·simp(disch:=omega)only[Za,QM,QD]
theorem Ai (v:Int) (m:Nat) (hm:m<=1000000000000000000):cl fu (d+2) fn_tangent_outside_1 [I v,V.c (C.cp [C.v (.int .i64 (m:Int))])] []=OK (B (!(decide (-(m:Int)<=v)&&decide (v<=(m:Int))))):=by
 have e:=Ky fu d v (-(m:Int)) m;have w0:Zx2.wrap (0-(m:Int))= -(m:Int):=by rw[Uq (by omega) (by omega)];omega
 generalize (decide (-(m:Int)<=v)&&decide (v<=(m:Int)))=b at*
 rw[eq_tangent_outside_1];simp only[Za,QM,w0,e]
include hf
theorem Ub (l:List Int) (hl:l.length<=1000000) (m:Nat) (hm:m<=1000000000000000000):cl fu (d+5) fn_tangent_outside [V.c (C.sl l.length (ints l)),I (m:Int)] []=OK (B (Yk (-(m:Int)) m l)):=by
 have h1:=λv=>Ai fu d v m hm;rw[eq_tangent_outside,eq1_slices_ContainsFunc_sint_int,eq1_slices_IndexFunc_sint_int];rcases Ut (λj=> ∃h:j<l.length,(!(decide (-(m:Int)<=l[j])&&decide (l[j]<=(m:Int))))=true) l.length with hn|⟨k,hk,⟨hk2,hb⟩,hn⟩
 ·have hall:Yk (-(m:Int)) m l=false:=by
   unfold Yk;rw[Zu8];intro v hv;obtain⟨j,hj,rfl⟩:=Zw4 hv;exact λe=>hn j hj ⟨hj,e⟩
  rw[hall,Zk (λj:Nat=>((0:Int),(j:Int),())) 0 ((0:Int),((l.length:Nat):Int),()) l.length ?_ ?_ ?_ (by omega)]
  ·simp(disch:=omega)only[Za,QM,QD]
  ·rfl
  ·intro j hj;have hia:=ints_at l hj;have hv:=hn j hj;have hv:(!(decide (-(m:Int)<=l[j])&&decide (l[j]<=(m:Int))))=false:=by
    cases e:(!(decide (-(m:Int)<=l[j])&&decide (l[j]<=(m:Int))))
    ·rfl
    ·exact absurd ⟨hj,e⟩ hv
   have h1:=h1 l[j];rw[hv]at h1;simp(disch:=omega)only[Za,QM,QD,Zs2,Zta,hia,h1];rfl
  ·simp(disch:=omega)only[Za,QM,QD]
 ·have hall:Yk (-(m:Int)) m l=true:=by
   unfold Yk;rw[Zws];exact⟨l[k],Zt6 hk2,hb⟩
  rw[hall,Zk (λj:Nat=>((0:Int),(j:Int),())) 1 ((k:Int),(k:Int),()) k ?_ ?_ ?_ (by omega)]
  ·simp(disch:=omega)only[Za,QM,QD]
  ·rfl
  ·intro j hj;have hjl:j<l.length:=by omega
   have hia:=ints_at l hjl;have hv:=hn j hj;have hv:(!(decide (-(m:Int)<=l[j])&&decide (l[j]<=(m:Int))))=false:=by
    cases e:(!(decide (-(m:Int)<=l[j])&&decide (l[j]<=(m:Int))))
    ·rfl
    ·exact absurd ⟨hjl,e⟩ hv
   have h1:=h1 l[j];rw[hv]at h1;simp(disch:=omega)only[Za,QM,QD,Zs2,Zta,hia,h1];rfl
  ·have hia:=ints_at l hk2;have h1:=h1 l[k];rw[hb]at h1;simp(disch:=omega)only[Za,QM,QD,Zs2,Zta,hia,h1]
theorem Zli {bs:List Int} (hb:bytes bs) {i:Nat} (hi:i<=1000) (n:Nat) (h:Yb n) (most:Nat) (hm:most<=10000000000000) (top:Int) (ht:(most:Int)<=top/\9<=top):
  ∃(hd hf:List Int) (j:Nat),hd.length=(Zg n).length/\hf.length=(edg n).length/\wid (-top) top hd/\wid (-top) top hf/\j<=1000/\cl fu (d+10) fn_synopticfield_Codes_Change [V.ptr 1000000 0,I n,I most] [Yo bs i]=some ⟨V.agg [C.sl hd.length (ints hd),C.sl hf.length (ints hf)],[Yo bs j],none⟩:=by
 have hE:=Qk fu d hf n h;have heL:=Uu h;have hNl:=Y7 h;have hN22:=Rn fu (d+8) n h;obtain⟨l1,j1,hl1,hw1,hj1,e1⟩:=Lh fu (d+5) hf hb hi (Zg n).length most (by omega) hm top ht;obtain⟨l2,j2,hl2,hw2,hj2,e2⟩:=Lh fu (d+5) hf hb hj1 (edg n).length most (by omega) hm top ht;refine⟨l1,l2,j2,hl1,hl2,hw1,hw2,hj2, ?_⟩;unfold Yo at*
 generalize edg n=E at*
 generalize (Zg n).length=N at*
 rw[eq_synopticfield_Codes_Change,hE];simp(disch:=omega)only[Za,QM,QD,hN22,e1,e2,Zs3,Zs9,Zs4,Nat.reduceAdd]
theorem Zac {bs:List Int} (hb:bytes bs) {i:Nat} (hi:i<=1000) (n:Nat) (h:Yb n):
  ∃(br:List Int) (j:Nat),br.length=(edg n).length/\wid (-1) 1 br/\j<=1000/\cl fu (d+10) fn_synopticfield_Codes_Branch [V.ptr 1000000 0,I n] [Yo bs i]=some ⟨V.c (C.sl br.length (ints br)),[Yo bs j],none⟩:=by
 have hE:=Qk fu d hf n h;have heL:=Uu h;have hN:=λ(i:Nat) (hi:i<=1000)=>X1 fu (d+7) hb hi 5 (by omega);unfold Yo at*
 generalize edg n=E at*
 rw[eq_synopticfield_Codes_Branch,hE];simp(disch:=omega)only[Za,QM,QD,Zs3,Zs9,Zs4,Nat.reduceAdd];refine Ug (A:=List C×Int×(C×Int×Unit)×Unit) (B:=Out) (fu:=fu) (λo=> ∃(l:List Int) (j:Nat),l.length=E.length/\wid (-1) 1 l/\j<=1000/\o=some ⟨V.c (C.sl l.length (ints l)),[Yo bs j],none⟩)
  (λy=> ∃(l:List Int) (j:Nat),l.length<=E.length/\wid (-1) 1 l/\j<=1000/\y=(ints l,((l.length:Nat):Int),(C.sl bs.length (ik .u8 bs),(j:Int),()),())) (λy=>E.length-y.2.1.toNat)
  (λe y=>e=0/\ ∃(l:List Int) (j:Nat),l.length=E.length/\wid (-1) 1 l/\j<=1000/\y=(ints l,((l.length:Nat):Int),(C.sl bs.length (ik .u8 bs),(j:Int),()),())) ?_ ?_ ?_ ?_
 ·exact⟨[],i,by simp,(by intro v hv;cases hv),hi,rfl⟩
 ·show E.length-_<fu;omega
 ·rintro y ⟨l,j,hl,hw,hj,rfl⟩
  by_cases hlt:l.length<E.length
  ·obtain⟨v,k,hv,hk,e5⟩:=hN j hj;replace e5:cl fu (d+9) fn_synopticfield_Codes_Next [V.ptr 1000000 0,I 5] _=_:=e5;obtain⟨x,r,hx,hdr⟩: ∃(x:Int) (r:List C),(-1<=x/\x<=1)/\Zx5 v [C.v (.int .i64 0),C.v (.int .i64 0),C.v (.int .i64 0),C.v (.int .i64 1),C.v (.int .i64 (-1))]=C.v (.int .i64 x)::r:=by
    rcases(show v=0\/v=1\/v=2\/v=3\/v=4 by omega)with rfl|rfl|rfl|rfl|rfl
    ·exact⟨0,_,by omega,rfl⟩
    ·exact⟨0,_,by omega,rfl⟩
    ·exact⟨0,_,by omega,rfl⟩
    ·exact⟨1,_,by omega,rfl⟩
    ·exact⟨-1,_,by omega,rfl⟩
   refine .inl ⟨(ints (l++[x]),(((l++[x]).length:Nat):Int),(C.sl bs.length (ik .u8 bs),(k:Int),()),()), ?_,⟨l++[x],k,by simp;omega,Ze7 hw hx,hk,rfl⟩, ?_⟩
   ·simp(disch:=omega)only[Za,QM,QD,e5,Zs3,Zs9,Zs4,Nat.reduceAdd,Zs2,Zta,hdr,Ze,Zto,Ud,Ztb,Zt0,Zuo]
   ·show E.length-(((l++[x]).length:Nat):Int).toNat<E.length-((l.length:Nat):Int).toNat;rw[Ztb,Zwp];omega
  ·refine .inr ⟨0,(ints l,((l.length:Nat):Int),(C.sl bs.length (ik .u8 bs),(j:Int),()),()), ?_,rfl,l,j,by omega,hw,hj,rfl⟩;simp(disch:=omega)only[Za,QM,QD,Ze,Zto,Zta]
 ·rintro e z ⟨rfl,l,j,hl,hw,hj,rfl⟩
  refine⟨l,j,hl,hw,hj, ?_⟩;have htk:Zx6 l.length (ints l)=ints l:=Ztc (by rw[Ze];exact Ztf _);simp(disch:=omega)only[Za,QM,QD,Ze,Zto,Zta,Zs4,htk]
theorem J9 (a b c:Nat) (ha:1<=a/\a<=4) (hb:1<=b/\b<=4) (hc:1<=c/\c<=4):cl fu (d+7) fn_tangent_Scale [V.agg [C.v (.int .i64 (a:Int)),C.v (.int .i64 (b:Int)),C.v (.int .i64 (c:Int))]] []=OK (V.tup [I (sc a b c:Int),I 0]):=by
 have e1:=Bi fu d hf a b c ha hb hc;have hs:=Bm ha.2 hb.2 hc.2;have em:(if(b:Int)>(a:Int)then(b:Int)else(a:Int))=((max a b:Nat):Int):=by split<;>omega
 have hw:Zx2.wrap (((max a b:Nat):Int)+(c:Int))=((max a b+c:Nat):Int):=by rw[Uq (by omega) (by omega)];rfl
 have hmin:min (max a b+c) (Zx9 .i64)=max a b+c:=by show min _ 64=_;omega
 have hsc:(30:Int)*2^(max a b+c)=(sc a b c:Int):=by unfold sc;rw[Zu4,Nu];rfl
 rw[eq_tangent_Scale];simp(disch:=omega)only[Za,QM,QD,e1,em,hw,Zs2,hmin,hsc]
theorem Zlj (n:Nat) (h:Yb n) (br hd hfl:List Int) (l1:br.length=(edg n).length) (l2:hd.length=(Zg n).length) (l3:hfl.length=(edg n).length) (w1:wid (-1) 1 br) (w2:wid (-1099511627776) 1099511627776 hd) (w3:wid (-1099511627776) 1099511627776 hfl):
  cl fu (d+10) fn_tangent_Check [I n,V.c (C.sl br.length (ints br)),V.agg [C.sl hd.length (ints hd),C.sl hfl.length (ints hfl)]] []=OK (I 0):=by
 have hNl:=Y7 h;have heL:=Uu h;have e1:=Qr fu d hf n h;have e2:=Vj fu (d+7) n h;have e3:=Ub fu (d+4) hf br (by omega) 1 (by omega);have e4:=Ub fu (d+4) hf hd (by omega) 1099511627776 (by omega);have e5:=Ub fu (d+4) hf hfl (by omega) 1099511627776 (by omega);replace e3:cl fu (d+9) fn_tangent_outside [V.c (C.sl br.length (ints br)),I 1] []=OK (B (Yk (-1) 1 br)):=e3;replace e4:cl fu (d+9) fn_tangent_outside [V.c (C.sl hd.length (ints hd)),I 1099511627776] []=OK (B (Yk (-1099511627776) 1099511627776 hd)):=e4;replace e5:cl fu (d+9) fn_tangent_outside [V.c (C.sl hfl.length (ints hfl)),I 1099511627776] []=OK (B (Yk (-1099511627776) 1099511627776 hfl)):=e5;rw[Z7.2 w1]at e3;rw[Z7.2 w2]at e4;rw[Z7.2 w3]at e5;generalize edg n=E at*
 generalize (Zg n).length=N at*
 rw[eq_tangent_Check];simp(disch:=omega)only[Za,QM,QD,e1,e2,e3,e4,e5]
end
end Go.Proofs.YtjmempcalaliiaaGreatDoor
namespace Go.Proofs.YtjmempcalaliiaaGreatDoor
open Go Go.PM Go.Grid
attribute [local congr] Zu Zv Zw Yd Zx Zy Ye Yf Yg Yh Zz Z0 Yi Yt Yu Yv Yw Yx Yz Y1 Y2 Y4 Yy Z2 Z3 Y5 Z4 Z5 Zj Z6 Z1
theorem Zoz (a b c:Nat) (dg br hd hf:List Int) (E:List (Int×Int)) {j:Nat} (h:j<E.length):at0 (tAL a b c dg br hd hf E E.length) j=tAm a b c dg br hd hf E j:=Zck _ _ h
theorem Zfc (a b c:Nat) (hd hf:List Int) (E:List (Int×Int)) (k:Nat):tFL a b c hd hf E (k+1)=tFL a b c hd hf E k++[tF a b c hd hf E k]:=by simp[tFL,Zu5]
theorem Et {m:Int} {l:List Int} (h:wid (-m) m l) (hm:0<=m) (i:Nat): -m<=at0 l i/\at0 l i<=m:=Q9 h (by omega) i
theorem Zro (a b c:Nat):Zyc (sc a b c:Int) (2^a)=scA a b c:=by rw[sc_aI];exact Es _ _
theorem Zrp (a b c:Nat):Zyc (sc a b c:Int) (2^b)=scB a b c:=by rw[sc_bI];exact Es _ _
theorem Zrq (a b c:Nat) (hd hf:List Int) (E:List (Int×Int)) (j:Nat):Zyc (tF a b c hd hf E j) (2^c)=tG a b hd hf E j:=by rw[Zov];exact Es _ _
theorem Zo0 {a b c:Nat} (ha:a<=4) (hb:b<=4) (hc:c<=4) {n:Nat} (hn:n=1\/n=2) {br hd hf:List Int} {m:Int} (hm:0<=m) (h0:hd.length=(Zg n).length) (h1: ∀i,-m<=at0 hd i/\at0 hd i<=m) (h2: ∀i,-m<=at0 hf i/\at0 hf i<=m) (j k:Nat):
  -(145920*m)<=at0 (Vz (hd.map λx=>(sc a b c:Int)*x) (((edg n).zip (tAL a b c (Xc (Zg n).length (edg n)) br hd hf (edg n) (edg n).length)).take j)) k/\at0 (Vz (hd.map λx=>(sc a b c:Int)*x) (((edg n).zip (tAL a b c (Xc (Zg n).length (edg n)) br hd hf (edg n) (edg n).length)).take j)) k<=145920*m:=by
 have s1:=Bm ha hb hc;by_cases hk:k<(Zg n).length
 ·have e:=Ziy (((edg n).zip (tAL a b c (Xc (Zg n).length (edg n)) br hd hf (edg n) (edg n).length)).take j) (hd.map λx=>(sc a b c:Int)*x) k (by rw[Zti,h0];exact hk);have m0:=Zqu (λx=>(sc a b c:Int)*x) (Zvz _) hd k;have m1:=Ui (p:=(sc a b c:Int)) (P:=7680) (by omega) (h1 k) hm;have m2:=Ziz (m:=23040*m) (by omega) k (((edg n).zip (tAL a b c (Xc (Zg n).length (edg n)) br hd hf (edg n) (edg n).length)).take j) (λp hp=>by
   have hp:=Zvu hp;have hp2:=(List.of_mem_zip hp).2;unfold tAL at hp2;obtain⟨i,hi,hq⟩:=Zvh.1 hp2;rw[<-hq];exact Zhq ha hb hc hn hm h1 h2 (Zut.1 hi))
  rw[Zco _ _ (Kw ..)]at m2;have m3:=Zab k (edg n) j;have m4:=Zcn k ((edg n).take j);have m5:=Zox (edg n) hk;have m6:=M2 hn hk;have m7:23040*m*J8 ((edg n).take j) k<=23040*m*6:=Zvy (by omega) (by omega);rw[e,m0];omega
 ·have:at0 (Vz (hd.map λx=>(sc a b c:Int)*x) (((edg n).zip (tAL a b c (Xc (Zg n).length (edg n)) br hd hf (edg n) (edg n).length)).take j)) k=0:=by
   unfold at0;rw[Ztj,Zux (by rw[Sg,Zti,h0];omega)];rfl
  rw[this];omega
section
variable (fu d:Nat) (hfu:18446744073709551616<=fu)
include hfu
set_option maxHeartbeats 16000000 in
theorem Zlk (n:Nat) (hn:n=1\/n=2) (a b c:Nat) (ha:1<=a/\a<=4) (hb:1<=b/\b<=4) (hc:1<=c/\c<=4) (br hd hf:List Int) (l1:br.length=(edg n).length) (l2:hd.length=(Zg n).length) (l3:hf.length=(edg n).length) (w1:wid (-1) 1 br) (M:Int) (hM:0<=M/\M<=1099511627776) (w2:wid (-M) M hd) (w3:wid (-M) M hf):
  cl fu (d+12) fn_tangent_Apply [V.agg [C.v (.int .i64 (a:Int)),C.v (.int .i64 (b:Int)),C.v (.int .i64 (c:Int))],I n,V.c (C.sl br.length (ints br)),V.agg [C.sl hd.length (ints hd),C.sl hf.length (ints hf)]] []=OK (V.tup [V.agg [C.sl hd.length (ints (tDL a b c (Xc (Zg n).length (edg n)) br hd hf (edg n))),C.sl (edg n).length (ints (tFL a b c hd hf (edg n) (edg n).length))],I 0]):=by
 have h:=R2 hn;have hNl:=Y7 h;have heL:=Uu h;have e1:=J9 fu (d+4) hfu a b c ha hb hc;have e2:=Zlj fu (d+1) hfu n h br hd hf l1 l2 l3 w1 (Sf w2 (by omega) (by omega)) (Sf w3 (by omega) (by omega));have e3:=Zhl fu d n h;have e4:=Qr fu (d+2) hfu n h;have hin:=Gb h;have h1:=Et w2 hM.1;have h2:=Et w3 hM.1;have hway:=λj k=>Zo0 (br:=br) ha.2 hb.2 hc.2 hn hM.1 l2 h1 h2 j k;have hAb:=λ{j:Nat} (hj:j<(edg n).length)=>Zhq (br:=br) ha.2 hb.2 hc.2 hn hM.1 h1 h2 hj;have hFb:=λj=>Zoy ha.2 hb.2 hc.2 (E:=edg n) hM.1 h1 h2 j;have hd56:=λ{k:Nat} (hk:k<(Zg n).length)=>M2 hn hk;have hs1:=Bm ha.2 hb.2 hc.2;have hs2:=Zcl a b c;have hs3:=Zhp a b c;have hAL:=λ{j:Nat} (hj:j<(edg n).length)=>Zoz a b c (Xc (Zg n).length (edg n)) br hd hf (edg n) hj;have hAl:=Kw a b c (Xc (Zg n).length (edg n)) br hd hf (edg n) (edg n).length;have hdl:=Si (Zg n).length (edg n);have hdiv:=λ{v:Int} (hv:v=5\/v=6)=>Zcp a b c hv;have fA:=Zro a b c;have fB:=Zrp a b c;have fC:=λj=>Zrq a b c hd hf (edg n) j;have ma:min a (Zx9 .i64)=a:=by show min a 64=a;omega
 have mb:min b (Zx9 .i64)=b:=by show min b 64=b;omega
 have mc:min c (Zx9 .i64)=c:=by show min c 64=c;omega
 have hFl:=λk=>Kv a b c hd hf (edg n) k;have hFs:=λk=>Zfc a b c hd hf (edg n) k;have hDl:(tDL a b c (Xc (Zg n).length (edg n)) br hd hf (edg n)).length=hd.length:=Kx ..;have hDD:tDL a b c (Xc (Zg n).length (edg n)) br hd hf (edg n)=Vz (hd.map λx=>(sc a b c:Int)*x) ((edg n).zip (tAL a b c (Xc (Zg n).length (edg n)) br hd hf (edg n) (edg n).length)):=rfl;have htF: ∀j,tF a b c hd hf (edg n) j=((sc a b c:Int)-scA a b c)*at0 hf j+(scB a b c:Int)*(at0 hd ((edg n).getD j (0,0)).1.toNat-at0 hd ((edg n).getD j (0,0)).2.toNat):=λj=>rfl;have htA: ∀j,tAm a b c (Xc (Zg n).length (edg n)) br hd hf (edg n) j=if at0 br j=1 then Zx8 (sc a b c) (at0 (Xc (Zg n).length (edg n)) ((edg n).getD j (0,0)).1.toNat)*at0 hd ((edg n).getD j (0,0)).1.toNat else if at0 br j= -1 then -(Zx8 (sc a b c) (at0 (Xc (Zg n).length (edg n)) ((edg n).getD j (0,0)).2.toNat)*at0 hd ((edg n).getD j (0,0)).2.toNat)else tG a b hd hf (edg n) j:=λj=>rfl
 rw[hDD];rw[hDD]at hDl;clear hDD;generalize tAL a b c (Xc (Zg n).length (edg n)) br hd hf (edg n) (edg n).length=AL at*
 generalize hdg:Xc (Zg n).length (edg n)=dg at*
 generalize hE:edg n=E at*
 generalize (Zg n).length=N at*
 have hML:=λP=>Sg P (hd.map λx=>(sc a b c:Int)*x);rw[eq_tangent_Apply];simp(disch:=omega)only[Za,QM,QD,e1,e2,e3,e4];rw[Zk (λj:Nat=>(((j:Nat):Int),(C.nl,C.nl,()),(ints ((hd.take j).map λx=>(sc a b c:Int)*x),[],()),())) 0 (((hd.length:Nat):Int),(C.nl,C.nl,()),(ints (hd.map λx=>(sc a b c:Int)*x),[],()),()) hd.length ?_ ?_ ?_ (by omega)]
 rotate_left
 ·rfl
 ·intro j hj;have i1:=Zm hd hj;have b1:=Ui (p:=(sc a b c:Int)) (P:=7680) (by omega) (h1 j) hM.1;have hsn:ints ((hd.take j).map λx=>(sc a b c:Int)*x)++[C.v (.int .i64 ((sc a b c:Int)*at0 hd j))]=ints ((hd.take (j+1)).map λx=>(sc a b c:Int)*x):=by
   rw[Ztw hj,Zu1,Ud,Q8 hj];rfl
  generalize hz:(sc a b c:Int)*at0 hd j=z at*
  have hlt:((hd.take j).map λx=>(sc a b c:Int)*x).length=j:=by rw[Zti,Zty];omega
  have hlt1:((hd.take (j+1)).map λx=>(sc a b c:Int)*x).length=j+1:=by rw[Zti,Zty];omega
  simp(disch:=omega)only[Za,QM,QD,Zs2,Zta,i1];rw[hz];simp(disch:=omega)only[Za,QM,QD,Ze,hlt,hlt1,Zto,Zta,hsn,Ztb,Zs3,Zs9,Zs4];rfl
 ·rw[Zud];simp(disch:=omega)only[Za,QM,QD,Ze,Zti,Zto,Zta,Zs9]
 have hl0:(hd.map λx=>(sc a b c:Int)*x).length=hd.length:=Zti ..;simp(disch:=omega)only[Za,QM,QD,Ze,hl0,Zto,Zta,Zs9];rw[Zk (λj:Nat=>(((j:Nat):Int),(C.nl,C.nl,()),(ints (Vz (hd.map λx=>(sc a b c:Int)*x) ((E.zip AL).take j)),ints (tFL a b c hd hf E j),()),())) 0 (((E.length:Nat):Int),(C.nl,C.nl,()),(ints (Vz (hd.map λx=>(sc a b c:Int)*x) (E.zip AL)),ints (tFL a b c hd hf E E.length),()),()) E.length ?_ ?_ ?_ (by omega)]
 ·have htk1:Zx6 hd.length (ints (Vz (hd.map λx=>(sc a b c:Int)*x) (E.zip AL)))=ints (Vz (hd.map λx=>(sc a b c:Int)*x) (E.zip AL)):=Ztc (by rw[Ze,hDl];exact Ztf _);have htk2:Zx6 E.length (ints (tFL a b c hd hf E E.length))=ints (tFL a b c hd hf E E.length):=Ztc (by rw[Ze,hFl];exact Ztf _);simp(disch:=omega)only[Za,QM,QD,Ze,hDl,hFl,Zto,Zta,Zs4,htk1,htk2]
 ·rfl
 ·intro j hj;have hz:j<(E.zip AL).length:=by rw[Zw1];omega
  have hin:=hin E[j] (Zt6 hj);have hjf:j<hf.length:=by omega
  have hjb:j<br.length:=by omega
  have i3:=Zm hf hjf;have i4:=Zm br hjb;have bj:=Q9 w1 (by omega) j;have hst:Vz (hd.map λx=>(sc a b c:Int)*x) ((E.zip AL).take (j+1))=mv1 (Vz (hd.map λx=>(sc a b c:Int)*x) ((E.zip AL).take j)) E[j] (-(AL[j]'(by omega))) (AL[j]'(by omega)):=by rw[Ztw hz,W9,Zxo]
  have hALj:=hAL hj;rw[Q8 (by omega:j<AL.length)]at hALj;rw[hALj]at hst;have hAb:=hAb hj;have hFb:=hFb j;have htF:=htF j;have htA:=htA j;have hFs:=hFs j;have hFlj:=hFl j;have fC:=fC j;rw[Bh E hj]at htF htA;have hway:=hway j;have hD:=hML ((E.zip AL).take j);rw[hst,hFs];generalize tFL a b c hd hf E j=FL at*
  generalize Vz (hd.map λx=>(sc a b c:Int)*x) ((E.zip AL).take j)=D at*
  generalize hee:E[j]=e at*
  obtain⟨ea,eb⟩:=e;simp only at hin htF htA;obtain⟨x,rfl⟩: ∃x:Nat,ea=x:=⟨ea.toNat,by omega⟩;obtain⟨y,rfl⟩: ∃y:Nat,eb=y:=⟨eb.toNat,by omega⟩;rw[Zs2,Zs2]at htF htA;have hea:=Jz Xq hj;rw[hee,show edC ((x:Int),(y:Int))=[C.v (.int .i64 (x:Int)),C.v (.int .i64 (y:Int))] from rfl]at hea;have i5:=Zm hd (i:=x) (by omega);have i6:=Zm hd (i:=y) (by omega);have i7:=Zm dg (i:=x) (by omega);have i8:=Zm dg (i:=y) (by omega);have bx:=h1 x;have by':=h1 y;have bf:=h2 j;have dx:=hd56 (k:=x) (by omega);have dy:=hd56 (k:=y) (by omega);have qx:=hdiv dx;have qy:=hdiv dy;have p1:=Ui (p:=(sc a b c:Int)-scA a b c) (P:=7680) (by omega) bf hM.1;have p2:=Ui (p:=(scB a b c:Int)) (P:=7680) (x:=at0 hd x-at0 hd y) (m:=2*M) (by omega) (by omega) (by omega);have p3:=Ui (P:=7680) ⟨qx.2.1,by omega⟩ bx hM.1;have p4:=Ui (P:=7680) ⟨qy.2.1,by omega⟩ by' hM.1;have d1:=Zm D (i:=x) (by omega);have hm:mv1 D ((x:Int),(y:Int)) (-(tAm a b c dg br hd hf E j)) (tAm a b c dg br hd hf E j)=Uh (Uh D x (-(tAm a b c dg br hd hf E j))) y (tAm a b c dg br hd hf E j):=by unfold mv1;rw[Zs2,Zs2]
  rw[hm];generalize tAm a b c dg br hd hf E j=A at*
  generalize tF a b c hd hf E j=F at*
  generalize tG a b hd hf E j=G at*
  have b1:=hway x;have b2:=hway y;have pb1:=Vx D (i:=x) (by omega) (-A);have hB:=Xk D x (-A);have hBa:=P0 D x (-A) y;have b3: -(145920*M)-23040*M<=at0 (Uh D x (-A)) y/\at0 (Uh D x (-A)) y<=145920*M+23040*M:=by
   split at hBa<;>omega
  generalize Uh D x (-A)=D1 at*
  have d2:=Zm D1 (i:=y) (by omega);have pb2:=Vx D1 (i:=y) (by omega) A;have hB2:=Xk D1 y A;generalize Uh D1 y A=D2 at*
  have e0:at0 D x-A=at0 D x+ -A:=by omega
  generalize hP1:((sc a b c:Int)-scA a b c)*at0 hf j=P1 at*
  generalize hP2:(scB a b c:Int)*(at0 hd x-at0 hd y)=P2 at*
  generalize hQx:Zx8 (sc a b c:Int) (at0 dg x)*at0 hd x=Qx at*
  generalize hQy:Zx8 (sc a b c:Int) (at0 dg y)*at0 hd y=Qy at*
  rcases(show at0 br j=1\/at0 br j= -1\/at0 br j=0 by omega)with q|q|q
  ·rw[q]at htA i4;rw[if_pos rfl]at htA;subst htA;simp(disch:=omega)only[Za,QM,QD,Zt1,Zt3,Zs2,Zta,Zto,Zs4,hea,i3,i5,i6,fA,fB,ma,mb,mc,hP1,hP2,<-htF,i4,i7,i8,hQx,hQy,fC,Ze,hD,hl0,hFlj,d1,e0,pb1,hB,d2,pb2,hB2,Ud,Ztb,Zs3,Zs9];rfl
  ·rw[q]at htA i4;rw[if_neg (by decide),if_pos rfl]at htA;have n0:0-Qy=A:=by omega
   simp(disch:=omega)only[Za,QM,QD,Zt1,Zt3,Zs2,Zta,Zto,Zs4,hea,i3,i5,i6,fA,fB,ma,mb,mc,hP1,hP2,<-htF,i4,i7,i8,hQx,hQy,fC,Ze,hD,hl0,hFlj,d1,e0,pb1,hB,d2,pb2,hB2,Ud,Ztb,Zs3,Zs9,n0];rfl
  ·rw[q]at htA i4;rw[if_neg (by decide),if_neg (by decide)]at htA;subst htA;simp(disch:=omega)only[Za,QM,QD,Zt1,Zt3,Zs2,Zta,Zto,Zs4,hea,i3,i5,i6,fA,fB,ma,mb,mc,hP1,hP2,<-htF,i4,i7,i8,hQx,hQy,fC,Ze,hD,hl0,hFlj,d1,e0,pb1,hB,d2,pb2,hB2,Ud,Ztb,Zs3,Zs9];rfl
 ·rw[Ztc (l:=E.zip AL) (by rw[Zw1];omega)];simp(disch:=omega)only[Za,QM,QD,Ze,hDl,hFl,Zto,Zta]
end
end Go.Proofs.YtjmempcalaliiaaGreatDoor
namespace Go.Proofs.YtjmempcalaliiaaGreatDoor
open Go Go.PM Go.Grid
attribute [local congr] Zu Zv Zw Yd Zx Zy Ye Yf Yg Yh Zz Z0 Yi Yt Yu Yv Yw Yx Yz Y1 Y2 Y4 Yy Z2 Z3 Y5 Z4 Z5 Zj Z6 Z1
def Xg (k:Int) (g h:List Int) (m:Nat):List Int:=(Zyf m).map λi=>at0 g i+k*at0 h i
theorem Xe (k:Int) (g h:List Int) (m:Nat):(Xg k g h m).length=m:=by simp[Xg]
theorem Zad (k:Int) (g h:List Int) (m:Nat):Xg k g h (m+1)=Xg k g h m++[at0 g m+k*at0 h m]:=by simp[Xg,Zu5]
section
variable (fu d:Nat) (hfu:18446744073709551616<=fu)
include hfu
theorem Zhr:cl fu (d+8) fn_synopticlaw31_awake [] []=OK (B true):=by
 have e:=J9 fu d hfu 1 1 1 (by omega) (by omega) (by omega);replace e:cl fu (d+7) fn_tangent_Scale [V.agg [C.v (.int .i64 1),C.v (.int .i64 1),C.v (.int .i64 1)]] []=OK (V.tup [I 120,I 0]):=e;rw[eq_synopticlaw31_awake];simp(disch:=omega)only[Za,QM,QD,e]
end
end Go.Proofs.YtjmempcalaliiaaGreatDoor
namespace Go.Proofs.YtjmempcalaliiaaGreatDoor
open Go Go.PM Go.Grid
attribute [local congr] Zu Zv Zw Yd Zx Zy Ye Yf Yg Yh Zz Z0 Yi Yt Yu Yv Yw Yx Yz Y1 Y2 Y4 Yy Z2 Z3 Y5 Z4 Z5 Zj Z6 Z1
abbrev scC (a b c:Int):List C:=[C.v (.int .i64 a),C.v (.int .i64 b),C.v (.int .i64 c)]
def Zll (n:Int) (dp fw:List Int):Prop:= ∃m:Nat,n=m/\Yb m/\Vst m dp fw
section
variable (fu d:Nat) (hf:18446744073709551616<=fu)
include hf
theorem F6 (a b c:Int):cl fu (d+6) fn_flux_CheckScheme [V.agg (scC a b c)] []=OK (I (if Yk 1 4 [a,b,c]then 1 else 0)):=by
 have e:=Tu fu d hf [a,b,c] (by simp) 1 4;replace e:cl fu (d+5) fn_flux_outside [V.c (C.sl 3 [C.v (.int .i64 a),C.v (.int .i64 b),C.v (.int .i64 c)]),I 1,I 4] []=OK (B (Yk 1 4 [a,b,c])):=e;unfold scC;rw[eq_flux_CheckScheme];generalize Yk 1 4 [a,b,c]=q at*
 cases q<;>simp only[Za,QM,e]<;>rfl
theorem Ha (a b c:Int):cl fu (d+1) fn_synopticref29_CheckScheme [V.agg (scC a b c)] []=OK (I (if Yk 1 4 [a,b,c]then 1 else 0)):=by
 unfold scC;rw[eq_synopticref29_CheckScheme];have hs:[C.v (.int .i64 a),C.v (.int .i64 b),C.v (.int .i64 c)]=ints [a,b,c]:=rfl;rw[hs];have hl:([a,b,c]:List Int).length=3:=rfl;generalize [a,b,c]=s at*
 rcases Ut (λj=> ¬(1<=at0 s j/\at0 s j<=4)) s.length with hn|⟨k,hk,hne,hlt⟩
 ·rw[Z7.2 (Zcj λk hk=>Classical.not_not.1 (hn k hk))];rw[Zk (λj:Nat=>((0:Int),((j:Nat):Int),())) 0 ((0:Int),((3:Nat):Int),()) 3 ?_ ?_ ?_ (by omega)]
  ·simp(disch:=omega)only[Za,QM,QD];rfl
  ·rfl
  ·intro j hj;have i1:=Zm s (i:=j) (by omega);have b1:=Classical.not_not.1 (hn j (by omega));generalize at0 s j=v at*
   simp(disch:=omega)only[Za,QM,QD,Zs2,Zta,i1];rfl
  ·simp(disch:=omega)only[Za,QM,QD]
 ·rw[Zhn hk hne];rw[Zk (λj:Nat=>((0:Int),((j:Nat):Int),())) 1 ((1:Int),((k:Nat):Int),()) k ?_ ?_ ?_ (by omega)]
  ·simp(disch:=omega)only[Za,QM,QD];rfl
  ·rfl
  ·intro j hj;have i1:=Zm s (i:=j) (by omega);have b1:=Classical.not_not.1 (hlt j hj);generalize at0 s j=v at*
   simp(disch:=omega)only[Za,QM,QD,Zs2,Zta,i1];rfl
  ·have i1:=Zm s (i:=k) (by omega);generalize at0 s k=v at*
   by_cases q:v<1
   ·simp(disch:=omega)only[Za,QM,QD,Zs2,Zta,i1]
   ·have q2:v>4:=by omega
    simp(disch:=omega)only[Za,QM,QD,Zs2,Zta,i1]
theorem Zlm (s:List Int) (hl:s.length<=1000000):cl fu (d+1) fn_synopticref29_depths [V.c (C.sl s.length (ints s))] []=OK (B (!Yk 0 16777216 s)):=by
 rw[eq_synopticref29_depths];rcases Ut (λj=> ¬(0<=at0 s j/\at0 s j<=16777216)) s.length with hn|⟨k,hk,hne,hlt⟩
 ·rw[Z7.2 (Zcj λk hk=>Classical.not_not.1 (hn k hk))];rw[Zk (λj:Nat=>(false,((j:Nat):Int),())) 0 (false,((s.length:Nat):Int),()) s.length ?_ ?_ ?_ (by omega)]
  ·simp(disch:=omega)only[Za,QM,QD]
  ·rfl
  ·intro j hj;have i1:=Zm s hj;have b1:=Classical.not_not.1 (hn j hj);generalize at0 s j=v at*
   simp(disch:=omega)only[Za,QM,QD,Zs2,Zta,i1];rfl
  ·simp(disch:=omega)only[Za,QM,QD]
 ·rw[Zhn hk hne];rw[Zk (λj:Nat=>(false,((j:Nat):Int),())) 1 (false,((k:Nat):Int),()) k ?_ ?_ ?_ (by omega)]
  ·simp(disch:=omega)only[Za,QM,QD]
  ·rfl
  ·intro j hj;have i1:=Zm s (i:=j) (by omega);have b1:=Classical.not_not.1 (hlt j hj);generalize at0 s j=v at*
   simp(disch:=omega)only[Za,QM,QD,Zs2,Zta,i1];rfl
  ·have i1:=Zm s hk;generalize at0 s k=v at*
   by_cases q:v<0
   ·simp(disch:=omega)only[Za,QM,QD,Zs2,Zta,i1]
   ·have q2:v>16777216:=by omega
    simp(disch:=omega)only[Za,QM,QD,Zs2,Zta,i1]
theorem P4 (s:List Int) (hl:s.length<=1000000) (m:Nat) (hm:m<=1000000000000000000):cl fu (d+1) fn_synopticref22_Small [V.c (C.sl s.length (ints s)),I (m:Int)] []=OK (B (!Yk (-(m:Int)) m s)):=by
 have w0:Zx2.wrap (0-(m:Int))= -(m:Int):=by rw[Uq (by omega) (by omega)];omega
 rw[eq_synopticref22_Small];rcases Ut (λj=> ¬(-(m:Int)<=at0 s j/\at0 s j<=m)) s.length with hn|⟨k,hk,hne,hlt⟩
 ·rw[Z7.2 (Zcj λk hk=>Classical.not_not.1 (hn k hk))];rw[Zk (λj:Nat=>(false,((j:Nat):Int),())) 0 (false,((s.length:Nat):Int),()) s.length ?_ ?_ ?_ (by omega)]
  ·simp(disch:=omega)only[Za,QM,QD]
  ·rfl
  ·intro j hj;have i1:=Zm s hj;have b1:=Classical.not_not.1 (hn j hj);generalize at0 s j=v at*
   simp(disch:=omega)only[Za,QM,QD,Zs2,Zta,i1,w0];rfl
  ·simp(disch:=omega)only[Za,QM,QD]
 ·rw[Zhn hk hne];rw[Zk (λj:Nat=>(false,((j:Nat):Int),())) 1 (false,((k:Nat):Int),()) k ?_ ?_ ?_ (by omega)]
  ·simp(disch:=omega)only[Za,QM,QD]
  ·rfl
  ·intro j hj;have i1:=Zm s (i:=j) (by omega);have b1:=Classical.not_not.1 (hlt j hj);generalize at0 s j=v at*
   simp(disch:=omega)only[Za,QM,QD,Zs2,Zta,i1,w0];rfl
  ·have i1:=Zm s hk;generalize at0 s k=v at*
   by_cases q:v>(m:Int)
   ·simp(disch:=omega)only[Za,QM,QD,Zs2,Zta,i1]
   ·have q2:v< -(m:Int):=by omega
    simp(disch:=omega)only[Za,QM,QD,Zs2,Zta,i1,w0]
omit hf in
theorem Gh (n:Int):cl fu (d+1) fn_synopticref29_Frequency [I n] []=OK (B (decide (1<=n)&&decide (n<=8))):=by
 rw[eq_synopticref29_Frequency];by_cases h:1<=n
 ·rw[decide_eq_true h];simp(disch:=omega)only[Za,QM,QD]
 ·rw[decide_eq_false h];simp(disch:=omega)only[Za,QM,QD]
omit hf in
theorem Zfd (n:Int) (h:n<1\/8<n):cl fu (d+1) fn_mesh_Frequency [I n] []=OK (B false):=by
 rw[eq_mesh_Frequency];rcases h with h|h
 ·simp(disch:=omega)only[Za,QM,QD]
 ·simp(disch:=omega)only[Za,QM,QD]
omit hf in
theorem R3 (n:Int) (h:n<1\/8<n):cl fu (d+2) fn_grid_Edges [I n] []=OK (V.tup [V.c C.nl,I 1]):=by
 have e:=Zfd fu d n h;rw[eq_grid_Edges,e];simp(disch:=omega)only[Za,QM,QD]
theorem Zln (n:Int) {c1 c2:C} {dp fw:List Int} (h1:isL c1 dp) (h2:isL c2 fw) (l1:dp.length<=1000000) (l2:fw.length<=1000000):
  (Zll n dp fw->cl fu (d+10) fn_flux_Check [V.agg [C.v (.int .i64 n),c1,c2]] []=OK (I 0))/\(¬Zll n dp fw->cl fu (d+10) fn_flux_Check [V.agg [C.v (.int .i64 n),c1,c2]] []=OK (I 1)):=by
 have o1:=Tu fu (d+4) hf dp l1 0 16777216;have o2:=Tu fu (d+4) hf fw l2 (-16777216) 16777216;by_cases hn:1<=n/\n<=8
 ·obtain⟨m,rfl⟩: ∃m:Nat,n=m:=⟨n.toNat,by omega⟩;have h:Yb m:=by unfold Yb;omega
  have heL:=Uu h;have hNl:=Y7 h;have e1:=Qr fu d hf m h;have e2:=Vj fu (d+7) m h;have key:cl fu (d+10) fn_flux_Check [V.agg [C.v (.int .i64 (m:Int)),c1,c2]] []=OK (I (if dp.length=(Zg m).length/\fw.length=(edg m).length/\Yk 0 16777216 dp=false/\Yk (-16777216) 16777216 fw=false then 0 else 1)):=by
   generalize edg m=E at*
   generalize (Zg m).length=N at*
   rw[eq_flux_Check];have n1:=h1.1;have n2:=h2.1;have s1:=λ{R:Type} (k:Nat->List C->Option R)=>h1.2 k;have s2:=λ{R:Type} (k:Nat->List C->Option R)=>h2.2 k;simp(disch:=omega)only[Za,QM,QD,e1];rw[s1];simp(disch:=omega)only[Za,QM,QD,e2];by_cases q1:dp.length=N
   ·simp(disch:=omega)only[Za,QM,QD];rw[s2];simp(disch:=omega)only[Za,QM,QD];by_cases q2:fw.length=E.length
    ·simp(disch:=omega)only[Za,QM,QD,n1,o1];cases q3:Yk 0 16777216 dp with
     |true=>
      rw[if_neg (λq=>by cases q.2.2.1)];simp(disch:=omega)only[Za,QM,QD]
     |false=>
      simp(disch:=omega)only[Za,QM,QD,n2,o2];cases q4:Yk (-16777216) 16777216 fw with
      |true=>
       rw[if_neg (λq=>by cases q.2.2.2)];simp(disch:=omega)only[Za,QM,QD]
      |false=>
       rw[if_pos ⟨q1,q2,by simp,by simp⟩];simp(disch:=omega)only[Za,QM,QD]
    ·rw[if_neg (λq=>q2 q.2.1)];simp(disch:=omega)only[Za,QM,QD]
   ·rw[if_neg (λq=>q1 q.1)];simp(disch:=omega)only[Za,QM,QD]
  constructor
  ·rintro ⟨k,hk,hfk,hv⟩
   obtain rfl:m=k:=by omega
   rw[key,if_pos ⟨hv.dl,hv.fl,Z7.2 hv.dw,Z7.2 hv.fw⟩]
  ·intro hb;rw[key,if_neg (λq=>hb ⟨m,rfl,h,⟨q.1,q.2.1,Z7.1 q.2.2.1,Z7.1 q.2.2.2⟩⟩)]
 ·have e1:=R3 fu (d+7) n (by omega);refine⟨λ⟨m,hm,hfm,_⟩=>absurd (by unfold Yb at hfm;omega) hn,λ_=> ?_⟩;rw[eq_flux_Check];simp(disch:=omega)only[Za,QM,QD,e1]
theorem Hc (n:Int) {c1 c2:C} {dp fw:List Int} (h1:isL c1 dp) (h2:isL c2 fw) (l1:dp.length<=1000000) (l2:fw.length<=1000000):
  (Zll n dp fw->cl fu (d+10) fn_synopticref29_Check [V.agg [C.v (.int .i64 n),c1,c2]] []=OK (I 0))/\(¬Zll n dp fw->cl fu (d+10) fn_synopticref29_Check [V.agg [C.v (.int .i64 n),c1,c2]] []=OK (I 1)):=by
 have o1:=Zlm fu (d+8) hf dp l1;have o2:=P4 fu (d+8) hf fw l2 16777216 (by omega);replace o2:cl fu (d+9) fn_synopticref22_Small [V.c (C.sl fw.length (ints fw)),I 16777216] []=OK (B (!Yk (-16777216) 16777216 fw)):=o2;have o0:=Gh fu (d+8) n;by_cases hn:1<=n/\n<=8
 ·obtain⟨m,rfl⟩: ∃m:Nat,n=m:=⟨n.toNat,by omega⟩;have h:Yb m:=by unfold Yb;omega
  have heL:=Uu h;have hNl:=Y7 h;have e1:=Qk fu d hf m h;have e2:=Rn fu (d+8) m h;rw[decide_eq_true hn.1,decide_eq_true hn.2]at o0;have key:cl fu (d+10) fn_synopticref29_Check [V.agg [C.v (.int .i64 (m:Int)),c1,c2]] []=OK (I (if dp.length=(Zg m).length/\fw.length=(edg m).length/\Yk 0 16777216 dp=false/\Yk (-16777216) 16777216 fw=false then 0 else 1)):=by
   generalize edg m=E at*
   generalize (Zg m).length=N at*
   rw[eq_synopticref29_Check];have n1:=h1.1;have n2:=h2.1;have s1:=λ{R:Type} (k:Nat->List C->Option R)=>h1.2 k;have s2:=λ{R:Type} (k:Nat->List C->Option R)=>h2.2 k;simp(disch:=omega)only[Za,QM,QD,o0,e1];rw[s1];simp(disch:=omega)only[Za,QM,QD,e2];by_cases q1:dp.length=N
   ·simp(disch:=omega)only[Za,QM,QD];rw[s2];simp(disch:=omega)only[Za,QM,QD];by_cases q2:fw.length=E.length
    ·simp(disch:=omega)only[Za,QM,QD,n1,o1];cases q3:Yk 0 16777216 dp with
     |true=>
      rw[if_neg (λq=>by cases q.2.2.1)];simp(disch:=omega)only[Za,QM,QD]
     |false=>
      simp(disch:=omega)only[Za,QM,QD,n2,o2];cases q4:Yk (-16777216) 16777216 fw with
      |true=>
       rw[if_neg (λq=>by cases q.2.2.2)];simp(disch:=omega)only[Za,QM,QD]
      |false=>
       rw[if_pos ⟨q1,q2,by simp,by simp⟩];simp(disch:=omega)only[Za,QM,QD]
    ·rw[if_neg (λq=>q2 q.2.1)];simp(disch:=omega)only[Za,QM,QD]
   ·rw[if_neg (λq=>q1 q.1)];simp(disch:=omega)only[Za,QM,QD]
  constructor
  ·rintro ⟨k,hk,hfk,hv⟩
   obtain rfl:m=k:=by omega
   rw[key,if_pos ⟨hv.dl,hv.fl,Z7.2 hv.dw,Z7.2 hv.fw⟩]
  ·intro hb;rw[key,if_neg (λq=>hb ⟨m,rfl,h,⟨q.1,q.2.1,Z7.1 q.2.2.1,Z7.1 q.2.2.2⟩⟩)]
 ·refine⟨λ⟨m,hm,hfm,_⟩=>absurd (by unfold Yb at hfm;omega) hn,λ_=> ?_⟩;have hb:(decide (1<=n)&&decide (n<=8))=false:=by
   cases e:(decide (1<=n)&&decide (n<=8))with
   |false=>rfl
   |true=>
    rw[Zs1,decide_eq_true_iff,decide_eq_true_iff]at e;exact absurd e hn
  rw[hb]at o0;rw[eq_synopticref29_Check];simp(disch:=omega)only[Za,QM,QD,o0]
end
end Go.Proofs.YtjmempcalaliiaaGreatDoor
namespace Go.Proofs.YtjmempcalaliiaaGreatDoor
open Go Go.PM Go.Grid
attribute [local congr] Zu Zv Zw Yd Zx Zy Ye Yf Yg Yh Zz Z0 Yi Yt Yu Yv Yw Yx Yz Y1 Y2 Y4 Yy Z2 Z3 Y5 Z4 Z5 Zj Z6 Z1
theorem Zi0 {k:Int} {g h:List Int} {j:Nat} (hj:j<g.length):(Xg k g h j++g.drop j).set j (at0 g j+k*at0 h j)=Xg k g h (j+1)++g.drop (j+1):=by
 rw[Ztz hj,Zad,Zt5];have hl:=Xe k g h j;rw[Zwk _ _ (by omega),hl,Zv8];rfl
theorem Zfe {k:Int} {g h:List Int} {j:Nat} (hj:j<g.length):at0 (Xg k g h j++g.drop j) j=at0 g j:=by
 have hl:=Xe k g h j;rw[Q8 (by rw[Ztb,Zuc,hl];omega),Q8 hj,List.getElem_append_right (by omega)];simp[hl]
theorem Zi1 {k:Int} {g h:List Int}:Xg k g h g.length++g.drop g.length=Xg k g h g.length:=by rw[Zwt,Zvc]
def shO (n:Nat) (k:Int) (dp fw hd hf:List Int):Option Out:=bif Yk 0 16777216 (Xg k dp hd dp.length)||Yk (-16777216) 16777216 (Xg k fw hf fw.length)then OK (V.tup [V.agg [C.v (.int .i64 0),C.nl,C.nl],I 1])else OK (V.tup [V.agg (stC n (Xg k dp hd dp.length) (Xg k fw hf fw.length)),I 0])
section
variable (fu d:Nat) (hfu:18446744073709551616<=fu)
include hfu
set_option maxHeartbeats 8000000 in
theorem Zo1 (n:Nat) (h:Yb n) (dp fw:List Int) (hv:Vst n dp fw) (hd hf:List Int) (l1:hd.length=dp.length) (l2:hf.length=fw.length) (w1:wid (-1048576) 1048576 hd) (w2:wid (-1048576) 1048576 hf) (k:Int) (hk: -1048576<=k/\k<=1048576):
  cl fu (d+11) fn_tangent_Shift [V.agg (stC n dp fw),V.agg [C.sl hd.length (ints hd),C.sl hf.length (ints hf)],I k] []=shO n k dp fw hd hf:=by
 have hNl:=Y7 h;have heL:=Uu h;have p1:=Ku h;have p2:=Zci h;have d1:=hv.dl;have d2:=hv.fl;have e1:=Ub fu (d+5) hfu hd (by omega) 1048576 (by omega);have e2:=Ub fu (d+5) hfu hf (by omega) 1048576 (by omega);replace e1:cl fu (d+10) fn_tangent_outside [V.c (C.sl hd.length (ints hd)),I 1048576] []=OK (B (Yk (-1048576) 1048576 hd)):=e1;replace e2:cl fu (d+10) fn_tangent_outside [V.c (C.sl hf.length (ints hf)),I 1048576] []=OK (B (Yk (-1048576) 1048576 hf)):=e2;rw[Z7.2 w1]at e1;rw[Z7.2 w2]at e2;have e3:=Ky fu (d+9) k (-1048576) 1048576;rw[decide_eq_true hk.1,decide_eq_true hk.2]at e3;have e4:=Zlg fu d hfu n h dp fw d1 d2 hv.dw hv.fw;have k1:=Bj fu (d+9) dp (by omega) (by omega);have k2:=Bj fu (d+9) fw (by omega) (by omega);have g1:=Xe k dp hd dp.length;have g2:=Xe k fw hf fw.length;have e5:=Zln fu d hfu (n:Int) (X3 (Xg k dp hd dp.length)) (X3 (Xg k fw hf fw.length)) (by omega) (by omega);have hst:Zll (n:Int) (Xg k dp hd dp.length) (Xg k fw hf fw.length)↔Yk 0 16777216 (Xg k dp hd dp.length)=false/\Yk (-16777216) 16777216 (Xg k fw hf fw.length)=false:=by
  constructor
  ·rintro ⟨m,hm,_,hv'⟩
   exact⟨Z7.2 hv'.dw,Z7.2 hv'.fw⟩
  ·rintro ⟨q1,q2⟩
   exact⟨n,rfl,h,⟨by omega,by omega,Z7.1 q1,Z7.1 q2⟩⟩
 have hb1: ∀i,-1048576*1048576<=k*at0 hd i/\k*at0 hd i<=1048576*1048576:=λi=>by
  have hx:=Q9 w1 (by omega) i;by_cases hk0:0<=k
  ·have:=Ui (P:=1048576) ⟨hk0,hk.2⟩ hx (by omega);omega
  ·have:=Ui (p:= -k) (P:=1048576) (by omega) hx (by omega);rw[Int.neg_mul]at this;omega
 have hb2: ∀i,-1048576*1048576<=k*at0 hf i/\k*at0 hf i<=1048576*1048576:=λi=>by
  have hx:=Q9 w2 (by omega) i;by_cases hk0:0<=k
  ·have:=Ui (P:=1048576) ⟨hk0,hk.2⟩ hx (by omega);omega
  ·have:=Ui (p:= -k) (P:=1048576) (by omega) hx (by omega);rw[Int.neg_mul]at this;omega
 unfold shO;unfold stC at*
 rw[eq_tangent_Shift];simp(disch:=omega)only[Za,QM,QD,e1,e2,e3,e4,k1,k2,Zkz,H4,Ze,Zta];rw[Zk (λj:Nat=>(((j:Nat):Int),((0:Int),C.nl,C.nl,()),((n:Int),ints (Xg k dp hd j++dp.drop j),ints fw,()),())) 0 (((hd.length:Nat):Int),((0:Int),C.nl,C.nl,()),((n:Int),ints (Xg k dp hd dp.length),ints fw,()),()) hd.length ?_ ?_ ?_ (by omega)]
 rotate_left
 ·rfl
 ·intro j hj;have hjd:j<dp.length:=by omega
  have i1:=Zm hd hj;have hll:(Xg k dp hd j++dp.drop j).length=dp.length:=by rw[Ztb,Xe,Zuc];omega
  have hll1:(Xg k dp hd (j+1)++dp.drop (j+1)).length=dp.length:=by rw[Ztb,Xe,Zuc];omega
  have i2:=Zm (Xg k dp hd j++dp.drop j) (i:=j) (by omega);rw[Zfe hjd]at i2;have i3:=J7 (Xg k dp hd j++dp.drop j) (i:=j) (by omega) (at0 dp j+k*at0 hd j);rw[Zi0 hjd]at i3;have b1:=hb1 j;have b2:=Q9 hv.dw (by omega) j;generalize hq:k*at0 hd j=q at*
  generalize Xg k dp hd j++dp.drop j=A at*
  generalize Xg k dp hd (j+1)++dp.drop (j+1)=A' at*
  simp(disch:=omega)only[Za,QM,QD,Zs2,Zta,Zto,Zs4,i1,Ze,hll,i2,hq,i3,hll1];rfl
 ·rw[l1,Zi1];simp(disch:=omega)only[Za,QM,QD,Zta,Zto,Ze,g1]
 simp(disch:=omega)only[Za,QM,QD,Zta,Zto,Ze,g1];rw[Zk (λj:Nat=>(((j:Nat):Int),((0:Int),C.nl,C.nl,()),((n:Int),ints (Xg k dp hd dp.length),ints (Xg k fw hf j++fw.drop j),()),())) 0 (((hf.length:Nat):Int),((0:Int),C.nl,C.nl,()),((n:Int),ints (Xg k dp hd dp.length),ints (Xg k fw hf fw.length),()),()) hf.length ?_ ?_ ?_ (by omega)]
 rotate_left
 ·rfl
 ·intro j hj;have hjd:j<fw.length:=by omega
  have i1:=Zm hf hj;have hll:(Xg k fw hf j++fw.drop j).length=fw.length:=by rw[Ztb,Xe,Zuc];omega
  have hll1:(Xg k fw hf (j+1)++fw.drop (j+1)).length=fw.length:=by rw[Ztb,Xe,Zuc];omega
  have i2:=Zm (Xg k fw hf j++fw.drop j) (i:=j) (by omega);rw[Zfe hjd]at i2;have i3:=J7 (Xg k fw hf j++fw.drop j) (i:=j) (by omega) (at0 fw j+k*at0 hf j);rw[Zi0 hjd]at i3;have b1:=hb2 j;have b2:=Q9 hv.fw (by omega) j;generalize hq:k*at0 hf j=q at*
  generalize Xg k fw hf j++fw.drop j=A at*
  generalize Xg k fw hf (j+1)++fw.drop (j+1)=A' at*
  simp(disch:=omega)only[Za,QM,QD,Zs2,Zta,Zto,Zs4,i1,Ze,hll,i2,hq,i3,hll1,g1];rfl
 ·rw[l2,Zi1];simp(disch:=omega)only[Za,QM,QD,Zta,Zto,Ze,g1,g2]
 have htk1:Zx6 dp.length (ints (Xg k dp hd dp.length))=ints (Xg k dp hd dp.length):=Ztc (by rw[Ze,g1];exact Ztf _);have htk2:Zx6 fw.length (ints (Xg k fw hf fw.length))=ints (Xg k fw hf fw.length):=Ztc (by rw[Ze,g2];exact Ztf _);rw[g1,g2]at e5;cases q1:Yk 0 16777216 (Xg k dp hd dp.length)with
 |true=>
  have e5:=e5.2 (λw=>by rw[hst,q1]at w;cases w.1);simp(disch:=omega)only[Za,QM,QD,Zta,Zto,Zs4,Ze,g1,g2,htk1,htk2,e5]
 |false=>
  cases q2:Yk (-16777216) 16777216 (Xg k fw hf fw.length)with
  |true=>
   have e5:=e5.2 (λw=>by rw[hst,q2]at w;cases w.2);simp(disch:=omega)only[Za,QM,QD,Zta,Zto,Zs4,Ze,g1,g2,htk1,htk2,e5]
  |false=>
   have e5:=e5.1 (hst.2 ⟨q1,q2⟩);simp(disch:=omega)only[Za,QM,QD,Zta,Zto,Zs4,Ze,g1,g2,htk1,htk2,e5]
end
end Go.Proofs.YtjmempcalaliiaaGreatDoor
namespace Go.Proofs.YtjmempcalaliiaaGreatDoor
open Go Go.PM Go.Grid
attribute [local congr] Zu Zv Zw Yd Zx Zy Ye Yf Yg Yh Zz Z0 Yi Yt Yu Yv Yw Yx Yz Y1 Y2 Y4 Yy Z2 Z3 Y5 Z4 Z5 Zj Z6 Z1
def Zhs (n:Int) (br hd hf:List Int):Prop:= ∃m:Nat,n=m/\Yb m/\hd.length=(Zg m).length/\hf.length=(edg m).length/\br.length=(edg m).length/\wid (-1) 1 br/\wid (-1099511627776) 1099511627776 hd/\wid (-1099511627776) 1099511627776 hf
theorem Hd (a b c:Int):(∃x y z:Nat,a=x/\b=y/\c=z/\(1<=x/\x<=4)/\(1<=y/\y<=4)/\(1<=z/\z<=4))\/Yk 1 4 [a,b,c]=true:=by
 cases h:Yk 1 4 [a,b,c]with
 |true=>exact .inr rfl
 |false=>
  have w:=Z7.1 h;have h1:=w a (by simp);have h2:=w b (by simp);have h3:=w c (by simp);exact .inl ⟨a.toNat,b.toNat,c.toNat,by omega,by omega,by omega,by omega,by omega,by omega⟩
theorem Zae {x y z:Nat} (h1:1<=x/\x<=4) (h2:1<=y/\y<=4) (h3:1<=z/\z<=4):Yk 1 4 [(x:Int),(y:Int),(z:Int)]=false:=
 Z7.2 λv hv=>by
  simp only[Ztl,Zvo,or_false]at hv;rcases hv with rfl|rfl|rfl<;>omega
section
variable (fu d:Nat) (hf:18446744073709551616<=fu)
include hf
theorem He (a b c:Int) (h:Yk 1 4 [a,b,c]=true):cl fu (d+7) fn_tangent_Scale [V.agg (scC a b c)] []=OK (V.tup [I 0,I 1]):=by
 have e1:=F6 fu d hf a b c;rw[h,if_pos rfl]at e1;unfold scC at*
 rw[eq_tangent_Scale];simp(disch:=omega)only[Za,QM,QD,e1]
theorem N3 (a b c:Int) (h:Yk 1 4 [a,b,c]=true):cl fu (d+2) fn_synopticref31_Scale [V.agg (scC a b c)] []=OK (V.tup [I 0,I 1]):=by
 have e1:=Ha fu d hf a b c;rw[h,if_pos rfl]at e1;unfold scC at*
 rw[eq_synopticref31_Scale];simp(disch:=omega)only[Za,QM,QD,e1]
theorem M3 (a b c:Nat) (ha:1<=a/\a<=4) (hb:1<=b/\b<=4) (hc:1<=c/\c<=4):cl fu (d+2) fn_synopticref31_Scale [V.agg (scC a b c)] []=OK (V.tup [I (sc a b c:Int),I 0]):=by
 have e1:=Ha fu d hf a b c;rw[Zae ha hb hc,if_neg (by simp)]at e1;have hs:=Bm ha.2 hb.2 hc.2;have em:(if(b:Int)>(a:Int)then(b:Int)else(a:Int))=((max a b:Nat):Int):=by split<;>omega
 have hw:Zx2.wrap (((max a b:Nat):Int)+(c:Int))=((max a b+c:Nat):Int):=by rw[Uq (by omega) (by omega)];rfl
 have hu:IntKind.u64.wrap ((max a b+c:Nat):Int)=((max a b+c:Nat):Int):=IntWalk.u64_in _ ⟨by omega,by omega⟩;have hmin:min (max a b+c) (Zx9 .i64)=max a b+c:=by show min _ 64=_;omega
 have hsc:(30:Int)*2^(max a b+c)=(sc a b c:Int):=by unfold sc;rw[Zu4,Nu];rfl
 unfold scC at*
 rw[eq_synopticref31_Scale];simp(disch:=omega)only[Za,QM,QD,e1,em,hw,hu,Zs2,hmin,hsc]
set_option maxHeartbeats 1000000 in
theorem Bn (n:Int) (br:List Int) {c1 c2:C} {dp fw:List Int} (h1:isL c1 dp) (h2:isL c2 fw) (l0:br.length<=1000000) (l1:dp.length<=1000000) (l2:fw.length<=1000000):
  (Zhs n br dp fw->cl fu (d+10) fn_tangent_Check [I n,V.c (C.sl br.length (ints br)),V.agg [c1,c2]] []=OK (I 0))/\(¬Zhs n br dp fw->cl fu (d+10) fn_tangent_Check [I n,V.c (C.sl br.length (ints br)),V.agg [c1,c2]] []=OK (I 1)):=by
 have o0:=Ub fu (d+4) hf br l0 1 (by omega);have o1:=Ub fu (d+4) hf dp l1 1099511627776 (by omega);have o2:=Ub fu (d+4) hf fw l2 1099511627776 (by omega);replace o0:cl fu (d+9) fn_tangent_outside [V.c (C.sl br.length (ints br)),I 1] []=OK (B (Yk (-1) 1 br)):=o0;replace o1:cl fu (d+9) fn_tangent_outside [V.c (C.sl dp.length (ints dp)),I 1099511627776] []=OK (B (Yk (-1099511627776) 1099511627776 dp)):=o1;replace o2:cl fu (d+9) fn_tangent_outside [V.c (C.sl fw.length (ints fw)),I 1099511627776] []=OK (B (Yk (-1099511627776) 1099511627776 fw)):=o2;by_cases hn:1<=n/\n<=8
 ·obtain⟨m,rfl⟩: ∃m:Nat,n=m:=⟨n.toNat,by omega⟩;have h:Yb m:=by unfold Yb;omega
  have heL:=Uu h;have hNl:=Y7 h;have e1:=Qr fu d hf m h;have e2:=Vj fu (d+7) m h;have key:cl fu (d+10) fn_tangent_Check [I m,V.c (C.sl br.length (ints br)),V.agg [c1,c2]] []=OK (I (if dp.length=(Zg m).length/\fw.length=(edg m).length/\br.length=(edg m).length/\Yk (-1) 1 br=false/\Yk (-1099511627776) 1099511627776 dp=false/\Yk (-1099511627776) 1099511627776 fw=false then 0 else 1)):=by
   generalize edg m=E at*
   generalize (Zg m).length=N at*
   rw[eq_tangent_Check];have n1:=h1.1;have n2:=h2.1;have s1:=λ{R:Type} (k:Nat->List C->Option R)=>h1.2 k;have s2:=λ{R:Type} (k:Nat->List C->Option R)=>h2.2 k;simp(disch:=omega)only[Za,QM,QD,e1];rw[s1];simp(disch:=omega)only[Za,QM,QD,e2];by_cases q1:dp.length=N
   ·simp(disch:=omega)only[Za,QM,QD];rw[s2];simp(disch:=omega)only[Za,QM,QD];by_cases q2:fw.length=E.length
    ·simp(disch:=omega)only[Za,QM,QD];by_cases q5:br.length=E.length
     ·simp(disch:=omega)only[Za,QM,QD,o0];cases q6:Yk (-1) 1 br with
      |true=>
       rw[if_neg (λq=>by cases q.2.2.2.1)];simp(disch:=omega)only[Za,QM,QD]
      |false=>
       simp(disch:=omega)only[Za,QM,QD,n1,o1];cases q3:Yk (-1099511627776) 1099511627776 dp with
       |true=>
        rw[if_neg (λq=>by cases q.2.2.2.2.1)];simp(disch:=omega)only[Za,QM,QD]
       |false=>
        simp(disch:=omega)only[Za,QM,QD,n2,o2];cases q4:Yk (-1099511627776) 1099511627776 fw with
        |true=>
         rw[if_neg (λq=>by cases q.2.2.2.2.2)];simp(disch:=omega)only[Za,QM,QD]
        |false=>
         rw[if_pos ⟨q1,q2,q5,by simp,by simp,by simp⟩];simp(disch:=omega)only[Za,QM,QD]
     ·rw[if_neg (λq=>q5 q.2.2.1)];simp(disch:=omega)only[Za,QM,QD]
    ·rw[if_neg (λq=>q2 q.2.1)];simp(disch:=omega)only[Za,QM,QD]
   ·rw[if_neg (λq=>q1 q.1)];simp(disch:=omega)only[Za,QM,QD]
  constructor
  ·rintro ⟨k,hk,hfk,v1,v2,v3,v4,v5,v6⟩
   obtain rfl:m=k:=by omega
   rw[key,if_pos ⟨v1,v2,v3,Z7.2 v4,Z7.2 v5,Z7.2 v6⟩]
  ·intro hb;rw[key,if_neg (λq=>hb ⟨m,rfl,h,q.1,q.2.1,q.2.2.1,Z7.1 q.2.2.2.1,Z7.1 q.2.2.2.2.1,Z7.1 q.2.2.2.2.2⟩)]
 ·have e1:=R3 fu (d+7) n (by omega);refine⟨λ⟨m,hm,hfm,_⟩=>absurd (by unfold Yb at hfm;omega) hn,λ_=> ?_⟩;rw[eq_tangent_Check];simp(disch:=omega)only[Za,QM,QD,e1]
set_option maxHeartbeats 1000000 in
theorem Pf (n:Int) (br:List Int) {c1 c2:C} {dp fw:List Int} (h1:isL c1 dp) (h2:isL c2 fw) (l0:br.length<=1000000) (l1:dp.length<=1000000) (l2:fw.length<=1000000):
  (Zhs n br dp fw->cl fu (d+10) fn_synopticref31_Check [I n,V.c (C.sl br.length (ints br)),V.agg [c1,c2]] []=OK (I 0))/\(¬Zhs n br dp fw->cl fu (d+10) fn_synopticref31_Check [I n,V.c (C.sl br.length (ints br)),V.agg [c1,c2]] []=OK (I 1)):=by
 have o0:=P4 fu (d+8) hf br l0 1 (by omega);have o1:=P4 fu (d+8) hf dp l1 1099511627776 (by omega);have o2:=P4 fu (d+8) hf fw l2 1099511627776 (by omega);replace o0:cl fu (d+9) fn_synopticref22_Small [V.c (C.sl br.length (ints br)),I 1] []=OK (B (!Yk (-1) 1 br)):=o0;replace o1:cl fu (d+9) fn_synopticref22_Small [V.c (C.sl dp.length (ints dp)),I 1099511627776] []=OK (B (!Yk (-1099511627776) 1099511627776 dp)):=o1;replace o2:cl fu (d+9) fn_synopticref22_Small [V.c (C.sl fw.length (ints fw)),I 1099511627776] []=OK (B (!Yk (-1099511627776) 1099511627776 fw)):=o2;have oF:=Gh fu (d+8) n;by_cases hn:1<=n/\n<=8
 ·obtain⟨m,rfl⟩: ∃m:Nat,n=m:=⟨n.toNat,by omega⟩;have h:Yb m:=by unfold Yb;omega
  have heL:=Uu h;have hNl:=Y7 h;have e1:=Qk fu d hf m h;have e2:=Rn fu (d+8) m h;rw[decide_eq_true hn.1,decide_eq_true hn.2]at oF;have key:cl fu (d+10) fn_synopticref31_Check [I m,V.c (C.sl br.length (ints br)),V.agg [c1,c2]] []=OK (I (if dp.length=(Zg m).length/\fw.length=(edg m).length/\br.length=(edg m).length/\Yk (-1) 1 br=false/\Yk (-1099511627776) 1099511627776 dp=false/\Yk (-1099511627776) 1099511627776 fw=false then 0 else 1)):=by
   generalize edg m=E at*
   generalize (Zg m).length=N at*
   rw[eq_synopticref31_Check];have n1:=h1.1;have n2:=h2.1;have s1:=λ{R:Type} (k:Nat->List C->Option R)=>h1.2 k;have s2:=λ{R:Type} (k:Nat->List C->Option R)=>h2.2 k;simp(disch:=omega)only[Za,QM,QD,oF,e1];rw[s1];simp(disch:=omega)only[Za,QM,QD,e2];by_cases q1:dp.length=N
   ·simp(disch:=omega)only[Za,QM,QD];rw[s2];simp(disch:=omega)only[Za,QM,QD];by_cases q2:fw.length=E.length
    ·simp(disch:=omega)only[Za,QM,QD];by_cases q5:br.length=E.length
     ·simp(disch:=omega)only[Za,QM,QD,o0];cases q6:Yk (-1) 1 br with
      |true=>
       rw[if_neg (λq=>by cases q.2.2.2.1)];simp(disch:=omega)only[Za,QM,QD]
      |false=>
       simp(disch:=omega)only[Za,QM,QD,n1,o1];cases q3:Yk (-1099511627776) 1099511627776 dp with
       |true=>
        rw[if_neg (λq=>by cases q.2.2.2.2.1)];simp(disch:=omega)only[Za,QM,QD]
       |false=>
        simp(disch:=omega)only[Za,QM,QD,n2,o2];cases q4:Yk (-1099511627776) 1099511627776 fw with
        |true=>
         rw[if_neg (λq=>by cases q.2.2.2.2.2)];simp(disch:=omega)only[Za,QM,QD]
        |false=>
         rw[if_pos ⟨q1,q2,q5,by simp,by simp,by simp⟩];simp(disch:=omega)only[Za,QM,QD]
     ·rw[if_neg (λq=>q5 q.2.2.1)];simp(disch:=omega)only[Za,QM,QD]
    ·rw[if_neg (λq=>q2 q.2.1)];simp(disch:=omega)only[Za,QM,QD]
   ·rw[if_neg (λq=>q1 q.1)];simp(disch:=omega)only[Za,QM,QD]
  constructor
  ·rintro ⟨k,hk,hfk,v1,v2,v3,v4,v5,v6⟩
   obtain rfl:m=k:=by omega
   rw[key,if_pos ⟨v1,v2,v3,Z7.2 v4,Z7.2 v5,Z7.2 v6⟩]
  ·intro hb;rw[key,if_neg (λq=>hb ⟨m,rfl,h,q.1,q.2.1,q.2.2.1,Z7.1 q.2.2.2.1,Z7.1 q.2.2.2.2.1,Z7.1 q.2.2.2.2.2⟩)]
 ·refine⟨λ⟨m,hm,hfm,_⟩=>absurd (by unfold Yb at hfm;omega) hn,λ_=> ?_⟩;have hb:(decide (1<=n)&&decide (n<=8))=false:=by
   cases e:(decide (1<=n)&&decide (n<=8))with
   |false=>rfl
   |true=>
    rw[Zs1,decide_eq_true_iff,decide_eq_true_iff]at e;exact absurd e hn
  rw[hb]at oF;rw[eq_synopticref31_Check];simp(disch:=omega)only[Za,QM,QD,oF]
end
end Go.Proofs.YtjmempcalaliiaaGreatDoor
namespace Go.Proofs.YtjmempcalaliiaaGreatDoor
open Go Go.PM Go.Grid
attribute [local congr] Zu Zv Zw Yd Zx Zy Ye Yf Yg Yh Zz Z0 Yi Yt Yu Yv Yw Yx Yz Y1 Y2 Y4 Yy Z2 Z3 Y5 Z4 Z5 Zj Z6 Z1
section
variable (fu d:Nat)
end
end Go.Proofs.YtjmempcalaliiaaGreatDoor
namespace Go.Proofs.YtjmempcalaliiaaGreatDoor
open Go Go.PM Go.Grid
attribute [local congr] Zu Zv Zw Yd Zx Zy Ye Yf Yg Yh Zz Z0 Yi Yt Yu Yv Yw Yx Yz Y1 Y2 Y4 Yy Z2 Z3 Y5 Z4 Z5 Zj Z6 Z1
theorem Zo2 (E:List (Int×Int)) {j:Nat} (h:j<E.length) {x y:Int} (e:E[j]=(x,y)):(fl edC E).drop (j*2)=C.v (.int .i64 x)::C.v (.int .i64 y)::fl edC (E.drop (j+1))/\Zx5 1 (C.v (.int .i64 x)::C.v (.int .i64 y)::fl edC (E.drop (j+1)))=C.v (.int .i64 y)::fl edC (E.drop (j+1)):=by
 have hea:=Jz Xq h;rw[e]at hea;rw[hea];exact⟨rfl,rfl⟩
section
variable (fu d:Nat) (hf:18446744073709551616<=fu)
include hf
set_option maxHeartbeats 4000000 in
theorem Aj (n:Nat) (h:Yb n):cl fu (d+10) fn_synopticref29_Degrees [I n] []=OK (V.tup [V.c (C.sl (Zg n).length (ints (Xc (Zg n).length (edg n)))),I 0]):=by
 have hn:=h;unfold Yb at hn;have hNl:=Y7 h;have heL:=Uu h;have e0:=Gh fu (d+8) (n:Int);rw[decide_eq_true (show 1<=(n:Int) by omega),decide_eq_true (show(n:Int)<=8 by omega)]at e0;have e1:=Qk fu d hf n h;have e2:=Rn fu (d+8) n h;have hin:=Gb h;generalize edg n=E at*
 generalize (Zg n).length=N at*
 have hr0:reps N [C.v (.int .i64 0)]=ints (Xc N []):=by
  unfold Xc reps;simp[ik]
 have hdl:=Si N;rw[eq_synopticref29_Degrees];simp(disch:=omega)only[Za,QM,QD,e0,e1,e2,Zs2,Zta,hr0,Ze,hdl];rw[Zk (λj:Nat=>(ints (Xc N (E.take j)),((j:Nat):Int),())) 0 (ints (Xc N E),((E.length:Nat):Int),()) E.length ?_ ?_ ?_ (by omega)]
 ·have htk:Zx6 N (ints (Xc N E))=ints (Xc N E):=Ztc (by rw[Ze,hdl];exact Ztf _);simp(disch:=omega)only[Za,QM,QD,Zs4,Zta,Zto,Ze,hdl,htk]
 ·rfl
 ·intro j hj;have hin:=hin E[j] (Zt6 hj);have hst:Xc N (E.take (j+1))=mv1 (Xc N (E.take j)) E[j] 1 1:=by rw[Ztw hj,W8]
  have hbd:=Zix N (E.take j);have htl:(E.take j).length<=15000:=by rw[Zty];omega
  have hD:=hdl (E.take j);rw[hst];generalize Xc N (E.take j)=D at*
  generalize hee:E[j]=e at*
  obtain⟨ea,eb⟩:=e;simp only at hin⊢;obtain⟨x,rfl⟩: ∃x:Nat,ea=x:=⟨ea.toNat,by omega⟩;obtain⟨y,rfl⟩: ∃y:Nat,eb=y:=⟨eb.toNat,by omega⟩;obtain⟨ea1,ea2⟩:=Zo2 E hj hee;have d1:=Zm D (i:=x) (by omega);have b1:=hbd x;have p1:=Vx D (i:=x) (by omega) 1;have hB:=Xk D x 1;have hBa:=P0 D x 1 y;have hm:mv1 D ((x:Int),(y:Int)) 1 1=Uh (Uh D x 1) y 1:=by unfold mv1;rw[Zs2,Zs2]
  rw[hm];have b2:0<=at0 (Uh D x 1) y/\at0 (Uh D x 1) y<=40000:=by
   have:=hbd y;split at hBa<;>omega
  generalize Uh D x 1=D1 at*
  have d2:=Zm D1 (i:=y) (by omega);have p2:=Vx D1 (i:=y) (by omega) 1;have hB2:=Xk D1 y 1;generalize Uh D1 y 1=D2 at*
  simp(disch:=omega)only[Za,QM,QD,Zs3,Zs9,Zs4,Nat.reduceAdd,Zs2,Zta,Zto,Ze,hD,ea2,ea1,d1,p1,hB,d2,p2,hB2];rfl
 ·rw[Zud];simp(disch:=omega)only[Za,QM,QD,Zta,Zto,Ze,hdl]
end
end Go.Proofs.YtjmempcalaliiaaGreatDoor
namespace Go.Proofs.YtjmempcalaliiaaGreatDoor
open Go Go.PM Go.Grid
attribute [local congr] Zu Zv Zw Yd Zx Zy Ye Yf Yg Yh Zz Z0 Yi Yt Yu Yv Yw Yx Yz Y1 Y2 Y4 Yy Z2 Z3 Y5 Z4 Z5 Zj Z6 Z1
def am (hd:List Int) (E:List (Int×Int)) (j:Nat):Int:=Zx2.wrap (at0 hd (E.getD j (0,0)).2.toNat-at0 hd (E.getD j (0,0)).1.toNat)
section
variable (fu d:Nat) (hfu:18446744073709551616<=fu)
include hfu
end
end Go.Proofs.YtjmempcalaliiaaGreatDoor
namespace Go.Proofs.YtjmempcalaliiaaGreatDoor
open Go Go.PM Go.Grid
attribute [local congr] Zu Zv Zw Yd Zx Zy Ye Yf Yg Yh Zz Z0 Yi Yt Yu Yv Yw Yx Yz Y1 Y2 Y4 Yy Z2 Z3 Y5 Z4 Z5 Zj Z6 Z1
section
variable (fu d:Nat) (hfu:18446744073709551616<=fu)
include hfu
end
end Go.Proofs.YtjmempcalaliiaaGreatDoor
namespace Go.Proofs.YtjmempcalaliiaaGreatDoor
open Go Go.PM Go.Grid
attribute [local congr] Zu Zv Zw Yd Zx Zy Ye Yf Yg Yh Zz Z0 Yi Yt Yu Yv Yw Yx Yz Y1 Y2 Y4 Yy Z2 Z3 Y5 Z4 Z5 Zj Z6 Z1
theorem Zi2 {c:C} {l:List Int} (h:isL c l) (hl:0<l.length):c=C.sl l.length (ints l):=by
 have h1:=h.1;cases c with
 |nl=>
  rw[Zgw]at h1;injection h1 with e _
  omega
 |_=>exact h1
def bA (l:List Int):C:=C.sl l.length (ints l)
abbrev noC:Option Out:=OK (V.tup [V.agg [C.nl,C.nl],I 1])
section
variable (fu d:Nat) (hfu:18446744073709551616<=fu)
include hfu
end
end Go.Proofs.YtjmempcalaliiaaGreatDoor
namespace Go.Proofs.YtjmempcalaliiaaGreatDoor
open Go Go.PM Go.Grid
attribute [local congr] Zu Zv Zw Yd Zx Zy Ye Yf Yg Yh Zz Z0 Yi Yt Yu Yv Yw Yx Yz Y1 Y2 Y4 Yy Z2 Z3 Y5 Z4 Z5 Zj Z6 Z1
theorem Nv (cs:List C):(backL cs).length=cs.length:=by simp[backL]
theorem Zlo (cs:List C) {i:Nat} (h:i<cs.length):(backL cs)[i]'(by rw[Nv];exact h)=[I ((cs.length-1-i:Nat):Int),V.c (cs[cs.length-1-i]'(by omega))]:=by
 simp only[backL,Zvn,List.getElem_reverse,List.getElem_zipIdx,List.length_zipIdx,Zs4]
theorem Zht (cs:List C) {i:Nat} (h:i<cs.length):(backL cs).drop i=[I ((cs.length-1-i:Nat):Int),V.c (cs[cs.length-1-i]'(by omega))]::(backL cs).drop (i+1):=by
 rw[Ztz (by rw[Nv];exact h),Zlo cs h]
theorem Zo3 (cs:List C) {i q:Nat} (h:i<cs.length) (hq:q=cs.length-1-i) (hql:q<cs.length):(backL cs).drop i=[I (q:Int),V.c cs[q]]::(backL cs).drop (i+1):=by
 subst hq;exact Zht cs h
section
variable (fu d:Nat) (hf:18446744073709551616<=fu)
include hf
theorem Zqv (cs:List C) (hl:cs.length<=1000000) (l:Nat) (go:Nat->Bool) (c0:C) (hc0: ∀{R:Type} (k:Nat->List C->Option R),asSl c0 k=k cs.length cs) (r:List C):
  ∃out lg,cl fu (d+1) fn_slices_Backward_sapi_Branch_api_Branch_1 [V.c (C.yl l go (backL cs)),V.c (C.cp (c0::r))] []=some out/\out.log=some lg/\(lg.st=true\/lg.rest=[]):=by
 have hll:=Nv cs;have hd:=λ{i q:Nat} (h:i<cs.length) (hq:q=cs.length-1-i) (hql:q<cs.length)=>Zo3 cs h hq hql;rw[eq_slices_Backward_sapi_Branch_api_Branch_1];generalize backL cs=BL at*
 have hc1:=λ{R:Type} (k:Nat->List C->Option R)=>hc0 k;simp(disch:=omega)only[Za,QM,QD,hc1];refine Ug (A:=Int×Log×Unit) (B:=Out) (fu:=fu) (λo=> ∃out lg,o=some out/\out.log=some lg/\(lg.st=true\/lg.rest=[]))
  (λs=> ∃i:Nat,i<=cs.length/\s=((cs.length:Int)-1-(i:Int),⟨l,go,i,BL.drop i,false⟩,())) (λs=>(s.1+1).toNat) (λ_ z=>z.2.1.st=true\/z.2.1.rest=[]) ⟨0,by omega, ?_⟩ ?_ ?_ ?_
 ·simp
 ·show((cs.length:Int)-1+1).toNat<fu;omega
 ·rintro y ⟨i,hi,rfl⟩
  by_cases hlt:i<cs.length
  ·obtain⟨q,hq⟩: ∃q:Nat,q=cs.length-1-i:=⟨_,rfl⟩;have hqi:(cs.length:Int)-1-(i:Int)=(q:Int):=by omega
   have hql:q<cs.length:=by omega
   have hat:=Ztz hql;have hd:=hd hlt hq hql;rw[hqi];cases hg:go i with
   |true=>
    refine .inl ⟨((cs.length:Int)-1-((i+1:Nat):Int),⟨l,go,i+1,BL.drop (i+1),false⟩,()), ?_,⟨i+1,by omega,rfl⟩, ?_⟩
    ·rw[show(cs.length:Int)-1-((i+1:Nat):Int)=(q:Int)-1 by omega];simp(disch:=omega)only[Za,QM,QD,Zs2,Zta,hc1,hat,hd,Jr,Js,hg]
    ·show((cs.length:Int)-1-((i+1:Nat):Int)+1).toNat<((q:Int)+1).toNat;omega
   |false=>
    refine .inr ⟨1,((q:Int),⟨l,go,i+1,BL.drop (i+1),true⟩,()), ?_, .inl rfl⟩;simp(disch:=omega)only[Za,QM,QD,Zs2,Zta,hc1,hat,hd,Jr,Js,hg]
  ·refine .inr ⟨0,((cs.length:Int)-1-(i:Int),⟨l,go,i,BL.drop i,false⟩,()), ?_, .inr ?_⟩
   ·simp(disch:=omega)only[Za,QM,QD]
   ·show BL.drop i=[];rw[Zwy];omega
 ·rintro e z hz
  refine⟨⟨V.tup [],[],some z.2.1⟩,z.2.1, ?_,rfl,hz⟩;cases e<;>rfl
omit d in
theorem iterOk:Zbw Tryz.prog prim laid fu:=by
 intro d f caps xs h l go;replace h:(bif Zx4 10 d then iterC f caps else none)=some xs:=h;cases hd:Zx4 10 d with
 |false=>rw[hd]at h;cases h
 |true=>
  rw[hd]at h;replace h:iterC f caps=some xs:=h;have hd:=Zs5 hd;obtain⟨d',rfl⟩: ∃d',d=d'+10:=⟨d-10,by omega⟩;unfold iterC at h;cases hfq:Zx3 f fn_flux_edges_1 with
  |false=>
   rw[hfq]at h;simp only[cf]at h;cases hfv:Zx3 f fn_slices_Backward_sapi_Branch_api_Branch_1 with
   |false=>rw[hfv]at h;cases h
   |true=>
    have hfe:=Zs0 hfv;subst hfe;rw[hfv]at h;simp only[ct]at h;split at h
    ·rename_i c;unfold asP at h;split at h
     ·rename_i cs;cases cs with
      |nil=>cases h
      |cons c r=>
       replace h:asSl c (λn l=>need (Zx3 n l.length&&Zx4 n 1000000) (some (backL l)))=some xs:=h;have fin: ∀(n:Nat) (cs:List C),need (Zx3 n cs.length&&Zx4 n 1000000) (some (backL cs))=some xs->n=cs.length/\cs.length<=1000000/\xs=backL cs:=λn cs h=>by
        obtain⟨hc,h⟩:=Zb h;rw[Zs1]at hc;have h1:=Zs0 hc.1;have h2:=Zs5 hc.2;cases h;exact⟨h1,by omega,rfl⟩
       unfold asSl at h;split at h
       ·rename_i p hp;obtain⟨e1,h3,rfl⟩:=fin _ _ h;refine Zqv fu (d'+9) hf p.2 h3 l go _ (λk=> ?_) r;unfold asSl;rw[hp];show k p.1 p.2=_;rw[e1]
       ·cases h
     ·cases h
    ·cases h
  |true=>
   have hfe:=Zs0 hfq;subst hfe;rw[hfq]at h;simp only[ct]at h;split at h
   ·rename_i c;unfold asP at h;split at h
    ·rename_i cs;cases cs with
     |nil=>cases h
     |cons c r=>
      replace h:asI .i64 c (λn=>need (decide (1<=n)&&decide (n<=8)) (some (edgesL n.toNat)))=some xs:=h;unfold asI at h;split at h
      ·split at h
       ·rename_i kd i hk;subst hk;obtain⟨hc,h⟩:=Zb h;rw[Zs1]at hc;have h1:=of_decide_eq_true hc.1;have h2:=of_decide_eq_true hc.2;cases h;obtain⟨n,rfl⟩: ∃n:Nat,i=n:=⟨i.toNat,by omega⟩;exact Zos fu d' hf n (by unfold Yb;omega) l go r
       ·cases h
      ·cases h
    ·cases h
   ·cases h
end
end Go.Proofs.YtjmempcalaliiaaGreatDoor
namespace Go.Proofs.YtjmempcalaliiaaGreatDoor
open Go Go.PM Go.Grid
attribute [local congr] Zu Zv Zw Yd Zx Zy Ye Yf Yg Yh Zz Z0 Yi Yt Yu Yv Yw Yx Yz Y1 Y2 Y4 Yy Z2 Z3 Y5 Z4 Z5 Zj Z6 Z1
def cmP (o1 o2:Option Out):Prop:= ∃(e:Int) (p q:List Int) (x1 x2 y1 y2:C),isL x1 p/\isL x2 q/\isL y1 p/\isL y2 q/\p.length<=1000000/\q.length<=1000000/\o1=OK (V.tup [V.agg [x1,x2],I e])/\o2=OK (V.tup [V.agg [y1,y2],I e])
section
variable (fu d:Nat) (hfu:18446744073709551616<=fu)
include hfu
omit hfu in
theorem Zaf (l:List Int) (hl:l.length<=1000000):cl fu (d+1) fn_slices_Clone_sint_int [V.c (C.sl l.length (ints l))] []=some ⟨V.own 1000000 0 l.length,[.sb ty_int 0 (ints l)],none⟩:=by
 by_cases h:0<l.length
 ·exact Bj fu d l h hl
 ·obtain rfl:l=[]:=Zth (by omega);rw[eq_slices_Clone_sint_int];exact Zkg (some (⟨V.own 1000000 0 0,[.sb ty_int 0 []],none⟩:Out))
end
end Go.Proofs.YtjmempcalaliiaaGreatDoor
namespace Go.Proofs.YtjmempcalaliiaaGreatDoor
open Go Go.PM Go.Grid
attribute [local congr] Zu Zv Zw Yd Zx Zy Ye Yf Yg Yh Zz Z0 Yi Yt Yu Yv Yw Yx Yz Y1 Y2 Y4 Yy Z2 Z3 Y5 Z4 Z5 Zj Z6 Z1
theorem Zst {o1 o2:Option Out} (h1:o1=noC) (h2:o2=noC):cmP o1 o2:=⟨1,[],[],_,_,_,_,Rp,Rp,Rp,Rp,by simp,by simp,h1,h2⟩
section
variable (fu d:Nat) (hfu:18446744073709551616<=fu)
include hfu
theorem Gi {c1 c2 c3 c4:C} {a b a' b':List Int} (h1:isL c1 a) (h2:isL c2 b) (h3:isL c3 a') (h4:isL c4 b') (l1:a.length<=1000000) (l2:b.length<=1000000) (l3:a'.length<=1000000) (l4:b'.length<=1000000):
  cl fu (d+2) fn_synopticref31_Same [V.agg [c1,c2],V.agg [c3,c4]] []=OK (B (decide (a=a'/\b=b'))):=by
 have e1:=Er fu d hfu a a' l1 l3;have e2:=Er fu d hfu b b' l2 l4;rw[eq_synopticref31_Same,h1.1,h2.1,h3.1,h4.1];by_cases q1:a=a'
 ·rw[decide_eq_true q1]at e1;simp(disch:=omega)only[Za,QM,QD,e1,e2];by_cases q2:b=b'
  ·rw[decide_eq_true q2,decide_eq_true ⟨q1,q2⟩]
  ·rw[decide_eq_false q2,decide_eq_false (λh=>q2 h.2)]
 ·rw[decide_eq_false q1]at e1;rw[decide_eq_false (λh=>q1 h.1)];simp(disch:=omega)only[Za,QM,QD,e1]
end
end Go.Proofs.YtjmempcalaliiaaGreatDoor
