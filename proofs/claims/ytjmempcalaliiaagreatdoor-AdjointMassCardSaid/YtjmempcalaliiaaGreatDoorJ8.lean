/- Parts put together: W, Gc, Gd, Ge, Ea, H, Eb, Ec, Ed, Ee, Ef, Eg, Eh, Ei, Ej, Ek, El, Fa, Fb, Fc, Fd, Fe, Ff, Fp, Nb, Nc, Pa, Pb, Pc, Pd, Fi, Pe, Pi, Pj, Fs, Pk, Da, Db, Pp, De, Iy. -/
import Derived.Test.YtjmempcalaliiaaGreatDoorJ5
import Derived.Test.YtjmempcalaliiaaGreatDoorEq
import Derived.Test.YtjmempcalaliiaaGreatDoorJ6
set_option linter.defProp false
set_option linter.unusedSimpArgs false
set_option linter.unusedVariables false
/- Rules whose conditions simp can have shown by omega; lists of records as cells. -/
namespace Go.PM
open Go
theorem Xd {x:Int} (h1: -9223372036854775808<=x) (h2:x<=9223372036854775807):IntKind.i64.wrap x=x:=IntWalk.i64_in x ⟨by omega,by omega⟩
theorem Zn9 {a b:Int} (h:a<b):decide (a<b)=true:=decide_eq_true h
theorem Zoa {a b:Int} (h:b<=a):decide (a<b)=false:=decide_eq_false (by omega)
theorem dle_t {a b:Int} (h:a<=b):decide (a<=b)=true:=decide_eq_true h
theorem dle_f {a b:Int} (h:b<a):decide (a<=b)=false:=decide_eq_false (by omega)
theorem dgt_t {a b:Int} (h:b<a):decide (a>b)=true:=decide_eq_true h
theorem dgt_f {a b:Int} (h:a<=b):decide (a>b)=false:=decide_eq_false (by omega)
theorem dge_t {a b:Int} (h:b<=a):decide (a≥b)=true:=decide_eq_true h
theorem dge_f {a b:Int} (h:a<b):decide (a≥b)=false:=decide_eq_false (by omega)
theorem Zk6 {a b:Int} (h:a=b):(a==b)=true:=beq_iff_eq.2 h
theorem Jv {a b:Int} (h:a≠b):(a==b)=false:=beq_eq_false_iff_ne.2 h
theorem Zo7 {a b:Int} (h:a≠b):(a !=b)=true:=bne_iff_ne.2 h
theorem Zk7 {a b:Int} (h:a=b):(a !=b)=false:=by subst h;simp
def fl {A:Type} (e:A->List C) (l:List A):List C:=l.flatMap e
section
variable {A:Type} {e:A->List C} {m:Nat}
@[simp] theorem fl_nil:fl e []=[]:=rfl
theorem S9 (x:A) (l:List A):fl e (x::l)=e x++fl e l:=by simp[fl]
theorem Jw (l l':List A):fl e (l++l')=fl e l++fl e l':=by simp[fl]
theorem Kx (l:List A) (x:A):fl e l++e x=fl e (l++[x]):=by simp[fl]
theorem Zf (h: ∀x,(e x).length=m): ∀l:List A,(fl e l).length=l.length*m
 | []=>by simp[fl]
 |x::l=>by rw[S9,Zpz,h,Zf h l,Zpv,Zqy];omega
theorem G4 (h: ∀x,(e x).length=m): ∀(k:Nat) (l:List A),(fl e l).drop (k*m)=fl e (l.drop k)
 |0,l=>by simp
 |k+1,[]=>by simp[fl]
 |k+1,x::l=>by
  rw[S9,Zqy,Zsh,List.drop_append];rw[show(e x).drop (m+k*m)=[] from Zr9 (by rw[h];omega),h,Nat.add_sub_cancel_left,Zqr,G4 h k l];rfl
theorem Zad (h: ∀x,(e x).length=m): ∀(k:Nat) (l:List A),(fl e l).take (k*m)=fl e (l.take k)
 |0,l=>by simp
 |k+1,[]=>by simp[fl]
 |k+1,x::l=>by
  rw[S9,Zqy,Zsh,List.take_append];rw[Zp5 (by rw[h];omega),h,Nat.add_sub_cancel_left,Zad h k l,List.take_succ_cons,S9]
theorem H6 (h: ∀x,(e x).length=m) {k:Nat} {l:List A} (hk:k<l.length):(fl e l).drop (k*m)=e l[k]++fl e (l.drop (k+1)):=by
 rw[G4 h,Zqn hk,S9]
end
theorem Ri (P:Nat->Prop) [DecidablePred P] (n:Nat):(∀j,j<n-> ¬P j)\/ ∃k,k<n/\P k/\ ∀j,j<k-> ¬P j:=by
 induction n with
 |zero=>left;intro j hj;omega
 |succ n ih=>
  rcases ih with ih|⟨k,h1,h2,h3⟩
  ·by_cases h:P n
   ·exact .inr ⟨n,by omega,h,ih⟩
   ·left;intro j hj;by_cases e:j=n
    ·subst e;exact h
    ·exact ih j (by omega)
  ·exact .inr ⟨k,by omega,h2,h3⟩
theorem Zs {A:Type} {body:A->Option (Nat×A)} {x:A} {fu:Nat} (f:Nat->A) (e:Nat) (z:A) (k:Nat) (hx:x=f 0) (h: ∀j,j<k->body (f j)=some (0,f (j+1))) (he:body (f k)=some (e+1,z)) (hf:k<fu):iter body fu x=some (e,z):=by
 rw[hx];exact Kt f e z k 0 fu (λj _ hj=>h j (by omega)) (by rw[Zpt];exact he) hf
theorem Ze0 {A:Type} {body:A->Option (Nat×A)} {x:A} {fu:Nat} (J:A->Prop) (m:A->Nat) (e:Nat) (z:A) (hx:J x) (hm:m x<fu) (h: ∀y,J y->(∃y',body y=some (0,y')/\J y'/\m y'<m y)\/body y=some (e+1,z)):iter body fu x=some (e,z):=by
 obtain⟨e',z',h1,h2,h3⟩:=Ju (body:=body) J m (λe' z'=>e'=e/\z'=z) (λy hy=>(h y hy).imp id λhh=>⟨e,z,hh,rfl,rfl⟩) fu x hx hm;rw[h1,h2,h3]
theorem Su {A:Type} (body:A->Option (Nat×A)) (n:Nat) (x:A):iter body (n+1) x=(body x).bind λp=>natD p.1 (iter body n p.2) λm=>some (m,p.2):=by
 simp only[iter]
 congr 1
def QM:=And.intro @obs (And.intro @rC_c (And.intro @Zox (And.intro @Zoy (And.intro @W3 (And.intro @Zoz (And.intro @rS_sb (And.intro @rF_sb (And.intro @Zhy (And.intro @Zhz (And.intro @Zkr (And.intro @rO_ob (And.intro @Zks (And.intro @Zkt (And.intro @asI_int (And.intro @asB_bool (And.intro @Zem (And.intro @Zmt (And.intro @Zmu (And.intro @Zmv (And.intro @Zo0 (And.intro @Zo1 (And.intro @Zo2 (And.intro @Bp (And.intro @ct (And.intro @cf (And.intro @bd_eq (And.intro @Zh0 (And.intro @Zh1 (And.intro @Zku (And.intro @Zo3 (And.intro @Zmw (And.intro @Zmx (And.intro @Zmy (And.intro @Zmz (And.intro @Bool.and_true (And.intro @Bool.true_and (And.intro @Bool.and_self (And.intro @Zh2 (And.intro @Bool.not_true (And.intro @Bool.not_false (And.intro @Bool.and_false (And.intro @Bool.false_and (And.intro @Bool.or_false (And.intro @Bool.false_or (And.intro @Bool.or_true @Bool.true_or)))))))))))))))))))))))))))))))))))))))))))))
def QD:=And.intro @Xd (And.intro @Zn9 (And.intro @Zoa (And.intro @dle_t (And.intro @dle_f (And.intro @dgt_t (And.intro @dgt_f (And.intro @dge_t (And.intro @dge_f (And.intro @Zk6 (And.intro @Jv (And.intro @Zo7 (And.intro @Zk7 (And.intro @Zm2 (And.intro @Zm0 @Zm1))))))))))))))
end Go.PM
/- Places: what the functions of the program and of the reference come to. -/
namespace Go.Proofs.YtjmempcalaliiaaGreatDoor
open Go Go.PM Go.Grid
def plc (p:Pl):List C:=[.v (.int .i64 p.f), .v (.int .i64 p.a), .v (.int .i64 p.b), .v (.int .i64 p.c)]
theorem Zo (p:Pl):(plc p).length=4:=rfl
def wcs (w:Nat->Nat):List C:=(List.range 12).map λv=> .v (.int .i64 (w v))
abbrev OK (r:V):Option Out:=some ⟨r,[],none⟩
def X3 (f a b c:Int):Bool:=decide (0<=f/\f<20/\0<=a/\a<=840/\0<=b/\b<=840/\0<=c/\c<=840/\a+b+c=840)
theorem Bw {p:Pl} (h:p.ok):X3 p.f p.a p.b p.c=true:=by
 obtain⟨h1,h2⟩:=h;exact decide_eq_true (by omega)
theorem Zae (fu d:Nat) (f a b c:Int):cl fu (d+1) fn_synopticref02_Valid [V.agg [.v (.int .i64 f), .v (.int .i64 a), .v (.int .i64 b), .v (.int .i64 c)]] []=OK (B (X3 f a b c)):=by
 rw[eq_synopticref02_Valid];by_cases h1:0<=f
 case neg=>rw[show X3 f a b c=false from decide_eq_false (by omega)];simp(disch:=omega)only[QM,QD]
 by_cases h2:f<20
 case neg=>rw[show X3 f a b c=false from decide_eq_false (by omega)];simp(disch:=omega)only[QM,QD]
 by_cases h3:0<=a
 case neg=>rw[show X3 f a b c=false from decide_eq_false (by omega)];simp(disch:=omega)only[QM,QD]
 by_cases h4:a<=840
 case neg=>rw[show X3 f a b c=false from decide_eq_false (by omega)];simp(disch:=omega)only[QM,QD]
 by_cases h5:0<=b
 case neg=>rw[show X3 f a b c=false from decide_eq_false (by omega)];simp(disch:=omega)only[QM,QD]
 by_cases h6:b<=840
 case neg=>rw[show X3 f a b c=false from decide_eq_false (by omega)];simp(disch:=omega)only[QM,QD]
 by_cases h7:0<=c
 case neg=>rw[show X3 f a b c=false from decide_eq_false (by omega)];simp(disch:=omega)only[QM,QD]
 by_cases h8:c<=840
 case neg=>rw[show X3 f a b c=false from decide_eq_false (by omega)];simp(disch:=omega)only[QM,QD]
 by_cases h9:a+b+c=840
 ·rw[show X3 f a b c=true from decide_eq_true (by omega)];simp(disch:=omega)only[QM,QD]
 ·rw[show X3 f a b c=false from decide_eq_false (by omega)];simp(disch:=omega)only[QM,QD]
theorem twenty {f:Nat} (h:f<20):f=0\/f=1\/f=2\/f=3\/f=4\/f=5\/f=6\/f=7\/f=8\/f=9\/f=10\/f=11\/f=12\/f=13\/f=14\/f=15\/f=16\/f=17\/f=18\/f=19:=by omega
theorem N3 (fu d f:Nat) (h:f<20):cl fu (d+1) fn_synopticref02_Corners [I f] []=OK (V.tup [V.agg [.v (.int .i64 (crn f).1), .v (.int .i64 (crn f).2.1), .v (.int .i64 (crn f).2.2)],I 0]):=by
 rw[eq_synopticref02_Corners];rcases twenty h with rfl|rfl|rfl|rfl|rfl|rfl|rfl|rfl|rfl|rfl|rfl|rfl|rfl|rfl|rfl|rfl|rfl|rfl|rfl|rfl<;>(show @Eq (Option Out) _ _;kernel_rfl)
theorem Dj (fu d:Nat) (p:Pl) (h:p.ok):cl fu (d+2) fn_synopticref02_Weights [V.agg (plc p)] []=OK (V.agg (wcs (wt p))):=by
 obtain⟨f,a,b,c⟩:=p;unfold plc;rw[eq_synopticref02_Weights];simp only;rw[N3 fu d f h.1];have hf:f<20:=h.1;rcases twenty hf with rfl|rfl|rfl|rfl|rfl|rfl|rfl|rfl|rfl|rfl|rfl|rfl|rfl|rfl|rfl|rfl|rfl|rfl|rfl|rfl<;>(show @Eq (Option Out) _ _;kernel_rfl)
theorem Zib (fu d:Nat) (w:Nat->Nat) (hw: ∀v,w v<=840) (f:Nat) (h:f<20):cl fu (d+2) fn_synopticref02_On [I f,V.agg (wcs w)] []=OK (V.tup [V.agg (plc (onW w f)),B (onW w f).full]):=by
 have e:cl fu (d+2) fn_synopticref02_On [I f,V.agg (wcs w)] []=OK (V.tup [V.agg (plc (onW w f)),B (IntKind.i64.wrap (IntKind.i64.wrap ((w (crn f).1:Int)+(w (crn f).2.1:Int))+(w (crn f).2.2:Int))==840)]):=by
  rw[eq_synopticref02_On,N3 fu d f h];rcases twenty h with rfl|rfl|rfl|rfl|rfl|rfl|rfl|rfl|rfl|rfl|rfl|rfl|rfl|rfl|rfl|rfl|rfl|rfl|rfl|rfl<;>(show @Eq (Option Out) _ _;kernel_rfl)
 rw[e];have h1:=hw (crn f).1;have h2:=hw (crn f).2.1;have h3:=hw (crn f).2.2;simp(disch:=omega)only[Xd];have e2:((w (crn f).1:Int)+(w (crn f).2.1:Int)+(w (crn f).2.2:Int)==840)=(onW w f).full:=by
  rw[Zrj,N2,beq_iff_eq];show _↔w (crn f).1+w (crn f).2.1+w (crn f).2.2=840;omega
 rw[e2]
def Vq (w:Nat->Nat) (j:Nat):List Pl:=((List.range j).map (onW w)).filter Pl.full
theorem T5 (w:Nat->Nat) (j:Nat):Vq w (j+1)=if(onW w j).full then Vq w j++[onW w j]else Vq w j:=by
 unfold Vq;rw[Zrq,Zrz,List.filter_append];simp only[Zq3,List.map_nil,List.filter_cons,List.filter_nil];split<;>simp
theorem Dk (w:Nat->Nat) (j:Nat):(Vq w j).length<=j:=by
 unfold Vq;refine Zqb (List.length_filter_le _ _) ?_;simp
theorem Zk8 {p:Pl} (h:p.ok) (v:Nat):wt p v<=840:=by
 have h2:=h.2;unfold wt wt3
 (repeat' split)<;>omega
theorem Zm5 (l:List Pl) (q:Pl):fl plc l++[.v (.int .i64 q.f), .v (.int .i64 q.a), .v (.int .i64 q.b), .v (.int .i64 q.c)]=fl plc (l++[q]):=Kx l q
theorem Xl (l:List Pl):l.length*4/4=l.length:=Zr2 _ (by omega)
theorem Zga (w:Nat->Nat):putAt [C.v (.int .i64 0),C.v (.int .i64 0),C.v (.int .i64 0),C.v (.int .i64 0),C.v (.int .i64 0),C.v (.int .i64 0),C.v (.int .i64 0),C.v (.int .i64 0),C.v (.int .i64 0),C.v (.int .i64 0),C.v (.int .i64 0),C.v (.int .i64 0)] 0 (wcs w)=wcs w:=id rfl
theorem Zcp (w:Nat->Nat):List.take 12 (wcs w)=wcs w:=id rfl
theorem Dl (w:Nat->Nat):(wcs w).length=12:=id rfl
theorem Jx (fu d:Nat) (hf:18446744073709551616<=fu) (p:Pl) (h:p.ok):
  cl fu (d+3) fn_synopticref02_Addresses [V.agg (plc p)] []=OK (V.tup [V.c (C.sl (Sp p).length (fl plc (Sp p))),I 0]):=by
 have e1:=Dj fu d p h;have hv:=Bw h;unfold plc at e1⊢;rw[eq_synopticref02_Addresses,Zae,hv,e1];simp only[QM,Zga,Zcp,Dl,Zpt,show Nat.ble 12 12=true from rfl];rw[show(([]:List C),(0:Int),())=(λj:Nat=>(fl plc (Vq (wt p) j),(j:Int),())) 0 from rfl,Kt (λj:Nat=>(fl plc (Vq (wt p) j),(j:Int),())) 0 (fl plc (Vq (wt p) 20),(20:Int),()) 20 0 fu ?_ ?_ (by omega)]
 ·simp(disch:=omega)only[QM,QD,Zf Zo,Xl,Zpt];rw[Zp5 (by rw[Zf Zo];omega)];rfl
 ·intro j _ hj;have hl:=Dk (wt p) j;rw[T5];have e2:=Zib fu d (wt p) (Zk8 h) j (by omega);unfold plc at e2;simp(disch:=omega)only[QM,QD,e2,Zf Zo,Xl,Zpv,Zpy,Zpt,Nat.reduceAdd];cases hfull:(onW (wt p) j).full with
  |true=>
   simp(disch:=omega)only[QM,QD,Zm5,Zf Zo,Zpz,Zpv,Zpy,Zpt,if_true,Zqm,Zq8]
  |false=>
   simp(disch:=omega)only[QM,QD,Bool.false_eq_true,if_false,Zqm,Zq8]
 ·simp(disch:=omega)only[QM,QD,Zf Zo,Xl,Zpt];rfl
end Go.Proofs.YtjmempcalaliiaaGreatDoor
/- Places, continued: the normal place; the program's functions. -/
namespace Go.Proofs.YtjmempcalaliiaaGreatDoor
open Go Go.PM Go.Grid
theorem Mz (fu d:Nat) (hf:18446744073709551616<=fu) (p:Pl) (h:p.ok):cl fu (d+4) fn_synopticref02_Normal [V.agg (plc p)] []=OK (V.tup [V.agg (plc (norm p)),I 0]):=by
 have e1:=Jx fu d hf p h;obtain⟨r,hr⟩:=Mh h;rw[hr]at e1;unfold plc at e1⊢;rw[eq_synopticref02_Normal,e1];simp(disch:=omega)only[QM,QD,S9,plc,Zqo,Zqr,Zpv]
theorem Zaf (p q:Pl):((p.f:Int)==q.f&&((p.a:Int)==q.a&&((p.b:Int)==q.b&&(p.c:Int)==q.c)))=decide (p=q):=by
 obtain⟨f,a,b,c⟩:=p;obtain⟨f',a',b',c'⟩:=q;rw[Zrj];simp only[Zpp,beq_iff_eq,decide_eq_true_eq,Pl.mk.injEq];omega
theorem Gl (fu d:Nat) (hf:18446744073709551616<=fu) (p:Pl) (h:p.ok):cl fu (d+5) fn_synopticref02_IsNormal [V.agg (plc p)] []=OK (B (isN p)):=by
 have e1:=Mz fu d hf p h;unfold plc at e1⊢;rw[eq_synopticref02_IsNormal,e1];simp(disch:=omega)only[QM,QD,Zpv,Zpy,Zaf,Nat.reduceAdd];unfold isN;rw[show decide (p=norm p)=decide (norm p=p) from by rw[Zrj];simp[eq_comm]]
theorem Zm6 (fu d:Nat) (f:Int):cl fu (d+1) fn_place_face [I f] []=OK (B (decide (0<=f/\f<20))):=by
 rw[eq_place_face];by_cases h1:0<=f
 ·simp(disch:=omega)only[QM,QD];by_cases h2:f<20
  ·rw[Zn9 h2,decide_eq_true ⟨h1,h2⟩]
  ·rw[Zoa (by omega),decide_eq_false (by omega)]
 ·rw[decide_eq_false (by omega: ¬(0<=f/\f<20))];simp(disch:=omega)only[QM,QD]
theorem Zcq (fu d:Nat) (hf:18446744073709551616<=fu) (f a b c:Int):cl fu (d+2) fn_place_Valid [V.agg [.v (.int .i64 f), .v (.int .i64 a), .v (.int .i64 b), .v (.int .i64 c)]] []=OK (B (X3 f a b c)):=by
 rw[eq_place_Valid,Zm6];obtain⟨fu',rfl⟩: ∃n,fu=n+4:=⟨fu-4,by omega⟩;by_cases h3:0<=a
 case neg=>rw[show X3 f a b c=false from decide_eq_false (by omega)];rw[Su];simp(disch:=omega)only[QM,QD,Zrv,Zqu,Zri]
 by_cases h4:a<=840
 case neg=>rw[show X3 f a b c=false from decide_eq_false (by omega)];rw[Su];simp(disch:=omega)only[QM,QD,Zrv,Zqu,Zri]
 by_cases h5:0<=b
 case neg=>rw[show X3 f a b c=false from decide_eq_false (by omega)];rw[Su];simp(disch:=omega)only[QM,QD,Zrv,Zqu,Zri,Int.zero_add,Su,Int.toNat_one,Nat.one_mul,Zrf]
 by_cases h6:b<=840
 case neg=>rw[show X3 f a b c=false from decide_eq_false (by omega)];rw[Su];simp(disch:=omega)only[QM,QD,Zrv,Zqu,Zri,Int.zero_add,Su,Int.toNat_one,Nat.one_mul,Zrf]
 by_cases h7:0<=c
 case neg=>rw[show X3 f a b c=false from decide_eq_false (by omega)];rw[Su];simp(disch:=omega)only[QM,QD,Zrv,Zqu,Zri,Int.zero_add,Su,Int.toNat_one,Nat.one_mul,Zrf,Int.reduceAdd,Int.reduceToNat]
 by_cases h8:c<=840
 case neg=>rw[show X3 f a b c=false from decide_eq_false (by omega)];rw[Su];simp(disch:=omega)only[QM,QD,Zrv,Zqu,Zri,Int.zero_add,Su,Int.toNat_one,Nat.one_mul,Zrf,Int.reduceAdd,Int.reduceToNat]
 simp(disch:=omega)only[QM,QD,Zrv,Zqu,Zri,Int.zero_add,Su,Int.toNat_one,Nat.one_mul,Zrf,Int.reduceAdd,Int.reduceToNat];by_cases h1:0<=f/\f<20
 ·rw[decide_eq_true h1];by_cases h9:a+b+c=840
  ·rw[show X3 f a b c=true from decide_eq_true (by omega)];simp(disch:=omega)only[QM,QD]
  ·rw[show X3 f a b c=false from decide_eq_false (by omega)];simp(disch:=omega)only[QM,QD]
 ·rw[decide_eq_false h1,show X3 f a b c=false from decide_eq_false (by omega)];simp(disch:=omega)only[QM,QD]
theorem sp_of (fu d:Nat) (p:Pl) (h:p.ok):cl fu (d+1) fn_place_of [V.agg (plc p)] []=OK (V.agg (wcs (wt p))):=by
 obtain⟨f,a,b,c⟩:=p;unfold plc;rw[eq_place_of];have hf:f<20:=h.1;rcases twenty hf with rfl|rfl|rfl|rfl|rfl|rfl|rfl|rfl|rfl|rfl|rfl|rfl|rfl|rfl|rfl|rfl|rfl|rfl|rfl|rfl<;>(show @Eq (Option Out) _ _;kernel_rfl)
theorem Ze1 {w:Nat->Nat} (hw: ∀v,w v<=840) {f:Nat} (h:f<20):X3 (onW w f).f (onW w f).a (onW w f).b (onW w f).c=(onW w f).full:=by
 have h1:=hw (crn f).1;have h2:=hw (crn f).2.1;have h3:=hw (crn f).2.2;rw[Zrj,N2];unfold X3;rw[decide_eq_true_eq];show(0:Int)<=(f:Nat)/\((f:Nat):Int)<20/\(0:Int)<=((w (crn f).1:Nat):Int)/\((w (crn f).1:Nat):Int)<=840/\(0:Int)<=((w (crn f).2.1:Nat):Int)/\((w (crn f).2.1:Nat):Int)<=840/\(0:Int)<=((w (crn f).2.2:Nat):Int)/\((w (crn f).2.2:Nat):Int)<=840/\((w (crn f).1:Nat):Int)+((w (crn f).2.1:Nat):Int)+((w (crn f).2.2:Nat):Int)=840↔w (crn f).1+w (crn f).2.1+w (crn f).2.2=840;omega
theorem Zob (fu d:Nat) (hf:18446744073709551616<=fu) (w:Nat->Nat) (hw: ∀v,w v<=840) (f:Nat) (h:f<20):cl fu (d+3) fn_place_on [I f,V.agg (wcs w)] []=OK (V.tup [V.agg (plc (onW w f)),B (onW w f).full]):=by
 have e:cl fu (d+3) fn_place_on [I f,V.agg (wcs w)] []=((cl fu (d+2) fn_place_Valid [V.agg (plc (onW w f))] []).bind λout=>rC out.r λc6=>asB c6 λb=>OK (V.tup [V.agg (plc (onW w f)),B b])):=by
  rw[eq_place_on];rcases twenty h with rfl|rfl|rfl|rfl|rfl|rfl|rfl|rfl|rfl|rfl|rfl|rfl|rfl|rfl|rfl|rfl|rfl|rfl|rfl|rfl<;>(show @Eq (Option Out) _ _;kernel_rfl)
 rw[e];unfold plc;rw[Zcq fu d hf,Ze1 hw h];simp only[QM]
theorem Ky {w:Nat->Nat}: ∀{k:Nat},(∀j,j<k->(onW w j).full=false)->Vq w k=[]
 |0,_=>rfl
 |k+1,h=>by rw[T5,h k (by omega),Ky (λj hj=>h j (by omega))];rfl
theorem M0 {w:Nat->Nat} {k:Nat} (hk:(onW w k).full=true) (h: ∀j,j<k->(onW w j).full=false): ∀n,k<n-> ∃r,Vq w n=onW w k::r
 |0,hn=>by omega
 |n+1,hn=>by
  by_cases e:k=n
  ·subst e;exact⟨[],by rw[T5,hk,Ky h];rfl⟩
  ·obtain⟨r,hr⟩:=M0 hk h n (by omega);rw[T5,hr];split
   ·exact⟨r++[onW w n],rfl⟩
   ·exact⟨r,rfl⟩
theorem Bz (fu d:Nat) (hf:18446744073709551616<=fu) (p:Pl) (h:p.ok):cl fu (d+4) fn_place_Normal [V.agg (plc p)] []=OK (V.tup [V.agg (plc (norm p)),I 0]):=by
 have e1:=sp_of fu (d+2) p h;have hv:=Bw h;unfold plc at e1⊢;rw[eq_place_Normal,Zcq fu (d+1) hf,hv,e1];simp only[QM,Zga,Zcp,Dl,Zpt,show Nat.ble 12 12=true from rfl];obtain⟨r,hr⟩:=Mh h;have hm:=Kw h;obtain⟨k,hk,hke,hkl⟩: ∃k,k<20/\onW (wt p) k=norm p/\ ∀j,j<k->(onW (wt p) j).full=false:=by
  rcases Ri (λj=>(onW (wt p) j).full=true) 20 with h0|⟨k,h1,h2,h3⟩
  ·exfalso;obtain⟨g,g1,g2,g3⟩:=Mg.1 hm;exact h0 g g1 (by rw[g2];exact N2.2 g3)
  ·refine⟨k,h1, ?_,λj hj=>by simpa using h3 j hj⟩;obtain⟨r',this⟩:=M0 h2 (λj hj=>by simpa using h3 j hj) 20 h1;have this:Sp p=onW (wt p) k::r':=this;rw[hr]at this;exact(List.cons.inj this).1.symm
 rw[show((0:Int),(0:Int),((0:Int),(0:Int),(0:Int),(0:Int),()),())=(λj:Nat=>((0:Int),(j:Int),((0:Int),(0:Int),(0:Int),(0:Int),()),())) 0 from rfl,Kt (λj:Nat=>((0:Int),(j:Int),((0:Int),(0:Int),(0:Int),(0:Int),()),())) 1 (0,(k:Int),((norm p).f,(norm p).a,(norm p).b,(norm p).c,()),()) k 0 fu ?_ ?_ (by omega)]
 ·simp only[QM]
 ·intro j _ hj;have e2:=Zob fu d hf (wt p) (Zk8 h) j (by omega);rw[hkl j (by omega)]at e2;unfold plc at e2;simp(disch:=omega)only[QM,QD,e2,Zpv,Zpy,Zpt,Nat.reduceAdd,Zqm,Zq8]
 ·have e2:=Zob fu d hf (wt p) (Zk8 h) k hk;rw[hke,N2.2 (Gz h).2]at e2;unfold plc at e2;simp(disch:=omega)only[QM,QD,e2,Zpv,Zpy,Zpt,Nat.reduceAdd]
end Go.Proofs.YtjmempcalaliiaaGreatDoor
/- The nodes of the grids as they are collected; a map from the nodes to their numbers: plain laws. -/
namespace Go.Grid
def pre (n f i j:Nat):List Pl:=(List.range f).flatMap (face n)++((List.range i).flatMap (row n f)++(List.range j).map (pt n f i))
def X8 (n f i j:Nat):List Pl:=(pre n f i j).filter isN
theorem pre_j (n f i j:Nat):pre n f i (j+1)=pre n f i j++[pt n f i j]:=by
 unfold pre;rw[List.range_succ,List.map_append];simp[List.append_assoc]
theorem Zoc (n f i:Nat):pre n f i (n+1-i)=pre n f (i+1) 0:=by
 unfold pre;rw[List.range_succ,List.flatMap_append];simp[row]
theorem Zod (n f:Nat):pre n f (n+1) 0=pre n (f+1) 0 0:=by
 unfold pre;rw[List.range_succ (n:=f),List.flatMap_append];simp[face]
theorem Zm7 (n:Nat):pre n 20 0 0=pts n:=by unfold pre pts;simp
theorem Zk9 (n f i j:Nat):X8 n f i (j+1)=if norm (pt n f i j)=pt n f i j then X8 n f i j++[pt n f i j]else X8 n f i j:=by
 unfold X8;rw[pre_j,List.filter_append];simp only[List.filter_cons,List.filter_nil,isN,decide_eq_true_eq];split<;>simp
theorem Zo8 {n f i j:Nat} (h:Yf n) {q:Pl} (hq:q∈pre n f i j):plt q (pt n f i j):=by
 have hst:=Qz h;have hmul: ∀{i j:Nat},i<j->i*(840/n)<j*(840/n):=λhij=>Nat.mul_lt_mul_of_pos_right hij (by omega);simp only[pre,List.mem_append,List.mem_flatMap,List.mem_range,List.mem_map,face,row]at hq;rcases hq with⟨f',h1,i',_,j',_,rfl⟩|⟨i',h1,j',_,rfl⟩|⟨j',h1,rfl⟩
 ·exact .inl h1
 ·exact .inr ⟨rfl, .inl (hmul h1)⟩
 ·exact .inr ⟨rfl, .inr ⟨rfl,hmul h1⟩⟩
theorem Zla {n f i j:Nat} (h:Yf n):pt n f i j∉X8 n f i j:=λhm=>Lq _ (Zo8 h (List.mem_filter.1 hm).1)
theorem U7 {B:Type} {g:Nat->List B} {m:Nat} (h: ∀x,(g x).length<=m): ∀k,((List.range k).flatMap g).length<=k*m
 |0=>by simp
 |k+1=>by
  rw[List.range_succ,List.flatMap_append,List.length_append,Nat.succ_mul];have:=U7 h k;have:=h k;simp only[List.flatMap_cons,List.flatMap_nil,List.append_nil];omega
theorem Zlb (n f i:Nat) (h:n<=8):(row n f i).length<=9:=by unfold row;simp;omega
theorem Zm8 (n f:Nat) (h:n<=8):(face n f).length<=81:=by
 unfold face;have:=U7 (g:=row n f) (λi=>Zlb n f i h) (n+1);omega
theorem Ul {n f i j:Nat} (h:Yf n) (hf:f<=20) (hi:i<=9) (hj:j<=9):(X8 n f i j).length<=2000:=by
 refine Nat.le_trans (List.length_filter_le _ _) ?_;unfold pre;rw[List.length_append,List.length_append,List.length_map,List.length_range];have h1:=U7 (g:=face n) (λf=>Zm8 n f h.2) f;have h2:=U7 (g:=row n f) (λi=>Zlb n f i h.2) i;omega
theorem Zcr (n:Nat):X8 n 20 0 0=Zj n:=by unfold X8;rw[Zm7];rfl
theorem Zic {p:Pl} (h:p.ok) (ha:0<p.a) (hb:0<p.b) (hc:0<p.c):isN p=true:=decide_eq_true (Zet h ha hb hc)
end Go.Grid
/- The nodes of a grid where the net is handed out as a new object. -/
namespace Go.Proofs.YtjmempcalaliiaaGreatDoor
open Go Go.PM Go.Grid
theorem B0 (p q:Pl):eqT Tryz.prog 20 ty_api_Place (plc p) (plc q)=some (decide (p=q)):=by
 have:eqT Tryz.prog 20 ty_api_Place (plc p) (plc q)=some ((p.f:Int)==q.f&&((p.a:Int)==q.a&&((p.b:Int)==q.b&&((p.c:Int)==q.c&&true)))):=by kernel_rfl
 rw[this,Bool.and_true,Zaf]
def esn:Nat->List Pl->List (List C×List C)
 |_,[]=>[]
 |k,p::r=>(plc p,[.v (.int .i64 k)])::esn (k+1) r
theorem Zcs (p:Pl): ∀(l:List Pl) (k:Nat),esn k l++[(plc p,[.v (.int .i64 ((k+l.length:Nat):Int))])]=esn k (l++[p])
 | [],k=>by simp[esn]
 |q::l,k=>by
  simp only[esn,Zqo,Zpv];rw[<-Zcs p l (k+1),show k+(l.length+1)=k+1+l.length by omega]
theorem Zlc (p:Pl):Zde (plc p) (plc p)=true:=by simp[plc,Zde,ceq]
theorem Zgb {p:Pl}: ∀(l:List Pl) (k i:Nat),p∉l->mfind Tryz.prog ty_api_Place (plc p) (esn k l) i=some none
 | [],k,i,_=>by simp[esn,mfind]
 |q::l,k,i,h=>by
  simp only[esn,mfind,B0];rw[decide_eq_false (λe=>h (by simp[e]))];simp only[cf];exact Zgb l (k+1) (i+1) (λe=>h (by simp[e]))
theorem Zgc {p:Pl}: ∀(l:List Pl) (k i:Nat),p∈l->mfind Tryz.prog ty_api_Place (plc p) (esn k l) i=some (some (i+l.idxOf p,[.v (.int .i64 ((k+l.idxOf p:Nat):Int))]))
 | [],k,i,h=>by cases h
 |q::l,k,i,h=>by
  simp only[esn,mfind,B0];by_cases e:p=q
  ·subst e;rw[decide_eq_true rfl];simp[Zlc,need]
  ·rw[decide_eq_false e];simp only[cf];have hm:p∈l:=by rcases Zp9.1 h with h|h;exact absurd h e;exact h
   rw[Zgc l (k+1) (i+1) hm,List.idxOf_cons];have:(q==p)=false:=by simpa using Ne.symm e
   rw[this];simp only[cond_false];rw[show i+1+l.idxOf p=i+(l.idxOf p+1) by omega,show k+1+l.idxOf p=k+(l.idxOf p+1) by omega]
theorem Zid (es:List (List C×List C)) (k v:List C):mput es none k v=es++[(k,v)]:=id rfl
abbrev netC (n:Nat) (l:List Pl):List C:=[.v (.int .i64 n), .v (.int .i64 ((840/n:Nat):Int)),C.sl l.length (fl plc l),C.mp ty_api_Place ty_int (some 4) none (esn 0 l),C.nl,C.nl,C.nl]
abbrev Zie (n:Nat) (l:List Pl):Int×Int×List C×List (List C×List C)×C×C×C×Unit:=((n:Int),((840/n:Nat):Int),fl plc l,esn 0 l,C.nl,C.nl,C.nl,())
theorem Dm {n:Nat} (h:Yf n):IntKind.i64.wrap (Int.tdiv 840 n)=((840/n:Nat):Int):=by
 rcases Qk h with rfl|rfl|rfl|rfl|rfl|rfl|rfl|rfl<;>rfl
theorem N4 {n i:Nat} (h:Yf n) (hi:i<=n):i*(840/n)<=840:=by
 have:=Zrd (840/n) hi;rw[Sq h]at this;exact this
theorem R2 {n i:Nat} (h:Yf n) (hi:i<=n):IntKind.i64.wrap ((i:Int)*((840/n:Nat):Int))=((i*(840/n):Nat):Int):=by
 have:=N4 h hi;rw[show((i:Int)*((840/n:Nat):Int))=((i*(840/n):Nat):Int) from(Zsg _ _).symm];exact Xd (Int.le_trans (by decide) (Int.natCast_nonneg _)) (Int.le_trans (Int.ofNat_le.2 this) (by decide))
theorem N5 (l:List Pl) (f a b c:Nat):fl plc l++[.v (.int .i64 f), .v (.int .i64 a), .v (.int .i64 b), .v (.int .i64 c)]=fl plc (l++[⟨f,a,b,c⟩]):=Kx l ⟨f,a,b,c⟩
theorem Zif (l:List Pl) (f a b c:Nat):esn 0 l++[([.v (.int .i64 f), .v (.int .i64 a), .v (.int .i64 b), .v (.int .i64 c)],[.v (.int .i64 (l.length:Int))])]=esn 0 (l++[⟨f,a,b,c⟩]):=by
 have:=Zcs ⟨f,a,b,c⟩ l 0;rw[Zpt]at this;exact this
theorem Ze2 (fu d:Nat) (hf:18446744073709551616<=fu) (n:Nat) (h:Yf n):cl fu (d+5) fn_mesh_Points [I n] []=some ⟨V.ptr 1000000 0,[.ob ty_mesh_Net 0 (netC n (Zj n))],none⟩:=by
 have hn:=h;unfold Yf at hn;rw[eq_mesh_Points,Dm h,show(!((n:Int)==0))=true from by rw[Jv (by omega)];rfl,Bp];rw[Zs (λf:Nat=>((f:Int),Zie n (X8 n f 0 0),())) 0 ((20:Int),Zie n (X8 n 20 0 0),()) 20 ?_ ?_ ?_ (by omega)]
 ·rw[Zcr];simp(disch:=omega)only[QM,QD,Zf Zo,Xl,Zpt];rw[Zp5 (by rw[Zf Zo];omega)]
 ·rfl
 ·intro f hf';have hl:(X8 n f 0 0).length<=2000:=Ul h (by omega) (by omega) (by omega);simp(disch:=omega)only[QM,QD,Zf Zo,Xl];rw[Zs (λi:Nat=>((i:Int),Zie n (X8 n f i 0),())) 0 (((n+1:Nat):Int),Zie n (X8 n f (n+1) 0),()) (n+1) ?_ ?_ ?_ (by omega)]
  ·have hl:(X8 n f (n+1) 0).length<=2000:=Ul h (by omega) (by omega) (by omega);simp(disch:=omega)only[QM,QD,Zf Zo,Xl,Zqm,Zq8];unfold X8;rw[Zod]
  ·rfl
  ·intro i hi;have hl:(X8 n f i 0).length<=2000:=Ul h (by omega) (by omega) (by omega);simp(disch:=omega)only[QM,QD,Zf Zo,Xl];rw[Zs (λj:Nat=>((j:Int),Zie n (X8 n f i j),())) 0 (((n+1-i:Nat):Int),Zie n (X8 n f i (n+1-i)),()) (n+1-i) ?_ ?_ ?_ (by omega)]
   ·have hl:(X8 n f i (n+1-i)).length<=2000:=Ul h (by omega) (by omega) (by omega);simp(disch:=omega)only[QM,QD,Zf Zo,Xl,Zqm,Zq8];unfold X8;rw[Zoc]
   ·rfl
   ·intro j hj;have hl:(X8 n f i j).length<=2000:=Ul h (by omega) (by omega) (by omega);have hnot:=Zla (f:=f) (i:=i) (j:=j) h;have hc:IntKind.i64.wrap (((n:Int)-(i:Int)-(j:Int))*((840/n:Nat):Int))=(((n-i-j)*(840/n):Nat):Int):=by
     rw[show(n:Int)-i-j=((n-i-j:Nat):Int) by omega,R2 h (by omega)]
    have e2:=Bz fu d hf (pt n f i j) (Zk5 h hf' (by omega));have e3:=Zgb (X8 n f i j) 0 0 hnot;have e4:=Zaf (norm (pt n f i j)) (pt n f i j);have e5:=Zk9 n f i j;generalize hz:decide (norm (pt n f i j)=pt n f i j)=z at e4;replace e5:X8 n f i (j+1)=bif z then X8 n f i j++[pt n f i j]else X8 n f i j:=by
     cases z with
     |true=>rw[e5,if_pos (of_decide_eq_true hz)];rfl
     |false=>rw[e5,if_neg (of_decide_eq_false hz)];rfl
    clear hz;simp only[plc]at e2 e3;generalize norm (pt n f i j)=q at e2 e4 e5;simp only[pt]at e2 e3 e4 e5;simp(disch:=omega)only[QM,QD,hc,R2 h (show i<=n by omega),R2 h (show j<=n by omega),e2,e4,Zpv,Zpy,Zpt,Nat.reduceAdd,Zf Zo,Xl];rw[e5];cases z with
    |true=>
     simp(disch:=omega)only[QM,QD,mfd,e3,Zid,N5,Zif,Zf Zo,Xl,Zpz,Zpv,Zpy,Zpt,Zqm,Zq8]
    |false=>
     simp(disch:=omega)only[QM,QD,Zqm,Zq8]
   ·have hl:(X8 n f i (n+1-i)).length<=2000:=Ul h (by omega) (by omega) (by omega);simp(disch:=omega)only[QM,QD,Zf Zo,Xl]
  ·have hl:(X8 n f (n+1) 0).length<=2000:=Ul h (by omega) (by omega) (by omega);simp(disch:=omega)only[QM,QD,Zf Zo,Xl]
 ·have hl:(X8 n 20 0 0).length<=2000:=Ul h (by omega) (by omega) (by omega);simp(disch:=omega)only[QM,QD,Zf Zo,Xl];rfl
end Go.Proofs.YtjmempcalaliiaaGreatDoor
/- Rules that keep simp at what comes first: nothing behind it is looked at (attribute [local congr] in the texts that use them). -/
namespace Go.PM
open Go
def hdt {A:Type} (x:A):A:=x
theorem Zd {A:Type} (x:A):hdt x=x:=id rfl
theorem out0:Nat.beq 1000000 (OUT+0)=true:=id rfl
theorem out1:Nat.beq 1000001 (OUT+1)=true:=id rfl
theorem out2:Nat.beq 1000002 (OUT+2)=true:=id rfl
section
variable {R A B':Type}
theorem Zy {x x':Option A} {k:A->Option B'} (h:hdt x=x'):x.bind k=x'.bind k:=by rw[<-h];rfl
theorem Zz {b b':Bool} {k:Option R} (h:hdt b=b'):need b k=need b' k:=by rw[<-h];rfl
theorem Z0 {b b':Bool} {x y:R} (h:hdt b=b'):(bif b then x else y)=(bif b' then x else y):=by rw[<-h];rfl
theorem Yl {c c':List C} {k:C->List C->Option R} (h:hdt c=c'):unc c k=unc c' k:=by rw[<-h];rfl
theorem Z1 {c c':List V} {k:V->List V->Option R} (h:hdt c=c'):uncV c k=uncV c' k:=by rw[<-h];rfl
theorem Z2 {c c':List PM.Obj} {k:PM.Obj->List PM.Obj->Option R} (h:hdt c=c'):uncO c k=uncO c' k:=by rw[<-h];rfl
theorem Ym {c c':List (List V)} {k:List V->List (List V)->Option R} (h:hdt c=c'):unI c k=unI c' k:=by rw[<-h];rfl
theorem Yn {kd:IntKind} {c c':C} {k:Int->Option R} (h:hdt c=c'):asI kd c k=asI kd c' k:=by rw[<-h];rfl
theorem Yo {c c':C} {k:Bool->Option R} (h:hdt c=c'):asB c k=asB c' k:=by rw[<-h];rfl
theorem Yp {c c':C} {k:ByteArray->Option R} (h:hdt c=c'):asS c k=asS c' k:=by rw[<-h];rfl
theorem Z3 {c c':C} {k:Nat->List C->Option R} (h:hdt c=c'):asSl c k=asSl c' k:=by rw[<-h];rfl
theorem Z4 {c c':C} {k:FuncId->List C->Option R} (h:hdt c=c'):asFn c k=asFn c' k:=by rw[<-h];rfl
theorem Yq {c c':C} {k:List C->Option R} (h:hdt c=c'):asP c k=asP c' k:=by rw[<-h];rfl
theorem Z5 {c c':C} {ky:Nat->Option R} {k:FuncId->List C->Option R} (h:hdt c=c'):Aj c ky k=Aj c' ky k:=by rw[<-h];rfl
theorem Xp {x x':V} {k:C->Option R} (h:hdt x=x'):rC x k=rC x' k:=by rw[<-h];rfl
theorem Xq {x x':V} {k:List C->Option R} (h:hdt x=x'):rA x k=rA x' k:=by rw[<-h];rfl
theorem Xr {x x':V} {k:List V->Option R} (h:hdt x=x'):rT x k=rT x' k:=by rw[<-h];rfl
theorem Xs {x x':V} {k:List V->Option R} (h:hdt x=x'):rG x k=rG x' k:=by rw[<-h];rfl
theorem Xt {x x':V} {m:Nat} {k:Option R} (h:hdt x=x'):rP x m k=rP x' m k:=by rw[<-h];rfl
theorem Xu {x x':V} {m:Nat} {k:Nat->Option R} (h:hdt x=x'):rW x m k=rW x' m k:=by rw[<-h];rfl
theorem Xv {o o':PM.Obj} {t fz:Nat} {k:List C->Option R} (h:hdt o=o'):rO o t fz k=rO o' t fz k:=by rw[<-h];rfl
theorem Xw {o o':PM.Obj} {t n:Nat} {k:List C->Option R} (h:hdt o=o'):rN o t n k=rN o' t n k:=by rw[<-h];rfl
theorem Xx {o o':PM.Obj} {t:Nat} {k:Nat->List C->Option R} (h:hdt o=o'):rF o t k=rF o' t k:=by rw[<-h];rfl
theorem Xy {o o':PM.Obj} {t fz:Nat} {k:List C->Option R} (h:hdt o=o'):rS o t fz k=rS o' t fz k:=by rw[<-h];rfl
theorem Z6 {x x':List V} {k:Option R} (h:hdt x=x'):nilV x k=nilV x' k:=by rw[<-h];rfl
theorem Z7 {n n':Nat} {a:Option R} {b:Nat->Option R} (h:hdt n=n'):natD n a b=natD n' a b:=by rw[<-h];rfl
theorem Xz {x x':A} {k:A->Option R} (h:hdt x=x'):bd x k=bd x' k:=by rw[<-h];rfl
theorem Z8 {body:A->Option (Nat×A)} {fu:Nat} {x x':A} (h:hdt x=x'):iter body fu x=iter body fu x':=by rw[<-h];rfl
theorem Z9 {I:Type} {body:I->A->Option (Nat×A)} {l l':List I} {x x':A} (h1:hdt l=l') (h:hdt x=x'):overK body l x=overK body l' x':=by rw[<-h,<-h1];rfl
theorem Zr {sz:Nat} {lo lo' hi hi':Option V} {c c':C} {k:C->Option R} (h1:hdt lo=lo') (h2:hdt hi=hi') (h:hdt c=c'):sliceC sz lo hi c k=sliceC sz lo' hi' c' k:=by rw[<-h,<-h1,<-h2];rfl
theorem Ya {c c':C} {kt et:TypeId} {ka va:Option Nat} {k:List (List C×List C)->Option R} (h:hdt c=c'):Zax c kt et ka va k=Zax c' kt et ka va k:=by rw[<-h];rfl
end
end Go.PM
/- A grid's cells: what the functions that add them come to. -/
namespace Go.PM
open Go
theorem Zo9 {R:Type} (g t:Nat) (ps:List PC) (k:List PC->Option R):rPk (.pk g t (.ps ps) none) t k=k ps:=by
 show need (Nat.beq t t) (k ps)=_;rw[show Nat.beq t t=true from Zq9 t];rfl
theorem Zig {R:Type} (p:PC) (ps:List PC) (k:PC->List PC->Option R):uncP (p::ps) k=k p ps:=id rfl
theorem Zpa {R:Type} (c:C) (k:C->Option R):asPc (.c c) k=k c:=id rfl
theorem Zpb {R:Type} (te:TypeId) (row:List C) (k:List C->Option R):asRw te (.r te row) k=k row:=by
 show need (Nat.beq te te) (k row)=_;rw[show Nat.beq te te=true from Zq9 te];rfl
theorem Zm9 {R:Type} (te:TypeId) (row:List C) (k:List C->Option R):asRow te (.r te row) k=k row:=by
 show need (Nat.beq te te) (k row)=_;rw[show Nat.beq te te=true from Zq9 te];rfl
theorem Zld {R:Type} (te:TypeId) (k:List C->Option R):asRow te (.c .nl) k=k []:=id rfl
theorem Zle {R:Type} (k:Option R):nilP [] k=k:=id rfl
theorem Jy {R:Type} (te:TypeId) (row cs:List C) (k:List C->Option R) (h:cs.length=row.length):rowBack te row false [.sb te 0 cs] k=k cs:=by
 show need (Nat.beq te te&&Nat.beq cs.length row.length&&Nat.beq 0 0) (k cs)=_;rw[show Nat.beq te te=true from Zq9 te,h,show Nat.beq row.length row.length=true from Zq9 _];rfl
theorem Zih {R:Type} (te:TypeId) (row cs:List C) (k:List C->Option R) (h:cs.length=row.length):rowBack te row true [.sb te row.length cs] k=k cs:=by
 show need (Nat.beq te te&&Nat.beq cs.length row.length&&Nat.beq row.length cs.length) (k cs)=_;rw[show Nat.beq te te=true from Zq9 te,h,show Nat.beq row.length row.length=true from Zq9 _];rfl
set_option linter.defProp false in
def QE:=And.intro @Zo9 (And.intro @Zig (And.intro @Zpa (And.intro @Zpb (And.intro @Zm9 (And.intro @Zld @Zle)))))
end Go.PM
namespace Go.Proofs.YtjmempcalaliiaaGreatDoor
open Go Go.PM Go.Grid
attribute [local congr] Zy Zz Z0 Yl Z1 Z2 Ym Yn Yo Yp Z3 Z4 Yq Xp Xq Xr Xs Xt Xv Xw Xx Xy Xu Z6 Z7 Xz Z8 Z9 Zr Ya Z5
abbrev Zlf (n:Nat) (cs:List C):List PC:=[PC.c (C.v (.int .i64 n)),PC.c (C.v (.int .i64 ((840/n:Nat):Int))),PC.c (C.sl (Zj n).length (fl plc (Zj n))),PC.c (C.mp ty_api_Place ty_int (some 4) none (esn 0 (Zj n))),PC.r ty_api_Cell cs,PC.c .nl,PC.c .nl]
abbrev Mn (g n:Nat) (cs:List C):PM.Obj:= .pk g ty_mesh_Net (.ps (Zlf n cs)) none
theorem Q0 {n:Nat} (h:Yf n):(Zj n).length<=700:=by
 rw[T4 h];rcases Qk h with rfl|rfl|rfl|rfl|rfl|rfl|rfl|rfl<;>decide
section
variable (fu d:Nat) (hf:18446744073709551616<=fu)
theorem Sv (f a b c:Nat) (x y z:Int) (h:a<=10000/\b<=10000/\c<=10000) (hx: -10000<=x/\x<=10000) (hy: -10000<=y/\y<=10000) (hz: -10000<=z/\z<=10000):
  cl fu (d+1) fn_mesh_moved [V.agg (plc ⟨f,a,b,c⟩),I x,I y,I z] []=OK (V.agg [C.v (.int .i64 f),C.v (.int .i64 (a+x)),C.v (.int .i64 (b+y)),C.v (.int .i64 (c+z))]):=by
 simp only[plc];rw[eq_mesh_moved,Xd (by omega) (by omega),Xd (by omega) (by omega),Xd (by omega) (by omega)]
include hf
theorem Ze3 (g n:Nat) (h:Yf n) (p:Pl) (hp:p∈pts n) (cs:List C):
  cl fu (d+5) fn_mesh_Net_at [V.ptr 1000000 0,V.agg (plc p)] [Mn g n cs]=some ⟨I (idx n p),[Mn g n cs],none⟩:=by
 have hok:=Dg h hp;have e1:=Bz fu d hf p hok;have e2:=Zgc (Zj n) 0 0 (Zco h hp);simp only[plc]at e1 e2⊢;rw[eqp_mesh_Net_at];simp(disch:=omega)only[Zd,QM,QD,e1,mfd,e2,orZ,Zpv,Zpy,Zpt,Nat.reduceAdd];rfl
omit hf in
theorem Kz {α:Type} {le:α->α->Prop} (anti: ∀a b,le a b->le b a->a=b): ∀{p q:List α},p.Perm q->p.Pairwise le->q.Pairwise le->p=q
 | [],q,h,_,_=>(List.nil_perm.1 h).symm
 |a::p,[],h,_,_=>by have:=h.length_eq;simp at this
 |a::p,b::q,h,hp,hq=>by
  rw[Zqx]at hp hq;have e:a=b:=by
   have h1:a∈b::q:=h.mem_iff.1 (Zrh ..);have h2:b∈a::p:=h.mem_iff.2 (Zrh ..);rcases Zp9.1 h1 with h1|h1
   ·exact h1
   ·rcases Zp9.1 h2 with h2|h2
    ·exact h2.symm
    ·exact anti a b (hp.1 b h2) (hq.1 a h1)
  subst e;rw[Kz anti h.cons_inv hp.2 hq.2]
omit hf in
theorem Ze4 (l:List Int):(Qy l).Perm l:=List.mergeSort_perm ..
omit hf in
theorem Zii (l:List Int):(Qy l).Pairwise (λa b=>a<=b):=by
 have:=List.pairwise_mergeSort (le:=λx y:Int=>decide (x<=y)) (λa b c h1 h2=>by simp at*;omega) (λa b=>by simp;omega) l;exact this.imp λh=>by simpa using h
omit hf in
theorem Zlg {l m:List Int} (hp:m.Perm l) (hs:m.Pairwise (λa b=>a<=b)):Qy l=m:=
 Kz (λa b h1 h2=>Int.le_antisymm h1 h2) ((Ze4 l).trans hp.symm) (Zii l) hs
omit hf in
theorem Zna (i j k:Nat):Qy [(i:Int),j,k]=[((Xa i j k).1:Int),((Xa i j k).2.1:Int),((Xa i j k).2.2:Int)]:=by
 unfold Xa;split<;>split<;>try split
 all_goals
  refine Zlg ?_ (by simp;omega);first
  |exact .refl _
  |exact .swap _ _ _
  |exact(List.Perm.swap _ _ _).cons _
  |exact(List.Perm.swap _ _ _).trans ((List.Perm.swap _ _ _).cons _)
  |exact((List.Perm.swap _ _ _).cons _).trans (.swap _ _ _)
  |exact((List.Perm.swap _ _ _).trans ((List.Perm.swap _ _ _).cons _)).trans (.swap _ _ _)
end
end Go.Proofs.YtjmempcalaliiaaGreatDoor
/- A grid's cells, one place after the other. -/
namespace Go.Proofs.YtjmempcalaliiaaGreatDoor
open Go Go.PM Go.Grid
attribute [local congr] Zy Zz Z0 Yl Z1 Z2 Ym Yn Yo Yp Z3 Z4 Yq Xp Xq Xr Xs Xt Xv Xw Xx Xy Xu Z6 Z7 Xz Z8 Z9 Zr Ya Z5
abbrev pl3 (p q r:Pl):List C:=[.v (.int .i64 p.f), .v (.int .i64 p.a), .v (.int .i64 p.b), .v (.int .i64 p.c), .v (.int .i64 q.f), .v (.int .i64 q.a), .v (.int .i64 q.b), .v (.int .i64 q.c), .v (.int .i64 r.f), .v (.int .i64 r.a), .v (.int .i64 r.b), .v (.int .i64 r.c)]
def trC (t:Nat×Nat×Nat):List C:=[.v (.int .i64 t.1), .v (.int .i64 t.2.1), .v (.int .i64 t.2.2)]
theorem Yc (t:Nat×Nat×Nat):(trC t).length=3:=rfl
section
variable (fu d:Nat) (hf:18446744073709551616<=fu)
theorem Zij (g n f a b c:Nat) (h:Yf n) (hb:a<=840/\b<=840/\c<=840) (cs:List C):
  cl fu (d+2) fn_mesh_Net_upward [V.ptr 1000000 0,V.agg (plc ⟨f,a,b,c⟩)] [Mn g n cs]=some ⟨V.agg (pl3 ⟨f,a+840/n,b,c⟩ ⟨f,a,b+840/n,c⟩ ⟨f,a,b,c+840/n⟩),[Mn g n cs],none⟩:=by
 have hs:=Qz h;have m1:=Sv fu d f a b c ((840/n:Nat):Int) 0 0 (by omega) (by omega) (by omega) (by omega);have m2:=Sv fu d f a b c 0 ((840/n:Nat):Int) 0 (by omega) (by omega) (by omega) (by omega);have m3:=Sv fu d f a b c 0 0 ((840/n:Nat):Int) (by omega) (by omega) (by omega) (by omega);simp only[plc]at m1 m2 m3⊢;rw[eqp_mesh_Net_upward];simp(disch:=omega)only[Zd,QM,QD,m1,m2,m3,Zpv,Zpy,Zpt,Nat.reduceAdd,Zsa];rfl
theorem Zct (g n f a b c:Nat) (h:Yf n) (hb:a<=840/\b<=840/\c<=840) (cs:List C):
  cl fu (d+2) fn_mesh_Net_downward [V.ptr 1000000 0,V.agg (plc ⟨f,a,b,c⟩)] [Mn g n cs]=some ⟨V.agg (pl3 ⟨f,a,b+840/n,c+840/n⟩ ⟨f,a+840/n,b,c+840/n⟩ ⟨f,a+840/n,b+840/n,c⟩),[Mn g n cs],none⟩:=by
 have hs:=Qz h;have m1:=Sv fu d f a b c 0 ((840/n:Nat):Int) ((840/n:Nat):Int) (by omega) (by omega) (by omega) (by omega);have m2:=Sv fu d f a b c ((840/n:Nat):Int) 0 ((840/n:Nat):Int) (by omega) (by omega) (by omega) (by omega);have m3:=Sv fu d f a b c ((840/n:Nat):Int) ((840/n:Nat):Int) 0 (by omega) (by omega) (by omega) (by omega);simp only[plc]at m1 m2 m3⊢;rw[eqp_mesh_Net_downward];simp(disch:=omega)only[Zd,QM,QD,m1,m2,m3,Zpv,Zpy,Zpt,Nat.reduceAdd,Zsa];rfl
theorem Zlh (i j k:Nat):cl fu (d+1) fn_slices_Sort_sint_int [V.ws 1000000 3] [.ob ty_3_int 0 [.v (.int .i64 i), .v (.int .i64 j), .v (.int .i64 k)]]=some ⟨.tup [],[.ob ty_3_int 0 (trC (Xa i j k))],none⟩:=by
 have e:cl fu (d+1) fn_slices_Sort_sint_int [V.ws 1000000 3] [.ob ty_3_int 0 [.v (.int .i64 i), .v (.int .i64 j), .v (.int .i64 k)]]=some ⟨.tup [],[.ob ty_3_int 0 (ints (Qy [(i:Int),j,k]))],none⟩:=by kernel_rfl
 rw[e,Zna];rfl
include hf
theorem Zgd (g n:Nat) (h:Yf n) (p q r:Pl) (hp:p∈pts n) (hq:q∈pts n) (hr:r∈pts n) (L:List (Nat×Nat×Nat)) (hL:L.length<=100000):
  cl fu (d+6) fn_mesh_Net_cell [V.ptr 1000000 0,V.agg (pl3 p q r)] [Mn g n (fl trC L)]=some ⟨V.tup [],[Mn 1 n (fl trC (L++[tc n p q r]))],none⟩:=by
 have hfl:=Zf Yc L;have hdv:L.length*3/3=L.length:=by omega
 have a1:=Ze3 fu d hf 0 n h p hp (fl trC L);have a2:=Ze3 fu d hf 0 n h q hq (fl trC L);have a3:=Ze3 fu d hf 0 n h r hr (fl trC L);have hsn:fl trC L++[.v (.int .i64 (tc n p q r).1), .v (.int .i64 (tc n p q r).2.1), .v (.int .i64 (tc n p q r).2.2)]=fl trC (L++[tc n p q r]):=Kx L _;have hfl2:(fl trC (L++[tc n p q r])).length=(L.length+1)*3:=by rw[Zf Yc,Zpz];rfl
 have hs:=Zlh fu (d+4) (idx n p) (idx n q) (idx n r);generalize hi:idx n p=ip at*
 generalize hj:idx n q=iq at*
 generalize hk:idx n r=ir at*
 unfold tc at hsn hfl2⊢;rw[hi,hj,hk]at hsn hfl2⊢;simp only[plc]at a1 a2 a3;unfold Mn Zlf at a1 a2 a3⊢;rw[eqp_mesh_Net_cell];generalize (Zj n).length=nl at*
 generalize fl plc (Zj n)=nc at*
 generalize esn 0 (Zj n)=es at*
 simp(disch:=omega)only[Zd,QM,QD,Zpv,Zpy,Zpt,Nat.reduceAdd];rw[Zs (λj:Nat=>(((j:Nat):Int),(match j with|0=>[C.v (.int .i64 0),C.v (.int .i64 0),C.v (.int .i64 0)]|1=>[C.v (.int .i64 ip),C.v (.int .i64 0),C.v (.int .i64 0)]|2=>[C.v (.int .i64 ip),C.v (.int .i64 iq),C.v (.int .i64 0)]|_=>[C.v (.int .i64 ip),C.v (.int .i64 iq),C.v (.int .i64 ir)]),((n:Int),(((840/n:Nat):Int)),C.sl nl nc,C.mp ty_api_Place ty_int (some 4) none es,fl trC L,C.nl,C.nl,()),())) 0
  ((3:Int),[C.v (.int .i64 ip),C.v (.int .i64 iq),C.v (.int .i64 ir)],((n:Int),(((840/n:Nat):Int)),C.sl nl nc,C.mp ty_api_Place ty_int (some 4) none es,fl trC L,C.nl,C.nl,()),()) 3 ?_ ?_ ?_ (by omega)]
 ·simp(disch:=omega)only[Zd,QM,QD,hs,trC,Zpv,Zpy,Zpt,Nat.reduceAdd,hfl,hdv,Zrf,Zri,hsn,hfl2]
 ·rfl
 ·intro j hj;rcases(show j=0\/j=1\/j=2 by omega)with rfl|rfl|rfl
  ·simp(disch:=omega)only[Zd,QM,QD,QE,a1,Nat.reduceMul,Zpu,Int.ofNat_zero,Zrv,show Int.toNat 1=1 from rfl,show Int.toNat 2=2 from rfl,show((1:Nat):Int)=1 from rfl,show((2:Nat):Int)=2 from rfl,Zqu,Nat.one_mul,List.take_succ_cons,Zrm,Zri,Zrf,Zpv,Zpy,Zpt,Nat.reduceAdd];rfl
  ·simp(disch:=omega)only[Zd,QM,QD,QE,a2,Nat.reduceMul,Zpu,Int.ofNat_zero,Zrv,show Int.toNat 1=1 from rfl,show Int.toNat 2=2 from rfl,show((1:Nat):Int)=1 from rfl,show((2:Nat):Int)=2 from rfl,Zqu,Nat.one_mul,List.take_succ_cons,Zrm,Zri,Zrf,Zpv,Zpy,Zpt,Nat.reduceAdd];rfl
  ·simp(disch:=omega)only[Zd,QM,QD,QE,a3,Nat.reduceMul,Zpu,Int.ofNat_zero,Zrv,show Int.toNat 1=1 from rfl,show Int.toNat 2=2 from rfl,show((1:Nat):Int)=1 from rfl,show((2:Nat):Int)=2 from rfl,Zqu,Nat.one_mul,List.take_succ_cons,Zrm,Zri,Zrf,Zpv,Zpy,Zpt,Nat.reduceAdd];rfl
 ·rfl
end
end Go.Proofs.YtjmempcalaliiaaGreatDoor
/- All of a grid's cells. -/
namespace Go.Proofs.YtjmempcalaliiaaGreatDoor
open Go Go.PM Go.Grid
attribute [local congr] Zy Zz Z0 Yl Z1 Z2 Ym Yn Yo Yp Z3 Z4 Yq Xp Xq Xr Xs Xt Xv Xw Xx Xy Xu Z6 Z7 Xz Z8 Z9 Zr Ya Z5
def Uj (n f a b:Nat):List (Nat×Nat×Nat):=(List.range f).flatMap (H5 n)++((List.range a).flatMap (rowC n f)++(List.range b).flatMap (Ua n f a))
theorem Ze5 (n f a b:Nat):Uj n f a b++Ua n f a b=Uj n f a (b+1):=by
 unfold Uj;rw[Zrq,Zrw];simp[Zqq]
theorem Zli (n f a:Nat):Uj n f a (n-a)=Uj n f (a+1) 0:=by
 unfold Uj;rw[Zrq (n:=a),Zrw];simp[rowC]
theorem Zlj (n f:Nat):Uj n f n 0=Uj n (f+1) 0 0:=by
 unfold Uj;rw[Zrq (n:=f),Zrw];simp[H5]
theorem Dn (n:Nat):Uj n 20 0 0=tri n:=by unfold Uj tri;simp
theorem Do (n f a b:Nat):(Ua n f a b).length<=2:=by unfold Ua;split<;>simp
theorem Zge (n f a:Nat) (h:n<=8):(rowC n f a).length<=16:=by
 have:=U7 (g:=Ua n f a) (λb=>Do n f a b) (n-a);unfold rowC;omega
theorem Zlk (n f:Nat) (h:n<=8):(H5 n f).length<=128:=by
 have:=U7 (g:=rowC n f) (λa=>Zge n f a h) n;unfold H5;omega
theorem Zag {n f a b:Nat} (h:n<=8) (hf:f<=20) (ha:a<=9) (hb:b<=9):(Uj n f a b).length<=5000:=by
 have h1:=U7 (g:=H5 n) (λa=>Zlk n a h) f;have h2:=U7 (g:=rowC n f) (λa=>Zge n f a h) a;have h3:=U7 (g:=Ua n f a) (λb=>Do n f a b) b;unfold Uj;rw[Zpz,Zpz];omega
theorem K0 {n f i j:Nat} (hf:f<20) (h:i+j<=n):pt n f i j∈pts n:=G2.2 ⟨f,i,j,hf,h,rfl⟩
section
variable (fu d:Nat) (hf:18446744073709551616<=fu)
include hf
theorem Zll (g n:Nat) (h:Yf n) (f a b:Nat) (hf':f<20) (hab:a+b<n) (L:List (Nat×Nat×Nat)) (hL:L.length<=50000):
  ∃g',cl fu (d+7) fn_mesh_Net_cells [V.ptr 1000000 0,V.agg [.v (.int .i64 f), .v (.int .i64 ((a*(840/n):Nat):Int)), .v (.int .i64 ((b*(840/n):Nat):Int)), .v (.int .i64 (((n-1-a-b)*(840/n):Nat):Int))]] [Mn g n (fl trC L)]=some ⟨V.tup [],[Mn g' n (fl trC (L++Ua n f a b))],none⟩:=by
 have hs:=Qz h;have hn:=h;unfold Yf at hn;have ha:a*(840/n)<=840:=N4 h (by omega);have hb:b*(840/n)<=840:=N4 h (by omega);have hc:(n-1-a-b)*(840/n)<=840:=N4 h (by omega);have u1:=Zij fu (d+4) g n f (a*(840/n)) (b*(840/n)) ((n-1-a-b)*(840/n)) h ⟨ha,hb,hc⟩ (fl trC L);have e1:(⟨f,a*(840/n)+840/n,b*(840/n),(n-1-a-b)*(840/n)⟩:Pl)=pt n f (a+1) b:=by
  unfold pt;rw[Zqy,show n-1-a-b=n-(a+1)-b by omega]
 have e2:(⟨f,a*(840/n),b*(840/n)+840/n,(n-1-a-b)*(840/n)⟩:Pl)=pt n f a (b+1):=by
  unfold pt;rw[Zqy,show n-1-a-b=n-a-(b+1) by omega]
 have e3:(⟨f,a*(840/n),b*(840/n),(n-1-a-b)*(840/n)+840/n⟩:Pl)=pt n f a b:=by
  unfold pt;rw[<-Zqy,show(n-1-a-b).succ=n-a-b by omega]
 rw[e1,e2,e3]at u1;have p1:=K0 (n:=n) (i:=a+1) (j:=b) hf' (by omega);have p2:=K0 (n:=n) (i:=a) (j:=b+1) hf' (by omega);have p3:=K0 (n:=n) (i:=a) (j:=b) hf' (by omega);have c1:=Zgd fu d hf (Nat.succ g) n h _ _ _ p1 p2 p3 L (by omega);by_cases hd:a+b+1<n
 ·have e4:((n-1-a-b)*(840/n))=(n-2-a-b)*(840/n)+840/n:=by rw[<-Zqy,show(n-2-a-b).succ=n-1-a-b by omega]
  have hc2:(n-2-a-b)*(840/n)<=840:=by omega
  have m1:=Sv fu (d+5) f (a*(840/n)) (b*(840/n)) ((n-1-a-b)*(840/n)) 0 0 (0-((840/n:Nat):Int)) (by omega) (by omega) (by omega) (by omega);have e5:((((n-1-a-b)*(840/n):Nat):Int)+(0-((840/n:Nat):Int)))=(((n-2-a-b)*(840/n):Nat):Int):=by omega
  rw[e5]at m1;have u2:=Zct fu (d+4) (Nat.succ (Nat.succ g)) n f (a*(840/n)) (b*(840/n)) ((n-2-a-b)*(840/n)) h ⟨ha,hb,hc2⟩ (fl trC (L++[tc n (pt n f (a+1) b) (pt n f a (b+1)) (pt n f a b)]));have e6:(⟨f,a*(840/n),b*(840/n)+840/n,(n-2-a-b)*(840/n)+840/n⟩:Pl)=pt n f a (b+1):=by rw[<-e4];exact e2
  have e7:(⟨f,a*(840/n)+840/n,b*(840/n),(n-2-a-b)*(840/n)+840/n⟩:Pl)=pt n f (a+1) b:=by rw[<-e4];exact e1
  have e8:(⟨f,a*(840/n)+840/n,b*(840/n)+840/n,(n-2-a-b)*(840/n)⟩:Pl)=pt n f (a+1) (b+1):=by
   unfold pt;rw[Zqy,Zqy,show n-2-a-b=n-(a+1)-(b+1) by omega]
  rw[e6,e7,e8]at u2;have p4:=K0 (n:=n) (i:=a+1) (j:=b+1) hf' (by omega);have c2:=Zgd fu d hf (Nat.succ (Nat.succ (Nat.succ g))) n h _ _ _ p2 p1 p4 (L++[tc n (pt n f (a+1) b) (pt n f a (b+1)) (pt n f a b)]) (by simp;omega);have hge:((840/n:Nat):Int)<=(((n-1-a-b)*(840/n):Nat):Int):=by omega
  have hL2:L++Ua n f a b=(L++[tc n (pt n f (a+1) b) (pt n f a (b+1)) (pt n f a b)])++[tc n (pt n f a (b+1)) (pt n f (a+1) b) (pt n f (a+1) (b+1))]:=by
   unfold Ua;rw[if_pos hd];simp
  rw[hL2];generalize tc n (pt n f (a+1) b) (pt n f a (b+1)) (pt n f a b)=t1 at*
  generalize tc n (pt n f a (b+1)) (pt n f (a+1) b) (pt n f (a+1) (b+1))=t2 at*
  simp only[plc,Zsa]at u1 u2 m1;generalize pt n f (a+1) b=q1 at*
  generalize pt n f a (b+1)=q2 at*
  generalize pt n f a b=q3 at*
  generalize pt n f (a+1) (b+1)=q4 at*
  unfold Mn Zlf at u1 u2 c1 c2⊢;refine⟨Nat.succ (Nat.succ (Nat.succ (Nat.succ g))), ?_⟩;rw[eqp_mesh_Net_cells];generalize (Zj n).length=nl at*
  generalize fl plc (Zj n)=nc at*
  generalize esn 0 (Zj n)=es at*
  generalize a*(840/n)=x at*
  generalize b*(840/n)=y at*
  generalize (n-1-a-b)*(840/n)=z at*
  generalize (n-2-a-b)*(840/n)=z2 at*
  simp(disch:=omega)only[Zd,QM,QD,QE,u1,c1,m1,u2,c2,Zpv,Zpy,Zpt,Nat.reduceAdd]
 ·have hz:n-1-a-b=0:=by omega
  have hlt:(((n-1-a-b)*(840/n):Nat):Int)<((840/n:Nat):Int):=by rw[hz,Zqu];omega
  have hL2:L++Ua n f a b=L++[tc n (pt n f (a+1) b) (pt n f a (b+1)) (pt n f a b)]:=by
   unfold Ua;rw[if_neg hd]
  rw[hL2];generalize tc n (pt n f (a+1) b) (pt n f a (b+1)) (pt n f a b)=t1 at*
  simp only[plc]at u1;generalize pt n f (a+1) b=q1 at*
  generalize pt n f a (b+1)=q2 at*
  generalize pt n f a b=q3 at*
  unfold Mn Zlf at u1 c1⊢;refine⟨Nat.succ (Nat.succ g), ?_⟩;rw[eqp_mesh_Net_cells];generalize (Zj n).length=nl at*
  generalize fl plc (Zj n)=nc at*
  generalize esn 0 (Zj n)=es at*
  generalize a*(840/n)=x at*
  generalize b*(840/n)=y at*
  generalize (n-1-a-b)*(840/n)=z at*
  simp(disch:=omega)only[Zd,QM,QD,QE,u1,c1,Zpv,Zpy,Zpt,Nat.reduceAdd]
end
end Go.Proofs.YtjmempcalaliiaaGreatDoor
/- A grid's cells and edges, sorted; equal edges once. -/
namespace Go.Proofs.YtjmempcalaliiaaGreatDoor
open Go Go.PM Go.Grid
attribute [local congr] Zy Zz Z0 Yl Z1 Z2 Ym Yn Yo Yp Z3 Z4 Yq Xp Xq Xr Xs Xt Xv Xw Xx Xy Xu Z6 Z7 Xz Z8 Z9 Zr Ya Z5
section
variable {α:Type} (le:α->α->Bool)
theorem Jz (x:α): ∀l,(Zez le x l).Perm (x::l)
 | []=> .refl _
 |y::l=>by
  unfold Zez;split
  ·exact .refl _
  ·exact((Jz x l).cons y).trans (.swap x y l)
theorem Y9: ∀l,(Ss le l).Perm l
 | []=> .refl _
 |x::l=>(Jz le x (Ss le l)).trans ((Y9 l).cons x)
variable {le} (ht: ∀a b,le a b=true\/le b a=true) (htr: ∀a b c,le a b=true->le b c=true->le a c=true)
include ht htr
theorem Zcu (x:α): ∀{l:List α},l.Pairwise (λa b=>le a b=true)->(Zez le x l).Pairwise (λa b=>le a b=true)
 | [],_=>by simp[Zez]
 |y::l,h=>by
  unfold Zez;rw[Zqx]at h;split
  ·rename_i hxy;rw[Zqx,Zqx];exact⟨λz hz=>(Zp9.1 hz).elim (λe=>e▸hxy) λhz=>htr _ _ _ hxy (h.1 z hz),h⟩
  ·rename_i hxy;rw[Zqx];refine⟨λz hz=> ?_,Zcu x h.2⟩;rcases Zp9.1 ((Jz le x l).mem_iff.1 hz)with rfl|hz
   ·exact(ht _ _).resolve_left hxy
   ·exact h.1 z hz
theorem Mi: ∀l,(Ss le l).Pairwise (λa b=>le a b=true)
 | []=> .nil
 |x::l=>Zcu ht htr x (Mi l)
end
theorem K1 {a b:Nat×Nat×Nat}:leT a b=true↔a.1<b.1\/a.1=b.1/\(a.2.1<b.2.1\/a.2.1=b.2.1/\a.2.2<=b.2.2):=by simp[leT]
theorem Tb {a b:Ed}:leZ a b=true↔a.1<b.1\/a.1=b.1/\a.2<=b.2:=by simp[leZ]
def trI (t:Nat×Nat×Nat):List Int:=[(t.1:Int),(t.2.1:Int),(t.2.2:Int)]
def edI (e:Ed):List Int:=[e.1,e.2]
def edC (e:Ed):List C:=[.v (.int .i64 e.1), .v (.int .i64 e.2)]
theorem Xm (e:Ed):(edC e).length=2:=rfl
theorem Zah (L:List (Nat×Nat×Nat)):fl trC L=ints (L.flatMap trI):=by
 induction L with
 |nil=>rfl
 |cons x L ih=>rw[S9,ih,Zra];rfl
theorem K2 (L:List Ed):fl edC L=ints (Ui L):=by
 induction L with
 |nil=>rfl
 |cons x L ih=>rw[S9,ih,Pv];rfl
theorem Znb (a b:Nat×Nat×Nat):(¬lexZ [0,1,2] (trI b) (trI a)<0)↔leT a b=true:=by
 rw[K1,Tq,Tq,Tq];simp only[trI,lexZ,List.getD_cons_zero,List.getD_cons_succ];omega
theorem Znc (a b:Ed):(¬lexZ [0,1] (edI b) (edI a)<0)↔leZ a b=true:=by
 rw[Tb,Tq,Tq];simp only[edI,lexZ,List.getD_cons_zero,List.getD_cons_succ];omega
theorem Zlm (a b:Nat×Nat×Nat) (h:leT a b=true) (h':leT b a=true):a=b:=by
 rw[K1]at h h';obtain⟨a1,a2,a3⟩:=a;obtain⟨b1,b2,b3⟩:=b;simp only at h h';have e1:a1=b1:=by omega
 have e2:a2=b2:=by omega
 have e3:a3=b3:=by omega
 rw[e1,e2,e3]
theorem Zcv (a b:Ed) (h:leZ a b=true) (h':leZ b a=true):a=b:=by
 rw[Tb]at h h';obtain⟨a1,a2⟩:=a;obtain⟨b1,b2⟩:=b;simp only at h h';have e1:a1=b1:=by omega
 have e2:a2=b2:=by omega
 rw[e1,e2]
section
variable (fu d:Nat)
theorem Zln (L:List (Nat×Nat×Nat)) (hl:L.length<=1000000):cl fu (d+1) fn_slices_SortFunc_sapi_Cell_api_Cell [V.own 1000000 0 L.length,V.c (C.fn fn_mesh_Build_1 [])] [.sb ty_api_Cell 0 (fl trC L)]=
  some ⟨.tup [],[.sb ty_api_Cell 0 (fl trC (Ss leT L))],none⟩:=by
 have e:cl fu (d+1) fn_slices_SortFunc_sapi_Cell_api_Cell [V.own 1000000 0 L.length,V.c (C.fn fn_mesh_Build_1 [])] [.sb ty_api_Cell 0 (fl trC L)]=(V5 (fl trC L)).bind λzs=>need (Nat.beq 1000000 OUT&&Nat.beq 0 0&&Nat.beq fn_mesh_Build_1 fn_mesh_Build_1&&Nat.beq ty_api_Cell ty_api_Cell&&Nat.beq 0 0&&Nat.beq zs.length (L.length*3)&&Nat.ble L.length 4611686018427387903) (some ⟨.tup [],[.sb ty_api_Cell 0 (ints (S8 3 (P5 3 (lexZ [0,1,2]) L.length zs)))],none⟩):=by kernel_rfl
 have hlen:(L.flatMap trI).length=L.length*3:=by
  have:=Zf Yc L;rw[Zah]at this;simpa using this
 have e1:Nat.beq 1000000 OUT=true:=rfl;obtain⟨l',h1,h2,h3⟩:=Dc (k:=3) (g:=trI) (λ_=>rfl) (lexZ_swo [0,1,2]) L;have h4:l'=Ss leT L:=Kz Zlm (h1.trans (Y9 leT L).symm) (h2.imp λ{a b} h=>(Znb a b).1 h) (Mi (λa b=>by rw[K1,K1];omega) (λa b c h h'=>by rw[K1]at h h'⊢;omega) L);rw[e,Zah,S7];simp(disch:=omega)only[Zd,QM,QD,hlen,e1];rw[h3,h4,Zah]
theorem Zlo (L:List Ed) (hl:L.length<=1000000):cl fu (d+1) fn_slices_SortFunc_sapi_Edge_api_Edge [V.own 1000000 0 L.length,V.c (C.fn fn_mesh_Build_2 [])] [.sb ty_api_Edge 0 (fl edC L)]=
  some ⟨.tup [],[.sb ty_api_Edge 0 (fl edC (Ss leZ L))],none⟩:=by
 have e:cl fu (d+1) fn_slices_SortFunc_sapi_Edge_api_Edge [V.own 1000000 0 L.length,V.c (C.fn fn_mesh_Build_2 [])] [.sb ty_api_Edge 0 (fl edC L)]=(V5 (fl edC L)).bind λzs=>need (Nat.beq 1000000 OUT&&Nat.beq 0 0&&Nat.beq fn_mesh_Build_2 fn_mesh_Build_2&&Nat.beq ty_api_Edge ty_api_Edge&&Nat.beq 0 0&&Nat.beq zs.length (L.length*2)&&Nat.ble L.length 4611686018427387903) (some ⟨.tup [],[.sb ty_api_Edge 0 (ints (S8 2 (P5 2 (lexZ [0,1]) L.length zs)))],none⟩):=by kernel_rfl
 have hlen:(Ui L).length=L.length*2:=Qp L;have e1:Nat.beq 1000000 OUT=true:=rfl;obtain⟨l',h1,h2,h3⟩:=Dc (k:=2) (g:=edI) (λ_=>rfl) (lexZ_swo [0,1]) L;have h4:l'=Ss leZ L:=Kz Zcv (h1.trans (Y9 leZ L).symm) (h2.imp λ{a b} h=>(Znc a b).1 h) (Mi (λa b=>by rw[Tb,Tb];omega) (λa b c h h'=>by rw[Tb]at h h'⊢;omega) L);have h5: ∀l:List Ed,l.flatMap edI=Ui l:=λl=>rfl;rw[e,K2,S7];simp(disch:=omega)only[Zd,QM,QD,hlen,e1];rw[h5,h5]at h3;rw[h3,h4,K2]
theorem Dp {α:Type} [Inhabited α] [DecidableEq α] (l:List α):(Lib.compact l).length<=l.length:=by
 unfold Lib.compact Lib.compactUpTo;rw[Zqf];exact Zqb (List.length_filter_le ..) (by simp)
theorem H7 {α:Type} [Inhabited α] [DecidableEq α] {l:List α} {x:α} (h:x∈Lib.compact l):x∈l:=by
 unfold Lib.compact Lib.compactUpTo at h;obtain⟨j,hj,rfl⟩:=Zsi.1 h;have:=Zrt.1 (List.mem_filter.1 hj).1;rw[getElem!_pos l.toArray j (by simpa using this)];simp
theorem Ze6 (L:List Ed) (hl:L.length<=1000000): ∃pad:List Ed,pad.length=L.length/\cl fu (d+1) fn_slices_Compact_sapi_Edge_api_Edge [V.own 1000000 0 L.length] [.sb ty_api_Edge 0 (fl edC L)]=
  some ⟨V.c (C.sl (Lib.compact L).length (fl edC (Lib.compact L))),[.sb ty_api_Edge (fl edC L).length (fl edC pad)],none⟩:=by
 have e:cl fu (d+1) fn_slices_Compact_sapi_Edge_api_Edge [V.own 1000000 0 L.length] [.sb ty_api_Edge 0 (fl edC L)]=(V5 (fl edC L)).bind λzs=>(N1 zs).bind λl=>need (Nat.beq 1000000 OUT&&Nat.beq 0 0&&Nat.beq ty_api_Edge ty_api_Edge&&Nat.beq 0 0&&Nat.beq l.length L.length&&Nat.ble L.length 4611686018427387903&&Nat.ble (Lib.compact l).length L.length)
   (some ⟨.c (.sl (Lib.compact l).length (ints (Ui (Lib.compact l)))),[.sb ty_api_Edge (fl edC L).length (ints (Ui (Zck l L.length)))],none⟩):=by kernel_rfl
 have e1:Nat.beq 1000000 OUT=true:=rfl;have hle:=Dp L;refine⟨Zck L L.length,H3 hle, ?_⟩;rw[e,K2,S7,K2,K2];show(N1 (Ui L)).bind _=_;rw[Zeo];simp(disch:=omega)only[Zd,QM,QD,e1]
end
end Go.Proofs.YtjmempcalaliiaaGreatDoor
/- A grid: what mesh.Build comes to. -/
namespace Go.Proofs.YtjmempcalaliiaaGreatDoor
open Go Go.PM Go.Grid
attribute [local congr] Zy Zz Z0 Yl Z1 Z2 Ym Yn Yo Yp Z3 Z4 Yq Xp Xq Xr Xs Xt Xv Xw Xx Xy Xu Z6 Z7 Xz Z8 Z9 Zr Ya Z5
theorem Zoe {a b:Nat} (h:a<b):Nat.blt a b=true:=Zr1 h
def R3 (R:List (List Int)) (i:Nat) (z:Int):List (List Int):=R.set i (R.getD i []++[z])
def Dq (R:List (List Int)) (e:Ed):List (List Int):=R3 (R3 R e.1.toNat e.2) e.2.toNat e.1
def Vr (N:Nat) (E:List Ed):List (List Int):=E.foldl Dq (List.replicate N [])
noncomputable def nxt (n:Nat):List (List Int):=(Vr (Zj n).length (edg n)).map Qy
theorem B3 (P:Nat->Prop) {i j k:Nat} (h1:P i) (h2:P j) (h3:P k):P (Xa i j k).1/\P (Xa i j k).2.1/\P (Xa i j k).2.2:=by
 unfold Xa;split<;>split<;>try split
 all_goals exact⟨by assumption,by assumption,by assumption⟩
theorem Zai {n:Nat} (h:Yf n): ∀t∈tri n,t.1<(Zj n).length/\t.2.1<(Zj n).length/\t.2.2<(Zj n).length:=by
 intro t ht;unfold tri H5 rowC at ht;simp only[Zr4,Zrt]at ht;obtain⟨f,hf,a,ha,b,hb,ht⟩:=ht;have hp: ∀i j,i+j<=n->idx n (pt n f i j)<(Zj n).length:=λi j hij=>Dh h (K0 hf hij);unfold Ua at ht;rcases Zp9.1 ht with rfl|ht
 ·exact B3 (λx=>x<(Zj n).length) (hp _ _ (by omega)) (hp _ _ (by omega)) (hp _ _ (by omega))
 ·split at ht
  ·rename_i hd;obtain rfl:=List.mem_singleton.1 ht;exact B3 (λx=>x<(Zj n).length) (hp _ _ (by omega)) (hp _ _ (by omega)) (hp _ _ (by omega))
  ·cases ht
theorem Znd {n:Nat} (h:Yf n): ∀e∈Di n,(0<=e.1/\e.1<((Zj n).length:Nat))/\(0<=e.2/\e.2<((Zj n).length:Nat)):=by
 intro e he;obtain⟨t,ht,he⟩:=Zr4.1 he;obtain⟨h1,h2,h3⟩:=Zai h t ((Y9 leT _).mem_iff.1 ht);simp only[Lr,Zp9,List.mem_nil_iff,or_false]at he;rcases he with rfl|rfl|rfl<;>(simp only;omega)
theorem Dr {n:Nat} (h:Yf n): ∀e∈edg n,(0<=e.1/\e.1<((Zj n).length:Nat))/\(0<=e.2/\e.2<((Zj n).length:Nat)):=
 λe he=>Znd h e ((Y9 leZ _).mem_iff.1 (H7 he))
theorem Ds {n:Nat} (h:Yf n):(tri n).length<=5000:=by
 unfold Yf at h;rw[<-Dn];exact Zag (by omega) (by omega) (by omega) (by omega)
theorem Ls (L:List (Nat×Nat×Nat)):(L.flatMap Lr).length=L.length*3:=by
 induction L with
 |nil=>rfl
 |cons x L ih=>rw[Zra,Zpz,ih,Zpv];simp only[Lr,Zpv,Zpy];omega
theorem Zgf {n:Nat} (h:Yf n):(Di n).length<=15000:=by
 unfold Di;rw[Ls,(Y9 leT _).length_eq];have:=Ds h;omega
theorem Pw {n:Nat} (h:Yf n):(edg n).length<=15000:=
 Zqb (Dp _) (by rw[(Y9 leZ _).length_eq];exact Zgf h)
theorem T6 (R:List (List Int)) (i:Nat) (z:Int):(R3 R i z).length=R.length:=by simp[R3]
theorem Zaj {R:List (List Int)} {m:Nat} (h: ∀r∈R,r.length<=m) (i:Nat):(R.getD i []).length<=m:=by
 rw[Zp2];cases hi:R[i]? with
 |none=>simp
 |some r=>exact h r (Zpx hi)
theorem Dt {R:List (List Int)} {m:Nat} (h: ∀r∈R,r.length<=m) (i:Nat) (z:Int): ∀r∈R3 R i z,r.length<=m+1:=by
 intro r hr;rcases List.mem_or_eq_of_mem_set hr with hr|rfl
 ·have:=h r hr;omega
 ·have:=Zaj h i;rw[Zpz,Zpv,Zpy];omega
theorem Zcw (R:List (List Int)) (i:Nat) (r:List Int):(R.map ints).set i (ints r)=(R.set i r).map ints:=List.map_set.symm
theorem B5 (R:List (List Int)) (i:Nat):(R.map ints).getD i []=ints (R.getD i []):=by
 rw[Zp2,Zp2,Zp4];cases R[i]? <;>rfl
theorem R4 (r:List Int) (z:Int):ints r++[C.v (.int .i64 z)]=ints (r++[z]):=by simp[ik]
theorem Zcx (N:Nat) (E:List Ed) (e:Ed):Vr N (E++[e])=Dq (Vr N E) e:=by simp[Vr]
theorem M1 (N:Nat) (E:List Ed):(Vr N E).length=N:=by
 have key: ∀(E:List Ed) (R:List (List Int)),(E.foldl Dq R).length=R.length:=by
  intro E
  induction E with
  |nil=>intro R;rfl
  |cons e E ih=>intro R;rw[Zrp,ih];unfold Dq;rw[T6,T6]
 unfold Vr;rw[key];simp
theorem B6 (N:Nat) (E:List Ed): ∀r∈Vr N E,r.length<=2*E.length:=by
 have key: ∀(E:List Ed) (R:List (List Int)) (m:Nat),(∀r∈R,r.length<=m)-> ∀r∈E.foldl Dq R,r.length<=m+2*E.length:=by
  intro E
  induction E with
  |nil=>intro R m h r hr;have:=h r hr;simp;omega
  |cons e E ih=>
   intro R m h r hr;rw[Zrp]at hr;have:=ih _ (m+1+1) (Dt (Dt h _ _) _ _) r hr;rw[Zpv];omega
 intro r hr;have:=key E _ 0 (λr hr=>by rw[Zro hr];simp) r hr;omega
theorem Zpc (t:Nat×Nat×Nat):fl edC (Lr t)=[C.v (.int .i64 t.1),C.v (.int .i64 t.2.1),C.v (.int .i64 t.1),C.v (.int .i64 t.2.2),C.v (.int .i64 t.2.1),C.v (.int .i64 t.2.2)]:=rfl
def Gm (R:List (List Int)) (j:Nat):List (List Int):=(R.take j).map Qy++R.drop j
theorem H8 (R:List (List Int)) (j:Nat):(Gm R j).length=R.length:=by
 unfold Gm;rw[Zpz,Zqf,<-Zpz,List.take_append_drop]
theorem Zlp {R:List (List Int)} {j:Nat} (hj:j<R.length):(Gm R j).getD j []=R[j]:=by
 unfold Gm;rw[Zp2,Zru (by simp;omega)];simp[Zq4 (Nat.le_of_lt hj),hj]
theorem Zlq {R:List (List Int)} {j:Nat} (hj:j<R.length):(Gm R j).set j (Qy R[j])=Gm R (j+1):=by
 unfold Gm;have h1:((R.take j).map Qy).length=j:=by simp;omega
 rw[List.set_append_right _ _ (by omega),h1,Nat.sub_self,Zqn hj,List.set_cons_zero,Zqs hj,Zrz,Zqq];rfl
theorem Zik (R:List (List Int)):Gm R 0=R:=by simp[Gm]
theorem Zlr (R:List (List Int)):Gm R R.length=R.map Qy:=by simp[Gm]
section
variable (fu d:Nat)
theorem Zls (r:List Int) (h:r.length<=1000000):cl fu (d+1) fn_slices_Sort_sint_int [V.own 1000000 0 r.length] [.sb ty_int 0 (ints r)]=some ⟨.tup [],[.sb ty_int 0 (ints (Qy r))],none⟩:=by
 have e:cl fu (d+1) fn_slices_Sort_sint_int [V.own 1000000 0 r.length] [.sb ty_int 0 (ints r)]=orP (sortP ty_int) (sortWsP ty_3_int) [.own 1000000 0 r.length] [.sb ty_int 0 (ints r)]:=by kernel_rfl
 have hw:=Zh5 (t:=ty_int) (l:=r) (by omega);have hs:sortP ty_int [.own 1000000 0 r.length] [.sb ty_int 0 (ints r)]=some ⟨.tup [],[.sb ty_int 0 (ints (Qy r))],none⟩:=by
  rw[sortP,hw];exact Zsf ..
 rw[e,orP,hs]
variable (hf:18446744073709551616<=fu)
include hf
theorem Zil (n:Nat) (h:Yf n) (f a b:Nat) (hf':f<20) (hab:a+b<n): ∃g',cl fu (d+7) fn_mesh_Net_cells [V.ptr 1000000 0,V.agg [.v (.int .i64 f), .v (.int .i64 ((a*(840/n):Nat):Int)), .v (.int .i64 ((b*(840/n):Nat):Int)), .v (.int .i64 (((n-1-a-b)*(840/n):Nat):Int))]] [Mn 0 n (fl trC (Uj n f a b))]=some ⟨V.tup [],[Mn g' n (fl trC (Uj n f a (b+1)))],none⟩:=by
 have hn:=h;unfold Yf at hn;have h5:(Uj n f a b).length<=5000:=Zag hn.2 (Nat.le_of_lt hf') (show a<=9 by omega) (show b<=9 by omega);have h6:=Zll fu d hf 0 n h f a b hf' hab (Uj n f a b) (Zqb h5 (Zpq rfl));rw[Ze5]at h6;exact h6
set_option maxHeartbeats 8000000 in
set_option maxRecDepth 4000 in
theorem Zlt (n:Nat) (h:Yf n): ∃c:C,cl fu (d+8) fn_mesh_Build [I n] []=some ⟨V.ptr 1000000 0,[.ob ty_mesh_Net 0 [C.v (.int .i64 n),C.v (.int .i64 ((840/n:Nat):Int)),C.sl (Zj n).length (fl plc (Zj n)),C.mp ty_api_Place ty_int (some 4) none (esn 0 (Zj n)),c,C.sl (edg n).length (fl edC (edg n)),C.sl (nxt n).length ((nxt n).map λr=>C.sl r.length (ints r))]],none⟩:=by
 have hn:=h;unfold Yf at hn;have hs:=Qz h;have hP:=Ze2 fu (d+2) hf n h;have hC:=Zil fu d hf n h;have hNl:=Q0 h;have hlT:=Ds h;unfold Mn Zlf at hC;unfold netC at hP;have heI:=Dr h;have heL:=Pw h;have hrL:=Zgf h;unfold nxt;generalize hE:edg n=E at*
 generalize hNl2:(Zj n).length=N at*
 generalize fl plc (Zj n)=nc at*
 generalize esn 0 (Zj n)=es at*
 have eO0:Nat.beq 1000000 (OUT+0)=true:=rfl;refine⟨C.sl (Ss leT (tri n)).length (fl trC (Ss leT (tri n))), ?_⟩;rw[eq_mesh_Build,hP];simp(disch:=omega)only[Zd,QM,QD,QE,eO0,Zpv,Zpy,Zpt,Nat.reduceAdd];rw[Zs (λf:Nat=>(((f:Nat):Int),((n:Int),(((840/n:Nat):Int)),C.sl N nc,C.mp ty_api_Place ty_int (some 4) none es,fl trC (Uj n f 0 0),C.nl,C.nl,()),())) 0
  ((20:Int),((n:Int),(((840/n:Nat):Int)),C.sl N nc,C.mp ty_api_Place ty_int (some 4) none es,fl trC (tri n),C.nl,C.nl,()),()) 20 ?_ ?_ ?_ (by omega)]
 ·generalize hT0:tri n=T0 at*
  generalize hT:Ss leT T0=T at*
  have hTl:T.length=T0.length:=by rw[<-hT];exact(Y9 leT T0).length_eq
  have hfl0:=Zf Yc T0;have hflT:=Zf Yc T;have hdv0:T0.length*3/3=T0.length:=by omega
  have hdvT:T.length*3/3=T.length:=by omega
  have s1:=Zln fu (d+6) T0 (by omega);rw[hT]at s1;have b1: ∀{R:Type} (k:List C->Option R),rowBack ty_api_Cell (fl trC T0) false [.sb ty_api_Cell 0 (fl trC T)] k=k (fl trC T):=λk=>Jy _ _ _ k (by omega);simp(disch:=omega)only[Zd,QM,QD,QE,hfl0,hdv0,s1,b1,hflT,hdvT];rw[Zs (λj:Nat=>(((j:Nat):Int),((n:Int),(((840/n:Nat):Int)),C.sl N nc,C.mp ty_api_Place ty_int (some 4) none es,C.sl T.length (fl trC T),fl edC ((T.take j).flatMap Lr),C.nl,()),())) 0
   (((T.length:Nat):Int),((n:Int),(((840/n:Nat):Int)),C.sl N nc,C.mp ty_api_Place ty_int (some 4) none es,C.sl T.length (fl trC T),fl edC (T.flatMap Lr),C.nl,()),()) T.length ?_ ?_ ?_ (by omega)]
  rotate_left
  ·rfl
  ·intro j hj;have hat:=H6 Yc hj;have hln:(fl edC ((T.take j).flatMap Lr)).length=(j*3)*2:=by rw[Zf Xm,Ls,Zql,Zq4 (by omega)]
   have hdl:(j*3)*2/2=j*3:=by omega
   have happ:fl edC ((T.take j).flatMap Lr)++[C.v (.int .i64 T[j].1),C.v (.int .i64 T[j].2.1),C.v (.int .i64 T[j].1),C.v (.int .i64 T[j].2.2),C.v (.int .i64 T[j].2.1),C.v (.int .i64 T[j].2.2)]=fl edC ((T.take (j+1)).flatMap Lr):=by
    rw[<-Zpc,<-Jw,Zqs hj,Zrw];simp
   have hln2:(fl edC ((T.take (j+1)).flatMap Lr)).length=(j*3+3)*2:=by rw[Zf Xm,Ls,Zql,Zq4 (by omega)];omega
   simp(disch:=omega)only[Zd,QM,QD,Zpu,hat,trC,Zqo,Zqr,hln,hdl,happ,hln2];rfl
  ·rw[Zq7];simp(disch:=omega)only[Zd,QM,QD]
  have hraw:T.flatMap Lr=Di n:=by unfold Di;rw[hT0,hT]
  rw[hraw];have hEd:Lib.compact (Ss leZ (Di n))=E:=hE;generalize Di n=W at*
  have hflW:=Zf Xm W;have hdvW:W.length*2/2=W.length:=by omega
  have s2:=Zlo fu (d+6) W (by omega);have hZl:(Ss leZ W).length=W.length:=(Y9 leZ W).length_eq;generalize Ss leZ W=Z at*
  have hflZ:=Zf Xm Z;have hdvZ:Z.length*2/2=Z.length:=by omega
  have b2: ∀{R:Type} (k:List C->Option R),rowBack ty_api_Edge (fl edC W) false [.sb ty_api_Edge 0 (fl edC Z)] k=k (fl edC Z):=λk=>Jy _ _ _ k (by omega);obtain⟨pad,hpad,s3⟩:=Ze6 fu (d+6) Z (by omega);rw[hEd]at s3;have hflP:=Zf Xm pad;have b3: ∀{R:Type} (k:List C->Option R),rowBack ty_api_Edge (fl edC Z) true [.sb ty_api_Edge (Z.length*2) (fl edC pad)] k=k (fl edC pad):=λk=>by rw[<-hflZ];exact Zih _ _ _ k (by omega)
  have hflE:=Zf Xm E;simp(disch:=omega)only[Zd,QM,QD,QE,hflW,hdvW,s2,b2,hflZ,hdvZ,s3,b3,Zpu,Zrl,decide_true];rw[Zs (λj:Nat=>(((j:Nat):Int),((n:Int),(((840/n:Nat):Int)),C.sl N nc,C.mp ty_api_Place ty_int (some 4) none es,C.sl T.length (fl trC T),C.sl E.length (fl edC E),(Vr N (E.take j)).map ints,()),())) 0
   (((E.length:Nat):Int),((n:Int),(((840/n:Nat):Int)),C.sl N nc,C.mp ty_api_Place ty_int (some 4) none es,C.sl T.length (fl trC T),C.sl E.length (fl edC E),(Vr N E).map ints,()),()) E.length ?_ ?_ ?_ (by omega)]
  rotate_left
  ·show _=(((0:Nat):Int),_,());simp only[Zrm,Vr,List.foldl_nil,List.map_replicate];rfl
  ·intro j hj;have hat:=H6 Xm hj;have hin:=heI E[j] (Zq2 hj);have hps:Vr N (E.take (j+1))=Dq (Vr N (E.take j)) E[j]:=by rw[Zqs hj,Zcx]
   have hRl:=M1 N (E.take j);have hRb:=B6 N (E.take j);rw[Zql,Zq4 (by omega)]at hRb;rw[hps];generalize Vr N (E.take j)=R at*
   generalize E[j]=e at*
   obtain⟨ea,eb⟩:=e
   dsimp only at hin
   obtain⟨x,rfl⟩: ∃x:Nat,ea=x:=⟨ea.toNat,by omega⟩;obtain⟨y,rfl⟩: ∃y:Nat,eb=y:=⟨eb.toNat,by omega⟩;have hg1:=Zaj hRb x;have hg2:=Zaj (Dt hRb x (y:Int)) y;have hl1:=T6 R x (y:Int);have hpe:Dq R ((x:Int),(y:Int))=R3 (R3 R x (y:Int)) y (x:Int):=rfl;have hp1: ∀i z,R.set i (R.getD i []++[z])=R3 R i z:=λi z=>rfl;have hp2: ∀i z,(R3 R x (y:Int)).set i ((R3 R x (y:Int)).getD i []++[z])=R3 (R3 R x (y:Int)) i z:=λi z=>rfl;have hl2:=T6 (R3 R x (y:Int)) y (x:Int);rw[hpe];simp(disch:=omega)only[Zd,QM,QD,Zoe,Zh,hat,edC,Zqo,Zqr,Zpu,Zp6,Zqj,Zqf,B5,R4,Zcw,hp1,hp2,hRl,hl1,hl2,Zpz,Zpv,Zpy,Zpt];rfl
  ·rw[Zq7];simp(disch:=omega)only[Zd,QM,QD]
  have hRl:=M1 N E;have hRb:=B6 N E;generalize Vr N E=R at*
  simp(disch:=omega)only[Zd,QM,QD,Zqf];rw[Zs (λj:Nat=>(((j:Nat):Int),((n:Int),(((840/n:Nat):Int)),C.sl N nc,C.mp ty_api_Place ty_int (some 4) none es,C.sl T.length (fl trC T),C.sl E.length (fl edC E),(Gm R j).map ints,()),())) 0
   (((R.length:Nat):Int),((n:Int),(((840/n:Nat):Int)),C.sl N nc,C.mp ty_api_Place ty_int (some 4) none es,C.sl T.length (fl trC T),C.sl E.length (fl edC E),(R.map Qy).map ints,()),()) R.length ?_ ?_ ?_ (by omega)]
  rotate_left
  ·rw[Zik];rfl
  ·intro j hj;have hml:=H8 R j;have hgt:=Zlp hj;have hst:=Zlq hj;have hml2:=H8 R (j+1);have hrl:=hRb R[j] (Zq2 hj);have s4:=Zls fu (d+6) R[j] (by omega);have hsl:=W4 R[j];generalize R[j]=r at*
   have b4: ∀{R:Type} (k:List C->Option R),rowBack ty_int (ints r) false [.sb ty_int 0 (ints (Qy r))] k=k (ints (Qy r)):=λk=>Jy _ _ _ k (by rw[Zh,Zh];exact hsl);simp(disch:=omega)only[Zd,QM,QD,Zoe,Zpu,Zp6,Zqj,Zqf,B5,hgt,Zh,s4,b4,Zcw,hst,hml,hml2];rfl
  ·rw[Zlr];simp(disch:=omega)only[Zd,QM,QD,Zqf]
  have hmm:List.map (λ(r:List C)=>C.sl (r.length/1) r) ((R.map Qy).map ints)=(R.map Qy).map λr=>C.sl r.length (ints r):=by
   rw[List.map_map];apply Zr7;intro r _;show C.sl ((ints r).length/1) (ints r)=_;rw[Zh,Zqj]
  simp(disch:=omega)only[Zd,QM,QD,Zqf,hmm]
 ·rfl
 ·intro f hf';simp(disch:=omega)only[Zd,QM,QD];rw[Zs (λa:Nat=>(((a:Nat):Int),((n:Int),(((840/n:Nat):Int)),C.sl N nc,C.mp ty_api_Place ty_int (some 4) none es,fl trC (Uj n f a 0),C.nl,C.nl,()),())) 0
   ((n:Int),((n:Int),(((840/n:Nat):Int)),C.sl N nc,C.mp ty_api_Place ty_int (some 4) none es,fl trC (Uj n f n 0),C.nl,C.nl,()),()) n ?_ ?_ ?_ (by omega)]
  ·simp(disch:=omega)only[Zd,QM,QD];rw[Zlj];rfl
  ·rfl
  ·intro a ha;simp(disch:=omega)only[Zd,QM,QD];rw[Zs (λb:Nat=>(((b:Nat):Int),((n:Int),(((840/n:Nat):Int)),C.sl N nc,C.mp ty_api_Place ty_int (some 4) none es,fl trC (Uj n f a b),C.nl,C.nl,()),())) 0
    (((n-a:Nat):Int),((n:Int),(((840/n:Nat):Int)),C.sl N nc,C.mp ty_api_Place ty_int (some 4) none es,fl trC (Uj n f a (n-a)),C.nl,C.nl,()),()) (n-a) ?_ ?_ ?_ (by omega)]
   ·simp(disch:=omega)only[Zd,QM,QD];rw[Zli];rfl
   ·rfl
   ·intro b hb;obtain⟨g',hC⟩:=hC f a b hf' (by omega);have w1:IntKind.i64.wrap ((a:Int)*((840/n:Nat):Int))=((a*(840/n):Nat):Int):=R2 h (by omega);have w2:IntKind.i64.wrap ((b:Int)*((840/n:Nat):Int))=((b*(840/n):Nat):Int):=R2 h (by omega);have w3:IntKind.i64.wrap (((n:Int)-1-(a:Int)-(b:Int))*((840/n:Nat):Int))=(((n-1-a-b)*(840/n):Nat):Int):=by
     rw[show(n:Int)-1-(a:Int)-(b:Int)=((n-1-a-b:Nat):Int) by omega];exact R2 h (by omega)
    simp(disch:=omega)only[Zd,QM,QD,QE,w1,w2,w3,hC];rfl
   ·simp(disch:=omega)only[Zd,QM,QD]
  ·simp(disch:=omega)only[Zd,QM,QD]
 ·rw[Dn];simp(disch:=omega)only[Zd,QM,QD];rfl
end
end Go.Proofs.YtjmempcalaliiaaGreatDoor
/- The reference's nodes and the index of a place. -/
namespace Go.Proofs.YtjmempcalaliiaaGreatDoor
open Go Go.PM Go.Grid
theorem Px (fu d n:Nat) (h:Yf n):cl fu (d+1) fn_synopticref03_Count [I n] []=OK (I ((10*n*n+2:Nat):Int)):=by
 rw[eq_synopticref03_Count];rcases Qk h with rfl|rfl|rfl|rfl|rfl|rfl|rfl|rfl<;>(show @Eq (Option Out) _ _;kernel_rfl)
theorem Zne (n f i j:Nat):X8 n f i (j+1)=bif isN (pt n f i j)then X8 n f i j++[pt n f i j]else X8 n f i j:=by
 rw[Zk9];unfold isN;by_cases h:norm (pt n f i j)=pt n f i j
 ·rw[if_pos h,decide_eq_true h];rfl
 ·rw[if_neg h,decide_eq_false h];rfl
theorem Zcy {n:Nat}:((10*n*n+2:Nat):Int)≠0:=by omega
theorem Zak (fu d:Nat) (hf:18446744073709551616<=fu) (n:Nat) (h:Yf n):cl fu (d+6) fn_synopticref03_Nodes [I n] []=OK (V.tup [V.c (C.sl (Zj n).length (fl plc (Zj n))),I 0]):=by
 have hn:=h;unfold Yf at hn;have hst:=Qz h;rw[eq_synopticref03_Nodes,Px fu (d+4) n h,Dm h];simp only[QM];rw[Jv Zcy,Jv (show(n:Int)≠0 by omega)];simp only[QM];rw[Zs (λf:Nat=>(fl plc (X8 n f 0 0),(f:Int),())) 0 (fl plc (X8 n 20 0 0),(20:Int),()) 20 ?_ ?_ ?_ (by omega)]
 ·rw[Zcr];simp(disch:=omega)only[QM,QD,Zf Zo,Xl,Zpt];rw[Zp5 (by rw[Zf Zo];omega)]
 ·rfl
 ·intro f hf';have hl:(X8 n f 0 0).length<=2000:=Ul h (by omega) (by omega) (by omega);simp(disch:=omega)only[QM,QD,Zf Zo,Xl];rw[Zs (λi:Nat=>(fl plc (X8 n f i 0),((i*(840/n):Nat):Int),())) 0 (fl plc (X8 n f (n+1) 0),(((n+1)*(840/n):Nat):Int),()) (n+1) ?_ ?_ ?_ (by omega)]
  ·have hl:(X8 n f (n+1) 0).length<=2000:=Ul h (by omega) (by omega) (by omega);simp(disch:=omega)only[QM,QD,Zf Zo,Xl,Zqm,Zq8];unfold X8;rw[Zod]
  ·simp only[Zqu];rfl
  ·intro i hi;have hl:(X8 n f i 0).length<=2000:=Ul h (by omega) (by omega) (by omega);have hA:=N4 h (show i<=n by omega);have hA1:(i+1)*(840/n)=i*(840/n)+840/n:=Zqy _ _;rw[hA1];generalize hAe:i*(840/n)=A at hA⊢;simp(disch:=omega)only[QM,QD,Zf Zo,Xl];rw[Zs (λj:Nat=>(fl plc (X8 n f i j),((j*(840/n):Nat):Int),())) 0 (fl plc (X8 n f i (n+1-i)),(((n+1-i)*(840/n):Nat):Int),()) (n+1-i) ?_ ?_ ?_ (by omega)]
   ·have hl:(X8 n f i (n+1-i)).length<=2000:=Ul h (by omega) (by omega) (by omega);generalize hst':840/n=s at*
    simp(disch:=omega)only[QM,QD,Zf Zo,Xl,Zqm];unfold X8;rw[Zoc]
   ·simp only[Zqu];rfl
   ·intro j hj;have hl:(X8 n f i j).length<=2000:=Ul h (by omega) (by omega) (by omega);have hs:=Zeu (n:=n) (i:=i) (j:=j) h (by omega);have hB1:(j+1)*(840/n)=j*(840/n)+840/n:=Zqy _ _;have hok:=Zk5 (f:=f) h hf' (show i+j<=n by omega);have hN:=Gl fu d hf (pt n f i j) hok;have hin:0<A->0<j*(840/n)->0<(n-i-j)*(840/n)->isN (pt n f i j)=true:=λh1 h2 h3=>Zic hok (by show 0<i*(840/n);omega) h2 h3;have hup:=Zne n f i j;rw[hB1];simp only[plc]at hN;generalize isN (pt n f i j)=z at hN hin hup;simp only[pt]at hN hup;rw[hAe]at hs hN hup;generalize j*(840/n)=B at*
    generalize (n-i-j)*(840/n)=D at*
    generalize 840/n=s at*
    have hD:(840:Int)-A-B=(D:Int):=by omega
    rw[hup];by_cases c1:0<A
    ·by_cases c2:0<B
     ·by_cases c3:0<D
      ·rw[hin c1 c2 c3];simp(disch:=omega)only[QM,QD,hD,N5,Zf Zo,Xl,Zpz,Zpv,Zpy,Zpt,Zqm]
      ·cases z<;>simp(disch:=omega)only[QM,QD,hD,hN,N5,Zf Zo,Xl,Zpz,Zpv,Zpy,Zpt,Zqm]
     ·cases z<;>simp(disch:=omega)only[QM,QD,hD,hN,N5,Zf Zo,Xl,Zpz,Zpv,Zpy,Zpt,Zqm]
    ·cases z<;>simp(disch:=omega)only[QM,QD,hD,hN,N5,Zf Zo,Xl,Zpz,Zpv,Zpy,Zpt,Zqm]
   ·have hl:(X8 n f i (n+1-i)).length<=2000:=Ul h (by omega) (by omega) (by omega);have hs:=Zeu (n:=n) (i:=i) (j:=n-i) h (by omega);have h1:(n+1-i)*(840/n)=(n-i)*(840/n)+840/n:=by rw[show n+1-i=n-i+1 by omega,Zqy]
    rw[hAe,show n-i-(n-i)=0 by omega]at hs;rw[h1];generalize (n-i)*(840/n)=B at*
    generalize 840/n=s at*
    simp(disch:=omega)only[QM,QD,Zf Zo,Xl,Zqm]
  ·have hl:(X8 n f (n+1) 0).length<=2000:=Ul h (by omega) (by omega) (by omega);have h1:(n+1)*(840/n)=840+840/n:=by rw[Zqy,Sq h]
   rw[h1];generalize 840/n=s at*
   simp(disch:=omega)only[QM,QD,Zf Zo,Xl,Zqm]
 ·have hl:(X8 n 20 0 0).length<=2000:=Ul h (by omega) (by omega) (by omega);simp(disch:=omega)only[QM,QD,Zf Zo,Xl];rfl
theorem Znf (fu d:Nat) (p q:Pl):cl fu (d+1) fn_synopticref03_less [V.agg (plc p),V.agg (plc q)] []=OK (B (decide (plt p q))):=by
 unfold plc;rw[eq_synopticref03_less];by_cases h1:p.f=q.f
 ·by_cases h2:p.a=q.a
  ·by_cases h3:p.b<q.b
   ·rw[decide_eq_true (show plt p q from .inr ⟨h1, .inr ⟨h2,h3⟩⟩)];simp(disch:=omega)only[QM,QD]
   ·rw[decide_eq_false (show ¬plt p q from by unfold plt;omega)];simp(disch:=omega)only[QM,QD]
  ·by_cases h3:p.a<q.a
   ·rw[decide_eq_true (show plt p q from .inr ⟨h1, .inl h3⟩)];simp(disch:=omega)only[QM,QD]
   ·rw[decide_eq_false (show ¬plt p q from by unfold plt;omega)];simp(disch:=omega)only[QM,QD]
 ·by_cases h3:p.f<q.f
  ·rw[decide_eq_true (show plt p q from .inl h3)];simp(disch:=omega)only[QM,QD]
  ·rw[decide_eq_false (show ¬plt p q from by unfold plt;omega)];simp(disch:=omega)only[QM,QD]
theorem K3 {l:List Pl} (h:l.Pairwise plt) {i j:Nat} (hi:i<l.length) (hj:j<l.length) (hij:i<j):plt l[i] l[j]:=List.pairwise_iff_getElem.1 h i j hi hj hij
theorem Zng (fu d:Nat) (hf:18446744073709551616<=fu) (l:List Pl) (hl:l.length<=1000000) (hs:l.Pairwise plt) (k:Nat) (hk:k<l.length):
  cl fu (d+2) fn_synopticref03_find [V.c (C.sl l.length (fl plc l)),V.agg (plc l[k])] []=OK (I k):=by
 have hq:plc l[k]=[.v (.int .i64 l[k].f), .v (.int .i64 l[k].a), .v (.int .i64 l[k].b), .v (.int .i64 l[k].c)]:=rfl;rw[hq,eq_synopticref03_find];rw[Ze0 (λy:Int×Int×Unit=> ∃lo hi:Nat,y=((lo:Int),(hi:Int),())/\lo<=k/\k<=hi/\hi<=l.length) (λy=>(y.2.1-y.1).toNat) 0 ((k:Int),(k:Int),()) ?_ ?_ ?_]
 ·have hd:=H6 Zo hk;simp(disch:=omega)only[QM,QD,Zpu,hd,plc,Zqo,Zqr,Zk6]
 ·exact⟨0,l.length,rfl,Zqp _,by omega,Zp0 _⟩
 ·simp only[];omega
 ·rintro _ ⟨lo,hi,rfl,g1,g2,g3⟩
  by_cases hlt:lo<hi
  ·left;have hm:Int.tdiv ((lo:Int)+(hi:Int)) 2=(((lo+hi)/2:Nat):Int):=by
    rw[show((lo:Int)+(hi:Int))=((lo+hi:Nat):Int) from by omega];rfl
   have hml:(lo+hi)/2<l.length:=by omega
   have hd:=H6 Zo hml;have hless:=Znf fu d l[(lo+hi)/2] l[k];simp only[plc]at hless;by_cases hmk:(lo+hi)/2<k
   ·rw[decide_eq_true (K3 hs hml hk hmk)]at hless;refine⟨((((lo+hi)/2+1:Nat):Int),(hi:Int),()), ?_,⟨(lo+hi)/2+1,hi,rfl,by omega,g2,g3⟩, ?_⟩
    ·simp(disch:=omega)only[QM,QD,hm,Zpu,hd,plc,Zqo,Zqr,hless,Zqm,Zq8]
    ·simp only[];omega
   ·have hn: ¬plt l[(lo+hi)/2] l[k]:=by
     rcases Nat.lt_or_ge k ((lo+hi)/2)with h|h
     ·exact λh'=>Lq _ (Zia h' (K3 hs hk hml h))
     ·have:(lo+hi)/2=k:=by omega
      simp only[this];exact Lq _
    rw[decide_eq_false hn]at hless;refine⟨((lo:Int),(((lo+hi)/2:Nat):Int),()), ?_,⟨lo,(lo+hi)/2,rfl,g1,by omega,by omega⟩, ?_⟩
    ·simp(disch:=omega)only[QM,QD,hm,Zpu,hd,plc,Zqo,Zqr,hless]
    ·simp only[];omega
  ·right;have e1:lo=k:=by omega
   have e2:hi=k:=by omega
   subst e1 e2;simp(disch:=omega)only[QM,QD]
theorem Zim (fu d:Nat) (hf:18446744073709551616<=fu) (n:Nat) (h:Yf n) (p:Pl) (hp:p∈pts n):
  cl fu (d+5) fn_synopticref03_at [V.c (C.sl (Zj n).length (fl plc (Zj n))),I p.f,I p.a,I p.b] []=OK (I (idx n p)):=by
 have hok:=Dg h hp;have hs:=hok.2;have e1:=Mz fu d hf p hok;have e2:=Zng fu (d+2) hf (Zj n) (by have:=Q0 h;omega) (Zab h) (idx n p) (Dh h hp);rw[Zey h hp]at e2;have hc:(840:Int)-p.a-p.b=p.c:=by omega
 simp only[plc]at e1 e2;rw[eq_synopticref03_at];simp(disch:=omega)only[QM,QD,hc,e1,e2,Zpv,Zpy,Zpt,Nat.reduceAdd]
end Go.Proofs.YtjmempcalaliiaaGreatDoor
/- The reference's cells: what they come to. -/
namespace Go.Proofs.YtjmempcalaliiaaGreatDoor
open Go Go.PM Go.Grid
attribute [local congr] Zy Zz Z0 Yl Z1 Z2 Ym Yn Yo Yp Z3 Z4 Yq Xp Xq Xr Xs Xt Xv Xw Xx Xy Xu Z6 Z7 Xz Z8 Z9 Zr Ya Z5
theorem Ql {A B:Type} {body:A->Option (Nat×A)} {fu:Nat} {x:A} {K:Nat×A->Option B} (R:Option B->Prop) (J:A->Prop) (m:A->Nat) (Q:Nat->A->Prop) (hx:J x) (hm:m x<fu)
  (h: ∀y,J y->(∃y',body y=some (0,y')/\J y'/\m y'<m y)\/ ∃e z,body y=some (e+1,z)/\Q e z) (hK: ∀e z,Q e z->R (K (e,z))):R ((iter body fu x).bind K):=by
 obtain⟨e,z,h1,h2⟩:=Ju (body:=body) J m Q h fu x hx hm;rw[h1];exact hK e z h2
theorem Zin (i j k:Nat):(Xa i j k).1+(Xa i j k).2.1+(Xa i j k).2.2=i+j+k:=by
 unfold Xa;split<;>split<;>try split
 all_goals first|rfl|(simp only;omega)|omega
theorem Zio (i j k:Nat):(if(k:Int)<(if(j:Int)<i then(j:Int)else i)then(k:Int)else(if(j:Int)<i then(j:Int)else i))=((Xa i j k).1:Int):=by
 unfold Xa
 repeat' split
 all_goals first|(simp only at*;done)|(simp only at*;omega)|omega
theorem Zip (i j k:Nat):(if(k:Int)>(if(j:Int)>i then(j:Int)else i)then(k:Int)else(if(j:Int)>i then(j:Int)else i))=((Xa i j k).2.2:Int):=by
 unfold Xa
 repeat' split
 all_goals first|(simp only at*;done)|(simp only at*;omega)|omega
theorem Zal {A:Type} {e:A->List C} {m:Nat} (hm: ∀x,(e x).length=m) (L B:List A) (i:Nat):putAt (fl e L) (i*m) (fl e B)=fl e (L.take i++B++L.drop (i+B.length)):=by
 unfold putAt;rw[Zad hm,Zf hm,<-Nat.add_mul,G4 hm,Jw,Jw]
section
variable (fu d:Nat) (hf:18446744073709551616<=fu)
theorem Zcz (i j k:Nat) (hi:i<=1000000) (hj:j<=1000000) (hk:k<=1000000):cl fu (d+1) fn_synopticref03_cell [I i,I j,I k] []=OK (V.agg (trC (Xa i j k))):=by
 have h1:=Zio i j k;have h2:=Zip i j k;have h3:=Zin i j k;have e1:IntKind.i64.wrap (IntKind.i64.wrap ((i:Int)+j)+k)=(i:Int)+j+k:=by rw[Xd (x:=(i:Int)+j) (by omega) (by omega),Xd (by omega) (by omega)]
 have e2:(i:Int)+j+k-((Xa i j k).1:Int)-((Xa i j k).2.2:Int)=((Xa i j k).2.1:Int):=by omega
 rw[eq_synopticref03_cell,h1,h2,e1];simp(disch:=omega)only[Zd,QM,QD,e2];rfl
include hf
theorem Ziq (L:List (Nat×Nat×Nat)) (hL:L.length<=100000) (x:Nat×Nat×Nat): ∃k,k<=L.length/\
  cl fu (d+1) fn_synopticref03_insert [V.own 1000000 0 L.length,V.agg (trC x)] [.sb ty_api_Cell 0 (fl trC L)]=some ⟨V.own 1000001 0 (L.length+1),[.dead, .sb ty_api_Cell 0 (fl trC (L.take k++x::L.drop k))],none⟩:=by
 have hfl:=Zf Yc L;have hz:fl trC L++[C.v (.int .i64 0),C.v (.int .i64 0),C.v (.int .i64 0)]=fl trC (L++[(0,0,0)]):=Kx L (0,0,0);have hflz:(fl trC (L++[(0,0,0)])).length=(L.length+1)*3:=by rw[Zf Yc,Zpz];rfl
 unfold trC;rw[eq_synopticref03_insert];refine Ql (A:=(Nat×List C)×Int×Unit) (B:=Out) (fu:=fu) (λo=> ∃k,k<=L.length/\o=some ⟨V.own 1000001 0 (L.length+1),[.dead, .sb ty_api_Cell 0 (fl trC (L.take k++x::L.drop k))],none⟩)
  (λy=> ∃k:Nat,k<=L.length/\y=((L.length,fl trC L),(k:Int),())) (λy=>y.2.1.toNat) (λe y=>e=0/\ ∃k:Nat,k<=L.length/\y=((L.length,fl trC L),(k:Int),())) ?_ ?_ ?_ ?_
 ·exact⟨L.length,Zp0 _,rfl⟩
 ·show((L.length:Nat):Int).toNat<fu;omega
 ·rintro y ⟨k,hk,rfl⟩
  cases k with
  |zero=>
   refine .inr ⟨0,_, ?_,rfl,0,hk,rfl⟩;simp(disch:=omega)only[Zd,QM,QD]
  |succ k=>
   have hat:=H6 Yc (l:=L) (k:=k) (by omega);have hk1:((k+1:Nat):Int)-1=(k:Int):=by omega
   have go: ∀{b:Option (Nat×((Nat×List C)×Int×Unit))},b=some (0,((L.length,fl trC L),(k:Int),()))\/b=some (1,((L.length,fl trC L),((k+1:Nat):Int),()))->
     (∃y',b=some (0,y')/\(∃k:Nat,k<=L.length/\y'=((L.length,fl trC L),(k:Int),()))/\y'.2.1.toNat<((k+1:Nat):Int).toNat)\/ ∃e z,b=some (e+1,z)/\e=0/\ ∃k:Nat,k<=L.length/\z=((L.length,fl trC L),(k:Int),()):=by
    intro b hb;rcases hb with rfl|rfl
    ·exact .inl ⟨_,rfl,⟨k,by omega,rfl⟩,by show(k:Int).toNat<_;omega⟩
    ·exact .inr ⟨0,_,rfl,rfl,k+1,hk,rfl⟩
   refine go ?_;have hat1:List.drop (k*3+1) (fl trC L)=C.v (.int .i64 L[k].2.1)::C.v (.int .i64 L[k].2.2)::fl trC (L.drop (k+1)):=by rw[<-List.drop_drop,hat];rfl
   have hat2:List.drop (k*3+2) (fl trC L)=C.v (.int .i64 L[k].2.2)::fl trC (L.drop (k+1)):=by rw[<-List.drop_drop,hat];rfl
   generalize L[k]=t at*
   obtain⟨t1,t2,t3⟩:=t;obtain⟨x1,x2,x3⟩:=x;simp only at hat hat1 hat2⊢;by_cases q1:x1<t1
   ·simp(disch:=omega)only[Zd,QM,QD,hk1,Zpt,Zpu,hat,hat1,hat2,trC,Zqo,Zqr];exact .inl trivial
   by_cases q2:x1=t1
   ·by_cases q3:x2<t2
    ·simp(disch:=omega)only[Zd,QM,QD,hk1,Zpt,Zpu,hat,hat1,hat2,trC,Zqo,Zqr];exact .inl trivial
    by_cases q4:x2=t2
    ·by_cases q5:x3<t3
     ·simp(disch:=omega)only[Zd,QM,QD,hk1,Zpt,Zpu,hat,hat1,hat2,trC,Zqo,Zqr];exact .inl trivial
     ·simp(disch:=omega)only[Zd,QM,QD,hk1,Zpt,Zpu,hat,hat1,hat2,trC,Zqo,Zqr];exact .inr trivial
    ·simp(disch:=omega)only[Zd,QM,QD,hk1,Zpt,Zpu,hat,hat1,hat2,trC,Zqo,Zqr];exact .inr trivial
   ·simp(disch:=omega)only[Zd,QM,QD,hk1,Zpt,Zpu,hat,hat1,hat2,trC,Zqo,Zqr];exact .inr trivial
 ·rintro e z ⟨rfl,k,hk,rfl⟩
  refine⟨k,hk, ?_⟩;have hx1:[C.v (.int .i64 x.1),C.v (.int .i64 x.2.1),C.v (.int .i64 x.2.2)]=fl trC [x]:=by simp[fl,trC]
  have hput:putAt (fl trC (L++[(0,0,0)])) (k*3) (fl trC [x])=fl trC ((L++[(0,0,0)]).take k++[x]++(L++[(0,0,0)]).drop (k+1)):=Zal Yc _ [x] k;by_cases hkl:k=L.length
  ·subst hkl;have hres:(L++[(0,0,0)]).take L.length++[x]++(L++[(0,0,0)]).drop (L.length+1)=L.take L.length++x::L.drop L.length:=by simp
   rw[hres]at hput;have hfl2:(fl trC (L.take L.length++x::L.drop L.length)).length=(L.length+1)*3:=by rw[Zf Yc];simp
   have htk:List.take ((L.length+1)*3) (fl trC (L.take L.length++x::L.drop L.length))=fl trC (L.take L.length++x::L.drop L.length):=Zp5 (by omega);have hmin:Nat.min (L.length+1-L.length) (L.length+1-(L.length+1))=0:=by simp
   have hc1:((L.length:Nat):Int)+1=((L.length+1:Nat):Int):=by omega
   simp(disch:=omega)only[Zd,QM,QD,hfl,hz,hflz,hc1,Zpu,hmin,Zpt,hx1,hput,hfl2,htk]
  ·have hcp:List.take ((L.length-k)*3) (List.drop (k*3) (fl trC (L++[(0,0,0)])))=fl trC (L.drop k):=by
    rw[G4 Yc,Zad Yc]
    congr 1
    rw[List.drop_append_of_le_length hk,Zrk (by simp),Zp5 (by simp)]
   have hput1:putAt (fl trC (L++[(0,0,0)])) ((k+1)*3) (fl trC (L.drop k))=fl trC ((L++[(0,0,0)]).take (k+1)++L.drop k):=by
    rw[Zal Yc,Zrb,show List.drop (k+1+(L.length-k)) (L++[((0,0,0):Nat×Nat×Nat)])=[] from Zr9 (by rw[Zpz,List.length_singleton];omega),Zry]
   have hflc:(fl trC ((L++[(0,0,0)]).take (k+1)++L.drop k)).length=(L.length+1)*3:=by rw[Zf Yc];simp;omega
   have hput2:putAt (fl trC ((L++[(0,0,0)]).take (k+1)++L.drop k)) (k*3) (fl trC [x])=fl trC (L.take k++x::L.drop k):=by
    rw[Zal Yc]
    congr 1
    have e1:((L++[(0,0,0)]).take (k+1)++L.drop k).take k=L.take k:=by
     rw[Zrk (by simp;omega),List.take_take,Zq4 (by omega),Zrk hk]
    have e2:((L++[(0,0,0)]).take (k+1)++L.drop k).drop (k+[x].length)=L.drop k:=by
     rw[List.drop_append,Zr9 (by simp;omega)];simp[Zq4 (show k+1<=L.length+1 by omega)]
    rw[e1,e2];simp
   have hfl2:(fl trC (L.take k++x::L.drop k)).length=(L.length+1)*3:=by rw[Zf Yc];simp;omega
   have htk:List.take ((L.length+1)*3) (fl trC (L.take k++x::L.drop k))=fl trC (L.take k++x::L.drop k):=Zp5 (by omega);obtain⟨q,hq⟩: ∃q,L.length-k=q+1:=⟨L.length-k-1,by omega⟩;have hmin:Nat.min (L.length+1-k) (L.length+1-(k+1))=q+1:=by
    show min _ _=_;omega
   have hc1:((k:Nat):Int)+1=((k+1:Nat):Int):=by omega
   rw[hq]at hcp;simp(disch:=omega)only[Zd,QM,QD,hfl,hz,hflz,hc1,Zpu,hmin,Zpt,hcp,hput1,hflc,hx1,hput2,hfl2,htk]
end
end Go.Proofs.YtjmempcalaliiaaGreatDoor
/- The reference's cells: the same as the grid's, in another order. -/
namespace Go.Proofs.YtjmempcalaliiaaGreatDoor
open Go Go.PM Go.Grid
attribute [local congr] Zy Zz Z0 Yl Z1 Z2 Ym Yn Yo Yp Z3 Z4 Yq Xp Xq Xr Xs Xt Xv Xw Xx Xy Xu Z6 Z7 Xz Z8 Z9 Zr Ya Z5
abbrev T3:=Nat×Nat×Nat
def Mo (K:List T3×T3->Nat) (L:List T3) (x:T3):List T3:=L.take (K (L,x))++x::L.drop (K (L,x))
def Q9 (K:List T3×T3->Nat) (l:List T3):List T3:=l.foldl (Mo K) []
theorem J0 (K:List T3×T3->Nat) (l:List T3) (x:T3):Q9 K (l++[x])=Mo K (Q9 K l) x:=by simp[Q9]
theorem B7 (K:List T3×T3->Nat) (L:List T3) (x:T3):(Mo K L x).Perm (x::L):=by
 unfold Mo;refine List.perm_middle.trans ?_;rw[List.take_append_drop]
theorem B8 (K:List T3×T3->Nat) (l:List T3):(Q9 K l).Perm l:=by
 have key: ∀(l acc:List T3),(l.foldl (Mo K) acc).Perm (acc++l):=by
  intro l
  induction l with
  |nil=>intro acc;simp
  |cons x l ih=>
   intro acc;rw[Zrp];refine(ih _).trans (((B7 K acc x).append_right l).trans ?_);exact(List.perm_middle (l₁:=acc) (a:=x) (l₂:=l)).symm
 exact key l []
theorem H9 (K:List T3×T3->Nat) (l:List T3):(Q9 K l).length=l.length:=(B8 K l).length_eq
section
variable (fu d:Nat) (hf:18446744073709551616<=fu)
include hf
theorem Zpd (n:Nat) (h:Yf n) (f i j:Nat) (hf':f<20) (hij:i+j<=n) (x y:Int) (hx:x=((i*(840/n):Nat):Int)) (hy:y=((j*(840/n):Nat):Int)):
  cl fu (d+5) fn_synopticref03_at [V.c (C.sl (Zj n).length (fl plc (Zj n))),I f,I x,I y] []=OK (I (idx n (pt n f i j))):=by
 subst hx hy;have:=Zim fu d hf n h (pt n f i j) (K0 hf' hij);generalize idx n (pt n f i j)=k at*
 simp only[pt]at this;exact this
set_option maxHeartbeats 8000000 in
theorem Zam (n:Nat) (h:Yf n): ∃L:List T3,L.Perm (tri n)/\cl fu (d+7) fn_synopticref03_Cells [I n] []=OK (V.tup [V.c (C.sl L.length (fl trC L)),I 0]):=by
 have hn:=h;unfold Yf at hn;have hst:=Qz h;obtain⟨K,hK⟩: ∃K:List T3×T3->Nat,∀p:List T3×T3,p.1.length<=100000->cl fu (d+6) fn_synopticref03_insert [V.own 1000000 0 p.1.length,V.agg (trC p.2)] [.sb ty_api_Cell 0 (fl trC p.1)]=some ⟨V.own 1000001 0 (p.1.length+1),[.dead, .sb ty_api_Cell 0 (fl trC (p.1.take (K p)++p.2::p.1.drop (K p)))],none⟩:=by
  refine Classical.axiomOfChoice (r:=λ(p:List T3×T3) (k:Nat)=>p.1.length<=100000->cl fu (d+6) fn_synopticref03_insert [V.own 1000000 0 p.1.length,V.agg (trC p.2)] [.sb ty_api_Cell 0 (fl trC p.1)]=some ⟨V.own 1000001 0 (p.1.length+1),[.dead, .sb ty_api_Cell 0 (fl trC (p.1.take k++p.2::p.1.drop k))],none⟩) λp=> ?_;by_cases hp:p.1.length<=100000
  ·obtain⟨k,_,hk⟩:=Ziq fu (d+5) hf p.1 hp p.2;exact⟨k,λ_=>hk⟩
  ·exact⟨0,λh=>absurd h hp⟩
 have hK: ∀L x,L.length<=100000->cl fu (d+6) fn_synopticref03_insert [V.own 1000000 0 L.length,V.agg (trC x)] [.sb ty_api_Cell 0 (fl trC L)]=some ⟨V.own 1000001 0 (L.length+1),[.dead, .sb ty_api_Cell 0 (fl trC (Mo K L x))],none⟩:=λL x hl=>hK (L,x) hl;have hpl: ∀L x,(Mo K L x).length=L.length+1:=λL x=>by rw[(B7 K L x).length_eq];rfl
 refine⟨Q9 K (tri n),B8 K (tri n), ?_⟩;have hle: ∀{f a b:Nat},f<=20->a<=9->b<=9->(Q9 K (Uj n f a b)).length<=5000:=λh1 h2 h3=>by rw[H9];exact Zag hn.2 h1 h2 h3
 have hdv: ∀L:List T3,L.length*3/3=L.length:=λL=>by omega
 have hfl: ∀L:List T3,(fl trC L).length=L.length*3:=λL=>Zf Yc L;have hat:=λf i j hf' hij x y hx hy=>Zpd fu (d+1) hf n h f i j hf' hij x y hx hy;have hN:=Zak fu d hf n h;have hNl:=Q0 h;have hidx: ∀{f i j:Nat},f<20->i+j<=n->idx n (pt n f i j)<=1000000:=λh1 h2=>by have:=Dh h (K0 (n:=n) h1 h2);omega
 rw[eq_synopticref03_Cells,hN,Dm h];generalize (Zj n).length=N at*
 generalize fl plc (Zj n)=nc at*
 simp only[Zd,QM];rw[Zk7 rfl,Jv (show(n:Int)≠0 by omega)];simp only[Zd,QM];rw[Zs (λf:Nat=>(fl trC (Q9 K (Uj n f 0 0)),(f:Int),())) 0 (fl trC (Q9 K (tri n)),(20:Int),()) 20 ?_ ?_ ?_ (by omega)]
 ·have h1:(Q9 K (tri n)).length<=5000:=by rw[H9];exact Ds h
  have htk:List.take ((Q9 K (tri n)).length*3) (fl trC (Q9 K (tri n)))=fl trC (Q9 K (tri n)):=Zp5 (by rw[hfl];omega);simp(disch:=omega)only[Zd,QM,QD,hdv,hfl,Zpt,htk]
 ·rfl
 ·intro f hf';have h1:=hle (f:=f) (a:=0) (b:=0) (by omega) (by omega) (by omega);simp(disch:=omega)only[Zd,QM,QD,hdv,hfl];rw[Zs (λi:Nat=>(fl trC (Q9 K (Uj n f i 0)),((i*(840/n):Nat):Int),())) 0 (fl trC (Q9 K (Uj n f n 0)),((n*(840/n):Nat):Int),()) n ?_ ?_ ?_ (by omega)]
  ·simp(disch:=omega)only[Zd,QM,QD,hdv,hfl];rw[Zlj];rfl
  ·simp only[Zqu];rfl
  ·intro i hi;have h1:=hle (f:=f) (a:=i) (b:=0) (by omega) (by omega) (by omega);have hA:=N4 h (show i+1<=n by omega);have hA1:(i+1)*(840/n)=i*(840/n)+840/n:=Zqy _ _;rw[hA1]at hA⊢;simp(disch:=omega)only[Zd,QM,QD,hdv,hfl];rw[Zs (λj:Nat=>(fl trC (Q9 K (Uj n f i j)),((j*(840/n):Nat):Int),())) 0 (fl trC (Q9 K (Uj n f i (n-i))),(((n-i)*(840/n):Nat):Int),()) (n-i) ?_ ?_ ?_ (by omega)]
   ·simp(disch:=omega)only[Zd,QM,QD,hdv,hfl];rw[Zli];simp only[Zqm]
   ·simp only[Zqu];rfl
   ·intro j hj;have h1:=hle (f:=f) (a:=i) (b:=j) (by omega) (by omega) (by omega);have hB1:(j+1)*(840/n)=j*(840/n)+840/n:=Zqy _ _;have hAB:=N4 h (show i+j+1<=n by omega);have hAB1:(i+j+1)*(840/n)=i*(840/n)+j*(840/n)+840/n:=by rw[Zqy,Nat.add_mul]
    rw[hAB1]at hAB;have a1:=hat f (i+1) j hf' (by omega) (((i*(840/n):Nat):Int)+((840/n:Nat):Int)) ((j*(840/n):Nat):Int) (by rw[hA1];omega) rfl;have a2:=hat f i (j+1) hf' (by omega) ((i*(840/n):Nat):Int) (((j*(840/n):Nat):Int)+((840/n:Nat):Int)) rfl (by rw[hB1];omega);have a3:=hat f i j hf' (by omega) ((i*(840/n):Nat):Int) ((j*(840/n):Nat):Int) rfl rfl;have i1:=hidx (f:=f) (i:=i+1) (j:=j) hf' (by omega);have i2:=hidx (f:=f) (i:=i) (j:=j+1) hf' (by omega);have i3:=hidx (f:=f) (i:=i) (j:=j) hf' (by omega);have c1:=Zcz fu (d+5) _ _ _ i1 i2 i3;have n1:=hK (Q9 K (Uj n f i j)) (Xa (idx n (pt n f (i+1) j)) (idx n (pt n f i (j+1))) (idx n (pt n f i j))) (by omega);rw[hB1];by_cases hd:i+j+1<n
    ·have hAB2:=N4 h (show i+j+2<=n by omega);have hAB3:(i+j+2)*(840/n)=i*(840/n)+j*(840/n)+840/n+840/n:=by rw[Zqy,hAB1]
     rw[hAB3]at hAB2;have a4:=hat f (i+1) (j+1) hf' (by omega) (((i*(840/n):Nat):Int)+((840/n:Nat):Int)) (((j*(840/n):Nat):Int)+((840/n:Nat):Int)) (by rw[hA1];omega) (by rw[hB1];omega);have i4:=hidx (f:=f) (i:=i+1) (j:=j+1) hf' (by omega);have c2:=Zcz fu (d+5) _ _ _ i2 i1 i4;have n2:=hK (Mo K (Q9 K (Uj n f i j)) (Xa (idx n (pt n f (i+1) j)) (idx n (pt n f i (j+1))) (idx n (pt n f i j)))) (Xa (idx n (pt n f i (j+1))) (idx n (pt n f (i+1) j)) (idx n (pt n f (i+1) (j+1)))) (by rw[hpl];omega);have hL:Q9 K (Uj n f i (j+1))=Mo K (Mo K (Q9 K (Uj n f i j)) (Xa (idx n (pt n f (i+1) j)) (idx n (pt n f i (j+1))) (idx n (pt n f i j)))) (Xa (idx n (pt n f i (j+1))) (idx n (pt n f (i+1) j)) (idx n (pt n f (i+1) (j+1)))):=by
      rw[<-Ze5,show Ua n f i j=[tc n (pt n f (i+1) j) (pt n f i (j+1)) (pt n f i j)]++[tc n (pt n f i (j+1)) (pt n f (i+1) j) (pt n f (i+1) (j+1))] by unfold Ua;rw[if_pos hd];rfl,<-Zqq,J0,J0];rfl
     rw[hL];generalize idx n (pt n f (i+1) j)=q1 at*
     generalize idx n (pt n f i (j+1))=q2 at*
     generalize idx n (pt n f i j)=q3 at*
     generalize idx n (pt n f (i+1) (j+1))=q4 at*
     generalize Xa q1 q2 q3=t1 at*
     generalize Xa q2 q1 q4=t2 at*
     have l1:=hpl (Q9 K (Uj n f i j)) t1;rw[l1]at n2;have l2:=hpl (Mo K (Q9 K (Uj n f i j)) t1) t2;generalize Mo K (Mo K (Q9 K (Uj n f i j)) t1) t2=L2 at*
     generalize Mo K (Q9 K (Uj n f i j)) t1=L1 at*
     generalize Q9 K (Uj n f i j)=L0 at*
     generalize i*(840/n)=A at*
     generalize j*(840/n)=B at*
     generalize 840/n=s at*
     obtain⟨t11,t12,t13⟩:=t1;obtain⟨t21,t22,t23⟩:=t2;simp only[trC]at c1 n1 c2 n2;simp(disch:=omega)only[Zd,QM,QD,a1,a2,a3,a4,c1,n1,c2,n2,out1,hdv,hfl,l1,l2,Zpv,Zpy,Zpt,Nat.reduceAdd,Zqm]
    ·have hnn:i+j+1=n:=by omega
     have hL:Q9 K (Uj n f i (j+1))=Mo K (Q9 K (Uj n f i j)) (Xa (idx n (pt n f (i+1) j)) (idx n (pt n f i (j+1))) (idx n (pt n f i j))):=by
      rw[<-Ze5,show Ua n f i j=[tc n (pt n f (i+1) j) (pt n f i (j+1)) (pt n f i j)] by unfold Ua;rw[if_neg hd],J0];rfl
     have hAB4:i*(840/n)+j*(840/n)+840/n=840:=by rw[<-hAB1,hnn];exact Sq h
     rw[hL];generalize idx n (pt n f (i+1) j)=q1 at*
     generalize idx n (pt n f i (j+1))=q2 at*
     generalize idx n (pt n f i j)=q3 at*
     generalize Xa q1 q2 q3=t1 at*
     have l1:=hpl (Q9 K (Uj n f i j)) t1;generalize Mo K (Q9 K (Uj n f i j)) t1=L1 at*
     generalize Q9 K (Uj n f i j)=L0 at*
     generalize i*(840/n)=A at*
     generalize j*(840/n)=B at*
     generalize 840/n=s at*
     obtain⟨t11,t12,t13⟩:=t1;simp only[trC]at c1 n1;simp(disch:=omega)only[Zd,QM,QD,a1,a2,a3,c1,n1,out1,hdv,hfl,l1,Zpv,Zpy,Zpt,Nat.reduceAdd,Zqm]
   ·have hend:i*(840/n)+(n-i)*(840/n)=840:=by rw[<-Nat.add_mul,show i+(n-i)=n by omega];exact Sq h
    have h1:=hle (f:=f) (a:=i) (b:=n-i) (by omega) (by omega) (by omega);generalize (n-i)*(840/n)=B at*
    simp(disch:=omega)only[Zd,QM,QD,hdv,hfl]
  ·have h1:=hle (f:=f) (a:=n) (b:=0) (by omega) (by omega) (by omega);have hend:=Sq h;generalize n*(840/n)=B at*
   simp(disch:=omega)only[Zd,QM,QD,hdv,hfl]
 ·have h1:=hle (f:=20) (a:=0) (b:=0) (by omega) (by omega) (by omega);simp(disch:=omega)only[Zd,QM,QD,hdv,hfl];rw[Dn];rfl
end
end Go.Proofs.YtjmempcalaliiaaGreatDoor
/- The reference's neighbours. -/
namespace Go.Proofs.YtjmempcalaliiaaGreatDoor
open Go Go.PM Go.Grid
attribute [local congr] Zy Zz Z0 Yl Z1 Z2 Ym Yn Yo Yp Z3 Z4 Yq Xp Xq Xr Xs Xt Xv Xw Xx Xy Xu Z6 Z7 Xz Z8 Z9 Zr Ya Z5
def Sy (z:Int):List Int->List Int
 | []=>[z]
 |y::l=>if y<z then y::Sy z l else if y=z then y::l else z::y::l
theorem Du {z x:Int}: ∀{l:List Int},x∈Sy z l↔x=z\/x∈l
 | []=>by simp[Sy]
 |y::l=>by
  unfold Sy;split
  ·rw[Zp9,Du,Zp9];exact⟨λh=>h.elim (λh=> .inr (.inl h)) λh=>h.elim .inl λh=> .inr (.inr h),λh=>h.elim (λh=> .inr (.inl h)) λh=>h.elim .inl λh=> .inr (.inr h)⟩
  ·split
   ·rename_i h1 h2;subst h2;simp
   ·simp
theorem Zc0 {z:Int}: ∀{l:List Int},l.Pairwise (λa b=>a<b)->(Sy z l).Pairwise (λa b=>a<b)
 | [],h=>by simp[Sy]
 |y::l,h=>by
  rw[Zqx]at h;unfold Sy;split
  ·rename_i h1;rw[Zqx];refine⟨λx hx=> ?_,Zc0 h.2⟩;rcases Du.1 hx with rfl|hx
   ·exact h1
   ·exact h.1 x hx
  ·split
   ·rw[Zqx];exact h
   ·rename_i h1 h2;rw[Zqx,Zqx];refine⟨λx hx=> ?_,h⟩;rcases Zp9.1 hx with rfl|hx
    ·omega
    ·have:=h.1 x hx;omega
theorem Ga (z:Int): ∀l,(Sy z l).length<=l.length+1
 | []=>by simp[Sy]
 |y::l=>by
  unfold Sy;have:=Ga z l;split
  ·simp;omega
  ·split<;>simp
theorem Zgg (z:Int): ∀l:List Int,∃k,k<=l.length/\(∀j (h:j<l.length),j<k->l[j]<z)/\(∀h:k<l.length,¬l[k]<z)/\((∀h:k<l.length,l[k]≠z)->Sy z l=l.take k++z::l.drop k)/\ ∀h:k<l.length,l[k]=z->Sy z l=l
 | []=>⟨0,by simp,by simp,by simp,by simp[Sy],by simp⟩
 |y::l=>by
  obtain⟨k,h1,h2,h3,h4,h5⟩:=Zgg z l;by_cases hy:y<z
  ·refine⟨k+1,by simp;omega,λj hj hjk=> ?_,λh=>h3 (by simp at h;omega),λh=> ?_,λh e=> ?_⟩
   ·cases j with
    |zero=>exact hy
    |succ j=>exact h2 j (by simp at hj;omega) (by omega)
   ·unfold Sy;rw[if_pos hy,h4 λh'=>h (by simp;omega)];rfl
   ·unfold Sy;rw[if_pos hy,h5 (by simp at h;omega) e]
  ·refine⟨0,by simp,λj hj hjk=>by omega,λ_=>hy,λh=> ?_,λh e=> ?_⟩
   ·have:y≠z:=h (by simp);unfold Sy;rw[if_neg hy,if_neg this];rfl
   ·have e:y=z:=e;unfold Sy;rw[if_neg hy,if_pos e]
def rC1 (r:List Int):C:=match r with| []=> .nl|_::_=> .sl r.length (ints r)
theorem Vs {R:Type} (r:List Int) (k:Nat->List C->Option R):asSl (rC1 r) k=k r.length (ints r):=by cases r<;>rfl
theorem Zpe {r:List Int} (h:r≠[]):rC1 r= .sl r.length (ints r):=by cases r with|nil=>exact absurd rfl h|cons x r=>rfl
theorem J1 (r:List Int) (k:Nat):(ints r).drop k=ints (r.drop k):=(List.map_drop).symm
theorem J2 (r:List Int) (k:Nat):(ints r).take k=ints (r.take k):=(List.map_take).symm
theorem Zir (r:List Int) (k:Nat) (hk:k<=r.length): ∃c:C,(∀{R:Type} (k':C->Option R),sliceC 1 (some (I k)) none (rC1 r) k'=k' c)/\ ∀{R:Type} (k':Nat->List C->Option R),asSl c k'=k' (r.length-k) (ints (r.drop k)):=by
 cases r with
 |nil=>
  have:k=0:=by simpa using hk
  subst this;exact⟨.nl,λk'=>rfl,λk'=>rfl⟩
 |cons x r=>
  refine⟨.sl ((x::r).length-k) (ints ((x::r).drop k)),λk'=> ?_,λk'=>rfl⟩;have h1:decide ((0:Int)<=(k:Int))=true:=decide_eq_true (by omega);have h2:decide ((k:Int)<=(((x::r).length:Nat):Int))=true:=decide_eq_true (by omega);have h3:((k:Int)).toNat=k:=Zpu k;show bound none (x::r).length (x::r).length (λh=>bound (some (I k)) 0 h λa=>k' (.sl (h-a) (((ints (x::r)).drop (a*1)).take ((h-a)*1))))=_;show need (decide ((0:Int)<=(k:Int))&&decide ((k:Int)<=(((x::r).length:Nat):Int))) (k' (.sl ((x::r).length-(k:Int).toNat) (((ints (x::r)).drop ((k:Int).toNat*1)).take (((x::r).length-(k:Int).toNat)*1))))=_;rw[h1,h2,h3,Zp6,Zp6,J1,Zp5 (by rw[Zh,Zrb];omega)];rfl
theorem B9 (R:List (List Int)) {i:Nat} (hi:i<R.length):(R.map rC1).drop i=rC1 (R.getD i [])::(R.map rC1).drop (i+1):=by
 rw[Zqn (by simpa using hi),List.getElem_map,Zp2,Zpw hi];rfl
theorem Zlu (R:List (List Int)) {i:Nat} (hi:i<R.length) (r:List Int):putAt (R.map rC1) i [rC1 r]=(R.set i r).map rC1:=by
 unfold putAt;rw[List.map_set,List.set_eq_take_append_cons_drop,if_pos (by simpa using hi)];simp
theorem Znh (N:Nat):reps N [C.nl]=(List.replicate N ([]:List Int)).map rC1:=by
 induction N with
 |zero=>rfl
 |succ N ih=>rw[Zr6,Zq3,<-ih];unfold reps;rw[Zr6,List.flatten_cons];rfl
def P8 (R:List (List Int)) (p:Nat×Nat):List (List Int):=R.set p.1 (Sy p.2 (R.getD p.1 []))
def prs (t:T3):List (Nat×Nat):=[(t.1,t.2.1),(t.1,t.2.2),(t.2.1,t.2.2),(t.2.1,t.1),(t.2.2,t.1),(t.2.2,t.2.1)]
theorem N6 (R:List (List Int)) (p:Nat×Nat):(P8 R p).length=R.length:=by simp[P8]
theorem Co (l:List (Nat×Nat)): ∀R,(l.foldl P8 R).length=R.length:=by
 induction l with
 |nil=>intro R;rfl
 |cons p l ih=>intro R;rw[Zrp,ih,N6]
theorem Zis (R:List (List Int)) (p:Nat×Nat) (i:Nat):(P8 R p).getD i []=if i=p.1/\i<R.length then Sy p.2 (R.getD i [])else R.getD i []:=by
 unfold P8;rw[Zp2,List.getElem?_set];by_cases h:p.1=i
 ·subst h;by_cases hl:p.1<R.length
  ·simp[hl]
  ·rw[if_pos rfl,if_neg hl,if_neg (λe=>hl e.2),Zp2,Zsd (by omega)]
 ·rw[if_neg h,if_neg (λe=>h e.1.symm),Zp2]
theorem Zit {R:List (List Int)} {p:Nat×Nat} (h:Sy p.2 (R.getD p.1 [])=R.getD p.1 []):P8 R p=R:=by
 unfold P8;rw[h];by_cases hl:p.1<R.length
 ·rw[Zp2,Zpw hl];exact List.set_getElem_self hl
 ·exact List.set_eq_of_length_le (by omega)
theorem Ze7 (l:List (Nat×Nat)): ∀(R:List (List Int)) (i:Nat),(∀r,R.getD i []=r->r.Pairwise (λa b=>a<b))->((l.foldl P8 R).getD i []).Pairwise (λa b=>a<b)/\(i<R.length-> ∀x,x∈(l.foldl P8 R).getD i []↔x∈R.getD i []\/ ∃k:Nat,x=k/\(i,k)∈l)/\((l.foldl P8 R).getD i []).length<=(R.getD i []).length+l.length:=by
 induction l with
 |nil=>intro R i h;exact⟨h _ rfl,λ_ x=>by simp,by simp⟩
 |cons p l ih=>
  intro R i h;rw[Zrp];have hg:=Zis R p i;obtain⟨a1,a2,a3⟩:=ih (P8 R p) i (λr hr=>by
   subst hr;rw[hg];split
   ·exact Zc0 (h _ rfl)
   ·exact h _ rfl)
  refine⟨a1,λhi x=> ?_, ?_⟩
  ·rw[a2 (by rw[N6];exact hi),hg];by_cases hp:i=p.1
   ·subst hp;rw[if_pos ⟨rfl,hi⟩,Du];constructor
    ·rintro ((rfl|h1)|⟨k,h1,h2⟩)
     ·exact .inr ⟨p.2,rfl,Zrh ..⟩
     ·exact .inl h1
     ·exact .inr ⟨k,h1,Zqe _ h2⟩
    ·rintro (h1|⟨k,h1,h2⟩)
     ·exact .inl (.inr h1)
     ·rcases Zp9.1 h2 with h2|h2
      ·have e:k=p.2:=congrArg Prod.snd h2;exact .inl (.inl (h1.trans (by rw[e])))
      ·exact .inr ⟨k,h1,h2⟩
   ·rw[if_neg (λe=>hp e.1)];constructor
    ·rintro (h1|⟨k,h1,h2⟩)
     ·exact .inl h1
     ·exact .inr ⟨k,h1,Zqe _ h2⟩
    ·rintro (h1|⟨k,h1,h2⟩)
     ·exact .inl h1
     ·rcases Zp9.1 h2 with h2|h2
      ·subst h2;exact absurd rfl hp
      ·exact .inr ⟨k,h1,h2⟩
  ·rw[hg]at a3;rw[Zpv];split at a3
   ·have:=Ga p.2 (R.getD i []);omega
   ·omega
theorem prs_length (L:List T3):(L.flatMap prs).length=L.length*6:=by
 induction L with
 |nil=>rfl
 |cons x L ih=>rw[Zra,Zpz,ih,Zpv];simp only[prs,Zpv,Zpy];omega
theorem J3 (N i:Nat):(List.replicate N ([]:List Int)).getD i []=[]:=by
 rw[Zp2,List.getElem?_replicate];split<;>rfl
theorem R5 {N:Nat} {l:List (Nat×Nat)} (i:Nat):((l.foldl P8 (List.replicate N [])).getD i []).Pairwise (λa b=>a<b)/\(i<N-> ∀x,x∈(l.foldl P8 (List.replicate N [])).getD i []↔ ∃k:Nat,x=k/\(i,k)∈l)/\((l.foldl P8 (List.replicate N [])).getD i []).length<=l.length:=by
 obtain⟨h1,h2,h3⟩:=Ze7 l (List.replicate N []) i (λr hr=>by rw[J3]at hr;subst hr;exact .nil);refine⟨h1,λhi x=> ?_, ?_⟩
 ·rw[h2 (by simpa using hi),J3];simp
 ·rw[J3]at h3;simpa using h3
end Go.Proofs.YtjmempcalaliiaaGreatDoor
/- The reference's neighbours: what the function comes to. -/
namespace Go.Proofs.YtjmempcalaliiaaGreatDoor
open Go Go.PM Go.Grid
attribute [local congr] Zy Zz Z0 Yl Z1 Z2 Ym Yn Yo Yp Z3 Z4 Yq Xp Xq Xr Xs Xt Xv Xw Xx Xy Xu Z6 Z7 Xz Z8 Z9 Zr Ya Z5
def Rj (N:Nat) (l:List (Nat×Nat)):List (List Int):=l.foldl P8 (List.replicate N [])
theorem Ziu (N:Nat) (l:List (Nat×Nat)) (p:Nat×Nat):Rj N (l++[p])=P8 (Rj N l) p:=by simp[Rj]
theorem Gb (N:Nat) (l:List (Nat×Nat)):(Rj N l).length=N:=by unfold Rj;rw[Co];simp
theorem put2 (a b:C):putAt [C.v (.int .i64 0),C.v (.int .i64 0)] 0 [a,b]=[a,b]:=rfl
theorem ints_at (r:List Int) {m:Nat} (h:m<r.length):(ints r).drop m=C.v (.int .i64 r[m])::ints (r.drop (m+1)):=by
 rw[J1,Zqn h];rfl
section
variable (fu d:Nat) (hf:18446744073709551616<=fu)
include hf
set_option maxHeartbeats 8000000 in
theorem Cp (n:Nat) (h:Yf n): ∃L:List T3,L.Perm (tri n)/\cl fu (d+8) fn_synopticref03_around [I n] []=OK (V.c (C.sl (Zj n).length ((Rj (Zj n).length (L.flatMap prs)).map rC1))):=by
 have hn:=h;unfold Yf at hn;obtain⟨L,hp,hC⟩:=Zam fu d hf n h;have hN:=T4 h;have hNl:=Q0 h;have hcnt:=Px fu (d+6) n h;rw[<-hN]at hcnt;have hin: ∀t∈L,t.1<(Zj n).length/\t.2.1<(Zj n).length/\t.2.2<(Zj n).length:=λt ht=>Zai h t (hp.mem_iff.1 ht);have hLl:L.length<=5000:=by rw[hp.length_eq];exact Ds h
 refine⟨L,hp, ?_⟩;generalize (Zj n).length=N at*
 have hR0:(Rj N []).map rC1=reps N [C.nl]:=by rw[Znh];rfl
 have hRl:=Gb N;have hrow: ∀l i,((Rj N l).getD i []).length<=l.length:=λl i=>(R5 (N:=N) (l:=l) i).2.2;rw[eq_synopticref03_around,hC];simp(disch:=omega)only[Zd,QM,QD,hcnt,Zpu,Qi,Zpv,Zpy,Zpt,Zp6];rw[Zs (λj:Nat=>((Rj N ((L.take j).flatMap prs)).map rC1,(j:Int),())) 0 ((Rj N (L.flatMap prs)).map rC1,((L.length:Nat):Int),()) L.length ?_ ?_ ?_ (by omega)]
 ·have htk:List.take N ((Rj N (L.flatMap prs)).map rC1)=(Rj N (L.flatMap prs)).map rC1:=Zp5 (by rw[Zqf,hRl];exact Zp0 _);simp(disch:=omega)only[Zd,QM,QD,Zqf,hRl,Zqj,Zp6,Zpt,htk]
 ·rw[<-hR0];rfl
 ·intro j hj;have hat:=H6 Yc hj;have hts:=hin L[j] (Zq2 hj);have hnx:(L.take (j+1)).flatMap prs=(L.take j).flatMap prs++prs L[j]:=by rw[Zqs hj,Zrw];simp
  have hl0:((L.take j).flatMap prs).length=j*6:=by rw[prs_length,Zql,Zq4 (by omega)]
  rw[hnx];generalize (L.take j).flatMap prs=l0 at*
  generalize L[j]=t at*
  obtain⟨x,y,z⟩:=t;simp only[trC]at hat hts;simp(disch:=omega)only[Zd,QM,QD,Zpu,hat,Zqo,Zqr,Zqf,hRl,Zqj,Zp6];rw[Zs (λq:Nat=>((Rj N (l0++(prs (x,y,z)).take q)).map rC1,(q:Int),())) 0 ((Rj N (l0++prs (x,y,z))).map rC1,(6:Int),()) 6 ?_ ?_ ?_ (by omega)]
  ·simp(disch:=omega)only[Zd,QM,QD,Zqf,hRl,Zqj,Zp6];rfl
  ·simp only[Zrm,Zry];rfl
  ·intro q hq;have hpl:(prs (x,y,z)).length=6:=rfl;have hq':q<(prs (x,y,z)).length:=hq;have hnx2:l0++(prs (x,y,z)).take (q+1)=(l0++(prs (x,y,z)).take q)++[(prs (x,y,z))[q]]:=by rw[Zqs hq',Zqq]
   have hl1:(l0++(prs (x,y,z)).take q).length<=30000:=by rw[Zpz,Zql,hl0];omega
   have h12:List.take 2 (List.drop (q*2) [C.v (.int .i64 (x:Int)),C.v (.int .i64 (y:Int)),C.v (.int .i64 (x:Int)),C.v (.int .i64 (z:Int)),C.v (.int .i64 (y:Int)),C.v (.int .i64 (z:Int)),C.v (.int .i64 (y:Int)),C.v (.int .i64 (x:Int)),C.v (.int .i64 (z:Int)),C.v (.int .i64 (x:Int)),C.v (.int .i64 (z:Int)),C.v (.int .i64 (y:Int))])=[C.v (.int .i64 ((prs (x,y,z))[q].1:Int)),C.v (.int .i64 ((prs (x,y,z))[q].2:Int))]:=by
    rcases(show q=0\/q=1\/q=2\/q=3\/q=4\/q=5 by omega)with rfl|rfl|rfl|rfl|rfl|rfl<;>rfl
   have hpin:(prs (x,y,z))[q].1<N:=by
    rcases(show q=0\/q=1\/q=2\/q=3\/q=4\/q=5 by omega)with rfl|rfl|rfl|rfl|rfl|rfl<;>(simp only[prs,List.getElem_cons_zero,List.getElem_cons_succ];omega)
   rw[hnx2,Ziu];generalize (prs (x,y,z))[q]=pr at*
   generalize l0++(prs (x,y,z)).take q=l1 at*
   obtain⟨a,b⟩:=pr;simp only at hpin h12;have hrl:=hrow l1 a;have hRN:=hRl l1;generalize Rj N l1=R at*
   have hdr:=B9 R (show a<R.length by omega);have hput:=Zlu R (show a<R.length by omega);obtain⟨k,k1,k2,k3,k4,k5⟩:=Zgg (b:Int) (R.getD a []);obtain⟨c,c1,c2⟩:=Zir (R.getD a []) k k1;have hadd:P8 R (a,b)=R.set a (Sy (b:Int) (R.getD a [])):=rfl;have hsame:=Zit (R:=R) (p:=(a,b));simp only at hsame;have hal:=N6 R (a,b);generalize R.getD a []=row at*
   simp(disch:=omega)only[Zd,QM,QD,Zpu,Zrb,Zpv,Zpy,Zpt,Nat.reduceAdd,h12,Zqf,hRN,Zqj,Zp6,put2];rw[Zs (λm:Nat=>(R.map rC1,(m:Int),[C.v (.int .i64 (a:Int)),C.v (.int .i64 (b:Int))],())) 0 (R.map rC1,(k:Int),[C.v (.int .i64 (a:Int)),C.v (.int .i64 (b:Int))],()) k ?_ ?_ ?_ (by omega)]
   ·have hnew:Sy (b:Int) row=row.take k++(b:Int)::row.drop k->putAt (R.map rC1) a [C.sl (k+(1+(row.length-k))) (ints (row.take k)++([C.v (.int .i64 (b:Int))]++ints (row.drop k)))]=(P8 R (a,b)).map rC1:=by
     intro e;have e1:(row.take k++(b:Int)::row.drop k).length=k+(1+(row.length-k)):=by rw[Zpz,Zpv,Zrb,Zql,Zq4 k1];omega
     have e2:ints (row.take k++(b:Int)::row.drop k)=ints (row.take k)++([C.v (.int .i64 (b:Int))]++ints (row.drop k)):=by simp[ik]
     rw[hadd,e,<-hput,Zpe (by simp),e1,e2]
    have e0:List.drop 1 [C.v (.int .i64 (a:Int)),C.v (.int .i64 (b:Int))]=[C.v (.int .i64 (b:Int))]:=rfl;by_cases hk:k<row.length
    ·have hia:=ints_at row hk;by_cases hb:row[k]=(b:Int)
     ·rw[hsame (k5 hk hb)];simp(disch:=omega)only[Zd,QM,QD,Zpt,Zp6,Zqj,Zpu,hdr,Vs,hia,e0,Zqf,hRN];rfl
     ·have hnew:=hnew (k4 λ_=>hb);have hnl:(putAt (R.map rC1) a [C.sl (k+(1+(row.length-k))) (ints (row.take k)++([C.v (.int .i64 (b:Int))]++ints (row.drop k)))]).length=N:=by rw[hnew,Zqf,hal,hRN]
      simp(disch:=omega)only[Zd,QM,QD,Zpt,Zp6,Zqj,Zpu,hdr,Vs,hia,e0,c1,c2,Zqf,hRN,Zh,J2,Zpz,Zpv,Zpy,Zrb,Zql,Zq4,hnl,decide_true];rw[hnew];rfl
    ·have hnew:=hnew (k4 λh=>absurd h hk);have hnl:(putAt (R.map rC1) a [C.sl (k+(1+(row.length-k))) (ints (row.take k)++([C.v (.int .i64 (b:Int))]++ints (row.drop k)))]).length=N:=by rw[hnew,Zqf,hal,hRN]
     simp(disch:=omega)only[Zd,QM,QD,Zpt,Zp6,Zqj,Zpu,hdr,Vs,e0,c1,c2,Zqf,hRN,Zh,J2,Zpz,Zpv,Zpy,Zrb,Zql,Zq4,hnl,decide_true];rw[hnew];rfl
   ·rfl
   ·intro m hm;have hml:m<row.length:=by omega
    have hlt:=k2 m hml hm;have hia:=ints_at row hml;have e0:List.drop 1 [C.v (.int .i64 (a:Int)),C.v (.int .i64 (b:Int))]=[C.v (.int .i64 (b:Int))]:=rfl;simp(disch:=omega)only[Zd,QM,QD,Zpt,Zp6,Zqj,Zpu,hdr,Vs,hia,e0,Zqf,hRN];rfl
   ·have e0:List.drop 1 [C.v (.int .i64 (a:Int)),C.v (.int .i64 (b:Int))]=[C.v (.int .i64 (b:Int))]:=rfl;by_cases hk:k<row.length
    ·have hge:=k3 hk;have hia:=ints_at row hk;simp(disch:=omega)only[Zd,QM,QD,Zpt,Zp6,Zqj,Zpu,hdr,Vs,hia,e0,Zqf,hRN]
    ·simp(disch:=omega)only[Zd,QM,QD,Zpt,Zp6,Zqj,Zpu,hdr,Vs,e0,Zqf,hRN]
  ·simp(disch:=omega)only[Zd,QM,QD,Zqf,hRl,Zqj,Zp6];rfl
 ·rw[Zq7];simp(disch:=omega)only[Zd,QM,QD,Zqf,hRl,Zqj,Zp6]
end
end Go.Proofs.YtjmempcalaliiaaGreatDoor
/- The reference's edges are the grid's. -/
namespace Go.Proofs.YtjmempcalaliiaaGreatDoor
open Go Go.PM Go.Grid
attribute [local congr] Zy Zz Z0 Yl Z1 Z2 Ym Yn Yo Yp Z3 Z4 Yq Xp Xq Xr Xs Xt Xv Xw Xx Xy Xu Z6 Z7 Xz Z8 Z9 Zr Ya Z5
def ltE (a b:Ed):Prop:=a.1<b.1\/a.1=b.1/\a.2<b.2
theorem Dv (a:Ed): ¬ltE a a:=by unfold ltE;omega
theorem Ziv {a b:Ed} (h:ltE a b): ¬ltE b a:=by unfold ltE at*;omega
theorem K4: ∀{p q:List Ed},p.Pairwise ltE->q.Pairwise ltE->(∀x,x∈p↔x∈q)->p=q
 | [],[],_,_,_=>rfl
 | [],b::q,_,_,h=>by have:=(h b).2 (Zrh ..);cases this
 |a::p,[],_,_,h=>by have:=(h a).1 (Zrh ..);cases this
 |a::p,b::q,hp,hq,h=>by
  rw[Zqx]at hp hq;have e:a=b:=by
   rcases Zp9.1 ((h a).1 (Zrh ..))with h1|h1
   ·exact h1
   ·rcases Zp9.1 ((h b).2 (Zrh ..))with h2|h2
    ·exact h2.symm
    ·exact absurd (hp.1 b h2) (Ziv (hq.1 a h1))
  subst e;have:p=q:=K4 hp.2 hq.2 λx=>by
   constructor
   ·intro hx;rcases Zp9.1 ((h x).1 (Zqe _ hx))with h1|h1
    ·subst h1;exact absurd (hp.1 x hx) (Dv x)
    ·exact h1
   ·intro hx;rcases Zp9.1 ((h x).2 (Zqe _ hx))with h1|h1
    ·subst h1;exact absurd (hq.1 x hx) (Dv x)
    ·exact h1
  rw[this]
theorem Dw {α:Type} [Inhabited α] (l:List α) {j:Nat} (hj:j<l.length):l.toArray[j]! =l[j]:=by
 rw[getElem!_pos l.toArray j (by simpa using hj)];simp
theorem J4 {α:Type} [Inhabited α] [DecidableEq α] (l:List α) {j:Nat} (hj:j<l.length):Lib.keeps l.toArray j=true↔j=0\/ ∃h:0<j,l[j]≠l[j-1]:=by
 unfold Lib.keeps;rw[Dw l hj,Dw l (show j-1<l.length by omega)];simp;constructor
 ·rintro (h|h)
  ·exact .inl h
  ·by_cases h0:j=0
   ·exact .inl h0
   ·exact .inr ⟨by omega,h⟩
 ·rintro (h|⟨_,h⟩)
  ·exact .inl h
  ·exact .inr h
theorem compact_all {α:Type} [Inhabited α] [DecidableEq α] (l:List α): ∀(j:Nat) (hj:j<l.length),l[j]∈Lib.compact l:=by
 have key: ∀(j:Nat) (hj:j<l.length),Lib.keeps l.toArray j=true->l[j]∈Lib.compact l:=by
  intro j hj hk;unfold Lib.compact Lib.compactUpTo;rw[<-Dw l hj];exact List.mem_map_of_mem (List.mem_filter.2 ⟨Zrt.2 hj,hk⟩)
 intro j
 induction j with
 |zero=>intro hj;exact key 0 hj ((J4 l hj).2 (.inl rfl))
 |succ j ih=>
  intro hj;by_cases e:l[j+1]=l[j]
  ·rw[e];exact ih (by omega)
  ·exact key (j+1) hj ((J4 l hj).2 (.inr ⟨by omega,e⟩))
theorem Zc1 (l:List Ed) (h:l.Pairwise λa b=>leZ a b=true):(Lib.compact l).Pairwise ltE:=by
 unfold Lib.compact Lib.compactUpTo;rw[List.pairwise_map,List.pairwise_filter];refine(List.pairwise_lt_range (n:=l.length)).imp_of_mem λ{a b} ha hb hab ka kb=> ?_;have ha:=Zrt.1 ha;have hb:=Zrt.1 hb;rw[Dw l ha,Dw l hb];rcases(J4 l hb).1 kb with h0|⟨h0,hne⟩
 ·omega
 have g:=List.pairwise_iff_getElem.1 h;have h1:leZ l[a] l[b-1]=true:=by
  by_cases e:a=b-1
  ·subst e;rw[Tb];exact .inr ⟨rfl,by omega⟩
  ·exact g a (b-1) ha (by omega) (by omega)
 have h2:leZ l[b-1] l[b]=true:=g (b-1) b (by omega) hb (by omega);have h3:l[b]≠l[b-1]:=hne;generalize l[a]=u at*
 generalize l[b]=v at*
 generalize l[b-1]=w at*
 have h4: ¬leZ v w=true:=λe=>h3 (Zcv _ _ e h2);rw[Tb]at h1 h2 h4;unfold ltE;omega
theorem Zni (n:Nat):(edg n).Pairwise ltE:=Zc1 _ (Mi (λa b=>by rw[Tb,Tb];omega) (λa b c h h'=>by rw[Tb]at h h'⊢;omega) _)
theorem Znj (n:Nat) (e:Ed):e∈edg n↔e∈Di n:=by
 constructor
 ·intro h;exact(Y9 leZ _).mem_iff.1 (H7 h)
 ·intro h;have h:=(Y9 leZ _).mem_iff.2 h;obtain⟨j,hj,rfl⟩:=List.getElem_of_mem h;exact compact_all _ j hj
theorem Zlv (n:Nat) (e:Ed):e∈Di n↔ ∃t∈tri n,e∈Lr t:=by
 unfold Di;rw[Zr4];exact⟨λ⟨t,h,h'⟩=>⟨t,(Y9 leT _).mem_iff.1 h,h'⟩,λ⟨t,h,h'⟩=>⟨t,(Y9 leT _).mem_iff.2 h,h'⟩⟩
theorem Zc2 {i j k:Nat} (h1:i≠j) (h2:i≠k) (h3:j≠k):(Xa i j k).1<(Xa i j k).2.1/\(Xa i j k).2.1<(Xa i j k).2.2:=by
 unfold Xa;split<;>split<;>try split
 all_goals first|(simp only;omega)|omega
theorem pt_ne {n f a b a' b':Nat} (h:Yf n) (hne:a≠a'\/b≠b'):pt n f a b≠pt n f a' b':=by
 intro e;have hs:=Qz h;have e1:a*(840/n)=a'*(840/n):=congrArg Pl.a e;have e2:b*(840/n)=b'*(840/n):=congrArg Pl.b e;rcases hne with hne|hne
 ·exact hne (Nat.eq_of_mul_eq_mul_right (by omega) e1)
 ·exact hne (Nat.eq_of_mul_eq_mul_right (by omega) e2)
theorem Zlw {n:Nat} (h:Yf n): ∀t∈tri n,t.1<t.2.1/\t.2.1<t.2.2:=by
 intro t ht;unfold tri H5 rowC at ht;simp only[Zr4,Zrt]at ht;obtain⟨f,hf,a,ha,b,hb,ht⟩:=ht;have hp: ∀i j i' j',i+j<=n->i'+j'<=n->(i≠i'\/j≠j')->idx n (pt n f i j)≠idx n (pt n f i' j'):=λi j i' j' h1 h2 h3 e=>pt_ne h h3 (Zm4 h (K0 hf h1) (K0 hf h2) rfl e);unfold Ua at ht;rcases Zp9.1 ht with rfl|ht
 ·exact Zc2 (hp _ _ _ _ (by omega) (by omega) (by omega)) (hp _ _ _ _ (by omega) (by omega) (by omega)) (hp _ _ _ _ (by omega) (by omega) (by omega))
 ·split at ht
  ·obtain rfl:=List.mem_singleton.1 ht;exact Zc2 (hp _ _ _ _ (by omega) (by omega) (by omega)) (hp _ _ _ _ (by omega) (by omega) (by omega)) (hp _ _ _ _ (by omega) (by omega) (by omega))
  ·cases ht
def rowE (i:Nat) (r:List Int):List Ed:=(r.filter λk=>decide ((i:Int)<k)).map λk=>((i:Int),k)
def edgR (N:Nat) (A:List (List Int)):List Ed:=(List.range N).flatMap λi=>rowE i (A.getD i [])
theorem Znk {n:Nat} (h:Yf n) {L:List T3} (hp:L.Perm (tri n)):edgR (Zj n).length (Rj (Zj n).length (L.flatMap prs))=edg n:=by
 refine K4 ?_ (Zni n) λe=> ?_
 ·unfold edgR;refine Qq (Q:=λa b=>a<b) List.pairwise_lt_range (λi _=> ?_) λi _ j _ hij u hu v hv=> ?_
  ·unfold rowE;rw[List.pairwise_map];exact((R5 i).1.filter _).imp λ{a b} h=> .inr ⟨rfl,h⟩
  ·unfold rowE at hu hv;obtain⟨x,_,rfl⟩:=Zsi.1 hu;obtain⟨y,_,rfl⟩:=Zsi.1 hv;refine .inl ?_;show(i:Int)<(j:Int);omega
 ·rw[Znj,Zlv];unfold edgR;rw[Zr4];constructor
  ·rintro ⟨i,hi,he⟩
   have hi:=Zrt.1 hi;unfold rowE at he;obtain⟨k,hk,rfl⟩:=Zsi.1 he;obtain⟨h1,h2⟩:=List.mem_filter.1 hk;have h2:=of_decide_eq_true h2;obtain⟨k',rfl,h3⟩:=((R5 i).2.1 hi k).1 h1;obtain⟨t,ht,h4⟩:=Zr4.1 h3;have ht:=hp.mem_iff.1 ht;obtain⟨l1,l2⟩:=Zlw h t ht;refine⟨t,ht, ?_⟩;obtain⟨x,y,z⟩:=t;simp only[prs,Lr,Zp9,List.mem_nil_iff,or_false,Prod.mk.injEq]at h4 l1 l2⊢;omega
  ·rintro ⟨t,ht,he⟩
   obtain⟨l1,l2⟩:=Zlw h t ht;obtain⟨b1,b2,b3⟩:=Zai h t ht;have hL:=hp.mem_iff.2 ht;have key: ∀i k:Nat,(i,k)∈prs t->i<k->i<(Zj n).length->e=((i:Int),(k:Int))-> ∃a,a∈List.range (Zj n).length/\e∈rowE a ((Rj (Zj n).length (L.flatMap prs)).getD a []):=by
    intro i k hik hlt hi e1;refine⟨i,Zrt.2 hi, ?_⟩;unfold rowE;rw[e1];refine Zsi.2 ⟨(k:Int),List.mem_filter.2 ⟨((R5 i).2.1 hi _).2 ⟨k,rfl,Zr4.2 ⟨t,hL,hik⟩⟩,decide_eq_true (by omega)⟩,rfl⟩
   simp only[Lr,Zp9,List.mem_nil_iff,or_false]at he;rcases he with e1|e1|e1
   ·exact key t.1 t.2.1 (by simp[prs]) l1 b1 e1
   ·exact key t.1 t.2.2 (by simp[prs]) (by omega) b1 e1
   ·exact key t.2.1 t.2.2 (by simp[prs]) l2 b2 e1
section
variable (fu d:Nat) (hf:18446744073709551616<=fu)
include hf
set_option maxHeartbeats 4000000 in
theorem K5 (n:Nat) (h:Yf n):cl fu (d+9) fn_synopticref03_Edges [I n] []=OK (V.tup [V.c (C.sl (edg n).length (fl edC (edg n))),I 0]):=by
 obtain⟨L,hp,hA⟩:=Cp fu d hf n h;have hE:=Znk h hp;have heL:=Pw h;have hNl:=Q0 h;have hcnt:=Px fu (d+7) n h;have hRl:=Gb (Zj n).length (L.flatMap prs);have hin: ∀i,∀k∈(Rj (Zj n).length (L.flatMap prs)).getD i [],i<(Zj n).length->0<=k/\k<=1000:=by
  intro i k hk hi;obtain⟨k',rfl,h3⟩:=((R5 i).2.1 hi k).1 hk;obtain⟨t,ht,h4⟩:=Zr4.1 h3;obtain⟨b1,b2,b3⟩:=Zai h t (hp.mem_iff.1 ht);obtain⟨x,y,z⟩:=t;simp only[prs,Zp9,List.mem_nil_iff,or_false,Prod.mk.injEq]at h4 b1 b2 b3;omega
 have hrl: ∀i,((Rj (Zj n).length (L.flatMap prs)).getD i []).length<=30000:=λi=>by
  have h1:((Rj (Zj n).length (L.flatMap prs)).getD i []).length<=(L.flatMap prs).length:=(R5 i).2.2;have h2:=Ds h;rw[prs_length,hp.length_eq]at h1;omega
 generalize Rj (Zj n).length (L.flatMap prs)=A at*
 unfold edgR at hE;generalize (Zj n).length=N at*
 have hpre: ∀j,j<=N->((List.range j).flatMap λi=>rowE i (A.getD i [])).length<=15000:=by
  intro j hj;rw[<-hE]at heL;refine Zqb ?_ heL;obtain⟨m,rfl⟩:=Nat.exists_eq_add_of_le hj;rw[List.range_add,Zrw,Zpz];omega
 rw[<-hE];rw[eq_synopticref03_Edges,hcnt];simp only[Zd,QM];rw[Jv Zcy,hA];simp only[Zd,QM];rw[Zs (λj:Nat=>(fl edC ((List.range j).flatMap λi=>rowE i (A.getD i [])),(j:Int),())) 0 (fl edC ((List.range N).flatMap λi=>rowE i (A.getD i [])),(N:Int),()) N ?_ ?_ ?_ (by omega)]
 ·have hl:=Zf Xm ((List.range N).flatMap λi=>rowE i (A.getD i []));generalize (List.range N).flatMap (λi=>rowE i (A.getD i []))=E at*
  have hdv:E.length*2/2=E.length:=by omega
  have htk:List.take (E.length*2) (fl edC E)=fl edC E:=Zp5 (by omega);simp(disch:=omega)only[Zd,QM,QD,hl,hdv,Zpt,htk]
 ·rfl
 ·intro j hj;have hdr:=B9 A (show j<A.length by omega);have hb:=hpre j (by omega);have hb2:=hpre (j+1) (by omega);have hsu:(List.range (j+1)).flatMap (λi=>rowE i (A.getD i []))=(List.range j).flatMap (λi=>rowE i (A.getD i []))++rowE j (A.getD j []):=by rw[Zrq,Zrw];simp
  rw[hsu]at hb2⊢;have hk:=λk hk=>hin j k hk hj;have hrl:=hrl j;generalize (List.range j).flatMap (λi=>rowE i (A.getD i []))=E0 at*
  generalize A.getD j []=row at*
  have hdv: ∀E:List Ed,E.length*2/2=E.length:=λE=>by omega
  have hl:=λE=>Zf Xm E;have hro: ∀m,m<=row.length->(rowE j (row.take m)).length<=m:=by
   intro m hm;unfold rowE;rw[Zqf];exact Zqb (List.length_filter_le ..) (by rw[Zql];omega)
  simp(disch:=omega)only[Zd,QM,QD,Vs,Zpu,Zp6,hdr,hl,hdv];rw[Zs (λm:Nat=>(fl edC (E0++rowE j (row.take m)),(m:Int),())) 0 (fl edC (E0++rowE j row),((row.length:Nat):Int),()) row.length ?_ ?_ ?_ (by omega)]
  ·simp(disch:=omega)only[Zd,QM,QD,hl,hdv];rfl
  ·simp only[Zrm,rowE,List.filter_nil,List.map_nil,Zry];rfl
  ·intro m hm;have hia:=ints_at row hm;have hkm:=hk row[m] (Zq2 hm);have hr1:=hro m (by omega);have hr2:=hro (m+1) (by omega);have hst:rowE j (row.take (m+1))=rowE j (row.take m)++(if(j:Int)<row[m]then[((j:Int),row[m])]else[]):=by
    unfold rowE;rw[Zqs hm,List.filter_append,Zrz];by_cases hlt:(j:Int)<row[m]
    ·rw[if_pos hlt];simp[hlt]
    ·rw[if_neg hlt];simp[hlt]
   rw[hst]at hr2⊢;generalize row[m]=v at*
   generalize rowE j (row.take m)=E1 at*
   have hEl:(E0++E1).length<=100000:=by rw[Zpz];omega
   by_cases hlt:(j:Int)<v
   ·rw[if_pos hlt]at hr2⊢;rw[<-Zqq];have hsn:fl edC (E0++E1)++[C.v (.int .i64 (j:Int)),C.v (.int .i64 v)]=fl edC (E0++E1++[((j:Int),v)]):=Kx (E0++E1) ((j:Int),v);have hsl:(E0++E1++[((j:Int),v)]).length=(E0++E1).length+1:=by rw[Zpz];rfl
    generalize E0++E1++[((j:Int),v)]=E3 at*
    generalize E0++E1=E2 at*
    simp(disch:=omega)only[Zd,QM,QD,Vs,Zpu,Zp6,hia,hl,hdv,hsn,hsl];rfl
   ·rw[if_neg hlt,Zry];generalize E0++E1=E2 at*
    simp(disch:=omega)only[Zd,QM,QD,Vs,Zpu,Zp6,hia,hl,hdv];rfl
  ·rw[Zq7];simp(disch:=omega)only[Zd,QM,QD,hl,hdv]
 ·have hl:=Zf Xm ((List.range N).flatMap λi=>rowE i (A.getD i []));have hle:=hpre N (by omega);generalize (List.range N).flatMap (λi=>rowE i (A.getD i []))=E at*
  have hdv:E.length*2/2=E.length:=by omega
  simp(disch:=omega)only[Zd,QM,QD,hl,hdv]
end
end Go.Proofs.YtjmempcalaliiaaGreatDoor
/- What reading codes comes to: numbers, vectors, states. -/
namespace Go.Proofs.YtjmempcalaliiaaGreatDoor
open Go Go.PM Go.Grid
attribute [local congr] Zy Zz Z0 Yl Z1 Z2 Ym Yn Yo Yp Z3 Z4 Yq Xp Xq Xr Xs Xt Xv Xw Xx Xy Xu Z6 Z7 Xz Z8 Z9 Zr Ya Z5
def bytes (bs:List Int):Prop:=(∀x∈bs,0<=x/\x<=255)/\bs.length<=1000
abbrev Yz (bs:List Int) (i:Nat):PM.Obj:= .ob ty_synopticfield_Codes 0 [C.sl bs.length (ik .u8 bs),C.v (.int .i64 (i:Int))]
def wid (lo hi:Int) (l:List Int):Prop:= ∀v∈l,lo<=v/\v<=hi
theorem Zc3 {lo hi:Int} {l:List Int} {v:Int} (h:wid lo hi l) (hv:lo<=v/\v<=hi):wid lo hi (l++[v]):=by
 intro x hx;rcases Zrx.1 hx with hx|hx
 ·exact h x hx
 ·rw[List.mem_singleton.1 hx];exact hv
theorem Zpf {lo hi:Int} {l:List Int} (h:wid lo hi l) {j:Nat} (hj:j<l.length):lo<=l[j]/\l[j]<=hi:=h _ (Zq2 hj)
theorem ik_at (kd:IntKind) (r:List Int) {m:Nat} (h:m<r.length):(ik kd r).drop m=C.v (.int kd r[m])::ik kd (r.drop (m+1)):=by
 unfold ik;rw[<-List.map_drop,Zqn h,Zq3]
theorem or24 {x y:Nat} (hx:x<16777216) (hy:y<16777216): ∃z:Nat,z<16777216/\IntKind.i64.wrap ((BitVec.ofInt (IntKind.bits .i64) (x:Int)|||BitVec.ofInt (IntKind.bits .i64) (y:Int)).toNat:Int)=(z:Int):=by
 have h1: ∀x:Nat,x<16777216->(BitVec.ofInt (IntKind.bits .i64) (x:Int)).toNat=x:=by
  intro x hx;rw[BitVec.toNat_ofInt];show(((x:Int)%((2^64:Nat):Int))).toNat=x;omega
 have h2:(BitVec.ofInt (IntKind.bits .i64) (x:Int)|||BitVec.ofInt (IntKind.bits .i64) (y:Int)).toNat=x|||y:=by rw[BitVec.toNat_or,h1 x hx,h1 y hy]
 have h3:x|||y<2^24:=Nat.or_lt_two_pow (by omega) (by omega)
 refine⟨x|||y,by omega, ?_⟩;rw[h2,Xd (by omega) (by omega)]
section
variable (fu d:Nat) (hf:18446744073709551616<=fu)
theorem Znl (bs:List Int) (i:Nat):cl fu (d+1) fn_synopticfield_Codes_Left [V.ptr 1000000 0] [Yz bs i]=some ⟨B (decide (i<bs.length)),[Yz bs i],none⟩:=by
 unfold Yz;rw[eq_synopticfield_Codes_Left];by_cases h:i<bs.length
 ·rw[decide_eq_true h];simp(disch:=omega)only[Zd,QM,QD]
 ·rw[decide_eq_false h];simp(disch:=omega)only[Zd,QM,QD]
theorem Tc {bs:List Int} (hb:bytes bs) {i:Nat} (hi:i<=1000) (n:Nat) (hn:1<=n/\n<=1000000):
  ∃v j:Nat,v<n/\j<=1000/\cl fu (d+2) fn_synopticfield_Codes_Next [V.ptr 1000000 0,I n] [Yz bs i]=some ⟨I v,[Yz bs j],none⟩:=by
 have hL:=Znl fu d bs i;obtain⟨hb,hl⟩:=hb;unfold Yz at hL⊢;rw[eq_synopticfield_Codes_Next,hL];by_cases h:i<bs.length
 ·have hx:=hb bs[i] (Zq2 h);have hia:=ik_at .u8 bs h;have e1:IntKind.i64.wrap bs[i]=bs[i]:=Xd (by omega) (by omega);have e2:Int.tmod bs[i] (n:Int)=bs[i]%(n:Int):=IntWalk.rem_in _ _ hx.1;have e3:(i:Int)+1-1=(i:Int):=by omega
  have h1:0<=bs[i]%(n:Int):=Int.emod_nonneg _ (by omega);have h2:bs[i]%(n:Int)<n:=Int.emod_lt_of_pos _ (by omega);rw[decide_eq_true h];refine⟨(bs[i]%(n:Int)).toNat,i+1,by omega,by omega, ?_⟩;rw[Int.toNat_of_nonneg h1];simp(disch:=omega)only[Zd,QM,QD,Zpv,Zpy,Zpt,Nat.reduceAdd,e3,Zpu,Zp6,hia,e1,e2,Zqm,Zq8]
 ·rw[decide_eq_false h];refine⟨0,i,by omega,hi, ?_⟩;simp(disch:=omega)only[Zd,QM,QD,Zpv,Zpy,Zpt,Nat.reduceAdd];rfl
theorem Zan {bs:List Int} (hb:bytes bs) {i:Nat} (hi:i<=1000):
  ∃n j:Nat,(n=1\/n=2)/\j<=1000/\cl fu (d+3) fn_synopticfield_Codes_Frequency [V.ptr 1000000 0] [Yz bs i]=some ⟨I n,[Yz bs j],none⟩:=by
 obtain⟨v,j,hv,hj,e⟩:=Tc fu d hb hi 5 (by omega);unfold Yz at e⊢;rw[eq_synopticfield_Codes_Frequency];replace e:cl fu (d+2) fn_synopticfield_Codes_Next [V.ptr 1000000 0,I 5] _=_:=e;have hdr: ∃n:Nat,(n=1\/n=2)/\ ∃r,List.drop v [C.v (.int .i64 1),C.v (.int .i64 1),C.v (.int .i64 1),C.v (.int .i64 1),C.v (.int .i64 2)]=C.v (.int .i64 (n:Int))::r:=by
  rcases(show v=0\/v=1\/v=2\/v=3\/v=4 by omega)with rfl|rfl|rfl|rfl|rfl
  ·exact⟨1, .inl rfl,_,rfl⟩
  ·exact⟨1, .inl rfl,_,rfl⟩
  ·exact⟨1, .inl rfl,_,rfl⟩
  ·exact⟨1, .inl rfl,_,rfl⟩
  ·exact⟨2, .inr rfl,_,rfl⟩
 obtain⟨n,hn,r,hdr⟩:=hdr;refine⟨n,j,hn,hj, ?_⟩;simp(disch:=omega)only[Zd,QM,QD,e,Zpv,Zpy,Zpt,Nat.reduceAdd,Zpu,Zp6,hdr]
theorem Ziw {bs:List Int} (hb:bytes bs) {i:Nat} (hi:i<=1000):
  ∃a b c j:Nat,(1<=a/\a<=4)/\(1<=b/\b<=4)/\(1<=c/\c<=4)/\j<=1000/\cl fu (d+3) fn_synopticfield_Codes_Scheme [V.ptr 1000000 0] [Yz bs i]=some ⟨V.agg [C.v (.int .i64 (a:Int)),C.v (.int .i64 (b:Int)),C.v (.int .i64 (c:Int))],[Yz bs j],none⟩:=by
 obtain⟨v1,j1,hv1,hj1,e1⟩:=Tc fu d hb hi 4 (by omega);obtain⟨v2,j2,hv2,hj2,e2⟩:=Tc fu d hb hj1 4 (by omega);obtain⟨v3,j3,hv3,hj3,e3⟩:=Tc fu d hb hj2 4 (by omega);unfold Yz at e1 e2 e3⊢;replace e1:cl fu (d+2) fn_synopticfield_Codes_Next [V.ptr 1000000 0,I 4] _=_:=e1;replace e2:cl fu (d+2) fn_synopticfield_Codes_Next [V.ptr 1000000 0,I 4] _=_:=e2;replace e3:cl fu (d+2) fn_synopticfield_Codes_Next [V.ptr 1000000 0,I 4] _=_:=e3;refine⟨1+v1,1+v2,1+v3,j3,by omega,by omega,by omega,hj3, ?_⟩;rw[eq_synopticfield_Codes_Scheme];simp(disch:=omega)only[Zd,QM,QD,e1,e2,e3,Zpv,Zpy,Zpt,Nat.reduceAdd,Zqm,Zq8]
theorem Mj {bs:List Int} (hb:bytes bs) {i:Nat} (hi:i<=1000) (most:Nat) (hm:most<=10000000000000):
  ∃(v:Int) (j:Nat),(-(most:Int)<=v/\v<=most)/\j<=1000/\cl fu (d+3) fn_synopticfield_Codes_Signed [V.ptr 1000000 0,I most] [Yz bs i]=some ⟨I v,[Yz bs j],none⟩:=by
 obtain⟨v1,j1,hv1,hj1,e1⟩:=Tc fu d hb hi 256 (by omega);obtain⟨v2,j2,hv2,hj2,e2⟩:=Tc fu d hb hj1 256 (by omega);obtain⟨v3,j3,hv3,hj3,e3⟩:=Tc fu d hb hj2 256 (by omega);obtain⟨v4,j4,hv4,hj4,e4⟩:=Tc fu d hb hj3 2 (by omega);unfold Yz at e1 e2 e3 e4⊢;replace e1:cl fu (d+2) fn_synopticfield_Codes_Next [V.ptr 1000000 0,I 256] _=_:=e1;replace e2:cl fu (d+2) fn_synopticfield_Codes_Next [V.ptr 1000000 0,I 256] _=_:=e2;replace e3:cl fu (d+2) fn_synopticfield_Codes_Next [V.ptr 1000000 0,I 256] _=_:=e3;replace e4:cl fu (d+2) fn_synopticfield_Codes_Next [V.ptr 1000000 0,I 2] _=_:=e4;have w1:(v1:Int)*2^16=((v1*65536:Nat):Int):=by omega
 have w2:(v2:Int)*2^8=((v2*256:Nat):Int):=by omega
 obtain⟨z,hz,o1⟩:=or24 (x:=v1*65536) (y:=v2*256) (by omega) (by omega);obtain⟨y,hy,o2⟩:=or24 (x:=z) (y:=v3) hz (by omega);have t1:Int.tmod (y:Int) ((most:Int)+1)=((y%(most+1):Nat):Int):=by
  rw[IntWalk.rem_in _ _ (by omega),Int.natCast_emod,Zqm];rfl
 have hq:y%(most+1)<=most:=by have:=Nat.mod_lt y (show 0<most+1 by omega);omega
 rw[eq_synopticfield_Codes_Signed];simp(disch:=omega)only[Zd,QM,QD,e1,e2,w1,w2,o1,e3,o2,t1,Zpv,Zpy,Zpt,Nat.reduceAdd];generalize y%(most+1)=q at*
 by_cases h4:v4=1
 ·refine⟨0-(q:Int),j4,by omega,hj4, ?_⟩;simp(disch:=omega)only[Zd,QM,QD,e4,Zpv,Zpy,Zpt,Nat.reduceAdd]
 ·refine⟨(q:Int),j4,by omega,hj4, ?_⟩;simp(disch:=omega)only[Zd,QM,QD,e4,Zpv,Zpy,Zpt,Nat.reduceAdd]
theorem Znm (bs:List Int) (k:Nat):cl fu (d+1) fn_synopticfield_New [V.c (C.sl bs.length (ik .u8 bs)),I (k:Int)] []=some ⟨V.ptr 1000000 0,[Yz (bs.take k) 0],none⟩:=by
 rw[eq_synopticfield_New];unfold Yz;by_cases h:k<bs.length
 ·have e1:(ik .u8 bs).take k=ik .u8 (bs.take k):=List.map_take.symm;simp(disch:=omega)only[Zd,QM,QD,Zpu,Zp6,e1,Zql,Zq4];rfl
 ·rw[show bs.take k=bs from Zp5 (by omega)];simp(disch:=omega)only[Zd,QM,QD];rfl
end
end Go.Proofs.YtjmempcalaliiaaGreatDoor
/- Vectors and states that are made from codes. -/
namespace Go.Proofs.YtjmempcalaliiaaGreatDoor
open Go Go.PM Go.Grid
attribute [local congr] Zy Zz Z0 Yl Z1 Z2 Ym Yn Yo Yp Z3 Z4 Yq Xp Xq Xr Xs Xt Xv Xw Xx Xy Xu Z6 Z7 Xz Z8 Z9 Zr Ya Z5
structure StOk (n:Nat) (dp fw:List Int):Prop where
 dl:dp.length=(Zj n).length
 fl:fw.length=(edg n).length
 dw:wid 0 16777216 dp
 fw:wid (-1000000) 1000000 fw
theorem Znn {n:Nat} (h:n=1\/n=2):Yf n:=by unfold Yf;omega
section
variable (fu d:Nat) (hf:18446744073709551616<=fu)
include hf
set_option maxHeartbeats 4000000 in
theorem Aa {bs:List Int} (hb:bytes bs) {i:Nat} (hi:i<=1000) (n most:Nat) (hn:n<=1000000) (hm:most<=10000000000000) (top:Int) (ht:(most:Int)<=top/\9<=top):
  ∃(l:List Int) (j:Nat),l.length=n/\wid (-top) top l/\j<=1000/\cl fu (d+4) fn_synopticfield_Codes_Vector [V.ptr 1000000 0,I n,I most] [Yz bs i]=some ⟨V.own 1000001 0 l.length,[Yz bs j, .sb ty_int 0 (ints l)],none⟩:=by
 obtain⟨v1,j1,hv1,hj1,e1⟩:=Mj fu d hb hi most (by omega);obtain⟨v2,j2,hv2,hj2,e2⟩:=Mj fu d hb hj1 most (by omega);obtain⟨v3,j3,hv3,hj3,e3⟩:=Mj fu d hb hj2 most (by omega);obtain⟨v4,j4,hv4,hj4,e4⟩:=Mj fu d hb hj3 9 (by omega);have hN:=λ(i:Nat) (hi:i<=1000)=>Tc fu (d+1) hb hi 7 (by omega);replace e4:cl fu (d+3) fn_synopticfield_Codes_Signed [V.ptr 1000000 0,I 9] _=_:=e4;unfold Yz at*
 rw[eq_synopticfield_Codes_Vector];simp(disch:=omega)only[Zd,QM,QD,e1,e2,e3,e4,Zpv,Zpy,Zpt,Nat.reduceAdd];refine Ql (A:=List C×Int×(C×Int×Unit)×Unit) (B:=Out) (fu:=fu) (λo=> ∃(l:List Int) (j:Nat),l.length=n/\wid (-top) top l/\j<=1000/\o=some ⟨V.own 1000001 0 l.length,[Yz bs j, .sb ty_int 0 (ints l)],none⟩)
  (λy=> ∃(l:List Int) (j:Nat),l.length<=n/\wid (-top) top l/\j<=1000/\y=(ints l,((l.length:Nat):Int),(C.sl bs.length (ik .u8 bs),(j:Int),()),())) (λy=>(n:Int).toNat-y.2.1.toNat)
  (λe y=>e=0/\ ∃(l:List Int) (j:Nat),l.length=n/\wid (-top) top l/\j<=1000/\y=(ints l,((l.length:Nat):Int),(C.sl bs.length (ik .u8 bs),(j:Int),()),())) ?_ ?_ ?_ ?_
 ·exact⟨[],j4,by simp,(by intro v hv;cases hv),hj4,rfl⟩
 ·show(n:Int).toNat-(0:Int).toNat<fu;omega
 ·rintro y ⟨l,j,hl,hw,hj,rfl⟩
  by_cases hlt:l.length<n
  ·obtain⟨v,k,hv,hk,e5⟩:=hN j hj;replace e5:cl fu (d+3) fn_synopticfield_Codes_Next [V.ptr 1000000 0,I 7] _=_:=e5;have w0:IntKind.i64.wrap (0-(most:Int))=0-(most:Int):=Xd (by omega) (by omega);obtain⟨x,r,hx,hdr⟩: ∃(x:Int) (r:List C),(-top<=x/\x<=top)/\List.drop v [C.v (.int .i64 v1),C.v (.int .i64 v2),C.v (.int .i64 v3),C.v (.int .i64 v4),C.v (.int .i64 0),C.v (.int .i64 (most:Int)),C.v (.int .i64 (0-(most:Int)))]=C.v (.int .i64 x)::r:=by
    rcases(show v=0\/v=1\/v=2\/v=3\/v=4\/v=5\/v=6 by omega)with rfl|rfl|rfl|rfl|rfl|rfl|rfl
    ·exact⟨v1,_,by omega,rfl⟩
    ·exact⟨v2,_,by omega,rfl⟩
    ·exact⟨v3,_,by omega,rfl⟩
    ·exact⟨v4,_,by omega,rfl⟩
    ·exact⟨0,_,by omega,rfl⟩
    ·exact⟨(most:Int),_,by omega,rfl⟩
    ·exact⟨0-(most:Int),_,by omega,rfl⟩
   refine .inl ⟨(ints (l++[x]),(((l++[x]).length:Nat):Int),(C.sl bs.length (ik .u8 bs),(k:Int),()),()), ?_,⟨l++[x],k,by simp;omega,Zc3 hw hx,hk,rfl⟩, ?_⟩
   ·simp(disch:=omega)only[Zd,QM,QD,e5,Zpv,Zpy,Zpt,Nat.reduceAdd,w0,Zpu,Zp6,hdr,Zh,Zqj,R4,Zpz,Zqm,Zq8]
   ·show(n:Int).toNat-(((l++[x]).length:Nat):Int).toNat<(n:Int).toNat-((l.length:Nat):Int).toNat;rw[Zpz,List.length_singleton];omega
  ·refine .inr ⟨0,(ints l,((l.length:Nat):Int),(C.sl bs.length (ik .u8 bs),(j:Int),()),()), ?_,rfl,l,j,by omega,hw,hj,rfl⟩;simp(disch:=omega)only[Zd,QM,QD,Zh,Zqj,Zp6]
 ·rintro e z ⟨rfl,l,j,hl,hw,hj,rfl⟩
  refine⟨l,j,hl,hw,hj, ?_⟩;have htk:List.take l.length (ints l)=ints l:=Zp5 (by rw[Zh];exact Zp0 _);simp(disch:=omega)only[Zd,QM,QD,Zh,Zqj,Zp6,Zpt,htk]
omit hf in
theorem Ze8 (n:Nat) (h:Yf n):cl fu (d+1) fn_synopticref22_Nodes [I n] []=OK (I ((Zj n).length:Int)):=by
 rw[T4 h,eq_synopticref22_Nodes];rcases Qk h with rfl|rfl|rfl|rfl|rfl|rfl|rfl|rfl<;>(show @Eq (Option Out) _ _;kernel_rfl)
end
end Go.Proofs.YtjmempcalaliiaaGreatDoor
/- Edges as the program hands them out, checks of states, degrees. -/
namespace Go.Proofs.YtjmempcalaliiaaGreatDoor
open Go Go.PM Go.Grid
attribute [local congr] Zy Zz Z0 Yl Z1 Z2 Ym Yn Yo Yp Z3 Z4 Yq Xp Xq Xr Xs Xt Xv Xw Xx Xy Xu Z6 Z7 Xz Z8 Z9 Zr Ya Z5
def at0 (l:List Int) (i:Nat):Int:=l.getD i 0
theorem Zao {l:List Int} {i:Nat} (h:i<l.length):at0 l i=l[i]:=by
 unfold at0;rw[Zp2,Zpw h];rfl
theorem Y6 (l:List Int) {i:Nat} (h:i<l.length):(ints l).drop i=C.v (.int .i64 (at0 l i))::ints (l.drop (i+1)):=by
 rw[ints_at l h,Zao h]
theorem Tr (l:List Int) {i:Nat} (h:i<l.length) (v:Int):putAt (ints l) i [C.v (.int .i64 v)]=ints (l.set i v):=by
 unfold putAt;rw[List.set_eq_take_append_cons_drop,if_pos h,J2,J1];simp[ik]
def R6 (l:List Int) (i:Nat) (v:Int):List Int:=l.set i (at0 l i+v)
theorem Vt (l:List Int) (i:Nat) (v:Int):(R6 l i v).length=l.length:=by simp[R6]
theorem Dx (l:List Int) (i:Nat) (v:Int) (k:Nat):at0 (R6 l i v) k=at0 l k+if k=i/\i<l.length then v else 0:=by
 unfold R6 at0;rw[Zp2,List.getElem?_set];by_cases h:i=k
 ·subst h;by_cases hl:i<l.length
  ·simp[hl,Zp2]
  ·rw[if_pos rfl,if_neg hl,if_neg (λe=>hl e.2),Zp2,Zsd (by omega)];rfl
 ·rw[if_neg h,if_neg (λe=>h e.1.symm),Zp2];simp
theorem Ab (l:List Int) {i:Nat} (h:i<l.length) (v:Int):putAt (ints l) i [C.v (.int .i64 (at0 l i+v))]=ints (R6 l i v):=Tr l h _
def Mp (lo hi:Int) (l:List Int):Bool:=l.any λv=> !(decide (lo<=v)&&decide (v<=hi))
theorem Dy {lo hi:Int} {l:List Int}:Mp lo hi l=false↔wid lo hi l:=by
 unfold Mp wid;rw[Zrs];simp
theorem Rl (n:Nat):(edgesL n).length=(edg n).length:=by simp[edgesL]
theorem Ze9 (n:Nat) {j:Nat} (h':j<(edg n).length):(edgesL n)[j]? =some [I ((j:Nat):Int),V.agg [C.v (.int .i64 (edg n)[j].1),C.v (.int .i64 (edg n)[j].2)]]:=by
 unfold edgesL;rw[Zp4,List.getElem?_zipIdx,Zpw h'];simp
theorem Ac (n:Nat) {j:Nat} (h:j<(edgesL n).length) (h':j<(edg n).length):(edgesL n)[j]=[I ((j:Nat):Int),V.agg [C.v (.int .i64 (edg n)[j].1),C.v (.int .i64 (edg n)[j].2)]]:=by
 have:=Ze9 n h';rw[Zpw h]at this;exact Option.some.inj this
theorem Zc4 (n:Nat) {j:Nat} (h:j<(edg n).length):(edgesL n).drop j=[I ((j:Nat):Int),V.agg [C.v (.int .i64 (edg n)[j].1),C.v (.int .i64 (edg n)[j].2)]]::(edgesL n).drop (j+1):=by
 rw[Zqn (by rw[Rl];exact h),Ac n _ h]
section
variable (fu d:Nat) (hf:18446744073709551616<=fu)
theorem Ad (v lo hi:Int):cl fu (d+1) fn_flux_within [I v,I lo,I hi] []=OK (B (decide (lo<=v)&&decide (v<=hi))):=by
 rw[eq_flux_within];by_cases h:lo<=v
 ·simp(disch:=omega)only[Zd,QM,QD]
 ·simp(disch:=omega)only[Zd,QM,QD]
theorem Zap (v lo hi:Int):cl fu (d+2) fn_flux_outside_1 [I v,V.c (C.cp [C.v (.int .i64 lo)]),V.c (C.cp [C.v (.int .i64 hi)])] []=OK (B (!(decide (lo<=v)&&decide (v<=hi)))):=by
 have e:=Ad fu d v lo hi;generalize (decide (lo<=v)&&decide (v<=hi))=b at*
 rw[eq_flux_outside_1];simp only[Zd,QM,e]
include hf
theorem Zfa (l:List Int) (hl:l.length<=1000000) (lo hi:Int):cl fu (d+5) fn_flux_outside [V.c (C.sl l.length (ints l)),I lo,I hi] []=OK (B (Mp lo hi l)):=by
 have h1:=λv=>Zap fu d v lo hi;rw[eq_flux_outside,eq2_slices_ContainsFunc_sint_int,eq2_slices_IndexFunc_sint_int];rcases Ri (λj=> ∃h:j<l.length,(!(decide (lo<=l[j])&&decide (l[j]<=hi)))=true) l.length with hn|⟨k,hk,⟨hk2,hb⟩,hn⟩
 ·have hall:Mp lo hi l=false:=by
   unfold Mp;rw[Zrs];intro v hv;obtain⟨j,hj,rfl⟩:=List.getElem_of_mem hv;exact λe=>hn j hj ⟨hj,e⟩
  rw[hall,Zs (λj:Nat=>((0:Int),(j:Int),())) 0 ((0:Int),((l.length:Nat):Int),()) l.length ?_ ?_ ?_ (by omega)]
  ·simp(disch:=omega)only[Zd,QM,QD]
  ·rfl
  ·intro j hj;have hia:=ints_at l hj;have hv:=hn j hj;have hv:(!(decide (lo<=l[j])&&decide (l[j]<=hi)))=false:=by
    cases e:(!(decide (lo<=l[j])&&decide (l[j]<=hi)))
    ·rfl
    ·exact absurd ⟨hj,e⟩ hv
   have h1:=h1 l[j];rw[hv]at h1;simp(disch:=omega)only[Zd,QM,QD,Zpu,Zp6,hia,h1];rfl
  ·simp(disch:=omega)only[Zd,QM,QD]
 ·have hall:Mp lo hi l=true:=by
   unfold Mp;rw[List.any_eq_true];exact⟨l[k],Zq2 hk2,hb⟩
  rw[hall,Zs (λj:Nat=>((0:Int),(j:Int),())) 1 ((k:Int),(k:Int),()) k ?_ ?_ ?_ (by omega)]
  ·simp(disch:=omega)only[Zd,QM,QD]
  ·rfl
  ·intro j hj;have hjl:j<l.length:=by omega
   have hia:=ints_at l hjl;have hv:=hn j hj;have hv:(!(decide (lo<=l[j])&&decide (l[j]<=hi)))=false:=by
    cases e:(!(decide (lo<=l[j])&&decide (l[j]<=hi)))
    ·rfl
    ·exact absurd ⟨hjl,e⟩ hv
   have h1:=h1 l[j];rw[hv]at h1;simp(disch:=omega)only[Zd,QM,QD,Zpu,Zp6,hia,h1];rfl
  ·have hia:=ints_at l hk2;have h1:=h1 l[k];rw[hb]at h1;simp(disch:=omega)only[Zd,QM,QD,Zpu,Zp6,hia,h1]
omit hf in
theorem Zgh (n:Nat) (h:Yf n):cl fu (d+1) fn_mesh_Frequency [I n] []=OK (B true):=by
 unfold Yf at h;rw[eq_mesh_Frequency];simp(disch:=omega)only[Zd,QM,QD]
omit hf in
theorem M2 (n:Nat) (h:Yf n):cl fu (d+2) fn_grid_Count [I n] []=OK (I ((Zj n).length:Int)):=by
 rw[T4 h,eq_grid_Count,Zgh fu d n h];simp only[Zd,QM];rcases Qk h with rfl|rfl|rfl|rfl|rfl|rfl|rfl|rfl<;>(show @Eq (Option Out) _ _;kernel_rfl)
theorem Rm (n:Nat) (h:Yf n):cl fu (d+9) fn_grid_Edges [I n] []=OK (V.tup [V.c (C.sl (edg n).length (fl edC (edg n))),I 0]):=by
 obtain⟨c,e⟩:=Zlt fu d hf n h;have e0:=Zgh fu (d+7) n h;generalize edg n=E at*
 generalize (Zj n).length=N at*
 generalize fl plc (Zj n)=nc at*
 generalize esn 0 (Zj n)=es at*
 generalize nxt n=nx at*
 rw[eq_grid_Edges,e0];simp(disch:=omega)only[Zd,QM,QD,e,out0,W3,Zpv,Zpy,Zpt,Nat.reduceAdd]
theorem Zlx (n:Nat) (h:Yf n) (l:Nat) (go:Nat->Bool) (r:List C): ∃out lg,cl fu (d+10) fn_flux_edges_1 [V.c (C.yl l go (edgesL n)),V.c (C.cp (C.v (.int .i64 (n:Int))::r))] []=some out/\out.log=some lg/\(lg.st=true\/lg.rest=[]):=by
 have e1:=Rm fu d hf n h;have heL:=Pw h;have hed:=λ{j:Nat} (hj:j<(edg n).length)=>Zc4 n hj;have hell:=Rl n;rw[eq_flux_edges_1];simp(disch:=omega)only[Zd,QM,QD,e1];generalize edgesL n=EL at*
 generalize edg n=E at*
 refine Ql (A:=Int×Log×Unit) (B:=Out) (fu:=fu) (λo=> ∃out lg,o=some out/\out.log=some lg/\(lg.st=true\/lg.rest=[]))
  (λs=> ∃i:Nat,i<=E.length/\s=((i:Int),⟨l,go,i,EL.drop i,false⟩,())) (λs=>E.length-s.1.toNat) (λ_ z=>z.2.1.st=true\/z.2.1.rest=[]) ⟨0,by omega,rfl⟩ ?_ ?_ ?_
 ·show E.length-(0:Int).toNat<fu;omega
 ·rintro y ⟨i,hi,rfl⟩
  by_cases hlt:i<E.length
  ·have hd:=hed hlt;have hat:=H6 Xm hlt;cases hg:go i with
   |true=>
    refine .inl ⟨(((i+1:Nat):Int),⟨l,go,i+1,EL.drop (i+1),false⟩,()), ?_,⟨i+1,by omega,rfl⟩, ?_⟩
    ·simp(disch:=omega)only[Zd,QM,QD,Zpu,hat,edC,Zqo,Zqr,hd,Kr,Ks,hg,Zqm,Zq8]
    ·show E.length-((i+1:Nat):Int).toNat<E.length-(i:Int).toNat;omega
   |false=>
    refine .inr ⟨1,((i:Int),⟨l,go,i+1,EL.drop (i+1),true⟩,()), ?_, .inl rfl⟩;simp(disch:=omega)only[Zd,QM,QD,Zpu,hat,edC,Zqo,Zqr,hd,Kr,Ks,hg]
  ·refine .inr ⟨0,((i:Int),⟨l,go,i,EL.drop i,false⟩,()), ?_, .inr ?_⟩
   ·simp(disch:=omega)only[Zd,QM,QD]
   ·show EL.drop i=[];rw[List.drop_eq_nil_iff];omega
 ·rintro e z hz
  refine⟨⟨V.tup [],[],some z.2.1⟩,z.2.1, ?_,rfl,hz⟩;cases e<;>rfl
omit hf in
theorem Zfb (n:Nat) (h:Yf n):prim.iter (d+10) fn_flux_edges_1 [C.cp [C.v (.int .i64 (n:Int))]]=some (edgesL n):=by
 show(bif Nat.ble 10 (d+10)then iterC fn_flux_edges_1 [C.cp [C.v (.int .i64 (n:Int))]]else none)=_;unfold Yf at h;rw[show Nat.ble 10 (d+10)=true from Zr1 (by omega)];show need (decide (1<=(n:Int))&&decide ((n:Int)<=8)) (some (edgesL (n:Int).toNat))=_;rw[decide_eq_true (show 1<=(n:Int) by omega),decide_eq_true (show(n:Int)<=8 by omega),Zpu];rfl
end
end Go.Proofs.YtjmempcalaliiaaGreatDoor
/- Degrees, amounts, moves. -/
namespace Go.Proofs.YtjmempcalaliiaaGreatDoor
open Go Go.PM Go.Grid
attribute [local congr] Zy Zz Z0 Yl Z1 Z2 Ym Yn Yo Yp Z3 Z4 Yq Xp Xq Xr Xs Xt Xv Xw Xx Xy Xu Z6 Z7 Xz Z8 Z9 Zr Ya Z5
def mv1 (l:List Int) (e:Int×Int) (u v:Int):List Int:=R6 (R6 l e.1.toNat u) e.2.toNat v
def Qr (N:Nat) (E:List (Int×Int)):List Int:=E.foldl (λl e=>mv1 l e 1 1) (List.replicate N 0)
def movS (l:List Int) (P:List ((Int×Int)×Int)):List Int:=P.foldl (λl p=>mv1 l p.1 (-p.2) p.2) l
theorem Lt (l:List Int) (e:Int×Int) (u v:Int):(mv1 l e u v).length=l.length:=by unfold mv1;rw[Vt,Vt]
theorem Zix (N:Nat) (E:List (Int×Int)) (e:Int×Int):Qr N (E++[e])=mv1 (Qr N E) e 1 1:=by simp[Qr]
theorem Zc5 (P:List ((Int×Int)×Int)): ∀l,(movS l P).length=l.length:=by
 induction P with
 |nil=>intro l;rfl
 |cons p P ih=>intro l;show(movS (mv1 l p.1 (-p.2) p.2) P).length=_;rw[ih,Lt]
theorem Zpg (l:List Int) (e:Int×Int) (u v:Int) (k:Nat):at0 (mv1 l e u v) k=at0 l k+(if k=e.1.toNat/\k<l.length then u else 0)+if k=e.2.toNat/\k<l.length then v else 0:=by
 unfold mv1;rw[Dx,Dx,Vt]
 congr 1
 ·congr 1
  by_cases h:k=e.1.toNat
  ·subst h;rfl
  ·rw[if_neg (λq=>h q.1),if_neg (λq=>h q.1)]
 ·by_cases h:k=e.2.toNat
  ·subst h;rfl
  ·rw[if_neg (λq=>h q.1),if_neg (λq=>h q.1)]
theorem Zgi (N:Nat) (i:Nat):at0 (List.replicate N 0) i=0:=by
 unfold at0;rw[Zp2,List.getElem?_replicate];split<;>rfl
theorem Gc (N:Nat) (E:List (Int×Int)):(Qr N E).length=N:=by
 have key: ∀(E:List (Int×Int)) (l:List Int),(E.foldl (λl e=>mv1 l e 1 1) l).length=l.length:=by
  intro E
  induction E with
  |nil=>intro l;rfl
  |cons e E ih=>intro l;rw[Zrp,ih,Lt]
 unfold Qr;rw[key];simp
theorem Zc6 (E:List (Int×Int)): ∀(l:List Int) (k:Nat),at0 l k<=at0 (E.foldl (λl e=>mv1 l e 1 1) l) k/\at0 (E.foldl (λl e=>mv1 l e 1 1) l) k<=at0 l k+2*E.length/\((∃e∈E,k=e.1.toNat\/k=e.2.toNat)->k<l.length->at0 l k+1<=at0 (E.foldl (λl e=>mv1 l e 1 1) l) k):=by
 induction E with
 |nil=>intro l k;exact⟨Int.le_refl _,by simp,λ⟨e,he,_⟩=>by cases he⟩
 |cons e E ih=>
  intro l k;rw[Zrp];obtain⟨h1,h2,h3⟩:=ih (mv1 l e 1 1) k;have hm:=Zpg l e 1 1 k;rw[Zpv];refine⟨?_, ?_, ?_⟩
  ·split at hm<;>split at hm<;>omega
  ·split at hm<;>split at hm<;>omega
  ·rintro ⟨e',he,hk⟩ hlt
   rcases Zp9.1 he with rfl|he
   ·rcases hk with hk|hk
    ·rw[if_pos ⟨hk,hlt⟩]at hm;split at hm<;>omega
    ·rw[if_pos (c:=k=e'.2.toNat/\k<l.length) ⟨hk,hlt⟩]at hm;split at hm<;>omega
   ·have:=h3 ⟨e',he,hk⟩ (by rw[Lt];exact hlt);split at hm<;>split at hm<;>omega
theorem Zno (N:Nat) (E:List (Int×Int)) (k:Nat):0<=at0 (Qr N E) k/\at0 (Qr N E) k<=2*E.length:=by
 obtain⟨h1,h2,_⟩:=Zc6 E (List.replicate N 0) k;rw[Zgi]at h1 h2;exact⟨h1,by unfold Qr;omega⟩
theorem Zc7 {N:Nat} {E:List (Int×Int)} {k:Nat} (h: ∃e∈E,k=e.1.toNat\/k=e.2.toNat) (hk:k<N):1<=at0 (Qr N E) k:=by
 obtain⟨_,_,h3⟩:=Zc6 E (List.replicate N 0) k;have:=h3 h (by simpa using hk);rw[Zgi]at this;unfold Qr;omega
section
variable (fu d:Nat) (hf:18446744073709551616<=fu)
theorem Zfc (n:Nat) (h:Yf n):cl fu (d+11) fn_flux_Degrees [I n] []=OK (V.tup [V.c (C.sl (Zj n).length (ints (Qr (Zj n).length (edg n)))),I 0]):=by
 have hn:=h;unfold Yf at hn;have hNl:=Q0 h;have heL:=Pw h;have e1:=Ad fu (d+9) (n:Int) 1 8;rw[decide_eq_true (show 1<=(n:Int) by omega),decide_eq_true (show(n:Int)<=8 by omega)]at e1;have e2:=M2 fu (d+8) n h;have e3:=Zfb d n h;have e4:=eq_flux_edges fu (d+9) (n:Int);have hel:=Rl n;have hea:=λ{j:Nat} (h1:j<(edgesL n).length) (h2:j<(edg n).length)=>Ac n h1 h2;have hin:=Dr h;generalize edgesL n=EL at*
 generalize edg n=E at*
 generalize (Zj n).length=N at*
 have hr0:reps N [C.v (.int .i64 0)]=ints (Qr N []):=by
  unfold Qr reps;simp[ik]
 have hdl:=Gc N;rw[eq_flux_Degrees];simp(disch:=omega)only[Zd,QM,QD,e1,e2,e4,Zpu,Zp6,hr0,Zh,hdl];rw[show prim.iter (d+10) fn_flux_edges_1 [C.cp [C.v (.int .i64 (n:Int))]]=some EL from e3];simp(disch:=omega)only[Zd,QM,QD,Zpu,Zp6,hr0,Zh,hdl];have hov:=Zh3 (body:=(λit (y:(List C×Unit)×Unit)=>
    uncV it λx r=>
    rC x λc3=>
    asI .i64 c3 λi1=>
    uncV r λx1 r1=>
    rA x1 λcs1=>
    need (Nat.beq cs1.length 2)<|
    unc cs1 λc4 r2=>
    asI .i64 c4 λi2=>
    unc r2 λc5 _=>
    asI .i64 c5 λi3=>
    nilV r1<|
    need (inR i2 (y.1.1.length/1))<|
    unc (List.drop (0+(i2.toNat*1)) y.1.1) λc6 _=>
    asI .i64 c6 λi4=>
    need (inR i2 (y.1.1.length/1))<|
    need (((Nat.ble 0 (0+(i2.toNat*1)))&&(Nat.ble ((0+(i2.toNat*1))+1) y.1.1.length))&&true)<|
    need (inR i3 (y.1.1.length/1))<|
    unc (List.drop (0+(i3.toNat*1)) (putAt y.1.1 (0+(i2.toNat*1)) ([C.v (.int .i64 (IntKind.i64.wrap (i4+1)))]))) λc7 _=>
    asI .i64 c7 λi5=>
    need (inR i3 (y.1.1.length/1))<|
    need (((Nat.ble 0 (0+(i3.toNat*1)))&&(Nat.ble ((0+(i3.toNat*1))+1) ((putAt y.1.1 (0+(i2.toNat*1)) ([C.v (.int .i64 (IntKind.i64.wrap (i4+1)))])).length)))&&true)<|
    bd (putAt (putAt y.1.1 (0+(i2.toNat*1)) ([C.v (.int .i64 (IntKind.i64.wrap (i4+1)))])) (0+(i3.toNat*1)) ([C.v (.int .i64 (IntKind.i64.wrap (i5+1)))])) λcs2=>
    need (((Nat.beq ((y.1.1.length/1)*1) cs2.length)&&true)&&true)<|
    some (0,((cs2,()),())))) EL (λj:Nat=>((ints (Qr N (E.take j)),()),())) (by
   intro j hj;have hj':j<E.length:=by omega
   have hia:=hea hj hj';have hin:=hin E[j] (Zq2 hj');have hst:Qr N (E.take (j+1))=mv1 (Qr N (E.take j)) E[j] 1 1:=by rw[Zqs hj',Zix]
   have hbd:=Zno N (E.take j);have htl:(E.take j).length<=15000:=by rw[Zql];omega
   have hD:=hdl (E.take j);rw[hia,hst];generalize Qr N (E.take j)=D at*
   generalize E[j]=e at*
   obtain⟨ea,eb⟩:=e;simp only at hin⊢;obtain⟨x,rfl⟩: ∃x:Nat,ea=x:=⟨ea.toNat,by omega⟩;obtain⟨y,rfl⟩: ∃y:Nat,eb=y:=⟨eb.toNat,by omega⟩;have d1:=Y6 D (i:=x) (by omega);have b1:=hbd x;have p1:=Ab D (i:=x) (by omega) 1;have hB:=Vt D x 1;have hBa:=Dx D x 1 y;have hm:mv1 D ((x:Int),(y:Int)) 1 1=R6 (R6 D x 1) y 1:=by unfold mv1;rw[Zpu,Zpu]
   rw[hm];have b2:0<=at0 (R6 D x 1) y/\at0 (R6 D x 1) y<=40000:=by
    have:=hbd y;split at hBa<;>omega
   generalize R6 D x 1=D1 at*
   have d2:=Y6 D1 (i:=y) (by omega);have p2:=Ab D1 (i:=y) (by omega) 1;have hB2:=Vt D1 y 1;generalize R6 D1 y 1=D2 at*
   simp(disch:=omega)only[Zd,QM,QD,Zpv,Zpy,Zpt,Nat.reduceAdd,Zpu,Zp6,Zqj,Zh,hD,d1,p1,hB,d2,p2,hB2])
 rw[hel,Zq7]at hov;rw[show overK _ EL ((ints (Qr N []),()),())=_ from hov];have htk:List.take N (ints (Qr N E))=ints (Qr N E):=Zp5 (by rw[Zh,hdl];exact Zp0 _);simp(disch:=omega)only[Zd,QM,QD,Zpt,Zp6,Zqj,Zh,hdl,htk]
end
end Go.Proofs.YtjmempcalaliiaaGreatDoor
/- Amounts over edges, and what moving them comes to. -/
namespace Go.Proofs.YtjmempcalaliiaaGreatDoor
open Go Go.PM Go.Grid
attribute [local congr] Zy Zz Z0 Yl Z1 Z2 Ym Yn Yo Yp Z3 Z4 Yq Xp Xq Xr Xs Xt Xv Xw Xx Xy Xu Z6 Z7 Xz Z8 Z9 Zr Ya Z5
def lim (dp dg:List Int) (k:Int):Int:=Int.tdiv (at0 dp k.toNat) (at0 dg k.toNat)
def shr (w:Int) (s:Nat):Int:=Int.fdiv w (2^s)
def amt (w p q:Int):Int:=if w>p then p else if w< -q then -q else w
def amE (dp dg fw:List Int) (s:Nat) (E:List (Int×Int)) (j:Nat):Int:=amt (shr (at0 fw j) s) (lim dp dg (E.getD j (0,0)).1) (lim dp dg (E.getD j (0,0)).2)
def amL (dp dg fw:List Int) (s:Nat) (E:List (Int×Int)) (k:Nat):List Int:=(List.range k).map (amE dp dg fw s E)
theorem N7 (E:List (Int×Int)) {j:Nat} (h:j<E.length):E.getD j (0,0)=E[j]:=by
 rw[Zp2,Zpw h];rfl
theorem Zgj {lo hi:Int} {l:List Int} (h:wid lo hi l) (h0:lo<=0/\0<=hi) (k:Nat):lo<=at0 l k/\at0 l k<=hi:=by
 by_cases hk:k<l.length
 ·rw[Zao hk];exact Zpf h hk
 ·unfold at0;rw[Zp2,Zsd (by omega)];exact h0
section
variable (fu d:Nat) (hf:18446744073709551616<=fu)
include hf
theorem Dz (a b c:Nat) (ha:1<=a/\a<=4) (hb:1<=b/\b<=4) (hc:1<=c/\c<=4):cl fu (d+6) fn_flux_CheckScheme [V.agg [C.v (.int .i64 (a:Int)),C.v (.int .i64 (b:Int)),C.v (.int .i64 (c:Int))]] []=OK (I 0):=by
 have e:=Zfa fu d hf [(a:Int),(b:Int),(c:Int)] (by simp) 1 4;rw[Dy.2 (by intro v hv;simp only[Zp9,List.mem_nil_iff,or_false]at hv;omega)]at e;replace e:cl fu (d+5) fn_flux_outside [V.c (C.sl 3 [C.v (.int .i64 (a:Int)),C.v (.int .i64 (b:Int)),C.v (.int .i64 (c:Int))]),I 1,I 4] []=OK (B false):=e;rw[eq_flux_CheckScheme];simp only[Zd,QM,e]
end
end Go.Proofs.YtjmempcalaliiaaGreatDoor
/- What is moved and moved back; masses; lists that are compared. -/
namespace Go.Proofs.YtjmempcalaliiaaGreatDoor
open Go Go.PM Go.Grid
attribute [local congr] Zy Zz Z0 Yl Z1 Z2 Ym Yn Yo Yp Z3 Z4 Yq Xp Xq Xr Xs Xt Xv Xw Xx Xy Xu Z6 Z7 Xz Z8 Z9 Zr Ya Z5
section
variable (fu d:Nat) (hf:18446744073709551616<=fu)
include hf
omit hf in
theorem Zgk {lo hi:Int} {n:Nat} {v:Int} (h:lo<=v/\v<=hi):wid lo hi (List.replicate n v):=λx hx=>by rw[Zro hx];exact h
end
end Go.Proofs.YtjmempcalaliiaaGreatDoor
/- Amounts, neighbours: what laws of several chapters lean on. -/
namespace Go.Proofs.YtjmempcalaliiaaGreatDoor
open Go Go.PM Go.Grid
attribute [local congr] Zy Zz Z0 Yl Z1 Z2 Ym Yn Yo Yp Z3 Z4 Yq Xp Xq Xr Xs Xt Xv Xw Xx Xy Xu Z6 Z7 Xz Z8 Z9 Zr Ya Z5
theorem Zfd {l:List Int} (h: ∀x∈l,0<=x/\x<=255) {k:Nat} (hk:k<=1000):bytes (l.take k):=⟨λx hx=>h x (List.mem_of_mem_take hx),by rw[Zql];omega⟩
def rs (dp:List Int) (r:List Int):Int:=(r.map λk=>at0 dp k.toNat).sum
structure Vst (n:Nat) (dp fw:List Int):Prop where
 dl:dp.length=(Zj n).length
 fl:fw.length=(edg n).length
 dw:wid 0 16777216 dp
 fw:wid (-16777216) 16777216 fw
theorem Znp {n:Nat} (h:Yf n): ∀e∈edg n,1<=at0 (Qr (Zj n).length (edg n)) e.1.toNat/\1<=at0 (Qr (Zj n).length (edg n)) e.2.toNat:=λe he=>by
 have:=Dr h e he;exact⟨Zc7 ⟨e,he, .inl rfl⟩ (by omega),Zc7 ⟨e,he, .inr rfl⟩ (by omega)⟩
section
variable (fu d:Nat) (hf:18446744073709551616<=fu)
end
end Go.Proofs.YtjmempcalaliiaaGreatDoor
/- Slopes, accelerated flows, steps. -/
namespace Go.Proofs.YtjmempcalaliiaaGreatDoor
open Go Go.PM Go.Grid
attribute [local congr] Zy Zz Z0 Yl Z1 Z2 Ym Yn Yo Yp Z3 Z4 Yq Xp Xq Xr Xs Xt Xv Xw Xx Xy Xu Z6 Z7 Xz Z8 Z9 Zr Ya Z5
def clp (x:Int):Int:=if 16777216<(if -16777216>x then -16777216 else x)then 16777216 else if -16777216>x then -16777216 else x
theorem Zph (x:Int): -16777216<=clp x/\clp x<=16777216:=by
 unfold clp
 repeat' split
 all_goals omega
def slE (dp:List Int) (E:List (Int×Int)) (j:Nat):Int:=at0 dp (E.getD j (0,0)).1.toNat-at0 dp (E.getD j (0,0)).2.toNat
def acc1 (a b:Nat) (f s:Int):Int:=clp (f+(shr s b-shr f a))
def accE (a b:Nat) (dp fw:List Int) (E:List (Int×Int)) (j:Nat):Int:=acc1 a b (at0 fw j) (slE dp E j)
def Zly (a b:Nat) (dp fw:List Int) (E:List (Int×Int)) (k:Nat):List Int:=(List.range k).map (accE a b dp fw E)
theorem Zc8 (a b:Nat) (dp fw:List Int) (E:List (Int×Int)) (k:Nat):(Zly a b dp fw E k).length=k:=by simp[Zly]
theorem Zaq (f:Nat->Int) (n:Nat) {j:Nat} (h:j<n):at0 ((List.range n).map f) j=f j:=by
 unfold at0;rw[Zp2,Zp4,List.getElem?_range h];rfl
theorem Zc9 (a b:Nat) (dp fw:List Int) (E:List (Int×Int)) (k:Nat):wid (-16777216) 16777216 (Zly a b dp fw E k):=λv hv=>by
 unfold Zly at hv;obtain⟨j,_,rfl⟩:=Zsi.1 hv;exact Zph _
section
variable (fu d:Nat) (hf:18446744073709551616<=fu)
include hf
end
end Go.Proofs.YtjmempcalaliiaaGreatDoor
/- Steps of the model, one after the other. -/
namespace Go.Proofs.YtjmempcalaliiaaGreatDoor
open Go Go.PM Go.Grid
attribute [local congr] Zy Zz Z0 Yl Z1 Z2 Ym Yn Yo Yp Z3 Z4 Yq Xp Xq Xr Xs Xt Xv Xw Xx Xy Xu Z6 Z7 Xz Z8 Z9 Zr Ya Z5
def stF (n a b:Nat) (dp fw:List Int):List Int:=Zly a b dp fw (edg n) (edg n).length
def stA (n a b c:Nat) (dp fw:List Int):List Int:=amL dp (Qr (Zj n).length (edg n)) (stF n a b dp fw) c (edg n) (edg n).length
def stD (n a b c:Nat) (dp fw:List Int):List Int:=movS dp ((edg n).zip (stA n a b c dp fw))
def stBad (n a b c:Nat) (dp fw:List Int):Bool:=Mp 0 16777216 (stD n a b c dp fw)
theorem D5 (n a b:Nat) (dp fw:List Int):(stF n a b dp fw).length=(edg n).length:=Zc8 ..
theorem Zfe (n a b c:Nat) (dp fw:List Int):(stD n a b c dp fw).length=dp.length:=Zc5 ..
theorem Vst.acc {n:Nat} {dp fw:List Int} (h:Vst n dp fw) (a b:Nat):Vst n dp (stF n a b dp fw):=⟨h.dl,D5 ..,h.dw,Zc9 _ _ _ _ _ _⟩
theorem Vst.step {n:Nat} {dp fw:List Int} (h:Vst n dp fw) {a b c:Nat} (ho:stBad n a b c dp fw=false):Vst n (stD n a b c dp fw) (stF n a b dp fw):=⟨by rw[Zfe];exact h.dl,D5 ..,Dy.1 ho,Zc9 _ _ _ _ _ _⟩
section
variable (fu d:Nat) (hf:18446744073709551616<=fu)
include hf
end
end Go.Proofs.YtjmempcalaliiaaGreatDoor
/- The linearised step: plain laws. -/
namespace Go.Proofs.YtjmempcalaliiaaGreatDoor
open Go Go.PM Go.Grid
def sc (a b c:Nat):Nat:=30*2^(max a b+c)
def scA (a b c:Nat):Nat:=30*2^(max a b+c-a)
def scB (a b c:Nat):Nat:=30*2^(max a b+c-b)
def tp (a b:Nat):Nat:=30*2^max a b-30*2^(max a b-a)
def tr (a b:Nat):Nat:=30*2^(max a b-b)
theorem pw (m k s:Nat) (h:s<=m) (e:k=m-s):30*2^m=30*2^k*2^s:=by
 rw[Nat.mul_assoc,<-Nat.pow_add,e,Nat.sub_add_cancel h]
theorem sc_a (a b c:Nat):sc a b c=scA a b c*2^a:=pw _ _ _ (by omega) rfl
theorem sc_b (a b c:Nat):sc a b c=scB a b c*2^b:=pw _ _ _ (by omega) rfl
theorem scB_c (a b c:Nat):scB a b c=tr a b*2^c:=pw _ _ _ (by omega) (by omega)
theorem Zff (a b c:Nat):scA a b c<=sc a b c:=by
 unfold scA sc;exact Nat.mul_le_mul_left _ (Nat.pow_le_pow_right (by omega) (by omega))
theorem Zof (a b c:Nat):sc a b c-scA a b c=tp a b*2^c:=by
 have h1:sc a b c=30*2^max a b*2^c:=pw _ _ _ (by omega) (by omega);have h2:scA a b c=30*2^(max a b-a)*2^c:=pw _ _ _ (by omega) (by omega);rw[h1,h2,tp,Nat.sub_mul]
theorem Ae {a b c:Nat} (ha:a<=4) (hb:b<=4) (hc:c<=4):sc a b c<=7680:=by
 have h:2^(max a b+c)<=2^8:=Nat.pow_le_pow_right (by omega) (by omega);unfold sc;omega
theorem Znq (x q:Int) (s:Nat):shr (x+q*2^s) s=shr x s+q:=by
 unfold shr;have hp:(0:Int)<2^s:=Int.pow_pos (by omega);rw[Int.fdiv_eq_ediv_of_nonneg _ (by omega),Int.fdiv_eq_ediv_of_nonneg _ (by omega),Int.add_mul_ediv_right _ _ (by omega)]
theorem G5 (q:Int) (s:Nat):shr (q*2^s) s=q:=by
 have:=Znq 0 q s;rw[Int.zero_add]at this;rw[this];unfold shr;rw[Int.zero_fdiv];omega
theorem K6 (s:Nat):((2^s:Nat):Int)=2^s:=by simp
theorem sc_aI (a b c:Nat):((sc a b c:Nat):Int)=(scA a b c:Int)*2^a:=by rw[sc_a,Zsg,K6]
theorem Zog (a b c:Nat):((sc a b c:Nat):Int)=(scB a b c:Int)*2^b:=by rw[sc_b,Zsg,K6]
theorem Zpi (a b c:Nat):((scB a b c:Nat):Int)=(tr a b:Int)*2^c:=by rw[scB_c,Zsg,K6]
theorem Zpj (a b c:Nat):((sc a b c:Nat):Int)-(scA a b c:Int)=(tp a b:Int)*2^c:=by
 have h1:=Zff a b c;have h2:=congrArg (λn:Nat=>(n:Int)) (Zof a b c);simp only[Zsg,K6]at h2;omega
theorem Znr (f:Int->Int) (h0:f 0=0) (l:List Int) (k:Nat):at0 (l.map f) k=f (at0 l k):=by
 unfold at0;rw[Zp2,Zp4,Zp2];cases l[k]? with
 |none=>exact h0.symm
 |some v=>rfl
theorem Zar (f g:Nat->Int): ∀n,((List.range n).map λj=>f j+g j).sum=((List.range n).map f).sum+((List.range n).map g).sum
 |0=>rfl
 |n+1=>by
  simp only[Zrq,Zrz,List.sum_append,Zar f g n,Zq3,List.map_nil,List.sum_cons,List.sum_nil];omega
end Go.Proofs.YtjmempcalaliiaaGreatDoor
/- Changes, branches, the linearised step's function. -/
namespace Go.Proofs.YtjmempcalaliiaaGreatDoor
open Go Go.PM Go.Grid
attribute [local congr] Zy Zz Z0 Yl Z1 Z2 Ym Yn Yo Yp Z3 Z4 Yq Xp Xq Xr Xs Xt Xv Xw Xx Xy Xu Z6 Z7 Xz Z8 Z9 Zr Ya Z5
theorem Zpk {p x m:Int} {P:Int} (hp:0<=p/\p<=P) (hx: -m<=x/\x<=m) (hm:0<=m): -(P*m)<=p*x/\p*x<=P*m:=by
 have h1:p*x<=p*m:=Int.mul_le_mul_of_nonneg_left hx.2 hp.1;have h2:p* -m<=p*x:=Int.mul_le_mul_of_nonneg_left hx.1 hp.1;have h3:p*m<=P*m:=Int.mul_le_mul_of_nonneg_right hp.2 hm;rw[Int.mul_neg]at h2;omega
section
variable (fu d:Nat) (hf:18446744073709551616<=fu)
theorem Zfg (v lo hi:Int):cl fu (d+1) fn_tangent_within [I v,I lo,I hi] []=OK (B (decide (lo<=v)&&decide (v<=hi))):=by
 rw[eq_tangent_within];by_cases h:lo<=v
 ·simp(disch:=omega)only[Zd,QM,QD]
 ·simp(disch:=omega)only[Zd,QM,QD]
theorem Cq (v:Int) (m:Nat) (hm:m<=1000000000000000000):cl fu (d+2) fn_tangent_outside_1 [I v,V.c (C.cp [C.v (.int .i64 (m:Int))])] []=OK (B (!(decide (-(m:Int)<=v)&&decide (v<=(m:Int))))):=by
 have e:=Zfg fu d v (-(m:Int)) m;have w0:IntKind.i64.wrap (0-(m:Int))= -(m:Int):=by rw[Xd (by omega) (by omega)];omega
 generalize (decide (-(m:Int)<=v)&&decide (v<=(m:Int)))=b at*
 rw[eq_tangent_outside_1];simp only[Zd,QM,w0,e]
include hf
theorem N8 (l:List Int) (hl:l.length<=1000000) (m:Nat) (hm:m<=1000000000000000000):cl fu (d+5) fn_tangent_outside [V.c (C.sl l.length (ints l)),I (m:Int)] []=OK (B (Mp (-(m:Int)) m l)):=by
 have h1:=λv=>Cq fu d v m hm;rw[eq_tangent_outside,eq1_slices_ContainsFunc_sint_int,eq1_slices_IndexFunc_sint_int];rcases Ri (λj=> ∃h:j<l.length,(!(decide (-(m:Int)<=l[j])&&decide (l[j]<=(m:Int))))=true) l.length with hn|⟨k,hk,⟨hk2,hb⟩,hn⟩
 ·have hall:Mp (-(m:Int)) m l=false:=by
   unfold Mp;rw[Zrs];intro v hv;obtain⟨j,hj,rfl⟩:=List.getElem_of_mem hv;exact λe=>hn j hj ⟨hj,e⟩
  rw[hall,Zs (λj:Nat=>((0:Int),(j:Int),())) 0 ((0:Int),((l.length:Nat):Int),()) l.length ?_ ?_ ?_ (by omega)]
  ·simp(disch:=omega)only[Zd,QM,QD]
  ·rfl
  ·intro j hj;have hia:=ints_at l hj;have hv:=hn j hj;have hv:(!(decide (-(m:Int)<=l[j])&&decide (l[j]<=(m:Int))))=false:=by
    cases e:(!(decide (-(m:Int)<=l[j])&&decide (l[j]<=(m:Int))))
    ·rfl
    ·exact absurd ⟨hj,e⟩ hv
   have h1:=h1 l[j];rw[hv]at h1;simp(disch:=omega)only[Zd,QM,QD,Zpu,Zp6,hia,h1];rfl
  ·simp(disch:=omega)only[Zd,QM,QD]
 ·have hall:Mp (-(m:Int)) m l=true:=by
   unfold Mp;rw[List.any_eq_true];exact⟨l[k],Zq2 hk2,hb⟩
  rw[hall,Zs (λj:Nat=>((0:Int),(j:Int),())) 1 ((k:Int),(k:Int),()) k ?_ ?_ ?_ (by omega)]
  ·simp(disch:=omega)only[Zd,QM,QD]
  ·rfl
  ·intro j hj;have hjl:j<l.length:=by omega
   have hia:=ints_at l hjl;have hv:=hn j hj;have hv:(!(decide (-(m:Int)<=l[j])&&decide (l[j]<=(m:Int))))=false:=by
    cases e:(!(decide (-(m:Int)<=l[j])&&decide (l[j]<=(m:Int))))
    ·rfl
    ·exact absurd ⟨hjl,e⟩ hv
   have h1:=h1 l[j];rw[hv]at h1;simp(disch:=omega)only[Zd,QM,QD,Zpu,Zp6,hia,h1];rfl
  ·have hia:=ints_at l hk2;have h1:=h1 l[k];rw[hb]at h1;simp(disch:=omega)only[Zd,QM,QD,Zpu,Zp6,hia,h1]
theorem Zfh {bs:List Int} (hb:bytes bs) {i:Nat} (hi:i<=1000) (n:Nat) (h:Yf n) (most:Nat) (hm:most<=10000000000000) (top:Int) (ht:(most:Int)<=top/\9<=top):
  ∃(hd hf:List Int) (j:Nat),hd.length=(Zj n).length/\hf.length=(edg n).length/\wid (-top) top hd/\wid (-top) top hf/\j<=1000/\cl fu (d+10) fn_synopticfield_Codes_Change [V.ptr 1000000 0,I n,I most] [Yz bs i]=some ⟨V.mag [V.own 1000001 0 hd.length,V.own 1000002 0 hf.length],[Yz bs j, .sb ty_int 0 (ints hd), .sb ty_int 0 (ints hf)],none⟩:=by
 have hE:=K5 fu d hf n h;have heL:=Pw h;have hNl:=Q0 h;have hN22:=Ze8 fu (d+8) n h;obtain⟨l1,j1,hl1,hw1,hj1,e1⟩:=Aa fu (d+5) hf hb hi (Zj n).length most (by omega) hm top ht;obtain⟨l2,j2,hl2,hw2,hj2,e2⟩:=Aa fu (d+5) hf hb hj1 (edg n).length most (by omega) hm top ht;have t1:List.take l1.length (ints l1)=ints l1:=Zp5 (by rw[Zh];exact Zp0 _);have t2:List.take l2.length (ints l2)=ints l2:=Zp5 (by rw[Zh];exact Zp0 _);refine⟨l1,l2,j2,hl1,hl2,hw1,hw2,hj2, ?_⟩;unfold Yz at*
 generalize edg n=E at*
 generalize (Zj n).length=N at*
 rw[eq_synopticfield_Codes_Change,hE];simp(disch:=omega)only[Zd,QM,QD,out1,hN22,e1,e2,Zh,Zp6,t1,t2,Zpv,Zpy,Zpt,Nat.reduceAdd]
theorem Ziy {bs:List Int} (hb:bytes bs) {i:Nat} (hi:i<=1000) (n:Nat) (h:Yf n):
  ∃(br:List Int) (j:Nat),br.length=(edg n).length/\wid (-1) 1 br/\j<=1000/\cl fu (d+10) fn_synopticfield_Codes_Branch [V.ptr 1000000 0,I n] [Yz bs i]=some ⟨V.c (C.sl br.length (ints br)),[Yz bs j],none⟩:=by
 have hE:=K5 fu d hf n h;have heL:=Pw h;have hN:=λ(i:Nat) (hi:i<=1000)=>Tc fu (d+7) hb hi 5 (by omega);unfold Yz at*
 generalize edg n=E at*
 rw[eq_synopticfield_Codes_Branch,hE];simp(disch:=omega)only[Zd,QM,QD,Zpv,Zpy,Zpt,Nat.reduceAdd];refine Ql (A:=List C×Int×(C×Int×Unit)×Unit) (B:=Out) (fu:=fu) (λo=> ∃(l:List Int) (j:Nat),l.length=E.length/\wid (-1) 1 l/\j<=1000/\o=some ⟨V.c (C.sl l.length (ints l)),[Yz bs j],none⟩)
  (λy=> ∃(l:List Int) (j:Nat),l.length<=E.length/\wid (-1) 1 l/\j<=1000/\y=(ints l,((l.length:Nat):Int),(C.sl bs.length (ik .u8 bs),(j:Int),()),())) (λy=>E.length-y.2.1.toNat)
  (λe y=>e=0/\ ∃(l:List Int) (j:Nat),l.length=E.length/\wid (-1) 1 l/\j<=1000/\y=(ints l,((l.length:Nat):Int),(C.sl bs.length (ik .u8 bs),(j:Int),()),())) ?_ ?_ ?_ ?_
 ·exact⟨[],i,by simp,(by intro v hv;cases hv),hi,rfl⟩
 ·show E.length-_<fu;omega
 ·rintro y ⟨l,j,hl,hw,hj,rfl⟩
  by_cases hlt:l.length<E.length
  ·obtain⟨v,k,hv,hk,e5⟩:=hN j hj;replace e5:cl fu (d+9) fn_synopticfield_Codes_Next [V.ptr 1000000 0,I 5] _=_:=e5;obtain⟨x,r,hx,hdr⟩: ∃(x:Int) (r:List C),(-1<=x/\x<=1)/\List.drop v [C.v (.int .i64 0),C.v (.int .i64 0),C.v (.int .i64 0),C.v (.int .i64 1),C.v (.int .i64 (-1))]=C.v (.int .i64 x)::r:=by
    rcases(show v=0\/v=1\/v=2\/v=3\/v=4 by omega)with rfl|rfl|rfl|rfl|rfl
    ·exact⟨0,_,by omega,rfl⟩
    ·exact⟨0,_,by omega,rfl⟩
    ·exact⟨0,_,by omega,rfl⟩
    ·exact⟨1,_,by omega,rfl⟩
    ·exact⟨-1,_,by omega,rfl⟩
   refine .inl ⟨(ints (l++[x]),(((l++[x]).length:Nat):Int),(C.sl bs.length (ik .u8 bs),(k:Int),()),()), ?_,⟨l++[x],k,by simp;omega,Zc3 hw hx,hk,rfl⟩, ?_⟩
   ·simp(disch:=omega)only[Zd,QM,QD,e5,Zpv,Zpy,Zpt,Nat.reduceAdd,Zpu,Zp6,hdr,Zh,Zqj,R4,Zpz,Zqm,Zq8]
   ·show E.length-(((l++[x]).length:Nat):Int).toNat<E.length-((l.length:Nat):Int).toNat;rw[Zpz,List.length_singleton];omega
  ·refine .inr ⟨0,(ints l,((l.length:Nat):Int),(C.sl bs.length (ik .u8 bs),(j:Int),()),()), ?_,rfl,l,j,by omega,hw,hj,rfl⟩;simp(disch:=omega)only[Zd,QM,QD,Zh,Zqj,Zp6]
 ·rintro e z ⟨rfl,l,j,hl,hw,hj,rfl⟩
  refine⟨l,j,hl,hw,hj, ?_⟩;have htk:List.take l.length (ints l)=ints l:=Zp5 (by rw[Zh];exact Zp0 _);simp(disch:=omega)only[Zd,QM,QD,Zh,Zqj,Zp6,Zpt,htk]
theorem Zda (a b c:Nat) (ha:1<=a/\a<=4) (hb:1<=b/\b<=4) (hc:1<=c/\c<=4):cl fu (d+7) fn_tangent_Scale [V.agg [C.v (.int .i64 (a:Int)),C.v (.int .i64 (b:Int)),C.v (.int .i64 (c:Int))]] []=OK (V.tup [I (sc a b c:Int),I 0]):=by
 have e1:=Dz fu d hf a b c ha hb hc;have hs:=Ae ha.2 hb.2 hc.2;have em:(if(b:Int)>(a:Int)then(b:Int)else(a:Int))=((max a b:Nat):Int):=by split<;>omega
 have hw:IntKind.i64.wrap (((max a b:Nat):Int)+(c:Int))=((max a b+c:Nat):Int):=by rw[Xd (by omega) (by omega)];rfl
 have hmin:min (max a b+c) (IntKind.bits .i64)=max a b+c:=by show min _ 64=_;omega
 have hsc:(30:Int)*2^(max a b+c)=(sc a b c:Int):=by unfold sc;rw[Zsg,K6];rfl
 rw[eq_tangent_Scale];simp(disch:=omega)only[Zd,QM,QD,e1,em,hw,Zpu,hmin,hsc]
theorem Ziz (n:Nat) (h:Yf n) (br hd hfl:List Int) (l1:br.length=(edg n).length) (l2:hd.length=(Zj n).length) (l3:hfl.length=(edg n).length) (w1:wid (-1) 1 br) (w2:wid (-1099511627776) 1099511627776 hd) (w3:wid (-1099511627776) 1099511627776 hfl):
  cl fu (d+10) fn_tangent_Check [I n,V.c (C.sl br.length (ints br)),V.agg [C.sl hd.length (ints hd),C.sl hfl.length (ints hfl)]] []=OK (I 0):=by
 have hNl:=Q0 h;have heL:=Pw h;have e1:=Rm fu d hf n h;have e2:=M2 fu (d+7) n h;have e3:=N8 fu (d+4) hf br (by omega) 1 (by omega);have e4:=N8 fu (d+4) hf hd (by omega) 1099511627776 (by omega);have e5:=N8 fu (d+4) hf hfl (by omega) 1099511627776 (by omega);replace e3:cl fu (d+9) fn_tangent_outside [V.c (C.sl br.length (ints br)),I 1] []=OK (B (Mp (-1) 1 br)):=e3;replace e4:cl fu (d+9) fn_tangent_outside [V.c (C.sl hd.length (ints hd)),I 1099511627776] []=OK (B (Mp (-1099511627776) 1099511627776 hd)):=e4;replace e5:cl fu (d+9) fn_tangent_outside [V.c (C.sl hfl.length (ints hfl)),I 1099511627776] []=OK (B (Mp (-1099511627776) 1099511627776 hfl)):=e5;rw[Dy.2 w1]at e3;rw[Dy.2 w2]at e4;rw[Dy.2 w3]at e5;generalize edg n=E at*
 generalize (Zj n).length=N at*
 rw[eq_tangent_Check];simp(disch:=omega)only[Zd,QM,QD,e1,e2,e3,e4,e5]
end
end Go.Proofs.YtjmempcalaliiaaGreatDoor
/- The linearised step: what Apply comes to. -/
namespace Go.Proofs.YtjmempcalaliiaaGreatDoor
open Go Go.PM Go.Grid
attribute [local congr] Zy Zz Z0 Yl Z1 Z2 Ym Yn Yo Yp Z3 Z4 Yq Xp Xq Xr Xs Xt Xv Xw Xx Xy Xu Z6 Z7 Xz Z8 Z9 Zr Ya Z5
theorem Zgl {m:Int} {l:List Int} (h:wid (-m) m l) (hm:0<=m) (i:Nat): -m<=at0 l i/\at0 l i<=m:=Zgj h (by omega) i
theorem fdivA (a b c:Nat):Int.fdiv (sc a b c:Int) (2^a)=scA a b c:=by rw[sc_aI];exact G5 _ _
theorem fdivB (a b c:Nat):Int.fdiv (sc a b c:Int) (2^b)=scB a b c:=by rw[Zog];exact G5 _ _
section
variable (fu d:Nat) (hfu:18446744073709551616<=fu)
include hfu
end
end Go.Proofs.YtjmempcalaliiaaGreatDoor
/- TangentLinear answers true. -/
namespace Go.Proofs.YtjmempcalaliiaaGreatDoor
open Go Go.PM Go.Grid
attribute [local congr] Zy Zz Z0 Yl Z1 Z2 Ym Yn Yo Yp Z3 Z4 Yq Xp Xq Xr Xs Xt Xv Xw Xx Xy Xu Z6 Z7 Xz Z8 Z9 Zr Ya Z5
section
variable (fu d:Nat) (hfu:18446744073709551616<=fu)
include hfu
end
end Go.Proofs.YtjmempcalaliiaaGreatDoor
/- Both programs' checks, at any numbers. -/
namespace Go.Proofs.YtjmempcalaliiaaGreatDoor
open Go Go.PM Go.Grid
attribute [local congr] Zy Zz Z0 Yl Z1 Z2 Ym Yn Yo Yp Z3 Z4 Yq Xp Xq Xr Xs Xt Xv Xw Xx Xy Xu Z6 Z7 Xz Z8 Z9 Zr Ya Z5
section
variable (fu d:Nat) (hf:18446744073709551616<=fu)
include hf
end
end Go.Proofs.YtjmempcalaliiaaGreatDoor
/- Shifted states, clipped flows, and the step of a changed state. -/
namespace Go.Proofs.YtjmempcalaliiaaGreatDoor
open Go Go.PM Go.Grid
attribute [local congr] Zy Zz Z0 Yl Z1 Z2 Ym Yn Yo Yp Z3 Z4 Yq Xp Xq Xr Xs Xt Xv Xw Xx Xy Xu Z6 Z7 Xz Z8 Z9 Zr Ya Z5
section
variable (fu d:Nat) (hfu:18446744073709551616<=fu)
include hfu
end
end Go.Proofs.YtjmempcalaliiaaGreatDoor
/- The scale and the check of linearised steps, at any numbers, in both programs. -/
namespace Go.Proofs.YtjmempcalaliiaaGreatDoor
open Go Go.PM Go.Grid
attribute [local congr] Zy Zz Z0 Yl Z1 Z2 Ym Yn Yo Yp Z3 Z4 Yq Xp Xq Xr Xs Xt Xv Xw Xx Xy Xu Z6 Z7 Xz Z8 Z9 Zr Ya Z5
section
variable (fu d:Nat) (hf:18446744073709551616<=fu)
include hf
end
end Go.Proofs.YtjmempcalaliiaaGreatDoor
/- The transposed step, in both programs. -/
namespace Go.Proofs.YtjmempcalaliiaaGreatDoor
open Go Go.PM Go.Grid
attribute [local congr] Zy Zz Z0 Yl Z1 Z2 Ym Yn Yo Yp Z3 Z4 Yq Xp Xq Xr Xs Xt Xv Xw Xx Xy Xu Z6 Z7 Xz Z8 Z9 Zr Ya Z5
def aFl (a b c:Nat) (br m f:Int):Int:=if br=0 then IntKind.i64.wrap (IntKind.i64.wrap (((sc a b c:Int)-scA a b c)*f)+IntKind.i64.wrap (Int.fdiv ((sc a b c:Int)-scA a b c) (2^c)*m))else IntKind.i64.wrap (((sc a b c:Int)-scA a b c)*f)
def aZ (a b c:Nat) (br m f:Int):Int:=if br=0 then IntKind.i64.wrap (IntKind.i64.wrap ((scB a b c:Int)*f)+IntKind.i64.wrap ((tr a b:Int)*m))else IntKind.i64.wrap ((scB a b c:Int)*f)
def aD1 (s:Int) (dg:List Int) (br m:Int) (x y:Nat) (D:List Int):List Int:=if br=1 then D.set x (IntKind.i64.wrap (at0 D x+IntKind.i64.wrap (Int.tdiv s (at0 dg x)*m)))else if br= -1 then D.set y (IntKind.i64.wrap (at0 D y-IntKind.i64.wrap (Int.tdiv s (at0 dg y)*m)))else D
def aD2 (z:Int) (x y:Nat) (D:List Int):List Int:=(D.set x (IntKind.i64.wrap (at0 D x+z))).set y (IntKind.i64.wrap (at0 (D.set x (IntKind.i64.wrap (at0 D x+z))) y-z))
theorem D6 (s:Int) (dg:List Int) (br m:Int) (x y:Nat) (D:List Int):(aD1 s dg br m x y D).length=D.length:=by
 unfold aD1
 repeat' split
 all_goals simp only[Zr0]
theorem Zfi (z:Int) (x y:Nat) (D:List Int):(aD2 z x y D).length=D.length:=by
 unfold aD2;simp only[Zr0]
theorem Zpl (a b c:Nat):Int.fdiv (sc a b c:Int) (2^(b+c))=tr a b:=by
 rw[Zog,Zpi,Int.mul_assoc,show((2:Int)^c*2^b)=2^(b+c) by rw[Int.mul_comm,<-Int.pow_add]];exact G5 _ _
theorem Zgm {s v:Int} (hs:0<=s) (hv:1<=v):0<=Int.tdiv s v/\Int.tdiv s v<=s:=by
 rw[Int.tdiv_eq_ediv_of_nonneg hs];exact⟨Int.ediv_nonneg hs (by omega),Int.ediv_le_self _ hs⟩
abbrev lkC (x y:Nat) (a b c:Nat) (br:Int) (dg:List Int):List C:=[C.v (.int .i64 (x:Int)),C.v (.int .i64 (y:Int)),C.v (.int .i64 (a:Int)),C.v (.int .i64 (b:Int)),C.v (.int .i64 (c:Int)),C.v (.int .i64 (sc a b c:Int)),C.v (.int .i64 br),C.sl dg.length (ints dg)]
section
variable (fu d:Nat)
theorem Zfj (x y a b c:Nat) (br:Int) (dg:List Int) (ha:1<=a/\a<=4) (hb:1<=b/\b<=4) (hc:1<=c/\c<=4):cl fu (d+1) fn_adjoint_link_through [V.agg (lkC x y a b c br dg)] []=OK (I ((sc a b c:Int)-scA a b c)):=by
 have hs1:=Ae ha.2 hb.2 hc.2;have hs2:=Zff a b c;have fA:=fdivA a b c;have ma:min a (IntKind.bits .i64)=a:=by show min a 64=a;omega
 unfold lkC;rw[eq_adjoint_link_through];simp(disch:=omega)only[Zd,QM,QD,Zpu,fA,ma]
theorem Af (x y a b c:Nat) (br:Int) (dg hd hf:List Int) (hx:x<hd.length) (hy:y<hd.length):cl fu (d+1) fn_adjoint_link_amount [V.agg (lkC x y a b c br dg),V.agg [C.sl hd.length (ints hd),C.sl hf.length (ints hf)]] []=OK (I (IntKind.i64.wrap (at0 hd y-at0 hd x))):=by
 have i1:=Y6 hd hx;have i2:=Y6 hd hy;unfold lkC;rw[eq_adjoint_link_amount];simp(disch:=omega)only[Zd,QM,QD,Zpu,Zp6,i1,i2]
theorem Zns (x y a b c j:Nat) (br:Int) (dg hd hf:List Int) (hx:x<hd.length) (hy:y<hd.length) (hj:j<hf.length) (ha:1<=a/\a<=4) (hb:1<=b/\b<=4) (hc:1<=c/\c<=4):cl fu (d+2) fn_adjoint_link_flow [V.agg (lkC x y a b c br dg),V.agg [C.sl hd.length (ints hd),C.sl hf.length (ints hf)],I j] []=OK (I (aFl a b c br (IntKind.i64.wrap (at0 hd y-at0 hd x)) (at0 hf j))):=by
 have e1:=Zfj fu d x y a b c br dg ha hb hc;have e2:=Af fu d x y a b c br dg hd hf hx hy;have i1:=Y6 hf hj;have mc:min c (IntKind.bits .i64)=c:=by show min c 64=c;omega
 generalize IntKind.i64.wrap (at0 hd y-at0 hd x)=m at*
 generalize at0 hf j=f at*
 unfold lkC at*
 unfold aFl;rw[eq_adjoint_link_flow];generalize (sc a b c:Int)-scA a b c=T at*
 by_cases q:br=0
 ·subst q;rw[if_pos rfl];simp(disch:=omega)only[Zd,QM,QD,e1,e2,Zpu,Zp6,i1,mc]
 ·rw[if_neg q];simp(disch:=omega)only[Zd,QM,QD,e1,Zpu,Zp6,i1]
set_option maxHeartbeats 1000000 in
theorem Zlz (x y a b c j:Nat) (br:Int) (dg hd hf D:List Int) (hl:hd.length<=1000000) (hx:x<hd.length) (hy:y<hd.length) (hj:j<hf.length) (hD:D.length=hd.length) (hdg:dg.length=hd.length) (dx:1<=at0 dg x) (dy:1<=at0 dg y) (hbr: -1<=br/\br<=1) (ha:1<=a/\a<=4) (hb:1<=b/\b<=4) (hc:1<=c/\c<=4):
  cl fu (d+2) fn_adjoint_link_depth [V.agg (lkC x y a b c br dg),V.own 1000000 0 D.length,V.agg [C.sl hd.length (ints hd),C.sl hf.length (ints hf)],I j] [.sb ty_int 0 (ints D)]=some ⟨V.tup [],[.sb ty_int 0 (ints (aD2 (aZ a b c br (IntKind.i64.wrap (at0 hd y-at0 hd x)) (at0 hf j)) x y (aD1 (sc a b c) dg br (IntKind.i64.wrap (at0 hd y-at0 hd x)) x y D)))],none⟩:=by
 have e2:=Af fu d x y a b c br dg hd hf hx hy;have i1:=Y6 hf hj;have hs1:=Ae ha.2 hb.2 hc.2;have fB:=fdivB a b c;have fBC:=Zpl a b c;have mb:min b (IntKind.bits .i64)=b:=by show min b 64=b;omega
 have mbc:min (b+c) (IntKind.bits .i64)=b+c:=by show min (b+c) 64=b+c;omega
 have hbc:IntKind.i64.wrap ((b:Int)+(c:Int))=((b+c:Nat):Int):=by rw[Xd (by omega) (by omega)];rfl
 have g1:=Y6 dg (i:=x) (by omega);have g2:=Y6 dg (i:=y) (by omega);have t1:=Zgm (s:=(sc a b c:Int)) (by omega) dx;have t2:=Zgm (s:=(sc a b c:Int)) (by omega) dy;have r1:=Y6 D (i:=x) (by omega);have r2:=Y6 D (i:=y) (by omega);generalize IntKind.i64.wrap (at0 hd y-at0 hd x)=m at*
 generalize hf':at0 hf j=f at*
 have hz: ∀z,aZ a b c br m f=z->aZ a b c br m f=z:=λz h=>h;have hA:(aD1 (sc a b c) dg br m x y D).length=D.length:=D6 ..;have s1:=Y6 (aD1 (sc a b c) dg br m x y D) (i:=x) (by omega);have p1:=Tr (aD1 (sc a b c) dg br m x y D) (i:=x) (by omega) (IntKind.i64.wrap (at0 (aD1 (sc a b c) dg br m x y D) x+aZ a b c br m f));have hS:((aD1 (sc a b c) dg br m x y D).set x (IntKind.i64.wrap (at0 (aD1 (sc a b c) dg br m x y D) x+aZ a b c br m f))).length=D.length:=by rw[Zr0];exact hA
 have s2:=Y6 ((aD1 (sc a b c) dg br m x y D).set x (IntKind.i64.wrap (at0 (aD1 (sc a b c) dg br m x y D) x+aZ a b c br m f))) (i:=y) (by omega);have p2:=Tr ((aD1 (sc a b c) dg br m x y D).set x (IntKind.i64.wrap (at0 (aD1 (sc a b c) dg br m x y D) x+aZ a b c br m f))) (i:=y) (by omega) (IntKind.i64.wrap (at0 ((aD1 (sc a b c) dg br m x y D).set x (IntKind.i64.wrap (at0 (aD1 (sc a b c) dg br m x y D) x+aZ a b c br m f))) y-aZ a b c br m f));unfold lkC at*
 unfold aD2;rw[eq_adjoint_link_depth];rcases(show br=1\/br= -1\/br=0 by omega)with rfl|rfl|rfl
 ·have hz1:aZ a b c 1 m f=IntKind.i64.wrap ((scB a b c:Int)*f):=if_neg (by decide);have w1:aD1 (sc a b c) dg 1 m x y D=D.set x (IntKind.i64.wrap (at0 D x+IntKind.i64.wrap (Int.tdiv (sc a b c) (at0 dg x)*m))):=if_pos rfl;have p0:=Tr D (i:=x) (by omega) (IntKind.i64.wrap (at0 D x+IntKind.i64.wrap (Int.tdiv (sc a b c) (at0 dg x)*m)));rw[<-w1]at p0;rw[hz1]at p1 hS s2 p2⊢;generalize aD1 (sc a b c) dg 1 m x y D=D1 at*
  simp(disch:=omega)only[Zd,QM,QD,e2,Zpu,Zp6,Zpt,Zqj,i1,fB,mb,g1,r1,Zh,p0,s1,p1,s2,p2,hA,hS]
 ·have hz1:aZ a b c (-1) m f=IntKind.i64.wrap ((scB a b c:Int)*f):=if_neg (by decide);have w1:aD1 (sc a b c) dg (-1) m x y D=D.set y (IntKind.i64.wrap (at0 D y-IntKind.i64.wrap (Int.tdiv (sc a b c) (at0 dg y)*m))):=by unfold aD1;rw[if_neg (by decide),if_pos rfl]
  have p0:=Tr D (i:=y) (by omega) (IntKind.i64.wrap (at0 D y-IntKind.i64.wrap (Int.tdiv (sc a b c) (at0 dg y)*m)));rw[<-w1]at p0;rw[hz1]at p1 hS s2 p2⊢;generalize aD1 (sc a b c) dg (-1) m x y D=D1 at*
  simp(disch:=omega)only[Zd,QM,QD,e2,Zpu,Zp6,Zpt,Zqj,i1,fB,mb,g2,r2,Zh,p0,s1,p1,s2,p2,hA,hS]
 ·have hz1:aZ a b c 0 m f=IntKind.i64.wrap (IntKind.i64.wrap ((scB a b c:Int)*f)+IntKind.i64.wrap ((tr a b:Int)*m)):=if_pos rfl;have w1:aD1 (sc a b c) dg 0 m x y D=D:=by unfold aD1;rw[if_neg (by decide),if_neg (by decide)]
  rw[w1]at s1 p1 hA hS s2 p2⊢;rw[hz1]at p1 hS s2 p2⊢;simp(disch:=omega)only[Zd,QM,QD,e2,Zpu,Zp6,Zpt,Zqj,i1,fB,mb,hbc,mbc,fBC,Zh,s1,p1,s2,p2,hA,hS]
end
end Go.Proofs.YtjmempcalaliiaaGreatDoor
/- The reference's Degrees: the same as the program's. -/
namespace Go.Proofs.YtjmempcalaliiaaGreatDoor
open Go Go.PM Go.Grid
attribute [local congr] Zy Zz Z0 Yl Z1 Z2 Ym Yn Yo Yp Z3 Z4 Yq Xp Xq Xr Xs Xt Xv Xw Xx Xy Xu Z6 Z7 Xz Z8 Z9 Zr Ya Z5
section
variable (fu d:Nat) (hf:18446744073709551616<=fu)
include hf
end
end Go.Proofs.YtjmempcalaliiaaGreatDoor
/- Both programs' Apply of the transposed step. -/
namespace Go.Proofs.YtjmempcalaliiaaGreatDoor
open Go Go.PM Go.Grid
attribute [local congr] Zy Zz Z0 Yl Z1 Z2 Ym Yn Yo Yp Z3 Z4 Yq Xp Xq Xr Xs Xt Xv Xw Xx Xy Xu Z6 Z7 Xz Z8 Z9 Zr Ya Z5
def am (hd:List Int) (E:List (Int×Int)) (j:Nat):Int:=IntKind.i64.wrap (at0 hd (E.getD j (0,0)).2.toNat-at0 hd (E.getD j (0,0)).1.toNat)
def Ag (a b c:Nat) (dg br hd hf:List Int) (E:List (Int×Int)) (D:List Int) (j:Nat):List Int:=
 aD2 (aZ a b c (at0 br j) (am hd E j) (at0 hf j)) (E.getD j (0,0)).1.toNat (E.getD j (0,0)).2.toNat (aD1 (sc a b c) dg (at0 br j) (am hd E j) (E.getD j (0,0)).1.toNat (E.getD j (0,0)).2.toNat D)
def aDS (a b c:Nat) (dg br hd hf:List Int) (E:List (Int×Int)) (k:Nat):List Int:=(List.range k).foldl (Ag a b c dg br hd hf E) (hd.map λx=>IntKind.i64.wrap ((sc a b c:Int)*x))
def aFS (a b c:Nat) (br hd hf:List Int) (E:List (Int×Int)) (k:Nat):List Int:=(List.range k).map λj=>aFl a b c (at0 br j) (am hd E j) (at0 hf j)
theorem K7 (a b c:Nat) (dg br hd hf:List Int) (E:List (Int×Int)) (D:List Int) (j:Nat):(Ag a b c dg br hd hf E D j).length=D.length:=by
 unfold Ag;rw[Zfi,D6]
theorem D7 (a b c:Nat) (dg br hd hf:List Int) (E:List (Int×Int)) (k:Nat):aDS a b c dg br hd hf E (k+1)=Ag a b c dg br hd hf E (aDS a b c dg br hd hf E k) k:=by
 unfold aDS;rw[Zrq,List.foldl_append];rfl
theorem Sw (a b c:Nat) (dg br hd hf:List Int) (E:List (Int×Int)) (k:Nat):(aDS a b c dg br hd hf E k).length=hd.length:=by
 induction k with
 |zero=>exact Zqf ..
 |succ k ih=>rw[D7,K7,ih]
theorem Zl0 (a b c:Nat) (br hd hf:List Int) (E:List (Int×Int)) (k:Nat):aFS a b c br hd hf E (k+1)=aFS a b c br hd hf E k++[aFl a b c (at0 br k) (am hd E k) (at0 hf k)]:=by simp[aFS,Zrq]
theorem Lu (a b c:Nat) (br hd hf:List Int) (E:List (Int×Int)) (k:Nat):(aFS a b c br hd hf E k).length=k:=by simp[aFS]
section
variable (fu d:Nat) (hfu:18446744073709551616<=fu)
include hfu
set_option maxHeartbeats 2000000 in
theorem Ah (n:Nat) (h:Yf n) (a b c:Nat) (ha:1<=a/\a<=4) (hb:1<=b/\b<=4) (hc:1<=c/\c<=4) (br hd hf:List Int) (l1:br.length=(edg n).length) (l2:hd.length=(Zj n).length) (l3:hf.length=(edg n).length) (w1:wid (-1) 1 br) (w2:wid (-1099511627776) 1099511627776 hd) (w3:wid (-1099511627776) 1099511627776 hf):
  cl fu (d+12) fn_adjoint_Apply [V.agg [C.v (.int .i64 (a:Int)),C.v (.int .i64 (b:Int)),C.v (.int .i64 (c:Int))],I n,V.c (C.sl br.length (ints br)),V.agg [C.sl hd.length (ints hd),C.sl hf.length (ints hf)]] []=OK (V.tup [V.agg [C.sl hd.length (ints (aDS a b c (Qr (Zj n).length (edg n)) br hd hf (edg n) (edg n).length)),C.sl (edg n).length (ints (aFS a b c br hd hf (edg n) (edg n).length))],I 0]):=by
 have hNl:=Q0 h;have heL:=Pw h;have e1:=Zda fu (d+4) hfu a b c ha hb hc;have e2:=Ziz fu (d+1) hfu n h br hd hf l1 l2 l3 w1 w2 w3;have e3:=Zfc fu d n h;have e4:=Rm fu (d+2) hfu n h;have hin:=Dr h;have hdp:=Znp h;have hdl:=Gc (Zj n).length (edg n);have hFl:=λk=>Lu a b c br hd hf (edg n) k;have hFs:=λk=>Zl0 a b c br hd hf (edg n) k;have hDl:=λk=>Sw a b c (Qr (Zj n).length (edg n)) br hd hf (edg n) k;have hDs:=λk=>D7 a b c (Qr (Zj n).length (edg n)) br hd hf (edg n) k;have hSl:=λD j=>K7 a b c (Qr (Zj n).length (edg n)) br hd hf (edg n) D j;generalize hdg:Qr (Zj n).length (edg n)=dg at*
 generalize hE:edg n=E at*
 generalize (Zj n).length=N at*
 rw[eq_adjoint_Apply];simp(disch:=omega)only[Zd,QM,QD,e1,e2,e3,e4];rw[Zs (λj:Nat=>(((j:Nat):Int),(C.nl,C.nl,()),(ints ((hd.take j).map λx=>IntKind.i64.wrap ((sc a b c:Int)*x)),[],()),())) 0 (((hd.length:Nat):Int),(C.nl,C.nl,()),(ints (aDS a b c dg br hd hf E 0),[],()),()) hd.length ?_ ?_ ?_ (by omega)]
 rotate_left
 ·rfl
 ·intro j hj;have i1:=Y6 hd hj;have hsn:ints ((hd.take j).map λx=>IntKind.i64.wrap ((sc a b c:Int)*x))++[C.v (.int .i64 (IntKind.i64.wrap ((sc a b c:Int)*at0 hd j)))]=ints ((hd.take (j+1)).map λx=>IntKind.i64.wrap ((sc a b c:Int)*x)):=by
   rw[Zqs hj,Zrz,R4,Zao hj];rfl
  have hlt:((hd.take j).map λx=>IntKind.i64.wrap ((sc a b c:Int)*x)).length=j:=by rw[Zqf,Zql];omega
  have hlt1:((hd.take (j+1)).map λx=>IntKind.i64.wrap ((sc a b c:Int)*x)).length=j+1:=by rw[Zqf,Zql];omega
  simp(disch:=omega)only[Zd,QM,QD,Zpu,Zp6,i1];simp(disch:=omega)only[Zd,QM,QD,Zh,hlt,hlt1,Zqj,Zp6,hsn,Zpz,Zpv,Zpy,Zpt];rfl
 ·rw[Zq7];have hl0:(hd.map λx=>IntKind.i64.wrap ((sc a b c:Int)*x)).length=hd.length:=Zqf ..;simp(disch:=omega)only[Zd,QM,QD,Zh,hl0,Zqj,Zp6,Zpy];rfl
 simp(disch:=omega)only[Zd,QM,QD,Zh,hDl,Zqj,Zp6,Zpy];rw[Zs (λj:Nat=>(((j:Nat):Int),(C.nl,C.nl,()),(ints (aDS a b c dg br hd hf E j),ints (aFS a b c br hd hf E j),()),())) 0 (((E.length:Nat):Int),(C.nl,C.nl,()),(ints (aDS a b c dg br hd hf E E.length),ints (aFS a b c br hd hf E E.length),()),()) E.length ?_ ?_ ?_ (by omega)]
 ·have htk1:List.take hd.length (ints (aDS a b c dg br hd hf E E.length))=ints (aDS a b c dg br hd hf E E.length):=Zp5 (by rw[Zh,hDl];exact Zp0 _);have htk2:List.take E.length (ints (aFS a b c br hd hf E E.length))=ints (aFS a b c br hd hf E E.length):=Zp5 (by rw[Zh,hFl];exact Zp0 _);simp(disch:=omega)only[Zd,QM,QD,Zh,hDl,hFl,Zqj,Zp6,Zpt,htk1,htk2]
 ·rfl
 ·intro j hj;have hinj:=hin E[j] (Zq2 hj);have hdpj:=hdp E[j] (Zq2 hj);have i4:=Y6 br (i:=j) (by omega);have bj:=Zgj w1 (by omega) j;have hD:=hDl j;have hst:=hDs j;have hft:=hFs j;have hFlj:=hFl j;have hsl:=hSl (aDS a b c dg br hd hf E j) j;unfold Ag am at hst hsl;unfold am at hft;rw[N7 E hj]at hst hsl hft;rw[hst,hft];generalize aFS a b c br hd hf E j=FL at*
  generalize aDS a b c dg br hd hf E j=D at*
  generalize hee:E[j]=e at*
  obtain⟨ea,eb⟩:=e;simp only at hinj hdpj hsl⊢;obtain⟨x,rfl⟩: ∃x:Nat,ea=x:=⟨ea.toNat,by omega⟩;obtain⟨y,rfl⟩: ∃y:Nat,eb=y:=⟨eb.toNat,by omega⟩;rw[Zpu,Zpu]at hdpj hsl⊢;have hea:=H6 Xm hj;rw[hee,show edC ((x:Int),(y:Int))=[C.v (.int .i64 (x:Int)),C.v (.int .i64 (y:Int))] from rfl]at hea;have q1:=Zns fu (d+9) x y a b c j (at0 br j) dg hd hf (by omega) (by omega) (by omega) ha hb hc;have q2:=Zlz fu (d+9) x y a b c j (at0 br j) dg hd hf D (by omega) (by omega) (by omega) (by omega) (by omega) (by omega) hdpj.1 hdpj.2 bj ha hb hc;unfold lkC at q1 q2;rw[show dg.length=N by omega]at q1 q2;rw[hD]at q2 hsl;generalize at0 br j=v at*
  simp(disch:=omega)only[Zd,QM,QD,Zqo,Zqr,Zpu,Zp6,Zqj,Zpt,hea,i4,Zh,hD,hFlj,q1,q2,hsl,R4,Zpz,Zpv,Zpy];rfl
 ·simp(disch:=omega)only[Zd,QM,QD,Zh,hDl,hFl,Zqj,Zp6]
end
end Go.Proofs.YtjmempcalaliiaaGreatDoor
/- Products of changes: the transposed step, in plain numbers. -/
namespace Go.Proofs.YtjmempcalaliiaaGreatDoor
open Go Go.PM Go.Grid
attribute [local congr] Zy Zz Z0 Yl Z1 Z2 Ym Yn Yo Yp Z3 Z4 Yq Xp Xq Xr Xs Xt Xv Xw Xx Xy Xu Z6 Z7 Xz Z8 Z9 Zr Ya Z5
theorem D8 {f g:Nat->Int} (n:Nat) (h: ∀j,j<n->f j=g j):((List.range n).map f).sum=((List.range n).map g).sum:=
 congrArg List.sum (Zr7 λj hj=>h j (Zrt.1 hj))
theorem D9: ∀n:Nat,((List.range n).map λ_=>(0:Int)).sum=0
 |0=>rfl
 |n+1=>by simp only[Zrq,Zrz,List.sum_append,D9 n,Zq3,List.map_nil,List.sum_cons,List.sum_nil];rfl
theorem K8 (f:Nat->Int) (n:Nat):((List.range (n+1)).map f).sum=((List.range n).map f).sum+f n:=by
 simp only[Zrq,Zrz,List.sum_append,Zq3,List.map_nil,List.sum_cons,List.sum_nil,Zsa]
theorem Ca (f:Nat->Int) (x:Nat): ∀n,x<n->((List.range n).map λk=>if k=x then f k else 0).sum=f x
 |0,h=>by omega
 |n+1,h=>by
  rw[K8];by_cases e:n=x
  ·subst e;rw[if_pos rfl,D8 n (g:=λ_=>0) (λj hj=>if_neg (by omega)),D9,Int.zero_add]
  ·rw[if_neg e,Ca f x n (by omega),Zsa]
theorem parts (N:Nat) (x y:Nat->Nat) (al be w:Nat->Int): ∀M,(∀j,j<M->x j<N/\y j<N)->
  ((List.range N).map λk=>w k*((List.range M).map λj=>(if k=x j then al j else 0)+(if k=y j then be j else 0)).sum).sum=((List.range M).map λj=>w (x j)*al j+w (y j)*be j).sum
 |0,_=>by
  show((List.range N).map λk=>w k*0).sum=0;rw[D8 N (g:=λ_=>0) (λj _=>Zsb _),D9]
 |M+1,h=>by
  have h1:=parts N x y al be w M λj hj=>h j (by omega);have hM:=h M (by omega);rw[K8 (λj=>w (x j)*al j+w (y j)*be j),<-h1];have e: ∀k,w k*((List.range (M+1)).map λj=>(if k=x j then al j else 0)+(if k=y j then be j else 0)).sum=w k*((List.range M).map λj=>(if k=x j then al j else 0)+(if k=y j then be j else 0)).sum+((if k=x M then w k*al M else 0)+(if k=y M then w k*be M else 0)):=by
   intro k;rw[K8 (λj=>(if k=x j then al j else 0)+(if k=y j then be j else 0)),Int.mul_add,Int.mul_add]
   congr 1
   congr 1
   ·split
    ·rfl
    ·exact Zsb _
   ·split
    ·rfl
    ·exact Zsb _
  rw[D8 N (λk _=>e k),Zar,Zar,Ca (λk=>w k*al M) (x M) N hM.1,Ca (λk=>w k*be M) (y M) N hM.2]
theorem wA (x y:Int):IntKind.i64.wrap (IntKind.i64.wrap x+y)=IntKind.i64.wrap (x+y):=by simp only[IntKind.wrap_i64];omega
theorem wB (x y:Int):IntKind.i64.wrap (x+IntKind.i64.wrap y)=IntKind.i64.wrap (x+y):=by simp only[IntKind.wrap_i64];omega
theorem wC (x y:Int):IntKind.i64.wrap (x-IntKind.i64.wrap y)=IntKind.i64.wrap (x+ -y):=by simp only[IntKind.wrap_i64];omega
theorem Znt {l:List Int} {i:Nat} (h:i<l.length) (v:Int) (k:Nat):at0 (l.set i v) k=if k=i then v else at0 l k:=by
 unfold at0;rw[Zp2,List.getElem?_set];by_cases e:i=k
 ·rw[if_pos e,if_pos (by omega),if_pos e.symm];rfl
 ·rw[if_neg e,if_neg (λq=>e q.symm),Zp2]
theorem wset {D:List Int} {T:Nat->Int} {x:Nat} {v:Int} (u:Int) (hD: ∀k,k<D.length->at0 D k=IntKind.i64.wrap (T k)) (hx:x<D.length) (hv:v=IntKind.i64.wrap (T x+u)):
  ∀k,k<(D.set x v).length->at0 (D.set x v) k=IntKind.i64.wrap (T k+if k=x then u else 0):=by
 intro k hk;rw[Zr0]at hk;rw[Znt hx];by_cases e:k=x
 ·rw[if_pos e,if_pos e,hv,e]
 ·rw[if_neg e,if_neg e,Zsa,hD k hk]
def zE (a b c:Nat) (br gd gf:List Int) (E:List (Int×Int)) (j:Nat):Int:=(scB a b c:Int)*at0 gf j+if at0 br j=0 then(tr a b:Int)*(at0 gd (E.getD j (0,0)).2.toNat-at0 gd (E.getD j (0,0)).1.toNat)else 0
def alE (a b c:Nat) (dg br gd gf:List Int) (E:List (Int×Int)) (j:Nat):Int:=zE a b c br gd gf E j+if at0 br j=1 then Int.tdiv (sc a b c) (at0 dg (E.getD j (0,0)).1.toNat)*(at0 gd (E.getD j (0,0)).2.toNat-at0 gd (E.getD j (0,0)).1.toNat)else 0
def beE (a b c:Nat) (dg br gd gf:List Int) (E:List (Int×Int)) (j:Nat):Int:= -(zE a b c br gd gf E j)+if at0 br j= -1 then -(Int.tdiv (sc a b c) (at0 dg (E.getD j (0,0)).2.toNat)*(at0 gd (E.getD j (0,0)).2.toNat-at0 gd (E.getD j (0,0)).1.toNat))else 0
def sS (a b c:Nat) (dg br gd gf:List Int) (E:List (Int×Int)) (J k:Nat):Int:=((List.range J).map λj=>(if k=(E.getD j (0,0)).1.toNat then alE a b c dg br gd gf E j else 0)+(if k=(E.getD j (0,0)).2.toNat then beE a b c dg br gd gf E j else 0)).sum
theorem Zgn (a b c:Nat) (dg br gd gf:List Int) (E:List (Int×Int)) (J k:Nat):sS a b c dg br gd gf E (J+1) k=sS a b c dg br gd gf E J k+((if k=(E.getD J (0,0)).1.toNat then alE a b c dg br gd gf E J else 0)+(if k=(E.getD J (0,0)).2.toNat then beE a b c dg br gd gf E J else 0)):=K8 _ _
theorem Zl1 (a b c:Nat) (dg br gd gf:List Int) (E:List (Int×Int)) (hE: ∀e∈E,e.1.toNat<gd.length/\e.2.toNat<gd.length) (hg: ∀i,-1099511627776<=at0 gd i/\at0 gd i<=1099511627776):
  ∀J,J<=E.length-> ∀k,k<(aDS a b c dg br gd gf E J).length->at0 (aDS a b c dg br gd gf E J) k=IntKind.i64.wrap ((sc a b c:Int)*at0 gd k+sS a b c dg br gd gf E J k)
 |0,_=>by
  intro k hk;show at0 (gd.map λx=>IntKind.i64.wrap ((sc a b c:Int)*x)) k=_;rw[Znr (λx=>IntKind.i64.wrap ((sc a b c:Int)*x)) (by rw[Zsb];rfl)];show _=IntKind.i64.wrap ((sc a b c:Int)*at0 gd k+0);rw[Zsa]
 |J+1,hJ=>by
  have ih:=Zl1 a b c dg br gd gf E hE hg J (by omega);have hl:=Sw a b c dg br gd gf E J;have hEJ:=hE E[J] (Zq2 (by omega));rw[D7];unfold Ag aD1;have hm:am gd E J=at0 gd (E.getD J (0,0)).2.toNat-at0 gd (E.getD J (0,0)).1.toNat:=by
   unfold am;have h1:=hg (E.getD J (0,0)).2.toNat;have h2:=hg (E.getD J (0,0)).1.toNat;exact Xd (by omega) (by omega)
  rw[hm];have hx:(E.getD J (0,0)).1.toNat<(aDS a b c dg br gd gf E J).length:=by rw[hl,N7 E (by omega)];exact hEJ.1
  have hy:(E.getD J (0,0)).2.toNat<(aDS a b c dg br gd gf E J).length:=by rw[hl,N7 E (by omega)];exact hEJ.2
  have hS:=λk=>Zgn a b c dg br gd gf E J k;have hz:aZ a b c (at0 br J) (at0 gd (E.getD J (0,0)).2.toNat-at0 gd (E.getD J (0,0)).1.toNat) (at0 gf J)=IntKind.i64.wrap (zE a b c br gd gf E J):=by
   unfold aZ zE;split
   ·rw[wA,wB]
   ·rw[Zsa]
  rw[hz];unfold alE beE at hS;generalize zE a b c br gd gf E J=z at*
  generalize at0 gd (E.getD J (0,0)).2.toNat-at0 gd (E.getD J (0,0)).1.toNat=m at*
  generalize (E.getD J (0,0)).1.toNat=x at*
  generalize (E.getD J (0,0)).2.toNat=y at*
  generalize aDS a b c dg br gd gf E J=D at*
  generalize Int.tdiv (sc a b c) (at0 dg x)=qx at*
  generalize Int.tdiv (sc a b c) (at0 dg y)=qy at*
  generalize at0 br J=r at*
  have two: ∀(D:List Int) (T:Nat->Int),(∀k,k<D.length->at0 D k=IntKind.i64.wrap (T k))->x<D.length->y<D.length-> ∀k,k<(aD2 (IntKind.i64.wrap z) x y D).length->at0 (aD2 (IntKind.i64.wrap z) x y D) k=IntKind.i64.wrap (T k+(if k=x then z else 0)+(if k=y then -z else 0)):=by
   intro D T hD hx hy;have h1:=wset (D:=D) (T:=T) (x:=x) (v:=IntKind.i64.wrap (at0 D x+IntKind.i64.wrap z)) z hD hx (by rw[hD x hx,wA,wB]);have hy1:y<(D.set x (IntKind.i64.wrap (at0 D x+IntKind.i64.wrap z))).length:=by rw[Zr0];exact hy
   exact wset (-z) h1 hy1 (by rw[h1 y hy1,wC,wA])
  intro k hk;by_cases q1:r=1
  ·rw[if_pos q1]at hk⊢;have h1:=wset (D:=D) (x:=x) (v:=IntKind.i64.wrap (at0 D x+IntKind.i64.wrap (qx*m))) (qx*m) ih hx (by rw[ih x hx,wA,wB]);rw[two _ _ h1 (by rw[Zr0];exact hx) (by rw[Zr0];exact hy) k hk,hS k,if_pos q1,if_neg (show ¬r= -1 by omega)]
   congr 1
   repeat' split
   all_goals omega
  ·rw[if_neg q1]at hk⊢;by_cases q2:r= -1
   ·rw[if_pos q2]at hk⊢;have h1:=wset (D:=D) (x:=y) (v:=IntKind.i64.wrap (at0 D y-IntKind.i64.wrap (qy*m))) (-(qy*m)) ih hy (by rw[ih y hy,wC,wA]);rw[two _ _ h1 (by rw[Zr0];exact hx) (by rw[Zr0];exact hy) k hk,hS k,if_neg q1,if_pos q2]
    congr 1
    repeat' split
    all_goals omega
   ·rw[if_neg q2]at hk⊢;rw[two _ _ ih hx hy k hk,hS k,if_neg q1,if_neg q2]
    congr 1
    repeat' split
    all_goals omega
end Go.Proofs.YtjmempcalaliiaaGreatDoor
/- The transposed step is exact: products of changes, in plain numbers. -/
namespace Go.Proofs.YtjmempcalaliiaaGreatDoor
open Go Go.PM Go.Grid
attribute [local congr] Zy Zz Z0 Yl Z1 Z2 Ym Yn Yo Yp Z3 Z4 Yq Xp Xq Xr Xs Xt Xv Xw Xx Xy Xu Z6 Z7 Xz Z8 Z9 Zr Ya Z5
theorem Znu {n:Nat} (hn:n=1\/n=2):(edg n).length<=120:=by
 have h:decide ((edg n).length<=120)=true:=by rcases hn with rfl|rfl<;>kernel_rfl
 exact of_decide_eq_true h
theorem mbd {p x P m:Int} (hp:0<=p/\p<=P) (hx: -m<=x/\x<=m) (hm:0<=m): -(P*m)<=p*x/\p*x<=P*m:=Zpk hp hx hm
section
variable (a b c:Nat) (ha:a<=4) (hb:b<=4) (hc:c<=4)
include ha hb hc
theorem Zpm:(0:Int)<=tp a b/\(tp a b:Int)<=7680:=by
 have h1:=Zof a b c;have h2:=Ae ha hb hc;have h4:0<2^c:=Nat.pow_pos (by omega);have h5:tp a b<=tp a b*2^c:=Nat.le_mul_of_pos_right _ h4;omega
def qFE (a b c:Nat) (br gd gf:List Int) (E:List (Int×Int)) (j:Nat):Int:=((sc a b c:Int)-scA a b c)*at0 gf j+if at0 br j=0 then(tp a b:Int)*(at0 gd (E.getD j (0,0)).2.toNat-at0 gd (E.getD j (0,0)).1.toNat)else 0
theorem Zpn {br gd gf:List Int} {E:List (Int×Int)} (g1: ∀i,-1099511627776<=at0 gd i/\at0 gd i<=1099511627776) (g2: ∀i,-1099511627776<=at0 gf i/\at0 gf i<=1099511627776) {j:Nat} (hj:j<E.length):
  at0 (aFS a b c br gd gf E E.length) j=qFE a b c br gd gf E j:=by
 unfold aFS;rw[Zaq _ _ hj];have hs:=Ae ha hb hc;have hA:=Zff a b c;have ht:=Zpm a b c ha hb hc;have h1:=g1 (E.getD j (0,0)).2.toNat;have h2:=g1 (E.getD j (0,0)).1.toNat;have h3:=g2 j;have hm:am gd E j=at0 gd (E.getD j (0,0)).2.toNat-at0 gd (E.getD j (0,0)).1.toNat:=by
  unfold am;exact Xd (by omega) (by omega)
 have hf:Int.fdiv ((sc a b c:Int)-scA a b c) (2^c)=tp a b:=by rw[Zpj];exact G5 _ _
 unfold aFl qFE;rw[hm,hf];generalize hm:at0 gd (E.getD j (0,0)).2.toNat-at0 gd (E.getD j (0,0)).1.toNat=m;have hm': -2199023255552<=m/\m<=2199023255552:=by omega
 have b1:=mbd (p:=(sc a b c:Int)-scA a b c) (P:=7680) ⟨by omega,by omega⟩ h3 (by omega);have b2:=mbd (p:=(tp a b:Int)) (P:=7680) ht hm' (by omega);generalize ((sc a b c:Int)-scA a b c)*at0 gf j=p1 at*
 generalize (tp a b:Int)*m=p2 at*
 split
 ·rw[wA,wB];exact Xd (by omega) (by omega)
 ·rw[Zsa];exact Xd (by omega) (by omega)
end
end Go.Proofs.YtjmempcalaliiaaGreatDoor
/- The example of chapter 32. -/
namespace Go.Proofs.YtjmempcalaliiaaGreatDoor
open Go Go.PM Go.Grid
attribute [local congr] Zy Zz Z0 Yl Z1 Z2 Ym Yn Yo Yp Z3 Z4 Yq Xp Xq Xr Xs Xt Xv Xw Xx Xy Xu Z6 Z7 Xz Z8 Z9 Zr Ya Z5
theorem Zl2: ∀j,j<12->(List.replicate j (1:Int)++List.replicate (12-j) 0).set j 1=List.replicate (j+1) 1++List.replicate (12-(j+1)) 0:=by decide+kernel
theorem Zdb: ∀j,j<13->(List.replicate j (1:Int)++List.replicate (12-j) 0).length=12:=by decide+kernel
section
variable (fu d:Nat) (hfu:18446744073709551616<=fu)
include hfu
theorem Zfk:cl fu (d+13) fn_synopticlaw32_awake [] []=OK (B true):=by
 have h1:(edg 1).length=30:=by kernel_rfl
 have h2:(Zj 1).length=12:=by kernel_rfl
 have v1:at0 (aDS 1 1 1 (Qr (Zj 1).length (edg 1)) (List.replicate 30 0) (List.replicate 12 1) (List.replicate 30 0) (edg 1) (edg 1).length) 5=120:=by kernel_rfl
 have v2:at0 (aFS 1 1 1 (List.replicate 30 0) (List.replicate 12 1) (List.replicate 30 0) (edg 1) (edg 1).length) 9=0:=by kernel_rfl
 have k1:=Sw 1 1 1 (Qr (Zj 1).length (edg 1)) (List.replicate 30 0) (List.replicate 12 1) (List.replicate 30 0) (edg 1) (edg 1).length;have k2:=Lu 1 1 1 (List.replicate 30 0) (List.replicate 12 1) (List.replicate 30 0) (edg 1) (edg 1).length;have ap:=Ah fu d hfu 1 (by unfold Yf;omega) 1 1 1 (by omega) (by omega) (by omega) (List.replicate 30 0) (List.replicate 12 1) (List.replicate 30 0) (by rw[h1];rfl) (by rw[h2];rfl) (by rw[h1];rfl) (λv hv=>by rw[Zro hv];omega) (λv hv=>by rw[Zro hv];omega) (λv hv=>by rw[Zro hv];omega);generalize aDS 1 1 1 (Qr (Zj 1).length (edg 1)) (List.replicate 30 0) (List.replicate 12 1) (List.replicate 30 0) (edg 1) (edg 1).length=X at*
 generalize aFS 1 1 1 (List.replicate 30 0) (List.replicate 12 1) (List.replicate 30 0) (edg 1) (edg 1).length=Y at*
 rw[h1]at ap k2;replace k1:X.length=12:=k1;replace ap:cl fu (d+12) fn_adjoint_Apply [V.agg [C.v (.int .i64 1),C.v (.int .i64 1),C.v (.int .i64 1)],I 1,V.c (C.sl 30 (ints (List.replicate 30 0))),V.agg [C.sl 12 (ints (List.replicate 12 1)),C.sl 30 (ints (List.replicate 30 0))]] []=OK (V.tup [V.agg [C.sl 12 (ints X),C.sl 30 (ints Y)],I 0]):=ap;have i1:=Y6 X (i:=5) (by omega);have i2:=Y6 Y (i:=9) (by omega);rw[v1]at i1;rw[v2]at i2;have hz:ints (List.replicate 30 0)=[C.v (.int .i64 0),C.v (.int .i64 0),C.v (.int .i64 0),C.v (.int .i64 0),C.v (.int .i64 0),C.v (.int .i64 0),C.v (.int .i64 0),C.v (.int .i64 0),C.v (.int .i64 0),C.v (.int .i64 0),C.v (.int .i64 0),C.v (.int .i64 0),C.v (.int .i64 0),C.v (.int .i64 0),C.v (.int .i64 0),C.v (.int .i64 0),C.v (.int .i64 0),C.v (.int .i64 0),C.v (.int .i64 0),C.v (.int .i64 0),C.v (.int .i64 0),C.v (.int .i64 0),C.v (.int .i64 0),C.v (.int .i64 0),C.v (.int .i64 0),C.v (.int .i64 0),C.v (.int .i64 0),C.v (.int .i64 0),C.v (.int .i64 0),C.v (.int .i64 0)]:=rfl;have hzl:(ints (List.replicate 30 0)).length=30:=rfl;have ho:List.take 12 (ints (List.replicate 12 1++List.replicate 0 0))=ints (List.replicate 12 1):=rfl;have hz3:List.take 30 (ints (List.replicate 30 0))=ints (List.replicate 30 0):=rfl;rw[eq_synopticlaw32_awake];rw[<-hz];generalize ints (List.replicate 30 0)=Z at*
 rw[Zs (λj:Nat=>(((j:Nat):Int),(ints (List.replicate j 1++List.replicate (12-j) 0),Z,()),())) 0 (((12:Nat):Int),(ints (List.replicate 12 1++List.replicate 0 0),Z,()),()) 12 ?_ ?_ ?_ (by omega)]
 ·have hol:(List.replicate 12 (1:Int)++List.replicate 0 0).length=12:=rfl;simp(disch:=omega)only[Zd,QM,QD,Zh,hol,hzl,hz3,ho,Zqj,Zp6,Zpt,ap,i1,i2,Zpv,Zpy,Nat.reduceAdd]
 ·rfl
 ·intro j hj;have s1:=Zl2 j hj;have s2:=Zdb j (by omega);have s3:=Zdb (j+1) (by omega);have p1:=Tr (List.replicate j (1:Int)++List.replicate (12-j) 0) (i:=j) (by omega) 1;rw[s1]at p1;generalize List.replicate j (1:Int)++List.replicate (12-j) 0=A at*
  generalize List.replicate (j+1) (1:Int)++List.replicate (12-(j+1)) 0=A' at*
  simp(disch:=omega)only[Zd,QM,QD,Zh,s2,s3,hzl,Zpu,Zqj,Zp6,Zpt,p1];rfl
 ·have hol:(List.replicate 12 (1:Int)++List.replicate (12-12) 0).length=12:=rfl;simp(disch:=omega)only[Zd,QM,QD,Zh,hol,hzl,Zqj,Zp6]
end
end Go.Proofs.YtjmempcalaliiaaGreatDoor
/- AdjointMass answers true (at a tree whose equations were made with MASS=1). -/
namespace Go.Proofs.YtjmempcalaliiaaGreatDoor
open Go Go.PM Go.Grid
theorem Zl3 {R:Type} (xs:List V) (k:List V->Option R):rG (.mag xs) k=k xs:=id rfl
attribute [local congr] Zy Zz Z0 Yl Z1 Z2 Ym Yn Yo Yp Z3 Z4 Yq Xp Xq Xr Xs Xt Xv Xw Xx Xy Xu Z6 Z7 Xz Z8 Z9 Zr Ya Z5
def fil (k:Int) (l:List Int) (j:Nat):List Int:=List.replicate j k++l.drop j
theorem Cb (k:Int) (l:List Int) {j:Nat} (h:j<=l.length):(fil k l j).length=l.length:=by
 unfold fil;rw[Zpz,Zrl,Zrb];omega
theorem Zgo (k:Int) (l:List Int) {j:Nat} (h:j<l.length):(fil k l j).set j k=fil k l (j+1):=by
 unfold fil;rw[List.set_append,if_neg (by rw[Zrl];omega),Zrl,Nat.sub_self,Zqn h,List.set_cons_zero,List.replicate_succ',Zqq];rfl
theorem Zgp (k:Int) (l:List Int):fil k l l.length=List.replicate l.length k:=by
 unfold fil;rw[List.drop_length,Zry]
theorem Sx (n:Nat) (k:Int) {i:Nat} (h:i<n):at0 (List.replicate n k) i=k:=by
 unfold at0;rw[Zp2,List.getElem?_replicate,if_pos h];rfl
theorem Zgq {a b c N M:Nat} {dg br:List Int} {E:List (Int×Int)} (k:Int) (hE: ∀e∈E,e.1.toNat<N/\e.2.toNat<N) (hM:E.length<=M) (i:Nat): ∀J,J<=E.length->sS a b c dg br (List.replicate N k) (List.replicate M 0) E J i=0
 |0,_=>rfl
 |J+1,h=>by
  have hEJ:=hE E[J] (Zq2 (by omega));rw[Zgn,Zgq k hE hM i J (by omega)];unfold alE beE zE;rw[N7 E (by omega),Sx N k hEJ.1,Sx N k hEJ.2,Sx M 0 (by omega),Int.sub_self,Zsb,Zsb,Zsb,Zsb]
  repeat' split
  all_goals rfl
section
variable (fu d:Nat)
theorem Znv (x:Int) (n:Nat) (hn:1<=n/\n<=4000000000000): ∃v:Nat,v<n/\cl fu (d+1) fn_synopticfield_Mod [I x,I (n:Int)] []=OK (I (v:Int)):=by
 rw[eq_synopticfield_Mod];have h1:Int.tmod x n=x-n*Int.tdiv x n:=by have:=Int.tmod_add_mul_tdiv x n;omega
 have h2: -(n:Int)<Int.tmod x n/\Int.tmod x n<n:=by
  have:=Int.tmod_lt_of_pos x (by omega:(0:Int)<n);have:=Int.lt_tmod_of_pos x (by omega:(0:Int)<n);omega
 generalize Int.tmod x n=q at*
 by_cases h0:q<0
 ·refine⟨(q+n).toNat,by omega, ?_⟩;rw[Int.toNat_of_nonneg (by omega)];simp(disch:=omega)only[Zd,QM,QD]
 ·refine⟨q.toNat,by omega, ?_⟩;rw[Int.toNat_of_nonneg (by omega)];simp(disch:=omega)only[Zd,QM,QD]
end
section
variable (fu d:Nat) (hfu:18446744073709551616<=fu)
include hfu
set_option maxHeartbeats 4000000 in
theorem sp_AdjointMass (l:List Int) (hl: ∀x∈l,0<=x/\x<=255) (val:Int):cl fu (d+14) fn_synopticlaw32_AdjointMass [V.c (C.sl l.length (ik .u8 l)),I val] []=OK (B true):=by
 have hA:=Zfk fu d hfu;have hb:=Zfd hl (k:=300) (by omega);have hN:=Znm fu (d+12) l 300;replace hN:cl fu (d+13) fn_synopticfield_New [V.c (C.sl l.length (ik .u8 l)),I 300] []=_:=hN;generalize l.take 300=bs at hb hN;obtain⟨n,j1,hn,hj1,c1⟩:=Zan fu (d+10) hb (i:=0) (by omega);have h:=Znn hn;obtain⟨a,b,c,j2,ha,hb',hc,hj2,c2⟩:=Ziw fu (d+10) hb hj1;obtain⟨br,j3,hbl,hbw,hj3,c3⟩:=Ziy fu (d+3) hfu hb hj2 n h;obtain⟨hd,hf,j5,h1,h2,h3,h4,hj5,c5⟩:=Zfh fu (d+3) hfu hb hj3 n h 5 (by omega) 9 (by omega);obtain⟨kv,hkv,c6⟩:=Znv fu (d+12) val 2199023255552 (by omega);replace c5:cl fu (d+13) fn_synopticfield_Codes_Change [V.ptr 1000000 0,I n,I 5] _=_:=c5;replace c6:cl fu (d+13) fn_synopticfield_Mod [I val,I 2199023255552] []=_:=c6;have heL:=Pw h;have hNl:=Q0 h;have h120:=Znu hn;have hk0:IntKind.i64.wrap ((kv:Int)-1099511627776)=(kv:Int)-1099511627776:=Xd (by omega) (by omega);generalize hkk:(kv:Int)-1099511627776=k at*
 have hkb: -1099511627776<=k/\k<=1099511627776:=by omega
 have rl1:(List.replicate hd.length k).length=hd.length:=Zrl;have rl2:(List.replicate hf.length (0:Int)).length=hf.length:=Zrl;have g3:wid (-1099511627776) 1099511627776 (List.replicate hd.length k):=Zgk hkb;have g4:wid (-1099511627776) 1099511627776 (List.replicate hf.length (0:Int)):=Zgk (by omega);have a2:=Ah fu (d+1) hfu n h a b c ha hb' hc br (List.replicate hd.length k) (List.replicate hf.length 0) hbl (rl1.trans h1) (rl2.trans h2) hbw g3 g4;have a4:=Zda fu (d+6) hfu a b c ha hb' hc;have hsc:=Ae ha.2 hb'.2 hc.2;have hin: ∀e∈edg n,e.1.toNat<hd.length/\e.2.toNat<hd.length:=λe he=>by have:=Dr h e he;omega
 have bm:=mbd (p:=(sc a b c:Int)) (P:=7680) ⟨by omega,by omega⟩ hkb (by omega);have bg:=Zgl g3 (by omega);have bg':=Zgl g4 (by omega);have Y1: ∀i,i<hd.length->at0 (aDS a b c (Qr (Zj n).length (edg n)) br (List.replicate hd.length k) (List.replicate hf.length 0) (edg n) (edg n).length) i=(sc a b c:Int)*k:=by
  intro i hi;rw[Zl1 a b c _ br _ _ (edg n) (λe he=>by rw[rl1];exact hin e he) bg (edg n).length (Zp0 _) i (by rw[Sw,rl1];exact hi),Zgq k hin (by omega) i _ (Zp0 _),Sx _ _ hi,Zsa];exact Xd (by omega) (by omega)
 have Y2: ∀i,i<(edg n).length->at0 (aFS a b c br (List.replicate hd.length k) (List.replicate hf.length 0) (edg n) (edg n).length) i=0:=by
  intro i hi;have hEi:=hin (edg n)[i] (Zq2 hi);rw[Zpn a b c ha.2 hb'.2 hc.2 bg bg' hi];unfold qFE;rw[N7 (edg n) hi,Sx _ _ hEi.1,Sx _ _ hEi.2,Sx _ _ (by omega),Int.sub_self,Zsb,Zsb];split<;>rfl
 have D3:=Sw a b c (Qr (Zj n).length (edg n)) br (List.replicate hd.length k) (List.replicate hf.length 0) (edg n) (edg n).length;have D4:=Lu a b c br (List.replicate hd.length k) (List.replicate hf.length 0) (edg n) (edg n).length;rw[rl1]at D3;rw[rl1,rl2]at a2;generalize aDS a b c (Qr (Zj n).length (edg n)) br (List.replicate hd.length k) (List.replicate hf.length 0) (edg n) (edg n).length=X1 at*
 generalize aFS a b c br (List.replicate hd.length k) (List.replicate hf.length 0) (edg n) (edg n).length=X2 at*
 generalize edg n=E at*
 generalize (Zj n).length=N at*
 have ht1:List.take hd.length (ints (List.replicate hd.length k))=ints (List.replicate hd.length k):=Zp5 (by rw[Zh,rl1];exact Zp0 _);have ht2:List.take hf.length (ints (List.replicate hf.length (0:Int)))=ints (List.replicate hf.length 0):=Zp5 (by rw[Zh,rl2];exact Zp0 _);have fl1:=λ{j:Nat} (hj:j<=hd.length)=>Cb k hd hj;have fl2:=λ{j:Nat} (hj:j<=hf.length)=>Cb 0 hf hj;unfold Yz at*
 rw[eq_synopticlaw32_AdjointMass];simp(disch:=omega)only[Zd,QM,QD,out0,out1,out2,W3,Zks,Zl3,hA,hN,c1,c2,c3,c5,c6,hkk,hk0,Zh,Zp6,Zpv,Zpy,Zpt,Nat.reduceAdd];rw[Zs (λj:Nat=>(((j:Nat):Int),(ints (fil k hd j),ints hf,()),())) 0 (((hd.length:Nat):Int),(ints (List.replicate hd.length k),ints hf,()),()) hd.length ?_ ?_ ?_ (by omega)]
 rotate_left
 ·rfl
 ·intro j hj;have hp:=Tr (fil k hd j) (i:=j) (by rw[fl1 (by omega)];exact hj) k;rw[Zgo k hd hj]at hp;have e1:=fl1 (j:=j) (by omega);have e2:=fl1 (j:=j+1) (by omega);simp(disch:=omega)only[Zd,QM,QD,Zpu,Zp6,Zqj,Zpt,Zh,e1,e2,hp,hkk,hk0];rfl
 ·rw[Zgp];simp(disch:=omega)only[Zd,QM,QD,Zh,rl1,Zqj,Zp6]
 simp(disch:=omega)only[Zd,QM,QD,Zh,rl1,Zqj,Zp6];rw[Zs (λj:Nat=>(((j:Nat):Int),(ints (List.replicate hd.length k),ints (fil 0 hf j),()),())) 0 (((hf.length:Nat):Int),(ints (List.replicate hd.length k),ints (List.replicate hf.length 0),()),()) hf.length ?_ ?_ ?_ (by omega)]
 rotate_left
 ·rfl
 ·intro j hj;have hp:=Tr (fil 0 hf j) (i:=j) (by rw[fl2 (by omega)];exact hj) 0;rw[Zgo 0 hf hj]at hp;have e1:=fl2 (j:=j) (by omega);have e2:=fl2 (j:=j+1) (by omega);simp(disch:=omega)only[Zd,QM,QD,Zpu,Zp6,Zqj,Zpt,Zh,rl1,e1,e2,hp];rfl
 ·rw[Zgp];simp(disch:=omega)only[Zd,QM,QD,Zh,rl1,rl2,Zqj,Zp6]
 have hsk:IntKind.i64.wrap ((sc a b c:Int)*k)=(sc a b c:Int)*k:=Xd (by omega) (by omega);simp(disch:=omega)only[Zd,QM,QD,Zl3,out0,out1,out2,W3,Zks,Zh,rl1,rl2,Zqj,Zp6,Zpt,ht1,ht2,a2,a4,D3,D4,Zpv,Zpy,Nat.reduceAdd];rw[Zs (λj:Nat=>(false,((j:Nat):Int),())) 0 (false,((hd.length:Nat):Int),()) hd.length ?_ ?_ ?_ (by omega)]
 rotate_left
 ·rfl
 ·intro j hj;have i1:=Y6 X1 (i:=j) (by omega);rw[Y1 j hj]at i1;simp(disch:=omega)only[Zd,QM,QD,Zpu,Zp6,i1,hkk,hk0,hsk];rfl
 ·simp(disch:=omega)only[Zd,QM,QD]
 simp(disch:=omega)only[Zd,QM,QD];rw[Zs (λj:Nat=>(false,((j:Nat):Int),())) 0 (false,((E.length:Nat):Int),()) E.length ?_ ?_ ?_ (by omega)]
 rotate_left
 ·rfl
 ·intro j hj;have i1:=Y6 X2 (i:=j) (by omega);rw[Y2 j hj]at i1;simp(disch:=omega)only[Zd,QM,QD,Zpu,Zp6,i1];rfl
 ·simp(disch:=omega)only[Zd,QM,QD]
 simp(disch:=omega)only[Zd,QM,QD]
end
end Go.Proofs.YtjmempcalaliiaaGreatDoor
/- The iterators that this seat's programs meet: the edges, and slices.Backward. -/
namespace Go.Proofs.YtjmempcalaliiaaGreatDoor
open Go Go.PM Go.Grid
attribute [local congr] Zy Zz Z0 Yl Z1 Z2 Ym Yn Yo Yp Z3 Z4 Yq Xp Xq Xr Xs Xt Xv Xw Xx Xy Xu Z6 Z7 Xz Z8 Z9 Zr Ya Z5
theorem Py (cs:List C):(backL cs).length=cs.length:=by simp[backL]
theorem Zi0 (cs:List C) {i:Nat} (h:i<cs.length):(backL cs)[i]'(by rw[Py];exact h)=[I ((cs.length-1-i:Nat):Int),V.c (cs[cs.length-1-i]'(by omega))]:=by
 simp only[backL,List.getElem_map,List.getElem_reverse,List.getElem_zipIdx,List.length_zipIdx,Zpt]
theorem Zfl (cs:List C) {i:Nat} (h:i<cs.length):(backL cs).drop i=[I ((cs.length-1-i:Nat):Int),V.c (cs[cs.length-1-i]'(by omega))]::(backL cs).drop (i+1):=by
 rw[Zqn (by rw[Py];exact h),Zi0 cs h]
theorem Zl4 (cs:List C) {i q:Nat} (h:i<cs.length) (hq:q=cs.length-1-i) (hql:q<cs.length):(backL cs).drop i=[I (q:Int),V.c cs[q]]::(backL cs).drop (i+1):=by
 subst hq;exact Zfl cs h
section
variable (fu d:Nat) (hf:18446744073709551616<=fu)
include hf
theorem Znw (cs:List C) (hl:cs.length<=1000000) (l:Nat) (go:Nat->Bool) (c0:C) (hc0: ∀{R:Type} (k:Nat->List C->Option R),asSl c0 k=k cs.length cs) (r:List C):
  ∃out lg,cl fu (d+1) fn_slices_Backward_sapi_Branch_api_Branch_1 [V.c (C.yl l go (backL cs)),V.c (C.cp (c0::r))] []=some out/\out.log=some lg/\(lg.st=true\/lg.rest=[]):=by
 have hll:=Py cs;have hd:=λ{i q:Nat} (h:i<cs.length) (hq:q=cs.length-1-i) (hql:q<cs.length)=>Zl4 cs h hq hql;rw[eq_slices_Backward_sapi_Branch_api_Branch_1];generalize backL cs=BL at*
 have hc1:=λ{R:Type} (k:Nat->List C->Option R)=>hc0 k;simp(disch:=omega)only[Zd,QM,QD,hc1];refine Ql (A:=Int×Log×Unit) (B:=Out) (fu:=fu) (λo=> ∃out lg,o=some out/\out.log=some lg/\(lg.st=true\/lg.rest=[]))
  (λs=> ∃i:Nat,i<=cs.length/\s=((cs.length:Int)-1-(i:Int),⟨l,go,i,BL.drop i,false⟩,())) (λs=>(s.1+1).toNat) (λ_ z=>z.2.1.st=true\/z.2.1.rest=[]) ⟨0,by omega, ?_⟩ ?_ ?_ ?_
 ·simp
 ·show((cs.length:Int)-1+1).toNat<fu;omega
 ·rintro y ⟨i,hi,rfl⟩
  by_cases hlt:i<cs.length
  ·obtain⟨q,hq⟩: ∃q:Nat,q=cs.length-1-i:=⟨_,rfl⟩;have hqi:(cs.length:Int)-1-(i:Int)=(q:Int):=by omega
   have hql:q<cs.length:=by omega
   have hat:=Zqn hql;have hd:=hd hlt hq hql;rw[hqi];cases hg:go i with
   |true=>
    refine .inl ⟨((cs.length:Int)-1-((i+1:Nat):Int),⟨l,go,i+1,BL.drop (i+1),false⟩,()), ?_,⟨i+1,by omega,rfl⟩, ?_⟩
    ·rw[show(cs.length:Int)-1-((i+1:Nat):Int)=(q:Int)-1 by omega];simp(disch:=omega)only[Zd,QM,QD,Zpu,Zp6,hc1,hat,hd,Kr,Ks,hg]
    ·show((cs.length:Int)-1-((i+1:Nat):Int)+1).toNat<((q:Int)+1).toNat;omega
   |false=>
    refine .inr ⟨1,((q:Int),⟨l,go,i+1,BL.drop (i+1),true⟩,()), ?_, .inl rfl⟩;simp(disch:=omega)only[Zd,QM,QD,Zpu,Zp6,hc1,hat,hd,Kr,Ks,hg]
  ·refine .inr ⟨0,((cs.length:Int)-1-(i:Int),⟨l,go,i,BL.drop i,false⟩,()), ?_, .inr ?_⟩
   ·simp(disch:=omega)only[Zd,QM,QD]
   ·show BL.drop i=[];rw[List.drop_eq_nil_iff];omega
 ·rintro e z hz
  refine⟨⟨V.tup [],[],some z.2.1⟩,z.2.1, ?_,rfl,hz⟩;cases e<;>rfl
omit d in
theorem iterOk:W0 Tryz.prog prim laid fu:=by
 intro d f caps xs h l go;replace h:(bif Nat.ble 10 d then iterC f caps else none)=some xs:=h;cases hd:Nat.ble 10 d with
 |false=>rw[hd]at h;cases h
 |true=>
  rw[hd]at h;replace h:iterC f caps=some xs:=h;have hd:=Zpq hd;obtain⟨d',rfl⟩: ∃d',d=d'+10:=⟨d-10,by omega⟩;unfold iterC at h;cases hfq:Nat.beq f fn_flux_edges_1 with
  |false=>
   rw[hfq]at h;simp only[cf]at h;cases hfv:Nat.beq f fn_slices_Backward_sapi_Branch_api_Branch_1 with
   |false=>rw[hfv]at h;cases h
   |true=>
    have hfe:=Zpo hfv;subst hfe;rw[hfv]at h;simp only[ct]at h;split at h
    ·rename_i c;unfold asP at h;split at h
     ·rename_i cs;cases cs with
      |nil=>cases h
      |cons c r=>
       replace h:asSl c (λn l=>need (Nat.beq n l.length&&Nat.ble n 1000000) (some (backL l)))=some xs:=h;have fin: ∀(n:Nat) (cs:List C),need (Nat.beq n cs.length&&Nat.ble n 1000000) (some (backL cs))=some xs->n=cs.length/\cs.length<=1000000/\xs=backL cs:=λn cs h=>by
        obtain⟨hc,h⟩:=Za h;rw[Zpp]at hc;have h1:=Zpo hc.1;have h2:=Zpq hc.2;cases h;exact⟨h1,by omega,rfl⟩
       unfold asSl at h;split at h
       ·rename_i p hp;obtain⟨e1,h3,rfl⟩:=fin _ _ h;refine Znw fu (d'+9) hf p.2 h3 l go _ (λk=> ?_) r;unfold asSl;rw[hp];show k p.1 p.2=_;rw[e1]
       ·cases h
     ·cases h
    ·cases h
  |true=>
   have hfe:=Zpo hfq;subst hfe;rw[hfq]at h;simp only[ct]at h;split at h
   ·rename_i c;unfold asP at h;split at h
    ·rename_i cs;cases cs with
     |nil=>cases h
     |cons c r=>
      replace h:asI .i64 c (λn=>need (decide (1<=n)&&decide (n<=8)) (some (edgesL n.toNat)))=some xs:=h;unfold asI at h;split at h
      ·split at h
       ·rename_i kd i hk;subst hk;obtain⟨hc,h⟩:=Za h;rw[Zpp]at hc;have h1:=of_decide_eq_true hc.1;have h2:=of_decide_eq_true hc.2;cases h;obtain⟨n,rfl⟩: ∃n:Nat,i=n:=⟨i.toNat,by omega⟩;exact Zlx fu d' hf n (by unfold Yf;omega) l go r
       ·cases h
      ·cases h
    ·cases h
   ·cases h
end
end Go.Proofs.YtjmempcalaliiaaGreatDoor
