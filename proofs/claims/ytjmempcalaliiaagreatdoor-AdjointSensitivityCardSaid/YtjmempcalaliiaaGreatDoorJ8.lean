/- Parts put together: W, Gc, Gd, Ge, Ea, H, Eb, Ec, Ed, Ee, Ef, Eg, Eh, Ei, Ej, Ek, El, Fa, Fb, Fc, Fd, Fe, Ff, Fp, Nb, Nc, Pa, Pb, Pc, Pd, Fi, Pe, Pi, Pj, Fs, Pk, Da, Db. -/
import Derived.Test.YtjmempcalaliiaaGreatDoorJ5
import Derived.Test.YtjmempcalaliiaaGreatDoorEq
import Derived.Test.YtjmempcalaliiaaGreatDoorJ6
set_option linter.defProp false
set_option linter.unusedSimpArgs false
set_option linter.unusedVariables false
/- Rules whose conditions simp can have shown by omega; lists of records as cells. -/
namespace Go.PM
open Go
theorem Xv {x:Int} (h1: -9223372036854775808<=x) (h2:x<=9223372036854775807):IntKind.i64.wrap x=x:=IntWalk.i64_in x ⟨by omega,by omega⟩
theorem Zq3 {a b:Int} (h:a<b):decide (a<b)=true:=decide_eq_true h
theorem Zq4 {a b:Int} (h:b<=a):decide (a<b)=false:=decide_eq_false (by omega)
theorem dle_t {a b:Int} (h:a<=b):decide (a<=b)=true:=decide_eq_true h
theorem dle_f {a b:Int} (h:b<a):decide (a<=b)=false:=decide_eq_false (by omega)
theorem dgt_t {a b:Int} (h:b<a):decide (a>b)=true:=decide_eq_true h
theorem dgt_f {a b:Int} (h:a<=b):decide (a>b)=false:=decide_eq_false (by omega)
theorem dge_t {a b:Int} (h:b<=a):decide (a≥b)=true:=decide_eq_true h
theorem dge_f {a b:Int} (h:a<b):decide (a≥b)=false:=decide_eq_false (by omega)
theorem Zm6 {a b:Int} (h:a=b):(a==b)=true:=beq_iff_eq.2 h
theorem H4 {a b:Int} (h:a≠b):(a==b)=false:=beq_eq_false_iff_ne.2 h
theorem Zr4 {a b:Int} (h:a≠b):(a !=b)=true:=bne_iff_ne.2 h
theorem Zm7 {a b:Int} (h:a=b):(a !=b)=false:=by subst h;simp
def fl {A:Type} (e:A->List C) (l:List A):List C:=l.flatMap e
section
variable {A:Type} {e:A->List C} {m:Nat}
@[simp] theorem fl_nil:fl e []=[]:=rfl
theorem Ru (x:A) (l:List A):fl e (x::l)=e x++fl e l:=by simp[fl]
theorem H5 (l l':List A):fl e (l++l')=fl e l++fl e l':=by simp[fl]
theorem Jt (l:List A) (x:A):fl e l++e x=fl e (l++[x]):=by simp[fl]
theorem Zh (h: ∀x,(e x).length=m): ∀l:List A,(fl e l).length=l.length*m
 | []=>by simp[fl]
 |x::l=>by rw[Ru,Zsz,h,Zh h l,Zss,Zt1];omega
theorem Ek (h: ∀x,(e x).length=m): ∀(k:Nat) (l:List A),(fl e l).drop (k*m)=fl e (l.drop k)
 |0,l=>by simp
 |k+1,[]=>by simp[fl]
 |k+1,x::l=>by
  rw[Ru,Zt1,Zvl,List.drop_append];rw[show(e x).drop (m+k*m)=[] from Zvh (by rw[h];omega),h,Nat.add_sub_cancel_left,Ztr,Ek h k l];rfl
theorem Zbn (h: ∀x,(e x).length=m): ∀(k:Nat) (l:List A),(fl e l).take (k*m)=fl e (l.take k)
 |0,l=>by simp
 |k+1,[]=>by simp[fl]
 |k+1,x::l=>by
  rw[Ru,Zt1,Zvl,List.take_append];rw[Zs1 (by rw[h];omega),h,Nat.add_sub_cancel_left,Zbn h k l,Zvf,Ru]
theorem Ju (h: ∀x,(e x).length=m) {k:Nat} {l:List A} (hk:k<l.length):(fl e l).drop (k*m)=e l[k]++fl e (l.drop (k+1)):=by
 rw[Ek h,Ztq hk,Ru]
end
theorem R4 (P:Nat->Prop) [DecidablePred P] (n:Nat):(∀j,j<n-> ¬P j)\/ ∃k,k<n/\P k/\ ∀j,j<k-> ¬P j:=by
 induction n with
 |zero=>left;intro j hj;omega
 |succ n ih=>
  rcases ih with ih|⟨k,h1,h2,h3⟩
  ·by_cases h:P n
   ·exact .inr ⟨n,by omega,h,ih⟩
   ·left;intro j hj;by_cases e:j=n
    ·subst e;exact h
    ·exact ih j (by omega)
  ·exact .inr ⟨k,by omega,h2,h3⟩
theorem Zs {A:Type} {body:A->Option (Nat×A)} {x:A} {fu:Nat} (f:Nat->A) (e:Nat) (z:A) (k:Nat) (hx:x=f 0) (h: ∀j,j<k->body (f j)=some (0,f (j+1))) (he:body (f k)=some (e+1,z)) (hf:k<fu):iter body fu x=some (e,z):=by
 rw[hx];exact Jp f e z k 0 fu (λj _ hj=>h j (by omega)) (by rw[Zst];exact he) hf
theorem Zgj {A:Type} {body:A->Option (Nat×A)} {x:A} {fu:Nat} (J:A->Prop) (m:A->Nat) (e:Nat) (z:A) (hx:J x) (hm:m x<fu) (h: ∀y,J y->(∃y',body y=some (0,y')/\J y'/\m y'<m y)\/body y=some (e+1,z)):iter body fu x=some (e,z):=by
 obtain⟨e',z',h1,h2,h3⟩:=H3 (body:=body) J m (λe' z'=>e'=e/\z'=z) (λy hy=>(h y hy).imp id λhh=>⟨e,z,hh,rfl,rfl⟩) fu x hx hm;rw[h1,h2,h3]
theorem S7 {A:Type} (body:A->Option (Nat×A)) (n:Nat) (x:A):iter body (n+1) x=(body x).bind λp=>natD p.1 (iter body n p.2) λm=>some (m,p.2):=by
 simp only[iter]
 congr 1
def QM:=And.intro @obs (And.intro @rC_c (And.intro @Zrv (And.intro @Zrw (And.intro @H2 (And.intro @Zrx (And.intro @rS_sb (And.intro @rF_sb (And.intro @Zjn (And.intro @Zjo (And.intro @Zmp (And.intro @rO_ob (And.intro @Zq0 (And.intro @Zmq (And.intro @asI_int (And.intro @asB_bool (And.intro @Zf5 (And.intro @Zhv (And.intro @Zpf (And.intro @Zpg (And.intro @Zry (And.intro @Zmr (And.intro @Zrz (And.intro @A5 (And.intro @ct (And.intro @cf (And.intro @Zq1 (And.intro @Zjp (And.intro @Zjq (And.intro @Zms (And.intro @Zr0 (And.intro @Zph (And.intro @Zpi (And.intro @Zpj (And.intro @Zpk (And.intro @Bool.and_true (And.intro @Bool.true_and (And.intro @Bool.and_self (And.intro @Zjr (And.intro @Bool.not_true (And.intro @Bool.not_false (And.intro @Bool.and_false (And.intro @Bool.false_and (And.intro @Bool.or_false (And.intro @Bool.false_or (And.intro @Bool.or_true @Bool.true_or)))))))))))))))))))))))))))))))))))))))))))))
def QD:=And.intro @Xv (And.intro @Zq3 (And.intro @Zq4 (And.intro @dle_t (And.intro @dle_f (And.intro @dgt_t (And.intro @dgt_f (And.intro @dge_t (And.intro @dge_f (And.intro @Zm6 (And.intro @H4 (And.intro @Zr4 (And.intro @Zm7 (And.intro @Zpn (And.intro @Zpl @Zpm))))))))))))))
end Go.PM
/- Places: what the functions of the program and of the reference come to. -/
namespace Go.Proofs.YtjmempcalaliiaaGreatDoor
open Go Go.PM Go.Grid
def plc (p:Pl):List C:=[.v (.int .i64 p.f), .v (.int .i64 p.a), .v (.int .i64 p.b), .v (.int .i64 p.c)]
theorem Zp (p:Pl):(plc p).length=4:=rfl
def wcs (w:Nat->Nat):List C:=(List.range 12).map λv=> .v (.int .i64 (w v))
abbrev OK (r:V):Option Out:=some ⟨r,[],none⟩
def X1 (f a b c:Int):Bool:=decide (0<=f/\f<20/\0<=a/\a<=840/\0<=b/\b<=840/\0<=c/\c<=840/\a+b+c=840)
theorem Wc {p:Pl} (h:p.ok):X1 p.f p.a p.b p.c=true:=by
 obtain⟨h1,h2⟩:=h;exact decide_eq_true (by omega)
theorem Zbo (fu d:Nat) (f a b c:Int):cl fu (d+1) fn_synopticref02_Valid [V.agg [.v (.int .i64 f), .v (.int .i64 a), .v (.int .i64 b), .v (.int .i64 c)]] []=OK (B (X1 f a b c)):=by
 rw[eq_synopticref02_Valid];by_cases h1:0<=f
 case neg=>rw[show X1 f a b c=false from decide_eq_false (by omega)];simp(disch:=omega)only[QM,QD]
 by_cases h2:f<20
 case neg=>rw[show X1 f a b c=false from decide_eq_false (by omega)];simp(disch:=omega)only[QM,QD]
 by_cases h3:0<=a
 case neg=>rw[show X1 f a b c=false from decide_eq_false (by omega)];simp(disch:=omega)only[QM,QD]
 by_cases h4:a<=840
 case neg=>rw[show X1 f a b c=false from decide_eq_false (by omega)];simp(disch:=omega)only[QM,QD]
 by_cases h5:0<=b
 case neg=>rw[show X1 f a b c=false from decide_eq_false (by omega)];simp(disch:=omega)only[QM,QD]
 by_cases h6:b<=840
 case neg=>rw[show X1 f a b c=false from decide_eq_false (by omega)];simp(disch:=omega)only[QM,QD]
 by_cases h7:0<=c
 case neg=>rw[show X1 f a b c=false from decide_eq_false (by omega)];simp(disch:=omega)only[QM,QD]
 by_cases h8:c<=840
 case neg=>rw[show X1 f a b c=false from decide_eq_false (by omega)];simp(disch:=omega)only[QM,QD]
 by_cases h9:a+b+c=840
 ·rw[show X1 f a b c=true from decide_eq_true (by omega)];simp(disch:=omega)only[QM,QD]
 ·rw[show X1 f a b c=false from decide_eq_false (by omega)];simp(disch:=omega)only[QM,QD]
theorem twenty {f:Nat} (h:f<20):f=0\/f=1\/f=2\/f=3\/f=4\/f=5\/f=6\/f=7\/f=8\/f=9\/f=10\/f=11\/f=12\/f=13\/f=14\/f=15\/f=16\/f=17\/f=18\/f=19:=by omega
theorem Mt (fu d f:Nat) (h:f<20):cl fu (d+1) fn_synopticref02_Corners [I f] []=OK (V.tup [V.agg [.v (.int .i64 (crn f).1), .v (.int .i64 (crn f).2.1), .v (.int .i64 (crn f).2.2)],I 0]):=by
 rw[eq_synopticref02_Corners];rcases twenty h with rfl|rfl|rfl|rfl|rfl|rfl|rfl|rfl|rfl|rfl|rfl|rfl|rfl|rfl|rfl|rfl|rfl|rfl|rfl|rfl<;>(show @Eq (Option Out) _ _;kernel_rfl)
theorem Cv (fu d:Nat) (p:Pl) (h:p.ok):cl fu (d+2) fn_synopticref02_Weights [V.agg (plc p)] []=OK (V.agg (wcs (wt p))):=by
 obtain⟨f,a,b,c⟩:=p;unfold plc;rw[eq_synopticref02_Weights];simp only;rw[Mt fu d f h.1];have hf:f<20:=h.1;rcases twenty hf with rfl|rfl|rfl|rfl|rfl|rfl|rfl|rfl|rfl|rfl|rfl|rfl|rfl|rfl|rfl|rfl|rfl|rfl|rfl|rfl<;>(show @Eq (Option Out) _ _;kernel_rfl)
theorem Zj0 (fu d:Nat) (w:Nat->Nat) (hw: ∀v,w v<=840) (f:Nat) (h:f<20):cl fu (d+2) fn_synopticref02_On [I f,V.agg (wcs w)] []=OK (V.tup [V.agg (plc (onW w f)),B (onW w f).full]):=by
 have e:cl fu (d+2) fn_synopticref02_On [I f,V.agg (wcs w)] []=OK (V.tup [V.agg (plc (onW w f)),B (IntKind.i64.wrap (IntKind.i64.wrap ((w (crn f).1:Int)+(w (crn f).2.1:Int))+(w (crn f).2.2:Int))==840)]):=by
  rw[eq_synopticref02_On,Mt fu d f h];rcases twenty h with rfl|rfl|rfl|rfl|rfl|rfl|rfl|rfl|rfl|rfl|rfl|rfl|rfl|rfl|rfl|rfl|rfl|rfl|rfl|rfl<;>(show @Eq (Option Out) _ _;kernel_rfl)
 rw[e];have h1:=hw (crn f).1;have h2:=hw (crn f).2.1;have h3:=hw (crn f).2.2;simp(disch:=omega)only[Xv];have e2:((w (crn f).1:Int)+(w (crn f).2.1:Int)+(w (crn f).2.2:Int)==840)=(onW w f).full:=by
  rw[Zuq,Ms,beq_iff_eq];show _↔w (crn f).1+w (crn f).2.1+w (crn f).2.2=840;omega
 rw[e2]
def V0 (w:Nat->Nat) (j:Nat):List Pl:=((List.range j).map (onW w)).filter Pl.full
theorem Sj (w:Nat->Nat) (j:Nat):V0 w (j+1)=if(onW w j).full then V0 w j++[onW w j]else V0 w j:=by
 unfold V0;rw[Zus,Zur,List.filter_append];simp only[Ztv,List.map_nil,List.filter_cons,List.filter_nil];split<;>simp
theorem Cw (w:Nat->Nat) (j:Nat):(V0 w j).length<=j:=by
 unfold V0;refine Zte (List.length_filter_le _ _) ?_;simp
theorem Zm8 {p:Pl} (h:p.ok) (v:Nat):wt p v<=840:=by
 have h2:=h.2;unfold wt wt3
 (repeat' split)<;>omega
theorem Zpq (l:List Pl) (q:Pl):fl plc l++[.v (.int .i64 q.f), .v (.int .i64 q.a), .v (.int .i64 q.b), .v (.int .i64 q.c)]=fl plc (l++[q]):=Jt l q
theorem Xw (l:List Pl):l.length*4/4=l.length:=Zu7 _ (by omega)
theorem Zhy (w:Nat->Nat):putAt [C.v (.int .i64 0),C.v (.int .i64 0),C.v (.int .i64 0),C.v (.int .i64 0),C.v (.int .i64 0),C.v (.int .i64 0),C.v (.int .i64 0),C.v (.int .i64 0),C.v (.int .i64 0),C.v (.int .i64 0),C.v (.int .i64 0),C.v (.int .i64 0)] 0 (wcs w)=wcs w:=id rfl
theorem Zd6 (w:Nat->Nat):List.take 12 (wcs w)=wcs w:=id rfl
theorem Cx (w:Nat->Nat):(wcs w).length=12:=id rfl
theorem H6 (fu d:Nat) (hf:18446744073709551616<=fu) (p:Pl) (h:p.ok):
  cl fu (d+3) fn_synopticref02_Addresses [V.agg (plc p)] []=OK (V.tup [V.c (C.sl (S3 p).length (fl plc (S3 p))),I 0]):=by
 have e1:=Cv fu d p h;have hv:=Wc h;unfold plc at e1⊢;rw[eq_synopticref02_Addresses,Zbo,hv,e1];simp only[QM,Zhy,Zd6,Cx,Zst,show Nat.ble 12 12=true from rfl];rw[show(([]:List C),(0:Int),())=(λj:Nat=>(fl plc (V0 (wt p) j),(j:Int),())) 0 from rfl,Jp (λj:Nat=>(fl plc (V0 (wt p) j),(j:Int),())) 0 (fl plc (V0 (wt p) 20),(20:Int),()) 20 0 fu ?_ ?_ (by omega)]
 ·simp(disch:=omega)only[QM,QD,Zh Zp,Xw,Zst];rw[Zs1 (by rw[Zh Zp];omega)];rfl
 ·intro j _ hj;have hl:=Cw (wt p) j;rw[Sj];have e2:=Zj0 fu d (wt p) (Zm8 h) j (by omega);unfold plc at e2;simp(disch:=omega)only[QM,QD,e2,Zh Zp,Xw,Zss,Zsy,Zst,Nat.reduceAdd];cases hfull:(onW (wt p) j).full with
  |true=>
   simp(disch:=omega)only[QM,QD,Zpq,Zh Zp,Zsz,Zss,Zsy,Zst,if_true,Ztn,Zuc]
  |false=>
   simp(disch:=omega)only[QM,QD,Bool.false_eq_true,if_false,Ztn,Zuc]
 ·simp(disch:=omega)only[QM,QD,Zh Zp,Xw,Zst];rfl
end Go.Proofs.YtjmempcalaliiaaGreatDoor
/- Places, continued: the normal place; the program's functions. -/
namespace Go.Proofs.YtjmempcalaliiaaGreatDoor
open Go Go.PM Go.Grid
theorem Lx (fu d:Nat) (hf:18446744073709551616<=fu) (p:Pl) (h:p.ok):cl fu (d+4) fn_synopticref02_Normal [V.agg (plc p)] []=OK (V.tup [V.agg (plc (norm p)),I 0]):=by
 have e1:=H6 fu d hf p h;obtain⟨r,hr⟩:=M7 h;rw[hr]at e1;unfold plc at e1⊢;rw[eq_synopticref02_Normal,e1];simp(disch:=omega)only[QM,QD,Ru,plc,Zto,Ztr,Zss]
theorem Zbp (p q:Pl):((p.f:Int)==q.f&&((p.a:Int)==q.a&&((p.b:Int)==q.b&&(p.c:Int)==q.c)))=decide (p=q):=by
 obtain⟨f,a,b,c⟩:=p;obtain⟨f',a',b',c'⟩:=q;rw[Zuq];simp only[Zsq,beq_iff_eq,decide_eq_true_eq,Pl.mk.injEq];omega
theorem Fz (fu d:Nat) (hf:18446744073709551616<=fu) (p:Pl) (h:p.ok):cl fu (d+5) fn_synopticref02_IsNormal [V.agg (plc p)] []=OK (B (isN p)):=by
 have e1:=Lx fu d hf p h;unfold plc at e1⊢;rw[eq_synopticref02_IsNormal,e1];simp(disch:=omega)only[QM,QD,Zss,Zsy,Zbp,Nat.reduceAdd];unfold isN;rw[show decide (p=norm p)=decide (norm p=p) from by rw[Zuq];simp[eq_comm]]
theorem Zpr (fu d:Nat) (f:Int):cl fu (d+1) fn_place_face [I f] []=OK (B (decide (0<=f/\f<20))):=by
 rw[eq_place_face];by_cases h1:0<=f
 ·simp(disch:=omega)only[QM,QD];by_cases h2:f<20
  ·rw[Zq3 h2,decide_eq_true ⟨h1,h2⟩]
  ·rw[Zq4 (by omega),decide_eq_false (by omega)]
 ·rw[decide_eq_false (by omega: ¬(0<=f/\f<20))];simp(disch:=omega)only[QM,QD]
theorem Zd7 (fu d:Nat) (hf:18446744073709551616<=fu) (f a b c:Int):cl fu (d+2) fn_place_Valid [V.agg [.v (.int .i64 f), .v (.int .i64 a), .v (.int .i64 b), .v (.int .i64 c)]] []=OK (B (X1 f a b c)):=by
 rw[eq_place_Valid,Zpr];obtain⟨fu',rfl⟩: ∃n,fu=n+4:=⟨fu-4,by omega⟩;by_cases h3:0<=a
 case neg=>rw[show X1 f a b c=false from decide_eq_false (by omega)];rw[S7];simp(disch:=omega)only[QM,QD,Zu0,Zty,Zuo]
 by_cases h4:a<=840
 case neg=>rw[show X1 f a b c=false from decide_eq_false (by omega)];rw[S7];simp(disch:=omega)only[QM,QD,Zu0,Zty,Zuo]
 by_cases h5:0<=b
 case neg=>rw[show X1 f a b c=false from decide_eq_false (by omega)];rw[S7];simp(disch:=omega)only[QM,QD,Zu0,Zty,Zuo,Int.zero_add,S7,Int.toNat_one,Nat.one_mul,Zuj]
 by_cases h6:b<=840
 case neg=>rw[show X1 f a b c=false from decide_eq_false (by omega)];rw[S7];simp(disch:=omega)only[QM,QD,Zu0,Zty,Zuo,Int.zero_add,S7,Int.toNat_one,Nat.one_mul,Zuj]
 by_cases h7:0<=c
 case neg=>rw[show X1 f a b c=false from decide_eq_false (by omega)];rw[S7];simp(disch:=omega)only[QM,QD,Zu0,Zty,Zuo,Int.zero_add,S7,Int.toNat_one,Nat.one_mul,Zuj,Int.reduceAdd,Int.reduceToNat]
 by_cases h8:c<=840
 case neg=>rw[show X1 f a b c=false from decide_eq_false (by omega)];rw[S7];simp(disch:=omega)only[QM,QD,Zu0,Zty,Zuo,Int.zero_add,S7,Int.toNat_one,Nat.one_mul,Zuj,Int.reduceAdd,Int.reduceToNat]
 simp(disch:=omega)only[QM,QD,Zu0,Zty,Zuo,Int.zero_add,S7,Int.toNat_one,Nat.one_mul,Zuj,Int.reduceAdd,Int.reduceToNat];by_cases h1:0<=f/\f<20
 ·rw[decide_eq_true h1];by_cases h9:a+b+c=840
  ·rw[show X1 f a b c=true from decide_eq_true (by omega)];simp(disch:=omega)only[QM,QD]
  ·rw[show X1 f a b c=false from decide_eq_false (by omega)];simp(disch:=omega)only[QM,QD]
 ·rw[decide_eq_false h1,show X1 f a b c=false from decide_eq_false (by omega)];simp(disch:=omega)only[QM,QD]
theorem sp_of (fu d:Nat) (p:Pl) (h:p.ok):cl fu (d+1) fn_place_of [V.agg (plc p)] []=OK (V.agg (wcs (wt p))):=by
 obtain⟨f,a,b,c⟩:=p;unfold plc;rw[eq_place_of];have hf:f<20:=h.1;rcases twenty hf with rfl|rfl|rfl|rfl|rfl|rfl|rfl|rfl|rfl|rfl|rfl|rfl|rfl|rfl|rfl|rfl|rfl|rfl|rfl|rfl<;>(show @Eq (Option Out) _ _;kernel_rfl)
theorem Zgk {w:Nat->Nat} (hw: ∀v,w v<=840) {f:Nat} (h:f<20):X1 (onW w f).f (onW w f).a (onW w f).b (onW w f).c=(onW w f).full:=by
 have h1:=hw (crn f).1;have h2:=hw (crn f).2.1;have h3:=hw (crn f).2.2;rw[Zuq,Ms];unfold X1;rw[decide_eq_true_eq];show(0:Int)<=(f:Nat)/\((f:Nat):Int)<20/\(0:Int)<=((w (crn f).1:Nat):Int)/\((w (crn f).1:Nat):Int)<=840/\(0:Int)<=((w (crn f).2.1:Nat):Int)/\((w (crn f).2.1:Nat):Int)<=840/\(0:Int)<=((w (crn f).2.2:Nat):Int)/\((w (crn f).2.2:Nat):Int)<=840/\((w (crn f).1:Nat):Int)+((w (crn f).2.1:Nat):Int)+((w (crn f).2.2:Nat):Int)=840↔w (crn f).1+w (crn f).2.1+w (crn f).2.2=840;omega
theorem Zq5 (fu d:Nat) (hf:18446744073709551616<=fu) (w:Nat->Nat) (hw: ∀v,w v<=840) (f:Nat) (h:f<20):cl fu (d+3) fn_place_on [I f,V.agg (wcs w)] []=OK (V.tup [V.agg (plc (onW w f)),B (onW w f).full]):=by
 have e:cl fu (d+3) fn_place_on [I f,V.agg (wcs w)] []=((cl fu (d+2) fn_place_Valid [V.agg (plc (onW w f))] []).bind λout=>rC out.r λc6=>asB c6 λb=>OK (V.tup [V.agg (plc (onW w f)),B b])):=by
  rw[eq_place_on];rcases twenty h with rfl|rfl|rfl|rfl|rfl|rfl|rfl|rfl|rfl|rfl|rfl|rfl|rfl|rfl|rfl|rfl|rfl|rfl|rfl|rfl<;>(show @Eq (Option Out) _ _;kernel_rfl)
 rw[e];unfold plc;rw[Zd7 fu d hf,Zgk hw h];simp only[QM]
theorem Jv {w:Nat->Nat}: ∀{k:Nat},(∀j,j<k->(onW w j).full=false)->V0 w k=[]
 |0,_=>rfl
 |k+1,h=>by rw[Sj,h k (by omega),Jv (λj hj=>h j (by omega))];rfl
theorem Ly {w:Nat->Nat} {k:Nat} (hk:(onW w k).full=true) (h: ∀j,j<k->(onW w j).full=false): ∀n,k<n-> ∃r,V0 w n=onW w k::r
 |0,hn=>by omega
 |n+1,hn=>by
  by_cases e:k=n
  ·subst e;exact⟨[],by rw[Sj,hk,Jv h];rfl⟩
  ·obtain⟨r,hr⟩:=Ly hk h n (by omega);rw[Sj,hr];split
   ·exact⟨r++[onW w n],rfl⟩
   ·exact⟨r,rfl⟩
theorem Wd (fu d:Nat) (hf:18446744073709551616<=fu) (p:Pl) (h:p.ok):cl fu (d+4) fn_place_Normal [V.agg (plc p)] []=OK (V.tup [V.agg (plc (norm p)),I 0]):=by
 have e1:=sp_of fu (d+2) p h;have hv:=Wc h;unfold plc at e1⊢;rw[eq_place_Normal,Zd7 fu (d+1) hf,hv,e1];simp only[QM,Zhy,Zd6,Cx,Zst,show Nat.ble 12 12=true from rfl];obtain⟨r,hr⟩:=M7 h;have hm:=Js h;obtain⟨k,hk,hke,hkl⟩: ∃k,k<20/\onW (wt p) k=norm p/\ ∀j,j<k->(onW (wt p) j).full=false:=by
  rcases R4 (λj=>(onW (wt p) j).full=true) 20 with h0|⟨k,h1,h2,h3⟩
  ·exfalso;obtain⟨g,g1,g2,g3⟩:=M6.1 hm;exact h0 g g1 (by rw[g2];exact Ms.2 g3)
  ·refine⟨k,h1, ?_,λj hj=>by simpa using h3 j hj⟩;obtain⟨r',this⟩:=Ly h2 (λj hj=>by simpa using h3 j hj) 20 h1;have this:S3 p=onW (wt p) k::r':=this;rw[hr]at this;exact(List.cons.inj this).1.symm
 rw[show((0:Int),(0:Int),((0:Int),(0:Int),(0:Int),(0:Int),()),())=(λj:Nat=>((0:Int),(j:Int),((0:Int),(0:Int),(0:Int),(0:Int),()),())) 0 from rfl,Jp (λj:Nat=>((0:Int),(j:Int),((0:Int),(0:Int),(0:Int),(0:Int),()),())) 1 (0,(k:Int),((norm p).f,(norm p).a,(norm p).b,(norm p).c,()),()) k 0 fu ?_ ?_ (by omega)]
 ·simp only[QM]
 ·intro j _ hj;have e2:=Zq5 fu d hf (wt p) (Zm8 h) j (by omega);rw[hkl j (by omega)]at e2;unfold plc at e2;simp(disch:=omega)only[QM,QD,e2,Zss,Zsy,Zst,Nat.reduceAdd,Ztn,Zuc]
 ·have e2:=Zq5 fu d hf (wt p) (Zm8 h) k hk;rw[hke,Ms.2 (Ef h).2]at e2;unfold plc at e2;simp(disch:=omega)only[QM,QD,e2,Zss,Zsy,Zst,Nat.reduceAdd]
end Go.Proofs.YtjmempcalaliiaaGreatDoor
/- The nodes of the grids as they are collected; a map from the nodes to their numbers: plain laws. -/
namespace Go.Grid
def pre (n f i j:Nat):List Pl:=(List.range f).flatMap (face n)++((List.range i).flatMap (row n f)++(List.range j).map (pt n f i))
def X6 (n f i j:Nat):List Pl:=(pre n f i j).filter isN
theorem pre_j (n f i j:Nat):pre n f i (j+1)=pre n f i j++[pt n f i j]:=by
 unfold pre;rw[List.range_succ,List.map_append];simp[List.append_assoc]
theorem Zq6 (n f i:Nat):pre n f i (n+1-i)=pre n f (i+1) 0:=by
 unfold pre;rw[List.range_succ,List.flatMap_append];simp[row]
theorem Zq7 (n f:Nat):pre n f (n+1) 0=pre n (f+1) 0 0:=by
 unfold pre;rw[List.range_succ (n:=f),List.flatMap_append];simp[face]
theorem Zps (n:Nat):pre n 20 0 0=pts n:=by unfold pre pts;simp
theorem Zm9 (n f i j:Nat):X6 n f i (j+1)=if norm (pt n f i j)=pt n f i j then X6 n f i j++[pt n f i j]else X6 n f i j:=by
 unfold X6;rw[pre_j,List.filter_append];simp only[List.filter_cons,List.filter_nil,isN,decide_eq_true_eq];split<;>simp
theorem Zr5 {n f i j:Nat} (h:Yb n) {q:Pl} (hq:q∈pre n f i j):plt q (pt n f i j):=by
 have hst:=Q6 h;have hmul: ∀{i j:Nat},i<j->i*(840/n)<j*(840/n):=λhij=>Nat.mul_lt_mul_of_pos_right hij (by omega);simp only[pre,List.mem_append,List.mem_flatMap,List.mem_range,List.mem_map,face,row]at hq;rcases hq with⟨f',h1,i',_,j',_,rfl⟩|⟨i',h1,j',_,rfl⟩|⟨j',h1,rfl⟩
 ·exact .inl h1
 ·exact .inr ⟨rfl, .inl (hmul h1)⟩
 ·exact .inr ⟨rfl, .inr ⟨rfl,hmul h1⟩⟩
theorem Zna {n f i j:Nat} (h:Yb n):pt n f i j∉X6 n f i j:=λhm=>Kq _ (Zr5 h (List.mem_filter.1 hm).1)
theorem U6 {B:Type} {g:Nat->List B} {m:Nat} (h: ∀x,(g x).length<=m): ∀k,((List.range k).flatMap g).length<=k*m
 |0=>by simp
 |k+1=>by
  rw[List.range_succ,List.flatMap_append,List.length_append,Nat.succ_mul];have:=U6 h k;have:=h k;simp only[List.flatMap_cons,List.flatMap_nil,List.append_nil];omega
theorem Znb (n f i:Nat) (h:n<=8):(row n f i).length<=9:=by unfold row;simp;omega
theorem Zpt (n f:Nat) (h:n<=8):(face n f).length<=81:=by
 unfold face;have:=U6 (g:=row n f) (λi=>Znb n f i h) (n+1);omega
theorem Uj {n f i j:Nat} (h:Yb n) (hf:f<=20) (hi:i<=9) (hj:j<=9):(X6 n f i j).length<=2000:=by
 refine Nat.le_trans (List.length_filter_le _ _) ?_;unfold pre;rw[List.length_append,List.length_append,List.length_map,List.length_range];have h1:=U6 (g:=face n) (λf=>Zpt n f h.2) f;have h2:=U6 (g:=row n f) (λi=>Znb n f i h.2) i;omega
theorem Zd8 (n:Nat):X6 n 20 0 0=Zf n:=by unfold X6;rw[Zps];rfl
theorem Zj1 {p:Pl} (h:p.ok) (ha:0<p.a) (hb:0<p.b) (hc:0<p.c):isN p=true:=decide_eq_true (Zgc h ha hb hc)
end Go.Grid
/- The nodes of a grid where the net is handed out as a new object. -/
namespace Go.Proofs.YtjmempcalaliiaaGreatDoor
open Go Go.PM Go.Grid
theorem We (p q:Pl):eqT Tryz.prog 20 ty_api_Place (plc p) (plc q)=some (decide (p=q)):=by
 have:eqT Tryz.prog 20 ty_api_Place (plc p) (plc q)=some ((p.f:Int)==q.f&&((p.a:Int)==q.a&&((p.b:Int)==q.b&&((p.c:Int)==q.c&&true)))):=by kernel_rfl
 rw[this,Bool.and_true,Zbp]
def esn:Nat->List Pl->List (List C×List C)
 |_,[]=>[]
 |k,p::r=>(plc p,[.v (.int .i64 k)])::esn (k+1) r
theorem Zd9 (p:Pl): ∀(l:List Pl) (k:Nat),esn k l++[(plc p,[.v (.int .i64 ((k+l.length:Nat):Int))])]=esn k (l++[p])
 | [],k=>by simp[esn]
 |q::l,k=>by
  simp only[esn,Zto,Zss];rw[<-Zd9 p l (k+1),show k+(l.length+1)=k+1+l.length by omega]
theorem Znc (p:Pl):Zex (plc p) (plc p)=true:=by simp[plc,Zex,ceq]
theorem Zhz {p:Pl}: ∀(l:List Pl) (k i:Nat),p∉l->mfind Tryz.prog ty_api_Place (plc p) (esn k l) i=some none
 | [],k,i,_=>by simp[esn,mfind]
 |q::l,k,i,h=>by
  simp only[esn,mfind,We];rw[decide_eq_false (λe=>h (by simp[e]))];simp only[cf];exact Zhz l (k+1) (i+1) (λe=>h (by simp[e]))
theorem Zh0 {p:Pl}: ∀(l:List Pl) (k i:Nat),p∈l->mfind Tryz.prog ty_api_Place (plc p) (esn k l) i=some (some (i+l.idxOf p,[.v (.int .i64 ((k+l.idxOf p:Nat):Int))]))
 | [],k,i,h=>by cases h
 |q::l,k,i,h=>by
  simp only[esn,mfind,We];by_cases e:p=q
  ·subst e;rw[decide_eq_true rfl];simp[Znc,need]
  ·rw[decide_eq_false e];simp only[cf];have hm:p∈l:=by rcases Zta.1 h with h|h;exact absurd h e;exact h
   rw[Zh0 l (k+1) (i+1) hm,List.idxOf_cons];have:(q==p)=false:=by simpa using Ne.symm e
   rw[this];simp only[cond_false];rw[show i+1+l.idxOf p=i+(l.idxOf p+1) by omega,show k+1+l.idxOf p=k+(l.idxOf p+1) by omega]
theorem Zj2 (es:List (List C×List C)) (k v:List C):mput es none k v=es++[(k,v)]:=id rfl
abbrev netC (n:Nat) (l:List Pl):List C:=[.v (.int .i64 n), .v (.int .i64 ((840/n:Nat):Int)),C.sl l.length (fl plc l),C.mp ty_api_Place ty_int (some 4) none (esn 0 l),C.nl,C.nl,C.nl]
abbrev Zj3 (n:Nat) (l:List Pl):Int×Int×List C×List (List C×List C)×C×C×C×Unit:=((n:Int),((840/n:Nat):Int),fl plc l,esn 0 l,C.nl,C.nl,C.nl,())
theorem Cy {n:Nat} (h:Yb n):IntKind.i64.wrap (Int.tdiv 840 n)=((840/n:Nat):Int):=by
 rcases Qm h with rfl|rfl|rfl|rfl|rfl|rfl|rfl|rfl<;>rfl
theorem Mu {n i:Nat} (h:Yb n) (hi:i<=n):i*(840/n)<=840:=by
 have:=Zuf (840/n) hi;rw[S4 h]at this;exact this
theorem Ps {n i:Nat} (h:Yb n) (hi:i<=n):IntKind.i64.wrap ((i:Int)*((840/n:Nat):Int))=((i*(840/n):Nat):Int):=by
 have:=Mu h hi;rw[show((i:Int)*((840/n:Nat):Int))=((i*(840/n):Nat):Int) from(Zu5 _ _).symm];exact Xv (Int.le_trans (by decide) (Int.natCast_nonneg _)) (Int.le_trans (Int.ofNat_le.2 this) (by decide))
theorem Mv (l:List Pl) (f a b c:Nat):fl plc l++[.v (.int .i64 f), .v (.int .i64 a), .v (.int .i64 b), .v (.int .i64 c)]=fl plc (l++[⟨f,a,b,c⟩]):=Jt l ⟨f,a,b,c⟩
theorem Zj4 (l:List Pl) (f a b c:Nat):esn 0 l++[([.v (.int .i64 f), .v (.int .i64 a), .v (.int .i64 b), .v (.int .i64 c)],[.v (.int .i64 (l.length:Int))])]=esn 0 (l++[⟨f,a,b,c⟩]):=by
 have:=Zd9 ⟨f,a,b,c⟩ l 0;rw[Zst]at this;exact this
theorem Zgl (fu d:Nat) (hf:18446744073709551616<=fu) (n:Nat) (h:Yb n):cl fu (d+5) fn_mesh_Points [I n] []=some ⟨V.ptr 1000000 0,[.ob ty_mesh_Net 0 (netC n (Zf n))],none⟩:=by
 have hn:=h;unfold Yb at hn;rw[eq_mesh_Points,Cy h,show(!((n:Int)==0))=true from by rw[H4 (by omega)];rfl,A5];rw[Zs (λf:Nat=>((f:Int),Zj3 n (X6 n f 0 0),())) 0 ((20:Int),Zj3 n (X6 n 20 0 0),()) 20 ?_ ?_ ?_ (by omega)]
 ·rw[Zd8];simp(disch:=omega)only[QM,QD,Zh Zp,Xw,Zst];rw[Zs1 (by rw[Zh Zp];omega)]
 ·rfl
 ·intro f hf';have hl:(X6 n f 0 0).length<=2000:=Uj h (by omega) (by omega) (by omega);simp(disch:=omega)only[QM,QD,Zh Zp,Xw];rw[Zs (λi:Nat=>((i:Int),Zj3 n (X6 n f i 0),())) 0 (((n+1:Nat):Int),Zj3 n (X6 n f (n+1) 0),()) (n+1) ?_ ?_ ?_ (by omega)]
  ·have hl:(X6 n f (n+1) 0).length<=2000:=Uj h (by omega) (by omega) (by omega);simp(disch:=omega)only[QM,QD,Zh Zp,Xw,Ztn,Zuc];unfold X6;rw[Zq7]
  ·rfl
  ·intro i hi;have hl:(X6 n f i 0).length<=2000:=Uj h (by omega) (by omega) (by omega);simp(disch:=omega)only[QM,QD,Zh Zp,Xw];rw[Zs (λj:Nat=>((j:Int),Zj3 n (X6 n f i j),())) 0 (((n+1-i:Nat):Int),Zj3 n (X6 n f i (n+1-i)),()) (n+1-i) ?_ ?_ ?_ (by omega)]
   ·have hl:(X6 n f i (n+1-i)).length<=2000:=Uj h (by omega) (by omega) (by omega);simp(disch:=omega)only[QM,QD,Zh Zp,Xw,Ztn,Zuc];unfold X6;rw[Zq6]
   ·rfl
   ·intro j hj;have hl:(X6 n f i j).length<=2000:=Uj h (by omega) (by omega) (by omega);have hnot:=Zna (f:=f) (i:=i) (j:=j) h;have hc:IntKind.i64.wrap (((n:Int)-(i:Int)-(j:Int))*((840/n:Nat):Int))=(((n-i-j)*(840/n):Nat):Int):=by
     rw[show(n:Int)-i-j=((n-i-j:Nat):Int) by omega,Ps h (by omega)]
    have e2:=Wd fu d hf (pt n f i j) (Zm5 h hf' (by omega));have e3:=Zhz (X6 n f i j) 0 0 hnot;have e4:=Zbp (norm (pt n f i j)) (pt n f i j);have e5:=Zm9 n f i j;generalize hz:decide (norm (pt n f i j)=pt n f i j)=z at e4;replace e5:X6 n f i (j+1)=bif z then X6 n f i j++[pt n f i j]else X6 n f i j:=by
     cases z with
     |true=>rw[e5,if_pos (of_decide_eq_true hz)];rfl
     |false=>rw[e5,if_neg (of_decide_eq_false hz)];rfl
    clear hz;simp only[plc]at e2 e3;generalize norm (pt n f i j)=q at e2 e4 e5;simp only[pt]at e2 e3 e4 e5;simp(disch:=omega)only[QM,QD,hc,Ps h (show i<=n by omega),Ps h (show j<=n by omega),e2,e4,Zss,Zsy,Zst,Nat.reduceAdd,Zh Zp,Xw];rw[e5];cases z with
    |true=>
     simp(disch:=omega)only[QM,QD,mfd,e3,Zj2,Mv,Zj4,Zh Zp,Xw,Zsz,Zss,Zsy,Zst,Ztn,Zuc]
    |false=>
     simp(disch:=omega)only[QM,QD,Ztn,Zuc]
   ·have hl:(X6 n f i (n+1-i)).length<=2000:=Uj h (by omega) (by omega) (by omega);simp(disch:=omega)only[QM,QD,Zh Zp,Xw]
  ·have hl:(X6 n f (n+1) 0).length<=2000:=Uj h (by omega) (by omega) (by omega);simp(disch:=omega)only[QM,QD,Zh Zp,Xw]
 ·have hl:(X6 n 20 0 0).length<=2000:=Uj h (by omega) (by omega) (by omega);simp(disch:=omega)only[QM,QD,Zh Zp,Xw];rfl
end Go.Proofs.YtjmempcalaliiaaGreatDoor
/- Rules that keep simp at what comes first: nothing behind it is looked at (attribute [local congr] in the texts that use them). -/
namespace Go.PM
open Go
def hdt {A:Type} (x:A):A:=x
theorem Zd {A:Type} (x:A):hdt x=x:=id rfl
theorem Zj5:Nat.beq 1000000 (OUT+0)=true:=id rfl
theorem out1:Nat.beq 1000001 (OUT+1)=true:=id rfl
theorem out2:Nat.beq 1000002 (OUT+2)=true:=id rfl
section
variable {R A B':Type}
theorem Zt {x x':Option A} {k:A->Option B'} (h:hdt x=x'):x.bind k=x'.bind k:=by rw[<-h];rfl
theorem Zu {b b':Bool} {k:Option R} (h:hdt b=b'):need b k=need b' k:=by rw[<-h];rfl
theorem Zv {b b':Bool} {x y:R} (h:hdt b=b'):(bif b then x else y)=(bif b' then x else y):=by rw[<-h];rfl
theorem Yd {c c':List C} {k:C->List C->Option R} (h:hdt c=c'):unc c k=unc c' k:=by rw[<-h];rfl
theorem Zw {c c':List V} {k:V->List V->Option R} (h:hdt c=c'):uncV c k=uncV c' k:=by rw[<-h];rfl
theorem Zx {c c':List PM.Obj} {k:PM.Obj->List PM.Obj->Option R} (h:hdt c=c'):uncO c k=uncO c' k:=by rw[<-h];rfl
theorem Ye {c c':List (List V)} {k:List V->List (List V)->Option R} (h:hdt c=c'):unI c k=unI c' k:=by rw[<-h];rfl
theorem Yf {kd:IntKind} {c c':C} {k:Int->Option R} (h:hdt c=c'):asI kd c k=asI kd c' k:=by rw[<-h];rfl
theorem Yg {c c':C} {k:Bool->Option R} (h:hdt c=c'):asB c k=asB c' k:=by rw[<-h];rfl
theorem Yh {c c':C} {k:ByteArray->Option R} (h:hdt c=c'):asS c k=asS c' k:=by rw[<-h];rfl
theorem Zy {c c':C} {k:Nat->List C->Option R} (h:hdt c=c'):asSl c k=asSl c' k:=by rw[<-h];rfl
theorem Zz {c c':C} {k:FuncId->List C->Option R} (h:hdt c=c'):asFn c k=asFn c' k:=by rw[<-h];rfl
theorem Yi {c c':C} {k:List C->Option R} (h:hdt c=c'):asP c k=asP c' k:=by rw[<-h];rfl
theorem Z0 {c c':C} {ky:Nat->Option R} {k:FuncId->List C->Option R} (h:hdt c=c'):Wy c ky k=Wy c' ky k:=by rw[<-h];rfl
theorem Yx {x x':V} {k:C->Option R} (h:hdt x=x'):rC x k=rC x' k:=by rw[<-h];rfl
theorem Yy {x x':V} {k:List C->Option R} (h:hdt x=x'):rA x k=rA x' k:=by rw[<-h];rfl
theorem Yz {x x':V} {k:List V->Option R} (h:hdt x=x'):rT x k=rT x' k:=by rw[<-h];rfl
theorem Y1 {x x':V} {k:List V->Option R} (h:hdt x=x'):rG x k=rG x' k:=by rw[<-h];rfl
theorem Y2 {x x':V} {m:Nat} {k:Option R} (h:hdt x=x'):rP x m k=rP x' m k:=by rw[<-h];rfl
theorem Y4 {x x':V} {m:Nat} {k:Nat->Option R} (h:hdt x=x'):rW x m k=rW x' m k:=by rw[<-h];rfl
theorem Y5 {o o':PM.Obj} {t fz:Nat} {k:List C->Option R} (h:hdt o=o'):rO o t fz k=rO o' t fz k:=by rw[<-h];rfl
theorem Y6 {o o':PM.Obj} {t n:Nat} {k:List C->Option R} (h:hdt o=o'):rN o t n k=rN o' t n k:=by rw[<-h];rfl
theorem Y7 {o o':PM.Obj} {t:Nat} {k:Nat->List C->Option R} (h:hdt o=o'):rF o t k=rF o' t k:=by rw[<-h];rfl
theorem Y8 {o o':PM.Obj} {t fz:Nat} {k:List C->Option R} (h:hdt o=o'):rS o t fz k=rS o' t fz k:=by rw[<-h];rfl
theorem Z1 {x x':List V} {k:Option R} (h:hdt x=x'):nilV x k=nilV x' k:=by rw[<-h];rfl
theorem Z2 {n n':Nat} {a:Option R} {b:Nat->Option R} (h:hdt n=n'):natD n a b=natD n' a b:=by rw[<-h];rfl
theorem Y9 {x x':A} {k:A->Option R} (h:hdt x=x'):bd x k=bd x' k:=by rw[<-h];rfl
theorem Z3 {body:A->Option (Nat×A)} {fu:Nat} {x x':A} (h:hdt x=x'):iter body fu x=iter body fu x':=by rw[<-h];rfl
theorem Z4 {I:Type} {body:I->A->Option (Nat×A)} {l l':List I} {x x':A} (h1:hdt l=l') (h:hdt x=x'):overK body l x=overK body l' x':=by rw[<-h,<-h1];rfl
theorem Zk {sz:Nat} {lo lo' hi hi':Option V} {c c':C} {k:C->Option R} (h1:hdt lo=lo') (h2:hdt hi=hi') (h:hdt c=c'):sliceC sz lo hi c k=sliceC sz lo' hi' c' k:=by rw[<-h,<-h1,<-h2];rfl
theorem Z5 {c c':C} {kt et:TypeId} {ka va:Option Nat} {k:List (List C×List C)->Option R} (h:hdt c=c'):Zce c kt et ka va k=Zce c' kt et ka va k:=by rw[<-h];rfl
end
end Go.PM
/- A grid's cells: what the functions that add them come to. -/
namespace Go.PM
open Go
theorem Zr6 {R:Type} (g t:Nat) (ps:List PC) (k:List PC->Option R):rPk (.pk g t (.ps ps) none) t k=k ps:=by
 show need (Nat.beq t t) (k ps)=_;rw[show Nat.beq t t=true from Zt7 t];rfl
theorem Zj6 {R:Type} (p:PC) (ps:List PC) (k:PC->List PC->Option R):uncP (p::ps) k=k p ps:=id rfl
theorem Zr7 {R:Type} (c:C) (k:C->Option R):asPc (.c c) k=k c:=id rfl
theorem Zr8 {R:Type} (te:TypeId) (row:List C) (k:List C->Option R):asRw te (.r te row) k=k row:=by
 show need (Nat.beq te te) (k row)=_;rw[show Nat.beq te te=true from Zt7 te];rfl
theorem Zpu {R:Type} (te:TypeId) (row:List C) (k:List C->Option R):asRow te (.r te row) k=k row:=by
 show need (Nat.beq te te) (k row)=_;rw[show Nat.beq te te=true from Zt7 te];rfl
theorem Znd {R:Type} (te:TypeId) (k:List C->Option R):asRow te (.c .nl) k=k []:=id rfl
theorem Zne {R:Type} (k:Option R):nilP [] k=k:=id rfl
theorem H7 {R:Type} (te:TypeId) (row cs:List C) (k:List C->Option R) (h:cs.length=row.length):rowBack te row false [.sb te 0 cs] k=k cs:=by
 show need (Nat.beq te te&&Nat.beq cs.length row.length&&Nat.beq 0 0) (k cs)=_;rw[show Nat.beq te te=true from Zt7 te,h,show Nat.beq row.length row.length=true from Zt7 _];rfl
theorem Zj7 {R:Type} (te:TypeId) (row cs:List C) (k:List C->Option R) (h:cs.length=row.length):rowBack te row true [.sb te row.length cs] k=k cs:=by
 show need (Nat.beq te te&&Nat.beq cs.length row.length&&Nat.beq row.length cs.length) (k cs)=_;rw[show Nat.beq te te=true from Zt7 te,h,show Nat.beq row.length row.length=true from Zt7 _];rfl
set_option linter.defProp false in
def QE:=And.intro @Zr6 (And.intro @Zj6 (And.intro @Zr7 (And.intro @Zr8 (And.intro @Zpu (And.intro @Znd @Zne)))))
end Go.PM
namespace Go.Proofs.YtjmempcalaliiaaGreatDoor
open Go Go.PM Go.Grid
attribute [local congr] Zt Zu Zv Yd Zw Zx Ye Yf Yg Yh Zy Zz Yi Yx Yy Yz Y1 Y2 Y5 Y6 Y7 Y8 Y4 Z1 Z2 Y9 Z3 Z4 Zk Z5 Z0
abbrev Znf (n:Nat) (cs:List C):List PC:=[PC.c (C.v (.int .i64 n)),PC.c (C.v (.int .i64 ((840/n:Nat):Int))),PC.c (C.sl (Zf n).length (fl plc (Zf n))),PC.c (C.mp ty_api_Place ty_int (some 4) none (esn 0 (Zf n))),PC.r ty_api_Cell cs,PC.c .nl,PC.c .nl]
abbrev Lm (g n:Nat) (cs:List C):PM.Obj:= .pk g ty_mesh_Net (.ps (Znf n cs)) none
theorem Xz {n:Nat} (h:Yb n):(Zf n).length<=700:=by
 rw[Vz h];rcases Qm h with rfl|rfl|rfl|rfl|rfl|rfl|rfl|rfl<;>decide
section
variable (fu d:Nat) (hf:18446744073709551616<=fu)
theorem S8 (f a b c:Nat) (x y z:Int) (h:a<=10000/\b<=10000/\c<=10000) (hx: -10000<=x/\x<=10000) (hy: -10000<=y/\y<=10000) (hz: -10000<=z/\z<=10000):
  cl fu (d+1) fn_mesh_moved [V.agg (plc ⟨f,a,b,c⟩),I x,I y,I z] []=OK (V.agg [C.v (.int .i64 f),C.v (.int .i64 (a+x)),C.v (.int .i64 (b+y)),C.v (.int .i64 (c+z))]):=by
 simp only[plc];rw[eq_mesh_moved,Xv (by omega) (by omega),Xv (by omega) (by omega),Xv (by omega) (by omega)]
include hf
theorem Zgm (g n:Nat) (h:Yb n) (p:Pl) (hp:p∈pts n) (cs:List C):
  cl fu (d+5) fn_mesh_Net_at [V.ptr 1000000 0,V.agg (plc p)] [Lm g n cs]=some ⟨I (idx n p),[Lm g n cs],none⟩:=by
 have hok:=Cs h hp;have e1:=Wd fu d hf p hok;have e2:=Zh0 (Zf n) 0 0 (Zd5 h hp);simp only[plc]at e1 e2⊢;rw[eqp_mesh_Net_at];simp(disch:=omega)only[Zd,QM,QD,e1,mfd,e2,orZ,Zss,Zsy,Zst,Nat.reduceAdd];rfl
omit hf in
theorem Jw {α:Type} {le:α->α->Prop} (anti: ∀a b,le a b->le b a->a=b): ∀{p q:List α},p.Perm q->p.Pairwise le->q.Pairwise le->p=q
 | [],q,h,_,_=>(List.nil_perm.1 h).symm
 |a::p,[],h,_,_=>by have:=h.length_eq;simp at this
 |a::p,b::q,h,hp,hq=>by
  rw[Zt0]at hp hq;have e:a=b:=by
   have h1:a∈b::q:=h.mem_iff.1 (Zua ..);have h2:b∈a::p:=h.mem_iff.2 (Zua ..);rcases Zta.1 h1 with h1|h1
   ·exact h1
   ·rcases Zta.1 h2 with h2|h2
    ·exact h2.symm
    ·exact anti a b (hp.1 b h2) (hq.1 a h1)
  subst e;rw[Jw anti h.cons_inv hp.2 hq.2]
omit hf in
theorem Zgn (l:List Int):(Q5 l).Perm l:=List.mergeSort_perm ..
omit hf in
theorem Zj8 (l:List Int):(Q5 l).Pairwise (λa b=>a<=b):=by
 have:=List.pairwise_mergeSort (le:=λx y:Int=>decide (x<=y)) (λa b c h1 h2=>by simp at*;omega) (λa b=>by simp;omega) l;exact this.imp λh=>by simpa using h
omit hf in
theorem Zng {l m:List Int} (hp:m.Perm l) (hs:m.Pairwise (λa b=>a<=b)):Q5 l=m:=
 Jw (λa b h1 h2=>Int.le_antisymm h1 h2) ((Zgn l).trans hp.symm) (Zj8 l) hs
omit hf in
theorem Zpv (i j k:Nat):Q5 [(i:Int),j,k]=[((Xl i j k).1:Int),((Xl i j k).2.1:Int),((Xl i j k).2.2:Int)]:=by
 unfold Xl;split<;>split<;>try split
 all_goals
  refine Zng ?_ (by simp;omega);first
  |exact .refl _
  |exact .swap _ _ _
  |exact(List.Perm.swap _ _ _).cons _
  |exact(List.Perm.swap _ _ _).trans ((List.Perm.swap _ _ _).cons _)
  |exact((List.Perm.swap _ _ _).cons _).trans (.swap _ _ _)
  |exact((List.Perm.swap _ _ _).trans ((List.Perm.swap _ _ _).cons _)).trans (.swap _ _ _)
end
end Go.Proofs.YtjmempcalaliiaaGreatDoor
/- A grid's cells, one place after the other. -/
namespace Go.Proofs.YtjmempcalaliiaaGreatDoor
open Go Go.PM Go.Grid
attribute [local congr] Zt Zu Zv Yd Zw Zx Ye Yf Yg Yh Zy Zz Yi Yx Yy Yz Y1 Y2 Y5 Y6 Y7 Y8 Y4 Z1 Z2 Y9 Z3 Z4 Zk Z5 Z0
abbrev pl3 (p q r:Pl):List C:=[.v (.int .i64 p.f), .v (.int .i64 p.a), .v (.int .i64 p.b), .v (.int .i64 p.c), .v (.int .i64 q.f), .v (.int .i64 q.a), .v (.int .i64 q.b), .v (.int .i64 q.c), .v (.int .i64 r.f), .v (.int .i64 r.a), .v (.int .i64 r.b), .v (.int .i64 r.c)]
def trC (t:Nat×Nat×Nat):List C:=[.v (.int .i64 t.1), .v (.int .i64 t.2.1), .v (.int .i64 t.2.2)]
theorem Yk (t:Nat×Nat×Nat):(trC t).length=3:=rfl
section
variable (fu d:Nat) (hf:18446744073709551616<=fu)
theorem Zj9 (g n f a b c:Nat) (h:Yb n) (hb:a<=840/\b<=840/\c<=840) (cs:List C):
  cl fu (d+2) fn_mesh_Net_upward [V.ptr 1000000 0,V.agg (plc ⟨f,a,b,c⟩)] [Lm g n cs]=some ⟨V.agg (pl3 ⟨f,a+840/n,b,c⟩ ⟨f,a,b+840/n,c⟩ ⟨f,a,b,c+840/n⟩),[Lm g n cs],none⟩:=by
 have hs:=Q6 h;have m1:=S8 fu d f a b c ((840/n:Nat):Int) 0 0 (by omega) (by omega) (by omega) (by omega);have m2:=S8 fu d f a b c 0 ((840/n:Nat):Int) 0 (by omega) (by omega) (by omega) (by omega);have m3:=S8 fu d f a b c 0 0 ((840/n:Nat):Int) (by omega) (by omega) (by omega) (by omega);simp only[plc]at m1 m2 m3⊢;rw[eqp_mesh_Net_upward];simp(disch:=omega)only[Zd,QM,QD,m1,m2,m3,Zss,Zsy,Zst,Nat.reduceAdd,Zvd];rfl
theorem Zea (g n f a b c:Nat) (h:Yb n) (hb:a<=840/\b<=840/\c<=840) (cs:List C):
  cl fu (d+2) fn_mesh_Net_downward [V.ptr 1000000 0,V.agg (plc ⟨f,a,b,c⟩)] [Lm g n cs]=some ⟨V.agg (pl3 ⟨f,a,b+840/n,c+840/n⟩ ⟨f,a+840/n,b,c+840/n⟩ ⟨f,a+840/n,b+840/n,c⟩),[Lm g n cs],none⟩:=by
 have hs:=Q6 h;have m1:=S8 fu d f a b c 0 ((840/n:Nat):Int) ((840/n:Nat):Int) (by omega) (by omega) (by omega) (by omega);have m2:=S8 fu d f a b c ((840/n:Nat):Int) 0 ((840/n:Nat):Int) (by omega) (by omega) (by omega) (by omega);have m3:=S8 fu d f a b c ((840/n:Nat):Int) ((840/n:Nat):Int) 0 (by omega) (by omega) (by omega) (by omega);simp only[plc]at m1 m2 m3⊢;rw[eqp_mesh_Net_downward];simp(disch:=omega)only[Zd,QM,QD,m1,m2,m3,Zss,Zsy,Zst,Nat.reduceAdd,Zvd];rfl
theorem Znh (i j k:Nat):cl fu (d+1) fn_slices_Sort_sint_int [V.ws 1000000 3] [.ob ty_3_int 0 [.v (.int .i64 i), .v (.int .i64 j), .v (.int .i64 k)]]=some ⟨.tup [],[.ob ty_3_int 0 (trC (Xl i j k))],none⟩:=by
 have e:cl fu (d+1) fn_slices_Sort_sint_int [V.ws 1000000 3] [.ob ty_3_int 0 [.v (.int .i64 i), .v (.int .i64 j), .v (.int .i64 k)]]=some ⟨.tup [],[.ob ty_3_int 0 (ints (Q5 [(i:Int),j,k]))],none⟩:=by kernel_rfl
 rw[e,Zpv];rfl
include hf
theorem Zh1 (g n:Nat) (h:Yb n) (p q r:Pl) (hp:p∈pts n) (hq:q∈pts n) (hr:r∈pts n) (L:List (Nat×Nat×Nat)) (hL:L.length<=100000):
  cl fu (d+6) fn_mesh_Net_cell [V.ptr 1000000 0,V.agg (pl3 p q r)] [Lm g n (fl trC L)]=some ⟨V.tup [],[Lm 1 n (fl trC (L++[tc n p q r]))],none⟩:=by
 have hfl:=Zh Yk L;have hdv:L.length*3/3=L.length:=by omega
 have a1:=Zgm fu d hf 0 n h p hp (fl trC L);have a2:=Zgm fu d hf 0 n h q hq (fl trC L);have a3:=Zgm fu d hf 0 n h r hr (fl trC L);have hsn:fl trC L++[.v (.int .i64 (tc n p q r).1), .v (.int .i64 (tc n p q r).2.1), .v (.int .i64 (tc n p q r).2.2)]=fl trC (L++[tc n p q r]):=Jt L _;have hfl2:(fl trC (L++[tc n p q r])).length=(L.length+1)*3:=by rw[Zh Yk,Zsz];rfl
 have hs:=Znh fu (d+4) (idx n p) (idx n q) (idx n r);generalize hi:idx n p=ip at*
 generalize hj:idx n q=iq at*
 generalize hk:idx n r=ir at*
 unfold tc at hsn hfl2⊢;rw[hi,hj,hk]at hsn hfl2⊢;simp only[plc]at a1 a2 a3;unfold Lm Znf at a1 a2 a3⊢;rw[eqp_mesh_Net_cell];generalize (Zf n).length=nl at*
 generalize fl plc (Zf n)=nc at*
 generalize esn 0 (Zf n)=es at*
 simp(disch:=omega)only[Zd,QM,QD,Zss,Zsy,Zst,Nat.reduceAdd];rw[Zs (λj:Nat=>(((j:Nat):Int),(match j with|0=>[C.v (.int .i64 0),C.v (.int .i64 0),C.v (.int .i64 0)]|1=>[C.v (.int .i64 ip),C.v (.int .i64 0),C.v (.int .i64 0)]|2=>[C.v (.int .i64 ip),C.v (.int .i64 iq),C.v (.int .i64 0)]|_=>[C.v (.int .i64 ip),C.v (.int .i64 iq),C.v (.int .i64 ir)]),((n:Int),(((840/n:Nat):Int)),C.sl nl nc,C.mp ty_api_Place ty_int (some 4) none es,fl trC L,C.nl,C.nl,()),())) 0
  ((3:Int),[C.v (.int .i64 ip),C.v (.int .i64 iq),C.v (.int .i64 ir)],((n:Int),(((840/n:Nat):Int)),C.sl nl nc,C.mp ty_api_Place ty_int (some 4) none es,fl trC L,C.nl,C.nl,()),()) 3 ?_ ?_ ?_ (by omega)]
 ·simp(disch:=omega)only[Zd,QM,QD,hs,trC,Zss,Zsy,Zst,Nat.reduceAdd,hfl,hdv,Zuj,Zuo,hsn,hfl2]
 ·rfl
 ·intro j hj;rcases(show j=0\/j=1\/j=2 by omega)with rfl|rfl|rfl
  ·simp(disch:=omega)only[Zd,QM,QD,QE,a1,Nat.reduceMul,Zsv,Int.ofNat_zero,Zu0,show Int.toNat 1=1 from rfl,show Int.toNat 2=2 from rfl,show((1:Nat):Int)=1 from rfl,show((2:Nat):Int)=2 from rfl,Zty,Nat.one_mul,Zvf,Zum,Zuo,Zuj,Zss,Zsy,Zst,Nat.reduceAdd];rfl
  ·simp(disch:=omega)only[Zd,QM,QD,QE,a2,Nat.reduceMul,Zsv,Int.ofNat_zero,Zu0,show Int.toNat 1=1 from rfl,show Int.toNat 2=2 from rfl,show((1:Nat):Int)=1 from rfl,show((2:Nat):Int)=2 from rfl,Zty,Nat.one_mul,Zvf,Zum,Zuo,Zuj,Zss,Zsy,Zst,Nat.reduceAdd];rfl
  ·simp(disch:=omega)only[Zd,QM,QD,QE,a3,Nat.reduceMul,Zsv,Int.ofNat_zero,Zu0,show Int.toNat 1=1 from rfl,show Int.toNat 2=2 from rfl,show((1:Nat):Int)=1 from rfl,show((2:Nat):Int)=2 from rfl,Zty,Nat.one_mul,Zvf,Zum,Zuo,Zuj,Zss,Zsy,Zst,Nat.reduceAdd];rfl
 ·rfl
end
end Go.Proofs.YtjmempcalaliiaaGreatDoor
/- All of a grid's cells. -/
namespace Go.Proofs.YtjmempcalaliiaaGreatDoor
open Go Go.PM Go.Grid
attribute [local congr] Zt Zu Zv Yd Zw Zx Ye Yf Yg Yh Zy Zz Yi Yx Yy Yz Y1 Y2 Y5 Y6 Y7 Y8 Y4 Z1 Z2 Y9 Z3 Z4 Zk Z5 Z0
def Uh (n f a b:Nat):List (Nat×Nat×Nat):=(List.range f).flatMap (Fh n)++((List.range a).flatMap (rowC n f)++(List.range b).flatMap (X8 n f a))
theorem Zgo (n f a b:Nat):Uh n f a b++X8 n f a b=Uh n f a (b+1):=by
 unfold Uh;rw[Zus,Zu3];simp[Ztu]
theorem Zni (n f a:Nat):Uh n f a (n-a)=Uh n f (a+1) 0:=by
 unfold Uh;rw[Zus (n:=a),Zu3];simp[rowC]
theorem Znj (n f:Nat):Uh n f n 0=Uh n (f+1) 0 0:=by
 unfold Uh;rw[Zus (n:=f),Zu3];simp[Fh]
theorem Cz (n:Nat):Uh n 20 0 0=tri n:=by unfold Uh tri;simp
theorem C0 (n f a b:Nat):(X8 n f a b).length<=2:=by unfold X8;split<;>simp
theorem Zh2 (n f a:Nat) (h:n<=8):(rowC n f a).length<=16:=by
 have:=U6 (g:=X8 n f a) (λb=>C0 n f a b) (n-a);unfold rowC;omega
theorem Znk (n f:Nat) (h:n<=8):(Fh n f).length<=128:=by
 have:=U6 (g:=rowC n f) (λa=>Zh2 n f a h) n;unfold Fh;omega
theorem Zbq {n f a b:Nat} (h:n<=8) (hf:f<=20) (ha:a<=9) (hb:b<=9):(Uh n f a b).length<=5000:=by
 have h1:=U6 (g:=Fh n) (λa=>Znk n a h) f;have h2:=U6 (g:=rowC n f) (λa=>Zh2 n f a h) a;have h3:=U6 (g:=X8 n f a) (λb=>C0 n f a b) b;unfold Uh;rw[Zsz,Zsz];omega
theorem Jx {n f i j:Nat} (hf:f<20) (h:i+j<=n):pt n f i j∈pts n:=Eh.2 ⟨f,i,j,hf,h,rfl⟩
section
variable (fu d:Nat) (hf:18446744073709551616<=fu)
include hf
theorem Znl (g n:Nat) (h:Yb n) (f a b:Nat) (hf':f<20) (hab:a+b<n) (L:List (Nat×Nat×Nat)) (hL:L.length<=50000):
  ∃g',cl fu (d+7) fn_mesh_Net_cells [V.ptr 1000000 0,V.agg [.v (.int .i64 f), .v (.int .i64 ((a*(840/n):Nat):Int)), .v (.int .i64 ((b*(840/n):Nat):Int)), .v (.int .i64 (((n-1-a-b)*(840/n):Nat):Int))]] [Lm g n (fl trC L)]=some ⟨V.tup [],[Lm g' n (fl trC (L++X8 n f a b))],none⟩:=by
 have hs:=Q6 h;have hn:=h;unfold Yb at hn;have ha:a*(840/n)<=840:=Mu h (by omega);have hb:b*(840/n)<=840:=Mu h (by omega);have hc:(n-1-a-b)*(840/n)<=840:=Mu h (by omega);have u1:=Zj9 fu (d+4) g n f (a*(840/n)) (b*(840/n)) ((n-1-a-b)*(840/n)) h ⟨ha,hb,hc⟩ (fl trC L);have e1:(⟨f,a*(840/n)+840/n,b*(840/n),(n-1-a-b)*(840/n)⟩:Pl)=pt n f (a+1) b:=by
  unfold pt;rw[Zt1,show n-1-a-b=n-(a+1)-b by omega]
 have e2:(⟨f,a*(840/n),b*(840/n)+840/n,(n-1-a-b)*(840/n)⟩:Pl)=pt n f a (b+1):=by
  unfold pt;rw[Zt1,show n-1-a-b=n-a-(b+1) by omega]
 have e3:(⟨f,a*(840/n),b*(840/n),(n-1-a-b)*(840/n)+840/n⟩:Pl)=pt n f a b:=by
  unfold pt;rw[<-Zt1,show(n-1-a-b).succ=n-a-b by omega]
 rw[e1,e2,e3]at u1;have p1:=Jx (n:=n) (i:=a+1) (j:=b) hf' (by omega);have p2:=Jx (n:=n) (i:=a) (j:=b+1) hf' (by omega);have p3:=Jx (n:=n) (i:=a) (j:=b) hf' (by omega);have c1:=Zh1 fu d hf (Nat.succ g) n h _ _ _ p1 p2 p3 L (by omega);by_cases hd:a+b+1<n
 ·have e4:((n-1-a-b)*(840/n))=(n-2-a-b)*(840/n)+840/n:=by rw[<-Zt1,show(n-2-a-b).succ=n-1-a-b by omega]
  have hc2:(n-2-a-b)*(840/n)<=840:=by omega
  have m1:=S8 fu (d+5) f (a*(840/n)) (b*(840/n)) ((n-1-a-b)*(840/n)) 0 0 (0-((840/n:Nat):Int)) (by omega) (by omega) (by omega) (by omega);have e5:((((n-1-a-b)*(840/n):Nat):Int)+(0-((840/n:Nat):Int)))=(((n-2-a-b)*(840/n):Nat):Int):=by omega
  rw[e5]at m1;have u2:=Zea fu (d+4) (Nat.succ (Nat.succ g)) n f (a*(840/n)) (b*(840/n)) ((n-2-a-b)*(840/n)) h ⟨ha,hb,hc2⟩ (fl trC (L++[tc n (pt n f (a+1) b) (pt n f a (b+1)) (pt n f a b)]));have e6:(⟨f,a*(840/n),b*(840/n)+840/n,(n-2-a-b)*(840/n)+840/n⟩:Pl)=pt n f a (b+1):=by rw[<-e4];exact e2
  have e7:(⟨f,a*(840/n)+840/n,b*(840/n),(n-2-a-b)*(840/n)+840/n⟩:Pl)=pt n f (a+1) b:=by rw[<-e4];exact e1
  have e8:(⟨f,a*(840/n)+840/n,b*(840/n)+840/n,(n-2-a-b)*(840/n)⟩:Pl)=pt n f (a+1) (b+1):=by
   unfold pt;rw[Zt1,Zt1,show n-2-a-b=n-(a+1)-(b+1) by omega]
  rw[e6,e7,e8]at u2;have p4:=Jx (n:=n) (i:=a+1) (j:=b+1) hf' (by omega);have c2:=Zh1 fu d hf (Nat.succ (Nat.succ (Nat.succ g))) n h _ _ _ p2 p1 p4 (L++[tc n (pt n f (a+1) b) (pt n f a (b+1)) (pt n f a b)]) (by simp;omega);have hge:((840/n:Nat):Int)<=(((n-1-a-b)*(840/n):Nat):Int):=by omega
  have hL2:L++X8 n f a b=(L++[tc n (pt n f (a+1) b) (pt n f a (b+1)) (pt n f a b)])++[tc n (pt n f a (b+1)) (pt n f (a+1) b) (pt n f (a+1) (b+1))]:=by
   unfold X8;rw[if_pos hd];simp
  rw[hL2];generalize tc n (pt n f (a+1) b) (pt n f a (b+1)) (pt n f a b)=t1 at*
  generalize tc n (pt n f a (b+1)) (pt n f (a+1) b) (pt n f (a+1) (b+1))=t2 at*
  simp only[plc,Zvd]at u1 u2 m1;generalize pt n f (a+1) b=q1 at*
  generalize pt n f a (b+1)=q2 at*
  generalize pt n f a b=q3 at*
  generalize pt n f (a+1) (b+1)=q4 at*
  unfold Lm Znf at u1 u2 c1 c2⊢;refine⟨Nat.succ (Nat.succ (Nat.succ (Nat.succ g))), ?_⟩;rw[eqp_mesh_Net_cells];generalize (Zf n).length=nl at*
  generalize fl plc (Zf n)=nc at*
  generalize esn 0 (Zf n)=es at*
  generalize a*(840/n)=x at*
  generalize b*(840/n)=y at*
  generalize (n-1-a-b)*(840/n)=z at*
  generalize (n-2-a-b)*(840/n)=z2 at*
  simp(disch:=omega)only[Zd,QM,QD,QE,u1,c1,m1,u2,c2,Zss,Zsy,Zst,Nat.reduceAdd]
 ·have hz:n-1-a-b=0:=by omega
  have hlt:(((n-1-a-b)*(840/n):Nat):Int)<((840/n:Nat):Int):=by rw[hz,Zty];omega
  have hL2:L++X8 n f a b=L++[tc n (pt n f (a+1) b) (pt n f a (b+1)) (pt n f a b)]:=by
   unfold X8;rw[if_neg hd]
  rw[hL2];generalize tc n (pt n f (a+1) b) (pt n f a (b+1)) (pt n f a b)=t1 at*
  simp only[plc]at u1;generalize pt n f (a+1) b=q1 at*
  generalize pt n f a (b+1)=q2 at*
  generalize pt n f a b=q3 at*
  unfold Lm Znf at u1 c1⊢;refine⟨Nat.succ (Nat.succ g), ?_⟩;rw[eqp_mesh_Net_cells];generalize (Zf n).length=nl at*
  generalize fl plc (Zf n)=nc at*
  generalize esn 0 (Zf n)=es at*
  generalize a*(840/n)=x at*
  generalize b*(840/n)=y at*
  generalize (n-1-a-b)*(840/n)=z at*
  simp(disch:=omega)only[Zd,QM,QD,QE,u1,c1,Zss,Zsy,Zst,Nat.reduceAdd]
end
end Go.Proofs.YtjmempcalaliiaaGreatDoor
/- A grid's cells and edges, sorted; equal edges once. -/
namespace Go.Proofs.YtjmempcalaliiaaGreatDoor
open Go Go.PM Go.Grid
attribute [local congr] Zt Zu Zv Yd Zw Zx Ye Yf Yg Yh Zy Zz Yi Yx Yy Yz Y1 Y2 Y5 Y6 Y7 Y8 Y4 Z1 Z2 Y9 Z3 Z4 Zk Z5 Z0
section
variable {α:Type} (le:α->α->Bool)
theorem H8 (x:α): ∀l,(Zgi le x l).Perm (x::l)
 | []=> .refl _
 |y::l=>by
  unfold Zgi;split
  ·exact .refl _
  ·exact((H8 x l).cons y).trans (.swap x y l)
theorem Xj: ∀l,(S6 le l).Perm l
 | []=> .refl _
 |x::l=>(H8 le x (S6 le l)).trans ((Xj l).cons x)
variable {le} (ht: ∀a b,le a b=true\/le b a=true) (htr: ∀a b c,le a b=true->le b c=true->le a c=true)
include ht htr
theorem Zeb (x:α): ∀{l:List α},l.Pairwise (λa b=>le a b=true)->(Zgi le x l).Pairwise (λa b=>le a b=true)
 | [],_=>by simp[Zgi]
 |y::l,h=>by
  unfold Zgi;rw[Zt0]at h;split
  ·rename_i hxy;rw[Zt0,Zt0];exact⟨λz hz=>(Zta.1 hz).elim (λe=>e▸hxy) λhz=>htr _ _ _ hxy (h.1 z hz),h⟩
  ·rename_i hxy;rw[Zt0];refine⟨λz hz=> ?_,Zeb x h.2⟩;rcases Zta.1 ((H8 le x l).mem_iff.1 hz)with rfl|hz
   ·exact(ht _ _).resolve_left hxy
   ·exact h.1 z hz
theorem M8: ∀l,(S6 le l).Pairwise (λa b=>le a b=true)
 | []=> .nil
 |x::l=>Zeb ht htr x (M8 l)
end
theorem Jy {a b:Nat×Nat×Nat}:leT a b=true↔a.1<b.1\/a.1=b.1/\(a.2.1<b.2.1\/a.2.1=b.2.1/\a.2.2<=b.2.2):=by simp[leT]
theorem Tq {a b:Ed}:leZ a b=true↔a.1<b.1\/a.1=b.1/\a.2<=b.2:=by simp[leZ]
def trI (t:Nat×Nat×Nat):List Int:=[(t.1:Int),(t.2.1:Int),(t.2.2:Int)]
def edI (e:Ed):List Int:=[e.1,e.2]
def edC (e:Ed):List C:=[.v (.int .i64 e.1), .v (.int .i64 e.2)]
theorem Xk (e:Ed):(edC e).length=2:=rfl
theorem Zbr (L:List (Nat×Nat×Nat)):fl trC L=ints (L.flatMap trI):=by
 induction L with
 |nil=>rfl
 |cons x L ih=>rw[Ru,ih,Zud];rfl
theorem Jz (L:List Ed):fl edC L=ints (Ug L):=by
 induction L with
 |nil=>rfl
 |cons x L ih=>rw[Ru,ih,Nk];rfl
theorem Zpw (a b:Nat×Nat×Nat):(¬lexZ [0,1,2] (trI b) (trI a)<0)↔leT a b=true:=by
 rw[Jy,T7,T7,T7];simp only[trI,lexZ,List.getD_cons_zero,List.getD_cons_succ];omega
theorem Zpx (a b:Ed):(¬lexZ [0,1] (edI b) (edI a)<0)↔leZ a b=true:=by
 rw[Tq,T7,T7];simp only[edI,lexZ,List.getD_cons_zero,List.getD_cons_succ];omega
theorem Znm (a b:Nat×Nat×Nat) (h:leT a b=true) (h':leT b a=true):a=b:=by
 rw[Jy]at h h';obtain⟨a1,a2,a3⟩:=a;obtain⟨b1,b2,b3⟩:=b;simp only at h h';have e1:a1=b1:=by omega
 have e2:a2=b2:=by omega
 have e3:a3=b3:=by omega
 rw[e1,e2,e3]
theorem Zec (a b:Ed) (h:leZ a b=true) (h':leZ b a=true):a=b:=by
 rw[Tq]at h h';obtain⟨a1,a2⟩:=a;obtain⟨b1,b2⟩:=b;simp only at h h';have e1:a1=b1:=by omega
 have e2:a2=b2:=by omega
 rw[e1,e2]
section
variable (fu d:Nat)
theorem Znn (L:List (Nat×Nat×Nat)) (hl:L.length<=1000000):cl fu (d+1) fn_slices_SortFunc_sapi_Cell_api_Cell [V.own 1000000 0 L.length,V.c (C.fn fn_mesh_Build_1 [])] [.sb ty_api_Cell 0 (fl trC L)]=
  some ⟨.tup [],[.sb ty_api_Cell 0 (fl trC (S6 leT L))],none⟩:=by
 have e:cl fu (d+1) fn_slices_SortFunc_sapi_Cell_api_Cell [V.own 1000000 0 L.length,V.c (C.fn fn_mesh_Build_1 [])] [.sb ty_api_Cell 0 (fl trC L)]=(Ti (fl trC L)).bind λzs=>need (Nat.beq 1000000 OUT&&Nat.beq 0 0&&Nat.beq fn_mesh_Build_1 fn_mesh_Build_1&&Nat.beq ty_api_Cell ty_api_Cell&&Nat.beq 0 0&&Nat.beq zs.length (L.length*3)&&Nat.ble L.length 4611686018427387903) (some ⟨.tup [],[.sb ty_api_Cell 0 (ints (Rt 3 (Nx 3 (lexZ [0,1,2]) L.length zs)))],none⟩):=by kernel_rfl
 have hlen:(L.flatMap trI).length=L.length*3:=by
  have:=Zh Yk L;rw[Zbr]at this;simpa using this
 have e1:Nat.beq 1000000 OUT=true:=rfl;obtain⟨l',h1,h2,h3⟩:=Co (k:=3) (g:=trI) (λ_=>rfl) (lexZ_swo [0,1,2]) L;have h4:l'=S6 leT L:=Jw Znm (h1.trans (Xj leT L).symm) (h2.imp λ{a b} h=>(Zpw a b).1 h) (M8 (λa b=>by rw[Jy,Jy];omega) (λa b c h h'=>by rw[Jy]at h h'⊢;omega) L);rw[e,Zbr,Rs];simp(disch:=omega)only[Zd,QM,QD,hlen,e1];rw[h3,h4,Zbr]
theorem Zno (L:List Ed) (hl:L.length<=1000000):cl fu (d+1) fn_slices_SortFunc_sapi_Edge_api_Edge [V.own 1000000 0 L.length,V.c (C.fn fn_mesh_Build_2 [])] [.sb ty_api_Edge 0 (fl edC L)]=
  some ⟨.tup [],[.sb ty_api_Edge 0 (fl edC (S6 leZ L))],none⟩:=by
 have e:cl fu (d+1) fn_slices_SortFunc_sapi_Edge_api_Edge [V.own 1000000 0 L.length,V.c (C.fn fn_mesh_Build_2 [])] [.sb ty_api_Edge 0 (fl edC L)]=(Ti (fl edC L)).bind λzs=>need (Nat.beq 1000000 OUT&&Nat.beq 0 0&&Nat.beq fn_mesh_Build_2 fn_mesh_Build_2&&Nat.beq ty_api_Edge ty_api_Edge&&Nat.beq 0 0&&Nat.beq zs.length (L.length*2)&&Nat.ble L.length 4611686018427387903) (some ⟨.tup [],[.sb ty_api_Edge 0 (ints (Rt 2 (Nx 2 (lexZ [0,1]) L.length zs)))],none⟩):=by kernel_rfl
 have hlen:(Ug L).length=L.length*2:=Qt L;have e1:Nat.beq 1000000 OUT=true:=rfl;obtain⟨l',h1,h2,h3⟩:=Co (k:=2) (g:=edI) (λ_=>rfl) (lexZ_swo [0,1]) L;have h4:l'=S6 leZ L:=Jw Zec (h1.trans (Xj leZ L).symm) (h2.imp λ{a b} h=>(Zpx a b).1 h) (M8 (λa b=>by rw[Tq,Tq];omega) (λa b c h h'=>by rw[Tq]at h h'⊢;omega) L);have h5: ∀l:List Ed,l.flatMap edI=Ug l:=λl=>rfl;rw[e,Jz,Rs];simp(disch:=omega)only[Zd,QM,QD,hlen,e1];rw[h5,h5]at h3;rw[h3,h4,Jz]
theorem C1 {α:Type} [Inhabited α] [DecidableEq α] (l:List α):(Lib.compact l).length<=l.length:=by
 unfold Lib.compact Lib.compactUpTo;rw[Zs8];exact Zte (List.length_filter_le ..) (by simp)
theorem Fi {α:Type} [Inhabited α] [DecidableEq α] {l:List α} {x:α} (h:x∈Lib.compact l):x∈l:=by
 unfold Lib.compact Lib.compactUpTo at h;obtain⟨j,hj,rfl⟩:=Zvc.1 h;have:=Zun.1 (List.mem_filter.1 hj).1;rw[getElem!_pos l.toArray j (by simpa using this)];simp
theorem Zgp (L:List Ed) (hl:L.length<=1000000): ∃pad:List Ed,pad.length=L.length/\cl fu (d+1) fn_slices_Compact_sapi_Edge_api_Edge [V.own 1000000 0 L.length] [.sb ty_api_Edge 0 (fl edC L)]=
  some ⟨V.c (C.sl (Lib.compact L).length (fl edC (Lib.compact L))),[.sb ty_api_Edge (fl edC L).length (fl edC pad)],none⟩:=by
 have e:cl fu (d+1) fn_slices_Compact_sapi_Edge_api_Edge [V.own 1000000 0 L.length] [.sb ty_api_Edge 0 (fl edC L)]=(Ti (fl edC L)).bind λzs=>(Mr zs).bind λl=>need (Nat.beq 1000000 OUT&&Nat.beq 0 0&&Nat.beq ty_api_Edge ty_api_Edge&&Nat.beq 0 0&&Nat.beq l.length L.length&&Nat.ble L.length 4611686018427387903&&Nat.ble (Lib.compact l).length L.length)
   (some ⟨.c (.sl (Lib.compact l).length (ints (Ug (Lib.compact l)))),[.sb ty_api_Edge (fl edC L).length (ints (Ug (Zd1 l L.length)))],none⟩):=by kernel_rfl
 have e1:Nat.beq 1000000 OUT=true:=rfl;have hle:=C1 L;refine⟨Zd1 L L.length,Ff hle, ?_⟩;rw[e,Jz,Rs,Jz,Jz];show(Mr (Ug L)).bind _=_;rw[Zf7];simp(disch:=omega)only[Zd,QM,QD,e1]
end
end Go.Proofs.YtjmempcalaliiaaGreatDoor
/- A grid: what mesh.Build comes to. -/
namespace Go.Proofs.YtjmempcalaliiaaGreatDoor
open Go Go.PM Go.Grid
attribute [local congr] Zt Zu Zv Yd Zw Zx Ye Yf Yg Yh Zy Zz Yi Yx Yy Yz Y1 Y2 Y5 Y6 Y7 Y8 Y4 Z1 Z2 Y9 Z3 Z4 Zk Z5 Z0
theorem Zq8 {a b:Nat} (h:a<b):Nat.blt a b=true:=Zuk h
def Pt (R:List (List Int)) (i:Nat) (z:Int):List (List Int):=R.set i (R.getD i []++[z])
def C2 (R:List (List Int)) (e:Ed):List (List Int):=Pt (Pt R e.1.toNat e.2) e.2.toNat e.1
def V1 (N:Nat) (E:List Ed):List (List Int):=E.foldl C2 (List.replicate N [])
noncomputable def nxt (n:Nat):List (List Int):=(V1 (Zf n).length (edg n)).map Q5
theorem Wg (P:Nat->Prop) {i j k:Nat} (h1:P i) (h2:P j) (h3:P k):P (Xl i j k).1/\P (Xl i j k).2.1/\P (Xl i j k).2.2:=by
 unfold Xl;split<;>split<;>try split
 all_goals exact⟨by assumption,by assumption,by assumption⟩
theorem Zbs {n:Nat} (h:Yb n): ∀t∈tri n,t.1<(Zf n).length/\t.2.1<(Zf n).length/\t.2.2<(Zf n).length:=by
 intro t ht;unfold tri Fh rowC at ht;simp only[Zva,Zun]at ht;obtain⟨f,hf,a,ha,b,hb,ht⟩:=ht;have hp: ∀i j,i+j<=n->idx n (pt n f i j)<(Zf n).length:=λi j hij=>Ct h (Jx hf hij);unfold X8 at ht;rcases Zta.1 ht with rfl|ht
 ·exact Wg (λx=>x<(Zf n).length) (hp _ _ (by omega)) (hp _ _ (by omega)) (hp _ _ (by omega))
 ·split at ht
  ·rename_i hd;obtain rfl:=List.mem_singleton.1 ht;exact Wg (λx=>x<(Zf n).length) (hp _ _ (by omega)) (hp _ _ (by omega)) (hp _ _ (by omega))
  ·cases ht
theorem Zpy {n:Nat} (h:Yb n): ∀e∈Cu n,(0<=e.1/\e.1<((Zf n).length:Nat))/\(0<=e.2/\e.2<((Zf n).length:Nat)):=by
 intro e he;obtain⟨t,ht,he⟩:=Zva.1 he;obtain⟨h1,h2,h3⟩:=Zbs h t ((Xj leT _).mem_iff.1 ht);simp only[Kr,Zta,List.mem_nil_iff,or_false]at he;rcases he with rfl|rfl|rfl<;>(simp only;omega)
theorem Nl {n:Nat} (h:Yb n): ∀e∈edg n,(0<=e.1/\e.1<((Zf n).length:Nat))/\(0<=e.2/\e.2<((Zf n).length:Nat)):=
 λe he=>Zpy h e ((Xj leZ _).mem_iff.1 (Fi he))
theorem C3 {n:Nat} (h:Yb n):(tri n).length<=5000:=by
 unfold Yb at h;rw[<-Cz];exact Zbq (by omega) (by omega) (by omega) (by omega)
theorem Ks (L:List (Nat×Nat×Nat)):(L.flatMap Kr).length=L.length*3:=by
 induction L with
 |nil=>rfl
 |cons x L ih=>rw[Zud,Zsz,ih,Zss];simp only[Kr,Zss,Zsy];omega
theorem Zh3 {n:Nat} (h:Yb n):(Cu n).length<=15000:=by
 unfold Cu;rw[Ks,(Xj leT _).length_eq];have:=C3 h;omega
theorem Vh {n:Nat} (h:Yb n):(edg n).length<=15000:=
 Zte (C1 _) (by rw[(Xj leZ _).length_eq];exact Zh3 h)
theorem Sk (R:List (List Int)) (i:Nat) (z:Int):(Pt R i z).length=R.length:=by simp[Pt]
theorem Zbt {R:List (List Int)} {m:Nat} (h: ∀r∈R,r.length<=m) (i:Nat):(R.getD i []).length<=m:=by
 rw[Zs6];cases hi:R[i]? with
 |none=>simp
 |some r=>exact h r (Zs0 hi)
theorem C4 {R:List (List Int)} {m:Nat} (h: ∀r∈R,r.length<=m) (i:Nat) (z:Int): ∀r∈Pt R i z,r.length<=m+1:=by
 intro r hr;rcases List.mem_or_eq_of_mem_set hr with hr|rfl
 ·have:=h r hr;omega
 ·have:=Zbt h i;rw[Zsz,Zss,Zsy];omega
theorem Zed (R:List (List Int)) (i:Nat) (r:List Int):(R.map ints).set i (ints r)=(R.set i r).map ints:=List.map_set.symm
theorem Wh (R:List (List Int)) (i:Nat):(R.map ints).getD i []=ints (R.getD i []):=by
 rw[Zs6,Zs6,Zs7];cases R[i]? <;>rfl
theorem Qv (r:List Int) (z:Int):ints r++[C.v (.int .i64 z)]=ints (r++[z]):=by simp[ik]
theorem Zee (N:Nat) (E:List Ed) (e:Ed):V1 N (E++[e])=C2 (V1 N E) e:=by simp[V1]
theorem Lz (N:Nat) (E:List Ed):(V1 N E).length=N:=by
 have key: ∀(E:List Ed) (R:List (List Int)),(E.foldl C2 R).length=R.length:=by
  intro E
  induction E with
  |nil=>intro R;rfl
  |cons e E ih=>intro R;rw[Zup,ih];unfold C2;rw[Sk,Sk]
 unfold V1;rw[key];simp
theorem Wi (N:Nat) (E:List Ed): ∀r∈V1 N E,r.length<=2*E.length:=by
 have key: ∀(E:List Ed) (R:List (List Int)) (m:Nat),(∀r∈R,r.length<=m)-> ∀r∈E.foldl C2 R,r.length<=m+2*E.length:=by
  intro E
  induction E with
  |nil=>intro R m h r hr;have:=h r hr;simp;omega
  |cons e E ih=>
   intro R m h r hr;rw[Zup]at hr;have:=ih _ (m+1+1) (C4 (C4 h _ _) _ _) r hr;rw[Zss];omega
 intro r hr;have:=key E _ 0 (λr hr=>by rw[Zui hr];simp) r hr;omega
theorem Zr9 (t:Nat×Nat×Nat):fl edC (Kr t)=[C.v (.int .i64 t.1),C.v (.int .i64 t.2.1),C.v (.int .i64 t.1),C.v (.int .i64 t.2.2),C.v (.int .i64 t.2.1),C.v (.int .i64 t.2.2)]:=rfl
def F0 (R:List (List Int)) (j:Nat):List (List Int):=(R.take j).map Q5++R.drop j
theorem Fj (R:List (List Int)) (j:Nat):(F0 R j).length=R.length:=by
 unfold F0;rw[Zsz,Zs8,<-Zsz,List.take_append_drop]
theorem Znp {R:List (List Int)} {j:Nat} (hj:j<R.length):(F0 R j).getD j []=R[j]:=by
 unfold F0;rw[Zs6,Zuz (by simp;omega)];simp[Zt6 (Nat.le_of_lt hj),hj]
theorem Znq {R:List (List Int)} {j:Nat} (hj:j<R.length):(F0 R j).set j (Q5 R[j])=F0 R (j+1):=by
 unfold F0;have h1:((R.take j).map Q5).length=j:=by simp;omega
 rw[List.set_append_right _ _ (by omega),h1,Nat.sub_self,Ztq hj,List.set_cons_zero,Ztp hj,Zur,Ztu];rfl
theorem Zka (R:List (List Int)):F0 R 0=R:=by simp[F0]
theorem Znr (R:List (List Int)):F0 R R.length=R.map Q5:=by simp[F0]
section
variable (fu d:Nat)
theorem Zns (r:List Int) (h:r.length<=1000000):cl fu (d+1) fn_slices_Sort_sint_int [V.own 1000000 0 r.length] [.sb ty_int 0 (ints r)]=some ⟨.tup [],[.sb ty_int 0 (ints (Q5 r))],none⟩:=by
 have e:cl fu (d+1) fn_slices_Sort_sint_int [V.own 1000000 0 r.length] [.sb ty_int 0 (ints r)]=orP (sortP ty_int) (sortWsP ty_3_int) [.own 1000000 0 r.length] [.sb ty_int 0 (ints r)]:=by kernel_rfl
 have hw:=Zju (t:=ty_int) (l:=r) (by omega);have hs:sortP ty_int [.own 1000000 0 r.length] [.sb ty_int 0 (ints r)]=some ⟨.tup [],[.sb ty_int 0 (ints (Q5 r))],none⟩:=by
  rw[sortP,hw];exact Zvk ..
 rw[e,orP,hs]
variable (hf:18446744073709551616<=fu)
include hf
theorem Zkb (n:Nat) (h:Yb n) (f a b:Nat) (hf':f<20) (hab:a+b<n): ∃g',cl fu (d+7) fn_mesh_Net_cells [V.ptr 1000000 0,V.agg [.v (.int .i64 f), .v (.int .i64 ((a*(840/n):Nat):Int)), .v (.int .i64 ((b*(840/n):Nat):Int)), .v (.int .i64 (((n-1-a-b)*(840/n):Nat):Int))]] [Lm 0 n (fl trC (Uh n f a b))]=some ⟨V.tup [],[Lm g' n (fl trC (Uh n f a (b+1)))],none⟩:=by
 have hn:=h;unfold Yb at hn;have h5:(Uh n f a b).length<=5000:=Zbq hn.2 (Nat.le_of_lt hf') (show a<=9 by omega) (show b<=9 by omega);have h6:=Znl fu d hf 0 n h f a b hf' hab (Uh n f a b) (Zte h5 (Zsr rfl));rw[Zgo]at h6;exact h6
set_option maxHeartbeats 8000000 in
set_option maxRecDepth 4000 in
theorem Znt (n:Nat) (h:Yb n): ∃c:C,cl fu (d+8) fn_mesh_Build [I n] []=some ⟨V.ptr 1000000 0,[.ob ty_mesh_Net 0 [C.v (.int .i64 n),C.v (.int .i64 ((840/n:Nat):Int)),C.sl (Zf n).length (fl plc (Zf n)),C.mp ty_api_Place ty_int (some 4) none (esn 0 (Zf n)),c,C.sl (edg n).length (fl edC (edg n)),C.sl (nxt n).length ((nxt n).map λr=>C.sl r.length (ints r))]],none⟩:=by
 have hn:=h;unfold Yb at hn;have hs:=Q6 h;have hP:=Zgl fu (d+2) hf n h;have hC:=Zkb fu d hf n h;have hNl:=Xz h;have hlT:=C3 h;unfold Lm Znf at hC;unfold netC at hP;have heI:=Nl h;have heL:=Vh h;have hrL:=Zh3 h;unfold nxt;generalize hE:edg n=E at*
 generalize hNl2:(Zf n).length=N at*
 generalize fl plc (Zf n)=nc at*
 generalize esn 0 (Zf n)=es at*
 have eO0:Nat.beq 1000000 (OUT+0)=true:=rfl;refine⟨C.sl (S6 leT (tri n)).length (fl trC (S6 leT (tri n))), ?_⟩;rw[eq_mesh_Build,hP];simp(disch:=omega)only[Zd,QM,QD,QE,eO0,Zss,Zsy,Zst,Nat.reduceAdd];rw[Zs (λf:Nat=>(((f:Nat):Int),((n:Int),(((840/n:Nat):Int)),C.sl N nc,C.mp ty_api_Place ty_int (some 4) none es,fl trC (Uh n f 0 0),C.nl,C.nl,()),())) 0
  ((20:Int),((n:Int),(((840/n:Nat):Int)),C.sl N nc,C.mp ty_api_Place ty_int (some 4) none es,fl trC (tri n),C.nl,C.nl,()),()) 20 ?_ ?_ ?_ (by omega)]
 ·generalize hT0:tri n=T0 at*
  generalize hT:S6 leT T0=T at*
  have hTl:T.length=T0.length:=by rw[<-hT];exact(Xj leT T0).length_eq
  have hfl0:=Zh Yk T0;have hflT:=Zh Yk T;have hdv0:T0.length*3/3=T0.length:=by omega
  have hdvT:T.length*3/3=T.length:=by omega
  have s1:=Znn fu (d+6) T0 (by omega);rw[hT]at s1;have b1: ∀{R:Type} (k:List C->Option R),rowBack ty_api_Cell (fl trC T0) false [.sb ty_api_Cell 0 (fl trC T)] k=k (fl trC T):=λk=>H7 _ _ _ k (by omega);simp(disch:=omega)only[Zd,QM,QD,QE,hfl0,hdv0,s1,b1,hflT,hdvT];rw[Zs (λj:Nat=>(((j:Nat):Int),((n:Int),(((840/n:Nat):Int)),C.sl N nc,C.mp ty_api_Place ty_int (some 4) none es,C.sl T.length (fl trC T),fl edC ((T.take j).flatMap Kr),C.nl,()),())) 0
   (((T.length:Nat):Int),((n:Int),(((840/n:Nat):Int)),C.sl N nc,C.mp ty_api_Place ty_int (some 4) none es,C.sl T.length (fl trC T),fl edC (T.flatMap Kr),C.nl,()),()) T.length ?_ ?_ ?_ (by omega)]
  rotate_left
  ·rfl
  ·intro j hj;have hat:=Ju Yk hj;have hln:(fl edC ((T.take j).flatMap Kr)).length=(j*3)*2:=by rw[Zh Xk,Ks,Ztl,Zt6 (by omega)]
   have hdl:(j*3)*2/2=j*3:=by omega
   have happ:fl edC ((T.take j).flatMap Kr)++[C.v (.int .i64 T[j].1),C.v (.int .i64 T[j].2.1),C.v (.int .i64 T[j].1),C.v (.int .i64 T[j].2.2),C.v (.int .i64 T[j].2.1),C.v (.int .i64 T[j].2.2)]=fl edC ((T.take (j+1)).flatMap Kr):=by
    rw[<-Zr9,<-H5,Ztp hj,Zu3];simp
   have hln2:(fl edC ((T.take (j+1)).flatMap Kr)).length=(j*3+3)*2:=by rw[Zh Xk,Ks,Ztl,Zt6 (by omega)];omega
   simp(disch:=omega)only[Zd,QM,QD,Zsv,hat,trC,Zto,Ztr,hln,hdl,happ,hln2];rfl
  ·rw[Zt5];simp(disch:=omega)only[Zd,QM,QD]
  have hraw:T.flatMap Kr=Cu n:=by unfold Cu;rw[hT0,hT]
  rw[hraw];have hEd:Lib.compact (S6 leZ (Cu n))=E:=hE;generalize Cu n=W at*
  have hflW:=Zh Xk W;have hdvW:W.length*2/2=W.length:=by omega
  have s2:=Zno fu (d+6) W (by omega);have hZl:(S6 leZ W).length=W.length:=(Xj leZ W).length_eq;generalize S6 leZ W=Z at*
  have hflZ:=Zh Xk Z;have hdvZ:Z.length*2/2=Z.length:=by omega
  have b2: ∀{R:Type} (k:List C->Option R),rowBack ty_api_Edge (fl edC W) false [.sb ty_api_Edge 0 (fl edC Z)] k=k (fl edC Z):=λk=>H7 _ _ _ k (by omega);obtain⟨pad,hpad,s3⟩:=Zgp fu (d+6) Z (by omega);rw[hEd]at s3;have hflP:=Zh Xk pad;have b3: ∀{R:Type} (k:List C->Option R),rowBack ty_api_Edge (fl edC Z) true [.sb ty_api_Edge (Z.length*2) (fl edC pad)] k=k (fl edC pad):=λk=>by rw[<-hflZ];exact Zj7 _ _ _ k (by omega)
  have hflE:=Zh Xk E;simp(disch:=omega)only[Zd,QM,QD,QE,hflW,hdvW,s2,b2,hflZ,hdvZ,s3,b3,Zsv,Zub,decide_true];rw[Zs (λj:Nat=>(((j:Nat):Int),((n:Int),(((840/n:Nat):Int)),C.sl N nc,C.mp ty_api_Place ty_int (some 4) none es,C.sl T.length (fl trC T),C.sl E.length (fl edC E),(V1 N (E.take j)).map ints,()),())) 0
   (((E.length:Nat):Int),((n:Int),(((840/n:Nat):Int)),C.sl N nc,C.mp ty_api_Place ty_int (some 4) none es,C.sl T.length (fl trC T),C.sl E.length (fl edC E),(V1 N E).map ints,()),()) E.length ?_ ?_ ?_ (by omega)]
  rotate_left
  ·show _=(((0:Nat):Int),_,());simp only[Zum,V1,List.foldl_nil,List.map_replicate];rfl
  ·intro j hj;have hat:=Ju Xk hj;have hin:=heI E[j] (Zts hj);have hps:V1 N (E.take (j+1))=C2 (V1 N (E.take j)) E[j]:=by rw[Ztp hj,Zee]
   have hRl:=Lz N (E.take j);have hRb:=Wi N (E.take j);rw[Ztl,Zt6 (by omega)]at hRb;rw[hps];generalize V1 N (E.take j)=R at*
   generalize E[j]=e at*
   obtain⟨ea,eb⟩:=e
   dsimp only at hin
   obtain⟨x,rfl⟩: ∃x:Nat,ea=x:=⟨ea.toNat,by omega⟩;obtain⟨y,rfl⟩: ∃y:Nat,eb=y:=⟨eb.toNat,by omega⟩;have hg1:=Zbt hRb x;have hg2:=Zbt (C4 hRb x (y:Int)) y;have hl1:=Sk R x (y:Int);have hpe:C2 R ((x:Int),(y:Int))=Pt (Pt R x (y:Int)) y (x:Int):=rfl;have hp1: ∀i z,R.set i (R.getD i []++[z])=Pt R i z:=λi z=>rfl;have hp2: ∀i z,(Pt R x (y:Int)).set i ((Pt R x (y:Int)).getD i []++[z])=Pt (Pt R x (y:Int)) i z:=λi z=>rfl;have hl2:=Sk (Pt R x (y:Int)) y (x:Int);rw[hpe];simp(disch:=omega)only[Zd,QM,QD,Zq8,Zg,hat,edC,Zto,Ztr,Zsv,Zs4,Ztk,Zs8,Wh,Qv,Zed,hp1,hp2,hRl,hl1,hl2,Zsz,Zss,Zsy,Zst];rfl
  ·rw[Zt5];simp(disch:=omega)only[Zd,QM,QD]
  have hRl:=Lz N E;have hRb:=Wi N E;generalize V1 N E=R at*
  simp(disch:=omega)only[Zd,QM,QD,Zs8];rw[Zs (λj:Nat=>(((j:Nat):Int),((n:Int),(((840/n:Nat):Int)),C.sl N nc,C.mp ty_api_Place ty_int (some 4) none es,C.sl T.length (fl trC T),C.sl E.length (fl edC E),(F0 R j).map ints,()),())) 0
   (((R.length:Nat):Int),((n:Int),(((840/n:Nat):Int)),C.sl N nc,C.mp ty_api_Place ty_int (some 4) none es,C.sl T.length (fl trC T),C.sl E.length (fl edC E),(R.map Q5).map ints,()),()) R.length ?_ ?_ ?_ (by omega)]
  rotate_left
  ·rw[Zka];rfl
  ·intro j hj;have hml:=Fj R j;have hgt:=Znp hj;have hst:=Znq hj;have hml2:=Fj R (j+1);have hrl:=hRb R[j] (Zts hj);have s4:=Zns fu (d+6) R[j] (by omega);have hsl:=Zbe R[j];generalize R[j]=r at*
   have b4: ∀{R:Type} (k:List C->Option R),rowBack ty_int (ints r) false [.sb ty_int 0 (ints (Q5 r))] k=k (ints (Q5 r)):=λk=>H7 _ _ _ k (by rw[Zg,Zg];exact hsl);simp(disch:=omega)only[Zd,QM,QD,Zq8,Zsv,Zs4,Ztk,Zs8,Wh,hgt,Zg,s4,b4,Zed,hst,hml,hml2];rfl
  ·rw[Znr];simp(disch:=omega)only[Zd,QM,QD,Zs8]
  have hmm:List.map (λ(r:List C)=>C.sl (r.length/1) r) ((R.map Q5).map ints)=(R.map Q5).map λr=>C.sl r.length (ints r):=by
   rw[List.map_map];apply Zu2;intro r _;show C.sl ((ints r).length/1) (ints r)=_;rw[Zg,Ztk]
  simp(disch:=omega)only[Zd,QM,QD,Zs8,hmm]
 ·rfl
 ·intro f hf';simp(disch:=omega)only[Zd,QM,QD];rw[Zs (λa:Nat=>(((a:Nat):Int),((n:Int),(((840/n:Nat):Int)),C.sl N nc,C.mp ty_api_Place ty_int (some 4) none es,fl trC (Uh n f a 0),C.nl,C.nl,()),())) 0
   ((n:Int),((n:Int),(((840/n:Nat):Int)),C.sl N nc,C.mp ty_api_Place ty_int (some 4) none es,fl trC (Uh n f n 0),C.nl,C.nl,()),()) n ?_ ?_ ?_ (by omega)]
  ·simp(disch:=omega)only[Zd,QM,QD];rw[Znj];rfl
  ·rfl
  ·intro a ha;simp(disch:=omega)only[Zd,QM,QD];rw[Zs (λb:Nat=>(((b:Nat):Int),((n:Int),(((840/n:Nat):Int)),C.sl N nc,C.mp ty_api_Place ty_int (some 4) none es,fl trC (Uh n f a b),C.nl,C.nl,()),())) 0
    (((n-a:Nat):Int),((n:Int),(((840/n:Nat):Int)),C.sl N nc,C.mp ty_api_Place ty_int (some 4) none es,fl trC (Uh n f a (n-a)),C.nl,C.nl,()),()) (n-a) ?_ ?_ ?_ (by omega)]
   ·simp(disch:=omega)only[Zd,QM,QD];rw[Zni];rfl
   ·rfl
   ·intro b hb;obtain⟨g',hC⟩:=hC f a b hf' (by omega);have w1:IntKind.i64.wrap ((a:Int)*((840/n:Nat):Int))=((a*(840/n):Nat):Int):=Ps h (by omega);have w2:IntKind.i64.wrap ((b:Int)*((840/n:Nat):Int))=((b*(840/n):Nat):Int):=Ps h (by omega);have w3:IntKind.i64.wrap (((n:Int)-1-(a:Int)-(b:Int))*((840/n:Nat):Int))=(((n-1-a-b)*(840/n):Nat):Int):=by
     rw[show(n:Int)-1-(a:Int)-(b:Int)=((n-1-a-b:Nat):Int) by omega];exact Ps h (by omega)
    simp(disch:=omega)only[Zd,QM,QD,QE,w1,w2,w3,hC];rfl
   ·simp(disch:=omega)only[Zd,QM,QD]
  ·simp(disch:=omega)only[Zd,QM,QD]
 ·rw[Cz];simp(disch:=omega)only[Zd,QM,QD];rfl
end
end Go.Proofs.YtjmempcalaliiaaGreatDoor
/- The reference's nodes and the index of a place. -/
namespace Go.Proofs.YtjmempcalaliiaaGreatDoor
open Go Go.PM Go.Grid
theorem Nm (fu d n:Nat) (h:Yb n):cl fu (d+1) fn_synopticref03_Count [I n] []=OK (I ((10*n*n+2:Nat):Int)):=by
 rw[eq_synopticref03_Count];rcases Qm h with rfl|rfl|rfl|rfl|rfl|rfl|rfl|rfl<;>(show @Eq (Option Out) _ _;kernel_rfl)
theorem Zpz (n f i j:Nat):X6 n f i (j+1)=bif isN (pt n f i j)then X6 n f i j++[pt n f i j]else X6 n f i j:=by
 rw[Zm9];unfold isN;by_cases h:norm (pt n f i j)=pt n f i j
 ·rw[if_pos h,decide_eq_true h];rfl
 ·rw[if_neg h,decide_eq_false h];rfl
theorem Zef {n:Nat}:((10*n*n+2:Nat):Int)≠0:=by omega
theorem Zbu (fu d:Nat) (hf:18446744073709551616<=fu) (n:Nat) (h:Yb n):cl fu (d+6) fn_synopticref03_Nodes [I n] []=OK (V.tup [V.c (C.sl (Zf n).length (fl plc (Zf n))),I 0]):=by
 have hn:=h;unfold Yb at hn;have hst:=Q6 h;rw[eq_synopticref03_Nodes,Nm fu (d+4) n h,Cy h];simp only[QM];rw[H4 Zef,H4 (show(n:Int)≠0 by omega)];simp only[QM];rw[Zs (λf:Nat=>(fl plc (X6 n f 0 0),(f:Int),())) 0 (fl plc (X6 n 20 0 0),(20:Int),()) 20 ?_ ?_ ?_ (by omega)]
 ·rw[Zd8];simp(disch:=omega)only[QM,QD,Zh Zp,Xw,Zst];rw[Zs1 (by rw[Zh Zp];omega)]
 ·rfl
 ·intro f hf';have hl:(X6 n f 0 0).length<=2000:=Uj h (by omega) (by omega) (by omega);simp(disch:=omega)only[QM,QD,Zh Zp,Xw];rw[Zs (λi:Nat=>(fl plc (X6 n f i 0),((i*(840/n):Nat):Int),())) 0 (fl plc (X6 n f (n+1) 0),(((n+1)*(840/n):Nat):Int),()) (n+1) ?_ ?_ ?_ (by omega)]
  ·have hl:(X6 n f (n+1) 0).length<=2000:=Uj h (by omega) (by omega) (by omega);simp(disch:=omega)only[QM,QD,Zh Zp,Xw,Ztn,Zuc];unfold X6;rw[Zq7]
  ·simp only[Zty];rfl
  ·intro i hi;have hl:(X6 n f i 0).length<=2000:=Uj h (by omega) (by omega) (by omega);have hA:=Mu h (show i<=n by omega);have hA1:(i+1)*(840/n)=i*(840/n)+840/n:=Zt1 _ _;rw[hA1];generalize hAe:i*(840/n)=A at hA⊢;simp(disch:=omega)only[QM,QD,Zh Zp,Xw];rw[Zs (λj:Nat=>(fl plc (X6 n f i j),((j*(840/n):Nat):Int),())) 0 (fl plc (X6 n f i (n+1-i)),(((n+1-i)*(840/n):Nat):Int),()) (n+1-i) ?_ ?_ ?_ (by omega)]
   ·have hl:(X6 n f i (n+1-i)).length<=2000:=Uj h (by omega) (by omega) (by omega);generalize hst':840/n=s at*
    simp(disch:=omega)only[QM,QD,Zh Zp,Xw,Ztn];unfold X6;rw[Zq6]
   ·simp only[Zty];rfl
   ·intro j hj;have hl:(X6 n f i j).length<=2000:=Uj h (by omega) (by omega) (by omega);have hs:=Zgd (n:=n) (i:=i) (j:=j) h (by omega);have hB1:(j+1)*(840/n)=j*(840/n)+840/n:=Zt1 _ _;have hok:=Zm5 (f:=f) h hf' (show i+j<=n by omega);have hN:=Fz fu d hf (pt n f i j) hok;have hin:0<A->0<j*(840/n)->0<(n-i-j)*(840/n)->isN (pt n f i j)=true:=λh1 h2 h3=>Zj1 hok (by show 0<i*(840/n);omega) h2 h3;have hup:=Zpz n f i j;rw[hB1];simp only[plc]at hN;generalize isN (pt n f i j)=z at hN hin hup;simp only[pt]at hN hup;rw[hAe]at hs hN hup;generalize j*(840/n)=B at*
    generalize (n-i-j)*(840/n)=D at*
    generalize 840/n=s at*
    have hD:(840:Int)-A-B=(D:Int):=by omega
    rw[hup];by_cases c1:0<A
    ·by_cases c2:0<B
     ·by_cases c3:0<D
      ·rw[hin c1 c2 c3];simp(disch:=omega)only[QM,QD,hD,Mv,Zh Zp,Xw,Zsz,Zss,Zsy,Zst,Ztn]
      ·cases z<;>simp(disch:=omega)only[QM,QD,hD,hN,Mv,Zh Zp,Xw,Zsz,Zss,Zsy,Zst,Ztn]
     ·cases z<;>simp(disch:=omega)only[QM,QD,hD,hN,Mv,Zh Zp,Xw,Zsz,Zss,Zsy,Zst,Ztn]
    ·cases z<;>simp(disch:=omega)only[QM,QD,hD,hN,Mv,Zh Zp,Xw,Zsz,Zss,Zsy,Zst,Ztn]
   ·have hl:(X6 n f i (n+1-i)).length<=2000:=Uj h (by omega) (by omega) (by omega);have hs:=Zgd (n:=n) (i:=i) (j:=n-i) h (by omega);have h1:(n+1-i)*(840/n)=(n-i)*(840/n)+840/n:=by rw[show n+1-i=n-i+1 by omega,Zt1]
    rw[hAe,show n-i-(n-i)=0 by omega]at hs;rw[h1];generalize (n-i)*(840/n)=B at*
    generalize 840/n=s at*
    simp(disch:=omega)only[QM,QD,Zh Zp,Xw,Ztn]
  ·have hl:(X6 n f (n+1) 0).length<=2000:=Uj h (by omega) (by omega) (by omega);have h1:(n+1)*(840/n)=840+840/n:=by rw[Zt1,S4 h]
   rw[h1];generalize 840/n=s at*
   simp(disch:=omega)only[QM,QD,Zh Zp,Xw,Ztn]
 ·have hl:(X6 n 20 0 0).length<=2000:=Uj h (by omega) (by omega) (by omega);simp(disch:=omega)only[QM,QD,Zh Zp,Xw];rfl
theorem Zp0 (fu d:Nat) (p q:Pl):cl fu (d+1) fn_synopticref03_less [V.agg (plc p),V.agg (plc q)] []=OK (B (decide (plt p q))):=by
 unfold plc;rw[eq_synopticref03_less];by_cases h1:p.f=q.f
 ·by_cases h2:p.a=q.a
  ·by_cases h3:p.b<q.b
   ·rw[decide_eq_true (show plt p q from .inr ⟨h1, .inr ⟨h2,h3⟩⟩)];simp(disch:=omega)only[QM,QD]
   ·rw[decide_eq_false (show ¬plt p q from by unfold plt;omega)];simp(disch:=omega)only[QM,QD]
  ·by_cases h3:p.a<q.a
   ·rw[decide_eq_true (show plt p q from .inr ⟨h1, .inl h3⟩)];simp(disch:=omega)only[QM,QD]
   ·rw[decide_eq_false (show ¬plt p q from by unfold plt;omega)];simp(disch:=omega)only[QM,QD]
 ·by_cases h3:p.f<q.f
  ·rw[decide_eq_true (show plt p q from .inl h3)];simp(disch:=omega)only[QM,QD]
  ·rw[decide_eq_false (show ¬plt p q from by unfold plt;omega)];simp(disch:=omega)only[QM,QD]
theorem J0 {l:List Pl} (h:l.Pairwise plt) {i j:Nat} (hi:i<l.length) (hj:j<l.length) (hij:i<j):plt l[i] l[j]:=List.pairwise_iff_getElem.1 h i j hi hj hij
theorem Zp1 (fu d:Nat) (hf:18446744073709551616<=fu) (l:List Pl) (hl:l.length<=1000000) (hs:l.Pairwise plt) (k:Nat) (hk:k<l.length):
  cl fu (d+2) fn_synopticref03_find [V.c (C.sl l.length (fl plc l)),V.agg (plc l[k])] []=OK (I k):=by
 have hq:plc l[k]=[.v (.int .i64 l[k].f), .v (.int .i64 l[k].a), .v (.int .i64 l[k].b), .v (.int .i64 l[k].c)]:=rfl;rw[hq,eq_synopticref03_find];rw[Zgj (λy:Int×Int×Unit=> ∃lo hi:Nat,y=((lo:Int),(hi:Int),())/\lo<=k/\k<=hi/\hi<=l.length) (λy=>(y.2.1-y.1).toNat) 0 ((k:Int),(k:Int),()) ?_ ?_ ?_]
 ·have hd:=Ju Zp hk;simp(disch:=omega)only[QM,QD,Zsv,hd,plc,Zto,Ztr,Zm6]
 ·exact⟨0,l.length,rfl,Ztt _,by omega,Zs2 _⟩
 ·simp only[];omega
 ·rintro _ ⟨lo,hi,rfl,g1,g2,g3⟩
  by_cases hlt:lo<hi
  ·left;have hm:Int.tdiv ((lo:Int)+(hi:Int)) 2=(((lo+hi)/2:Nat):Int):=by
    rw[show((lo:Int)+(hi:Int))=((lo+hi:Nat):Int) from by omega];rfl
   have hml:(lo+hi)/2<l.length:=by omega
   have hd:=Ju Zp hml;have hless:=Zp0 fu d l[(lo+hi)/2] l[k];simp only[plc]at hless;by_cases hmk:(lo+hi)/2<k
   ·rw[decide_eq_true (J0 hs hml hk hmk)]at hless;refine⟨((((lo+hi)/2+1:Nat):Int),(hi:Int),()), ?_,⟨(lo+hi)/2+1,hi,rfl,by omega,g2,g3⟩, ?_⟩
    ·simp(disch:=omega)only[QM,QD,hm,Zsv,hd,plc,Zto,Ztr,hless,Ztn,Zuc]
    ·simp only[];omega
   ·have hn: ¬plt l[(lo+hi)/2] l[k]:=by
     rcases Nat.lt_or_ge k ((lo+hi)/2)with h|h
     ·exact λh'=>Kq _ (Zjz h' (J0 hs hk hml h))
     ·have:(lo+hi)/2=k:=by omega
      simp only[this];exact Kq _
    rw[decide_eq_false hn]at hless;refine⟨((lo:Int),(((lo+hi)/2:Nat):Int),()), ?_,⟨lo,(lo+hi)/2,rfl,g1,by omega,by omega⟩, ?_⟩
    ·simp(disch:=omega)only[QM,QD,hm,Zsv,hd,plc,Zto,Ztr,hless]
    ·simp only[];omega
  ·right;have e1:lo=k:=by omega
   have e2:hi=k:=by omega
   subst e1 e2;simp(disch:=omega)only[QM,QD]
theorem Zkc (fu d:Nat) (hf:18446744073709551616<=fu) (n:Nat) (h:Yb n) (p:Pl) (hp:p∈pts n):
  cl fu (d+5) fn_synopticref03_at [V.c (C.sl (Zf n).length (fl plc (Zf n))),I p.f,I p.a,I p.b] []=OK (I (idx n p)):=by
 have hok:=Cs h hp;have hs:=hok.2;have e1:=Lx fu d hf p hok;have e2:=Zp1 fu (d+2) hf (Zf n) (by have:=Xz h;omega) (Zbl h) (idx n p) (Ct h hp);rw[Zgh h hp]at e2;have hc:(840:Int)-p.a-p.b=p.c:=by omega
 simp only[plc]at e1 e2;rw[eq_synopticref03_at];simp(disch:=omega)only[QM,QD,hc,e1,e2,Zss,Zsy,Zst,Nat.reduceAdd]
end Go.Proofs.YtjmempcalaliiaaGreatDoor
/- The reference's cells: what they come to. -/
namespace Go.Proofs.YtjmempcalaliiaaGreatDoor
open Go Go.PM Go.Grid
attribute [local congr] Zt Zu Zv Yd Zw Zx Ye Yf Yg Yh Zy Zz Yi Yx Yy Yz Y1 Y2 Y5 Y6 Y7 Y8 Y4 Z1 Z2 Y9 Z3 Z4 Zk Z5 Z0
theorem Us {A B:Type} {body:A->Option (Nat×A)} {fu:Nat} {x:A} {K:Nat×A->Option B} (R:Option B->Prop) (J:A->Prop) (m:A->Nat) (Q:Nat->A->Prop) (hx:J x) (hm:m x<fu)
  (h: ∀y,J y->(∃y',body y=some (0,y')/\J y'/\m y'<m y)\/ ∃e z,body y=some (e+1,z)/\Q e z) (hK: ∀e z,Q e z->R (K (e,z))):R ((iter body fu x).bind K):=by
 obtain⟨e,z,h1,h2⟩:=H3 (body:=body) J m Q h fu x hx hm;rw[h1];exact hK e z h2
theorem Zkd (i j k:Nat):(Xl i j k).1+(Xl i j k).2.1+(Xl i j k).2.2=i+j+k:=by
 unfold Xl;split<;>split<;>try split
 all_goals first|rfl|(simp only;omega)|omega
theorem Zke (i j k:Nat):(if(k:Int)<(if(j:Int)<i then(j:Int)else i)then(k:Int)else(if(j:Int)<i then(j:Int)else i))=((Xl i j k).1:Int):=by
 unfold Xl
 repeat' split
 all_goals first|(simp only at*;done)|(simp only at*;omega)|omega
theorem Zkf (i j k:Nat):(if(k:Int)>(if(j:Int)>i then(j:Int)else i)then(k:Int)else(if(j:Int)>i then(j:Int)else i))=((Xl i j k).2.2:Int):=by
 unfold Xl
 repeat' split
 all_goals first|(simp only at*;done)|(simp only at*;omega)|omega
theorem Zbv {A:Type} {e:A->List C} {m:Nat} (hm: ∀x,(e x).length=m) (L B:List A) (i:Nat):putAt (fl e L) (i*m) (fl e B)=fl e (L.take i++B++L.drop (i+B.length)):=by
 unfold putAt;rw[Zbn hm,Zh hm,<-Nat.add_mul,Ek hm,H5,H5]
section
variable (fu d:Nat) (hf:18446744073709551616<=fu)
theorem Zeg (i j k:Nat) (hi:i<=1000000) (hj:j<=1000000) (hk:k<=1000000):cl fu (d+1) fn_synopticref03_cell [I i,I j,I k] []=OK (V.agg (trC (Xl i j k))):=by
 have h1:=Zke i j k;have h2:=Zkf i j k;have h3:=Zkd i j k;have e1:IntKind.i64.wrap (IntKind.i64.wrap ((i:Int)+j)+k)=(i:Int)+j+k:=by rw[Xv (x:=(i:Int)+j) (by omega) (by omega),Xv (by omega) (by omega)]
 have e2:(i:Int)+j+k-((Xl i j k).1:Int)-((Xl i j k).2.2:Int)=((Xl i j k).2.1:Int):=by omega
 rw[eq_synopticref03_cell,h1,h2,e1];simp(disch:=omega)only[Zd,QM,QD,e2];rfl
include hf
theorem Zkg (L:List (Nat×Nat×Nat)) (hL:L.length<=100000) (x:Nat×Nat×Nat): ∃k,k<=L.length/\
  cl fu (d+1) fn_synopticref03_insert [V.own 1000000 0 L.length,V.agg (trC x)] [.sb ty_api_Cell 0 (fl trC L)]=some ⟨V.own 1000001 0 (L.length+1),[.dead, .sb ty_api_Cell 0 (fl trC (L.take k++x::L.drop k))],none⟩:=by
 have hfl:=Zh Yk L;have hz:fl trC L++[C.v (.int .i64 0),C.v (.int .i64 0),C.v (.int .i64 0)]=fl trC (L++[(0,0,0)]):=Jt L (0,0,0);have hflz:(fl trC (L++[(0,0,0)])).length=(L.length+1)*3:=by rw[Zh Yk,Zsz];rfl
 unfold trC;rw[eq_synopticref03_insert];refine Us (A:=(Nat×List C)×Int×Unit) (B:=Out) (fu:=fu) (λo=> ∃k,k<=L.length/\o=some ⟨V.own 1000001 0 (L.length+1),[.dead, .sb ty_api_Cell 0 (fl trC (L.take k++x::L.drop k))],none⟩)
  (λy=> ∃k:Nat,k<=L.length/\y=((L.length,fl trC L),(k:Int),())) (λy=>y.2.1.toNat) (λe y=>e=0/\ ∃k:Nat,k<=L.length/\y=((L.length,fl trC L),(k:Int),())) ?_ ?_ ?_ ?_
 ·exact⟨L.length,Zs2 _,rfl⟩
 ·show((L.length:Nat):Int).toNat<fu;omega
 ·rintro y ⟨k,hk,rfl⟩
  cases k with
  |zero=>
   refine .inr ⟨0,_, ?_,rfl,0,hk,rfl⟩;simp(disch:=omega)only[Zd,QM,QD]
  |succ k=>
   have hat:=Ju Yk (l:=L) (k:=k) (by omega);have hk1:((k+1:Nat):Int)-1=(k:Int):=by omega
   have go: ∀{b:Option (Nat×((Nat×List C)×Int×Unit))},b=some (0,((L.length,fl trC L),(k:Int),()))\/b=some (1,((L.length,fl trC L),((k+1:Nat):Int),()))->
     (∃y',b=some (0,y')/\(∃k:Nat,k<=L.length/\y'=((L.length,fl trC L),(k:Int),()))/\y'.2.1.toNat<((k+1:Nat):Int).toNat)\/ ∃e z,b=some (e+1,z)/\e=0/\ ∃k:Nat,k<=L.length/\z=((L.length,fl trC L),(k:Int),()):=by
    intro b hb;rcases hb with rfl|rfl
    ·exact .inl ⟨_,rfl,⟨k,by omega,rfl⟩,by show(k:Int).toNat<_;omega⟩
    ·exact .inr ⟨0,_,rfl,rfl,k+1,hk,rfl⟩
   refine go ?_;have hat1:List.drop (k*3+1) (fl trC L)=C.v (.int .i64 L[k].2.1)::C.v (.int .i64 L[k].2.2)::fl trC (L.drop (k+1)):=by rw[<-List.drop_drop,hat];rfl
   have hat2:List.drop (k*3+2) (fl trC L)=C.v (.int .i64 L[k].2.2)::fl trC (L.drop (k+1)):=by rw[<-List.drop_drop,hat];rfl
   generalize L[k]=t at*
   obtain⟨t1,t2,t3⟩:=t;obtain⟨x1,x2,x3⟩:=x;simp only at hat hat1 hat2⊢;by_cases q1:x1<t1
   ·simp(disch:=omega)only[Zd,QM,QD,hk1,Zst,Zsv,hat,hat1,hat2,trC,Zto,Ztr];exact .inl trivial
   by_cases q2:x1=t1
   ·by_cases q3:x2<t2
    ·simp(disch:=omega)only[Zd,QM,QD,hk1,Zst,Zsv,hat,hat1,hat2,trC,Zto,Ztr];exact .inl trivial
    by_cases q4:x2=t2
    ·by_cases q5:x3<t3
     ·simp(disch:=omega)only[Zd,QM,QD,hk1,Zst,Zsv,hat,hat1,hat2,trC,Zto,Ztr];exact .inl trivial
     ·simp(disch:=omega)only[Zd,QM,QD,hk1,Zst,Zsv,hat,hat1,hat2,trC,Zto,Ztr];exact .inr trivial
    ·simp(disch:=omega)only[Zd,QM,QD,hk1,Zst,Zsv,hat,hat1,hat2,trC,Zto,Ztr];exact .inr trivial
   ·simp(disch:=omega)only[Zd,QM,QD,hk1,Zst,Zsv,hat,hat1,hat2,trC,Zto,Ztr];exact .inr trivial
 ·rintro e z ⟨rfl,k,hk,rfl⟩
  refine⟨k,hk, ?_⟩;have hx1:[C.v (.int .i64 x.1),C.v (.int .i64 x.2.1),C.v (.int .i64 x.2.2)]=fl trC [x]:=by simp[fl,trC]
  have hput:putAt (fl trC (L++[(0,0,0)])) (k*3) (fl trC [x])=fl trC ((L++[(0,0,0)]).take k++[x]++(L++[(0,0,0)]).drop (k+1)):=Zbv Yk _ [x] k;by_cases hkl:k=L.length
  ·subst hkl;have hres:(L++[(0,0,0)]).take L.length++[x]++(L++[(0,0,0)]).drop (L.length+1)=L.take L.length++x::L.drop L.length:=by simp
   rw[hres]at hput;have hfl2:(fl trC (L.take L.length++x::L.drop L.length)).length=(L.length+1)*3:=by rw[Zh Yk];simp
   have htk:List.take ((L.length+1)*3) (fl trC (L.take L.length++x::L.drop L.length))=fl trC (L.take L.length++x::L.drop L.length):=Zs1 (by omega);have hmin:Nat.min (L.length+1-L.length) (L.length+1-(L.length+1))=0:=by simp
   have hc1:((L.length:Nat):Int)+1=((L.length+1:Nat):Int):=by omega
   simp(disch:=omega)only[Zd,QM,QD,hfl,hz,hflz,hc1,Zsv,hmin,Zst,hx1,hput,hfl2,htk]
  ·have hcp:List.take ((L.length-k)*3) (List.drop (k*3) (fl trC (L++[(0,0,0)])))=fl trC (L.drop k):=by
    rw[Ek Yk,Zbn Yk]
    congr 1
    rw[List.drop_append_of_le_length hk,Zuv (by simp),Zs1 (by simp)]
   have hput1:putAt (fl trC (L++[(0,0,0)])) ((k+1)*3) (fl trC (L.drop k))=fl trC ((L++[(0,0,0)]).take (k+1)++L.drop k):=by
    rw[Zbv Yk,Zuh,show List.drop (k+1+(L.length-k)) (L++[((0,0,0):Nat×Nat×Nat)])=[] from Zvh (by rw[Zsz,List.length_singleton];omega),Zve]
   have hflc:(fl trC ((L++[(0,0,0)]).take (k+1)++L.drop k)).length=(L.length+1)*3:=by rw[Zh Yk];simp;omega
   have hput2:putAt (fl trC ((L++[(0,0,0)]).take (k+1)++L.drop k)) (k*3) (fl trC [x])=fl trC (L.take k++x::L.drop k):=by
    rw[Zbv Yk]
    congr 1
    have e1:((L++[(0,0,0)]).take (k+1)++L.drop k).take k=L.take k:=by
     rw[Zuv (by simp;omega),List.take_take,Zt6 (by omega),Zuv hk]
    have e2:((L++[(0,0,0)]).take (k+1)++L.drop k).drop (k+[x].length)=L.drop k:=by
     rw[List.drop_append,Zvh (by simp;omega)];simp[Zt6 (show k+1<=L.length+1 by omega)]
    rw[e1,e2];simp
   have hfl2:(fl trC (L.take k++x::L.drop k)).length=(L.length+1)*3:=by rw[Zh Yk];simp;omega
   have htk:List.take ((L.length+1)*3) (fl trC (L.take k++x::L.drop k))=fl trC (L.take k++x::L.drop k):=Zs1 (by omega);obtain⟨q,hq⟩: ∃q,L.length-k=q+1:=⟨L.length-k-1,by omega⟩;have hmin:Nat.min (L.length+1-k) (L.length+1-(k+1))=q+1:=by
    show min _ _=_;omega
   have hc1:((k:Nat):Int)+1=((k+1:Nat):Int):=by omega
   rw[hq]at hcp;simp(disch:=omega)only[Zd,QM,QD,hfl,hz,hflz,hc1,Zsv,hmin,Zst,hcp,hput1,hflc,hx1,hput2,hfl2,htk]
end
end Go.Proofs.YtjmempcalaliiaaGreatDoor
/- The reference's cells: the same as the grid's, in another order. -/
namespace Go.Proofs.YtjmempcalaliiaaGreatDoor
open Go Go.PM Go.Grid
attribute [local congr] Zt Zu Zv Yd Zw Zx Ye Yf Yg Yh Zy Zz Yi Yx Yy Yz Y1 Y2 Y5 Y6 Y7 Y8 Y4 Z1 Z2 Y9 Z3 Z4 Zk Z5 Z0
abbrev T3:=Nat×Nat×Nat
def Ln (K:List T3×T3->Nat) (L:List T3) (x:T3):List T3:=L.take (K (L,x))++x::L.drop (K (L,x))
def Vi (K:List T3×T3->Nat) (l:List T3):List T3:=l.foldl (Ln K) []
theorem H9 (K:List T3×T3->Nat) (l:List T3) (x:T3):Vi K (l++[x])=Ln K (Vi K l) x:=by simp[Vi]
theorem Wj (K:List T3×T3->Nat) (L:List T3) (x:T3):(Ln K L x).Perm (x::L):=by
 unfold Ln;refine List.perm_middle.trans ?_;rw[List.take_append_drop]
theorem Wk (K:List T3×T3->Nat) (l:List T3):(Vi K l).Perm l:=by
 have key: ∀(l acc:List T3),(l.foldl (Ln K) acc).Perm (acc++l):=by
  intro l
  induction l with
  |nil=>intro acc;simp
  |cons x l ih=>
   intro acc;rw[Zup];refine(ih _).trans (((Wj K acc x).append_right l).trans ?_);exact(List.perm_middle (l₁:=acc) (a:=x) (l₂:=l)).symm
 exact key l []
theorem Fl (K:List T3×T3->Nat) (l:List T3):(Vi K l).length=l.length:=(Wk K l).length_eq
section
variable (fu d:Nat) (hf:18446744073709551616<=fu)
include hf
theorem Zsa (n:Nat) (h:Yb n) (f i j:Nat) (hf':f<20) (hij:i+j<=n) (x y:Int) (hx:x=((i*(840/n):Nat):Int)) (hy:y=((j*(840/n):Nat):Int)):
  cl fu (d+5) fn_synopticref03_at [V.c (C.sl (Zf n).length (fl plc (Zf n))),I f,I x,I y] []=OK (I (idx n (pt n f i j))):=by
 subst hx hy;have:=Zkc fu d hf n h (pt n f i j) (Jx hf' hij);generalize idx n (pt n f i j)=k at*
 simp only[pt]at this;exact this
set_option maxHeartbeats 8000000 in
theorem Zbw (n:Nat) (h:Yb n): ∃L:List T3,L.Perm (tri n)/\cl fu (d+7) fn_synopticref03_Cells [I n] []=OK (V.tup [V.c (C.sl L.length (fl trC L)),I 0]):=by
 have hn:=h;unfold Yb at hn;have hst:=Q6 h;obtain⟨K,hK⟩: ∃K:List T3×T3->Nat,∀p:List T3×T3,p.1.length<=100000->cl fu (d+6) fn_synopticref03_insert [V.own 1000000 0 p.1.length,V.agg (trC p.2)] [.sb ty_api_Cell 0 (fl trC p.1)]=some ⟨V.own 1000001 0 (p.1.length+1),[.dead, .sb ty_api_Cell 0 (fl trC (p.1.take (K p)++p.2::p.1.drop (K p)))],none⟩:=by
  refine Classical.axiomOfChoice (r:=λ(p:List T3×T3) (k:Nat)=>p.1.length<=100000->cl fu (d+6) fn_synopticref03_insert [V.own 1000000 0 p.1.length,V.agg (trC p.2)] [.sb ty_api_Cell 0 (fl trC p.1)]=some ⟨V.own 1000001 0 (p.1.length+1),[.dead, .sb ty_api_Cell 0 (fl trC (p.1.take k++p.2::p.1.drop k))],none⟩) λp=> ?_;by_cases hp:p.1.length<=100000
  ·obtain⟨k,_,hk⟩:=Zkg fu (d+5) hf p.1 hp p.2;exact⟨k,λ_=>hk⟩
  ·exact⟨0,λh=>absurd h hp⟩
 have hK: ∀L x,L.length<=100000->cl fu (d+6) fn_synopticref03_insert [V.own 1000000 0 L.length,V.agg (trC x)] [.sb ty_api_Cell 0 (fl trC L)]=some ⟨V.own 1000001 0 (L.length+1),[.dead, .sb ty_api_Cell 0 (fl trC (Ln K L x))],none⟩:=λL x hl=>hK (L,x) hl;have hpl: ∀L x,(Ln K L x).length=L.length+1:=λL x=>by rw[(Wj K L x).length_eq];rfl
 refine⟨Vi K (tri n),Wk K (tri n), ?_⟩;have hle: ∀{f a b:Nat},f<=20->a<=9->b<=9->(Vi K (Uh n f a b)).length<=5000:=λh1 h2 h3=>by rw[Fl];exact Zbq hn.2 h1 h2 h3
 have hdv: ∀L:List T3,L.length*3/3=L.length:=λL=>by omega
 have hfl: ∀L:List T3,(fl trC L).length=L.length*3:=λL=>Zh Yk L;have hat:=λf i j hf' hij x y hx hy=>Zsa fu (d+1) hf n h f i j hf' hij x y hx hy;have hN:=Zbu fu d hf n h;have hNl:=Xz h;have hidx: ∀{f i j:Nat},f<20->i+j<=n->idx n (pt n f i j)<=1000000:=λh1 h2=>by have:=Ct h (Jx (n:=n) h1 h2);omega
 rw[eq_synopticref03_Cells,hN,Cy h];generalize (Zf n).length=N at*
 generalize fl plc (Zf n)=nc at*
 simp only[Zd,QM];rw[Zm7 rfl,H4 (show(n:Int)≠0 by omega)];simp only[Zd,QM];rw[Zs (λf:Nat=>(fl trC (Vi K (Uh n f 0 0)),(f:Int),())) 0 (fl trC (Vi K (tri n)),(20:Int),()) 20 ?_ ?_ ?_ (by omega)]
 ·have h1:(Vi K (tri n)).length<=5000:=by rw[Fl];exact C3 h
  have htk:List.take ((Vi K (tri n)).length*3) (fl trC (Vi K (tri n)))=fl trC (Vi K (tri n)):=Zs1 (by rw[hfl];omega);simp(disch:=omega)only[Zd,QM,QD,hdv,hfl,Zst,htk]
 ·rfl
 ·intro f hf';have h1:=hle (f:=f) (a:=0) (b:=0) (by omega) (by omega) (by omega);simp(disch:=omega)only[Zd,QM,QD,hdv,hfl];rw[Zs (λi:Nat=>(fl trC (Vi K (Uh n f i 0)),((i*(840/n):Nat):Int),())) 0 (fl trC (Vi K (Uh n f n 0)),((n*(840/n):Nat):Int),()) n ?_ ?_ ?_ (by omega)]
  ·simp(disch:=omega)only[Zd,QM,QD,hdv,hfl];rw[Znj];rfl
  ·simp only[Zty];rfl
  ·intro i hi;have h1:=hle (f:=f) (a:=i) (b:=0) (by omega) (by omega) (by omega);have hA:=Mu h (show i+1<=n by omega);have hA1:(i+1)*(840/n)=i*(840/n)+840/n:=Zt1 _ _;rw[hA1]at hA⊢;simp(disch:=omega)only[Zd,QM,QD,hdv,hfl];rw[Zs (λj:Nat=>(fl trC (Vi K (Uh n f i j)),((j*(840/n):Nat):Int),())) 0 (fl trC (Vi K (Uh n f i (n-i))),(((n-i)*(840/n):Nat):Int),()) (n-i) ?_ ?_ ?_ (by omega)]
   ·simp(disch:=omega)only[Zd,QM,QD,hdv,hfl];rw[Zni];simp only[Ztn]
   ·simp only[Zty];rfl
   ·intro j hj;have h1:=hle (f:=f) (a:=i) (b:=j) (by omega) (by omega) (by omega);have hB1:(j+1)*(840/n)=j*(840/n)+840/n:=Zt1 _ _;have hAB:=Mu h (show i+j+1<=n by omega);have hAB1:(i+j+1)*(840/n)=i*(840/n)+j*(840/n)+840/n:=by rw[Zt1,Nat.add_mul]
    rw[hAB1]at hAB;have a1:=hat f (i+1) j hf' (by omega) (((i*(840/n):Nat):Int)+((840/n:Nat):Int)) ((j*(840/n):Nat):Int) (by rw[hA1];omega) rfl;have a2:=hat f i (j+1) hf' (by omega) ((i*(840/n):Nat):Int) (((j*(840/n):Nat):Int)+((840/n:Nat):Int)) rfl (by rw[hB1];omega);have a3:=hat f i j hf' (by omega) ((i*(840/n):Nat):Int) ((j*(840/n):Nat):Int) rfl rfl;have i1:=hidx (f:=f) (i:=i+1) (j:=j) hf' (by omega);have i2:=hidx (f:=f) (i:=i) (j:=j+1) hf' (by omega);have i3:=hidx (f:=f) (i:=i) (j:=j) hf' (by omega);have c1:=Zeg fu (d+5) _ _ _ i1 i2 i3;have n1:=hK (Vi K (Uh n f i j)) (Xl (idx n (pt n f (i+1) j)) (idx n (pt n f i (j+1))) (idx n (pt n f i j))) (by omega);rw[hB1];by_cases hd:i+j+1<n
    ·have hAB2:=Mu h (show i+j+2<=n by omega);have hAB3:(i+j+2)*(840/n)=i*(840/n)+j*(840/n)+840/n+840/n:=by rw[Zt1,hAB1]
     rw[hAB3]at hAB2;have a4:=hat f (i+1) (j+1) hf' (by omega) (((i*(840/n):Nat):Int)+((840/n:Nat):Int)) (((j*(840/n):Nat):Int)+((840/n:Nat):Int)) (by rw[hA1];omega) (by rw[hB1];omega);have i4:=hidx (f:=f) (i:=i+1) (j:=j+1) hf' (by omega);have c2:=Zeg fu (d+5) _ _ _ i2 i1 i4;have n2:=hK (Ln K (Vi K (Uh n f i j)) (Xl (idx n (pt n f (i+1) j)) (idx n (pt n f i (j+1))) (idx n (pt n f i j)))) (Xl (idx n (pt n f i (j+1))) (idx n (pt n f (i+1) j)) (idx n (pt n f (i+1) (j+1)))) (by rw[hpl];omega);have hL:Vi K (Uh n f i (j+1))=Ln K (Ln K (Vi K (Uh n f i j)) (Xl (idx n (pt n f (i+1) j)) (idx n (pt n f i (j+1))) (idx n (pt n f i j)))) (Xl (idx n (pt n f i (j+1))) (idx n (pt n f (i+1) j)) (idx n (pt n f (i+1) (j+1)))):=by
      rw[<-Zgo,show X8 n f i j=[tc n (pt n f (i+1) j) (pt n f i (j+1)) (pt n f i j)]++[tc n (pt n f i (j+1)) (pt n f (i+1) j) (pt n f (i+1) (j+1))] by unfold X8;rw[if_pos hd];rfl,<-Ztu,H9,H9];rfl
     rw[hL];generalize idx n (pt n f (i+1) j)=q1 at*
     generalize idx n (pt n f i (j+1))=q2 at*
     generalize idx n (pt n f i j)=q3 at*
     generalize idx n (pt n f (i+1) (j+1))=q4 at*
     generalize Xl q1 q2 q3=t1 at*
     generalize Xl q2 q1 q4=t2 at*
     have l1:=hpl (Vi K (Uh n f i j)) t1;rw[l1]at n2;have l2:=hpl (Ln K (Vi K (Uh n f i j)) t1) t2;generalize Ln K (Ln K (Vi K (Uh n f i j)) t1) t2=L2 at*
     generalize Ln K (Vi K (Uh n f i j)) t1=L1 at*
     generalize Vi K (Uh n f i j)=L0 at*
     generalize i*(840/n)=A at*
     generalize j*(840/n)=B at*
     generalize 840/n=s at*
     obtain⟨t11,t12,t13⟩:=t1;obtain⟨t21,t22,t23⟩:=t2;simp only[trC]at c1 n1 c2 n2;simp(disch:=omega)only[Zd,QM,QD,a1,a2,a3,a4,c1,n1,c2,n2,out1,hdv,hfl,l1,l2,Zss,Zsy,Zst,Nat.reduceAdd,Ztn]
    ·have hnn:i+j+1=n:=by omega
     have hL:Vi K (Uh n f i (j+1))=Ln K (Vi K (Uh n f i j)) (Xl (idx n (pt n f (i+1) j)) (idx n (pt n f i (j+1))) (idx n (pt n f i j))):=by
      rw[<-Zgo,show X8 n f i j=[tc n (pt n f (i+1) j) (pt n f i (j+1)) (pt n f i j)] by unfold X8;rw[if_neg hd],H9];rfl
     have hAB4:i*(840/n)+j*(840/n)+840/n=840:=by rw[<-hAB1,hnn];exact S4 h
     rw[hL];generalize idx n (pt n f (i+1) j)=q1 at*
     generalize idx n (pt n f i (j+1))=q2 at*
     generalize idx n (pt n f i j)=q3 at*
     generalize Xl q1 q2 q3=t1 at*
     have l1:=hpl (Vi K (Uh n f i j)) t1;generalize Ln K (Vi K (Uh n f i j)) t1=L1 at*
     generalize Vi K (Uh n f i j)=L0 at*
     generalize i*(840/n)=A at*
     generalize j*(840/n)=B at*
     generalize 840/n=s at*
     obtain⟨t11,t12,t13⟩:=t1;simp only[trC]at c1 n1;simp(disch:=omega)only[Zd,QM,QD,a1,a2,a3,c1,n1,out1,hdv,hfl,l1,Zss,Zsy,Zst,Nat.reduceAdd,Ztn]
   ·have hend:i*(840/n)+(n-i)*(840/n)=840:=by rw[<-Nat.add_mul,show i+(n-i)=n by omega];exact S4 h
    have h1:=hle (f:=f) (a:=i) (b:=n-i) (by omega) (by omega) (by omega);generalize (n-i)*(840/n)=B at*
    simp(disch:=omega)only[Zd,QM,QD,hdv,hfl]
  ·have h1:=hle (f:=f) (a:=n) (b:=0) (by omega) (by omega) (by omega);have hend:=S4 h;generalize n*(840/n)=B at*
   simp(disch:=omega)only[Zd,QM,QD,hdv,hfl]
 ·have h1:=hle (f:=20) (a:=0) (b:=0) (by omega) (by omega) (by omega);simp(disch:=omega)only[Zd,QM,QD,hdv,hfl];rw[Cz];rfl
end
end Go.Proofs.YtjmempcalaliiaaGreatDoor
/- The reference's neighbours. -/
namespace Go.Proofs.YtjmempcalaliiaaGreatDoor
open Go Go.PM Go.Grid
attribute [local congr] Zt Zu Zv Yd Zw Zx Ye Yf Yg Yh Zy Zz Yi Yx Yy Yz Y1 Y2 Y5 Y6 Y7 Y8 Y4 Z1 Z2 Y9 Z3 Z4 Zk Z5 Z0
def Rh (z:Int):List Int->List Int
 | []=>[z]
 |y::l=>if y<z then y::Rh z l else if y=z then y::l else z::y::l
theorem C5 {z x:Int}: ∀{l:List Int},x∈Rh z l↔x=z\/x∈l
 | []=>by simp[Rh]
 |y::l=>by
  unfold Rh;split
  ·rw[Zta,C5,Zta];exact⟨λh=>h.elim (λh=> .inr (.inl h)) λh=>h.elim .inl λh=> .inr (.inr h),λh=>h.elim (λh=> .inr (.inl h)) λh=>h.elim .inl λh=> .inr (.inr h)⟩
  ·split
   ·rename_i h1 h2;subst h2;simp
   ·simp
theorem Zeh {z:Int}: ∀{l:List Int},l.Pairwise (λa b=>a<b)->(Rh z l).Pairwise (λa b=>a<b)
 | [],h=>by simp[Rh]
 |y::l,h=>by
  rw[Zt0]at h;unfold Rh;split
  ·rename_i h1;rw[Zt0];refine⟨λx hx=> ?_,Zeh h.2⟩;rcases C5.1 hx with rfl|hx
   ·exact h1
   ·exact h.1 x hx
  ·split
   ·rw[Zt0];exact h
   ·rename_i h1 h2;rw[Zt0,Zt0];refine⟨λx hx=> ?_,h⟩;rcases Zta.1 hx with rfl|hx
    ·omega
    ·have:=h.1 x hx;omega
theorem Fo (z:Int): ∀l,(Rh z l).length<=l.length+1
 | []=>by simp[Rh]
 |y::l=>by
  unfold Rh;have:=Fo z l;split
  ·simp;omega
  ·split<;>simp
theorem Zh4 (z:Int): ∀l:List Int,∃k,k<=l.length/\(∀j (h:j<l.length),j<k->l[j]<z)/\(∀h:k<l.length,¬l[k]<z)/\((∀h:k<l.length,l[k]≠z)->Rh z l=l.take k++z::l.drop k)/\ ∀h:k<l.length,l[k]=z->Rh z l=l
 | []=>⟨0,by simp,by simp,by simp,by simp[Rh],by simp⟩
 |y::l=>by
  obtain⟨k,h1,h2,h3,h4,h5⟩:=Zh4 z l;by_cases hy:y<z
  ·refine⟨k+1,by simp;omega,λj hj hjk=> ?_,λh=>h3 (by simp at h;omega),λh=> ?_,λh e=> ?_⟩
   ·cases j with
    |zero=>exact hy
    |succ j=>exact h2 j (by simp at hj;omega) (by omega)
   ·unfold Rh;rw[if_pos hy,h4 λh'=>h (by simp;omega)];rfl
   ·unfold Rh;rw[if_pos hy,h5 (by simp at h;omega) e]
  ·refine⟨0,by simp,λj hj hjk=>by omega,λ_=>hy,λh=> ?_,λh e=> ?_⟩
   ·have:y≠z:=h (by simp);unfold Rh;rw[if_neg hy,if_neg this];rfl
   ·have e:y=z:=e;unfold Rh;rw[if_neg hy,if_pos e]
def rC1 (r:List Int):C:=match r with| []=> .nl|_::_=> .sl r.length (ints r)
theorem V2 {R:Type} (r:List Int) (k:Nat->List C->Option R):asSl (rC1 r) k=k r.length (ints r):=by cases r<;>rfl
theorem Zsb {r:List Int} (h:r≠[]):rC1 r= .sl r.length (ints r):=by cases r with|nil=>exact absurd rfl h|cons x r=>rfl
theorem Ga (r:List Int) (k:Nat):(ints r).drop k=ints (r.drop k):=(List.map_drop).symm
theorem Gb (r:List Int) (k:Nat):(ints r).take k=ints (r.take k):=(List.map_take).symm
theorem Zkh (r:List Int) (k:Nat) (hk:k<=r.length): ∃c:C,(∀{R:Type} (k':C->Option R),sliceC 1 (some (I k)) none (rC1 r) k'=k' c)/\ ∀{R:Type} (k':Nat->List C->Option R),asSl c k'=k' (r.length-k) (ints (r.drop k)):=by
 cases r with
 |nil=>
  have:k=0:=by simpa using hk
  subst this;exact⟨.nl,λk'=>rfl,λk'=>rfl⟩
 |cons x r=>
  refine⟨.sl ((x::r).length-k) (ints ((x::r).drop k)),λk'=> ?_,λk'=>rfl⟩;have h1:decide ((0:Int)<=(k:Int))=true:=decide_eq_true (by omega);have h2:decide ((k:Int)<=(((x::r).length:Nat):Int))=true:=decide_eq_true (by omega);have h3:((k:Int)).toNat=k:=Zsv k;show bound none (x::r).length (x::r).length (λh=>bound (some (I k)) 0 h λa=>k' (.sl (h-a) (((ints (x::r)).drop (a*1)).take ((h-a)*1))))=_;show need (decide ((0:Int)<=(k:Int))&&decide ((k:Int)<=(((x::r).length:Nat):Int))) (k' (.sl ((x::r).length-(k:Int).toNat) (((ints (x::r)).drop ((k:Int).toNat*1)).take (((x::r).length-(k:Int).toNat)*1))))=_;rw[h1,h2,h3,Zs4,Zs4,Ga,Zs1 (by rw[Zg,Zuh];omega)];rfl
theorem Wl (R:List (List Int)) {i:Nat} (hi:i<R.length):(R.map rC1).drop i=rC1 (R.getD i [])::(R.map rC1).drop (i+1):=by
 rw[Ztq (by simpa using hi),Zu9,Zs6,Zsx hi];rfl
theorem Znu (R:List (List Int)) {i:Nat} (hi:i<R.length) (r:List Int):putAt (R.map rC1) i [rC1 r]=(R.set i r).map rC1:=by
 unfold putAt;rw[List.map_set,List.set_eq_take_append_cons_drop,if_pos (by simpa using hi)];simp
theorem Zp2 (N:Nat):reps N [C.nl]=(List.replicate N ([]:List Int)).map rC1:=by
 induction N with
 |zero=>rfl
 |succ N ih=>rw[Zuu,Ztv,<-ih];unfold reps;rw[Zuu,List.flatten_cons];rfl
def N1 (R:List (List Int)) (p:Nat×Nat):List (List Int):=R.set p.1 (Rh p.2 (R.getD p.1 []))
def prs (t:T3):List (Nat×Nat):=[(t.1,t.2.1),(t.1,t.2.2),(t.2.1,t.2.2),(t.2.1,t.1),(t.2.2,t.1),(t.2.2,t.2.1)]
theorem Mw (R:List (List Int)) (p:Nat×Nat):(N1 R p).length=R.length:=by simp[N1]
theorem Bz (l:List (Nat×Nat)): ∀R,(l.foldl N1 R).length=R.length:=by
 induction l with
 |nil=>intro R;rfl
 |cons p l ih=>intro R;rw[Zup,ih,Mw]
theorem Zki (R:List (List Int)) (p:Nat×Nat) (i:Nat):(N1 R p).getD i []=if i=p.1/\i<R.length then Rh p.2 (R.getD i [])else R.getD i []:=by
 unfold N1;rw[Zs6,List.getElem?_set];by_cases h:p.1=i
 ·subst h;by_cases hl:p.1<R.length
  ·simp[hl]
  ·rw[if_pos rfl,if_neg hl,if_neg (λe=>hl e.2),Zs6,Zu6 (by omega)]
 ·rw[if_neg h,if_neg (λe=>h e.1.symm),Zs6]
theorem Zkj {R:List (List Int)} {p:Nat×Nat} (h:Rh p.2 (R.getD p.1 [])=R.getD p.1 []):N1 R p=R:=by
 unfold N1;rw[h];by_cases hl:p.1<R.length
 ·rw[Zs6,Zsx hl];exact List.set_getElem_self hl
 ·exact List.set_eq_of_length_le (by omega)
theorem Zgq (l:List (Nat×Nat)): ∀(R:List (List Int)) (i:Nat),(∀r,R.getD i []=r->r.Pairwise (λa b=>a<b))->((l.foldl N1 R).getD i []).Pairwise (λa b=>a<b)/\(i<R.length-> ∀x,x∈(l.foldl N1 R).getD i []↔x∈R.getD i []\/ ∃k:Nat,x=k/\(i,k)∈l)/\((l.foldl N1 R).getD i []).length<=(R.getD i []).length+l.length:=by
 induction l with
 |nil=>intro R i h;exact⟨h _ rfl,λ_ x=>by simp,by simp⟩
 |cons p l ih=>
  intro R i h;rw[Zup];have hg:=Zki R p i;obtain⟨a1,a2,a3⟩:=ih (N1 R p) i (λr hr=>by
   subst hr;rw[hg];split
   ·exact Zeh (h _ rfl)
   ·exact h _ rfl)
  refine⟨a1,λhi x=> ?_, ?_⟩
  ·rw[a2 (by rw[Mw];exact hi),hg];by_cases hp:i=p.1
   ·subst hp;rw[if_pos ⟨rfl,hi⟩,C5];constructor
    ·rintro ((rfl|h1)|⟨k,h1,h2⟩)
     ·exact .inr ⟨p.2,rfl,Zua ..⟩
     ·exact .inl h1
     ·exact .inr ⟨k,h1,Ztd _ h2⟩
    ·rintro (h1|⟨k,h1,h2⟩)
     ·exact .inl (.inr h1)
     ·rcases Zta.1 h2 with h2|h2
      ·have e:k=p.2:=congrArg Prod.snd h2;exact .inl (.inl (h1.trans (by rw[e])))
      ·exact .inr ⟨k,h1,h2⟩
   ·rw[if_neg (λe=>hp e.1)];constructor
    ·rintro (h1|⟨k,h1,h2⟩)
     ·exact .inl h1
     ·exact .inr ⟨k,h1,Ztd _ h2⟩
    ·rintro (h1|⟨k,h1,h2⟩)
     ·exact .inl h1
     ·rcases Zta.1 h2 with h2|h2
      ·subst h2;exact absurd rfl hp
      ·exact .inr ⟨k,h1,h2⟩
  ·rw[hg]at a3;rw[Zss];split at a3
   ·have:=Fo p.2 (R.getD i []);omega
   ·omega
theorem prs_length (L:List T3):(L.flatMap prs).length=L.length*6:=by
 induction L with
 |nil=>rfl
 |cons x L ih=>rw[Zud,Zsz,ih,Zss];simp only[prs,Zss,Zsy];omega
theorem Gc (N i:Nat):(List.replicate N ([]:List Int)).getD i []=[]:=by
 rw[Zs6,List.getElem?_replicate];split<;>rfl
theorem Pu {N:Nat} {l:List (Nat×Nat)} (i:Nat):((l.foldl N1 (List.replicate N [])).getD i []).Pairwise (λa b=>a<b)/\(i<N-> ∀x,x∈(l.foldl N1 (List.replicate N [])).getD i []↔ ∃k:Nat,x=k/\(i,k)∈l)/\((l.foldl N1 (List.replicate N [])).getD i []).length<=l.length:=by
 obtain⟨h1,h2,h3⟩:=Zgq l (List.replicate N []) i (λr hr=>by rw[Gc]at hr;subst hr;exact .nil);refine⟨h1,λhi x=> ?_, ?_⟩
 ·rw[h2 (by simpa using hi),Gc];simp
 ·rw[Gc]at h3;simpa using h3
end Go.Proofs.YtjmempcalaliiaaGreatDoor
/- The reference's neighbours: what the function comes to. -/
namespace Go.Proofs.YtjmempcalaliiaaGreatDoor
open Go Go.PM Go.Grid
attribute [local congr] Zt Zu Zv Yd Zw Zx Ye Yf Yg Yh Zy Zz Yi Yx Yy Yz Y1 Y2 Y5 Y6 Y7 Y8 Y4 Z1 Z2 Y9 Z3 Z4 Zk Z5 Z0
def R5 (N:Nat) (l:List (Nat×Nat)):List (List Int):=l.foldl N1 (List.replicate N [])
theorem Zkk (N:Nat) (l:List (Nat×Nat)) (p:Nat×Nat):R5 N (l++[p])=N1 (R5 N l) p:=by simp[R5]
theorem Fp (N:Nat) (l:List (Nat×Nat)):(R5 N l).length=N:=by unfold R5;rw[Bz];simp
theorem put2 (a b:C):putAt [C.v (.int .i64 0),C.v (.int .i64 0)] 0 [a,b]=[a,b]:=rfl
theorem ints_at (r:List Int) {m:Nat} (h:m<r.length):(ints r).drop m=C.v (.int .i64 r[m])::ints (r.drop (m+1)):=by
 rw[Ga,Ztq h];rfl
section
variable (fu d:Nat) (hf:18446744073709551616<=fu)
include hf
set_option maxHeartbeats 8000000 in
theorem B0 (n:Nat) (h:Yb n): ∃L:List T3,L.Perm (tri n)/\cl fu (d+8) fn_synopticref03_around [I n] []=OK (V.c (C.sl (Zf n).length ((R5 (Zf n).length (L.flatMap prs)).map rC1))):=by
 have hn:=h;unfold Yb at hn;obtain⟨L,hp,hC⟩:=Zbw fu d hf n h;have hN:=Vz h;have hNl:=Xz h;have hcnt:=Nm fu (d+6) n h;rw[<-hN]at hcnt;have hin: ∀t∈L,t.1<(Zf n).length/\t.2.1<(Zf n).length/\t.2.2<(Zf n).length:=λt ht=>Zbs h t (hp.mem_iff.1 ht);have hLl:L.length<=5000:=by rw[hp.length_eq];exact C3 h
 refine⟨L,hp, ?_⟩;generalize (Zf n).length=N at*
 have hR0:(R5 N []).map rC1=reps N [C.nl]:=by rw[Zp2];rfl
 have hRl:=Fp N;have hrow: ∀l i,((R5 N l).getD i []).length<=l.length:=λl i=>(Pu (N:=N) (l:=l) i).2.2;rw[eq_synopticref03_around,hC];simp(disch:=omega)only[Zd,QM,QD,hcnt,Zsv,Qk,Zss,Zsy,Zst,Zs4];rw[Zs (λj:Nat=>((R5 N ((L.take j).flatMap prs)).map rC1,(j:Int),())) 0 ((R5 N (L.flatMap prs)).map rC1,((L.length:Nat):Int),()) L.length ?_ ?_ ?_ (by omega)]
 ·have htk:List.take N ((R5 N (L.flatMap prs)).map rC1)=(R5 N (L.flatMap prs)).map rC1:=Zs1 (by rw[Zs8,hRl];exact Zs2 _);simp(disch:=omega)only[Zd,QM,QD,Zs8,hRl,Ztk,Zs4,Zst,htk]
 ·rw[<-hR0];rfl
 ·intro j hj;have hat:=Ju Yk hj;have hts:=hin L[j] (Zts hj);have hnx:(L.take (j+1)).flatMap prs=(L.take j).flatMap prs++prs L[j]:=by rw[Ztp hj,Zu3];simp
  have hl0:((L.take j).flatMap prs).length=j*6:=by rw[prs_length,Ztl,Zt6 (by omega)]
  rw[hnx];generalize (L.take j).flatMap prs=l0 at*
  generalize L[j]=t at*
  obtain⟨x,y,z⟩:=t;simp only[trC]at hat hts;simp(disch:=omega)only[Zd,QM,QD,Zsv,hat,Zto,Ztr,Zs8,hRl,Ztk,Zs4];rw[Zs (λq:Nat=>((R5 N (l0++(prs (x,y,z)).take q)).map rC1,(q:Int),())) 0 ((R5 N (l0++prs (x,y,z))).map rC1,(6:Int),()) 6 ?_ ?_ ?_ (by omega)]
  ·simp(disch:=omega)only[Zd,QM,QD,Zs8,hRl,Ztk,Zs4];rfl
  ·simp only[Zum,Zve];rfl
  ·intro q hq;have hpl:(prs (x,y,z)).length=6:=rfl;have hq':q<(prs (x,y,z)).length:=hq;have hnx2:l0++(prs (x,y,z)).take (q+1)=(l0++(prs (x,y,z)).take q)++[(prs (x,y,z))[q]]:=by rw[Ztp hq',Ztu]
   have hl1:(l0++(prs (x,y,z)).take q).length<=30000:=by rw[Zsz,Ztl,hl0];omega
   have h12:List.take 2 (List.drop (q*2) [C.v (.int .i64 (x:Int)),C.v (.int .i64 (y:Int)),C.v (.int .i64 (x:Int)),C.v (.int .i64 (z:Int)),C.v (.int .i64 (y:Int)),C.v (.int .i64 (z:Int)),C.v (.int .i64 (y:Int)),C.v (.int .i64 (x:Int)),C.v (.int .i64 (z:Int)),C.v (.int .i64 (x:Int)),C.v (.int .i64 (z:Int)),C.v (.int .i64 (y:Int))])=[C.v (.int .i64 ((prs (x,y,z))[q].1:Int)),C.v (.int .i64 ((prs (x,y,z))[q].2:Int))]:=by
    rcases(show q=0\/q=1\/q=2\/q=3\/q=4\/q=5 by omega)with rfl|rfl|rfl|rfl|rfl|rfl<;>rfl
   have hpin:(prs (x,y,z))[q].1<N:=by
    rcases(show q=0\/q=1\/q=2\/q=3\/q=4\/q=5 by omega)with rfl|rfl|rfl|rfl|rfl|rfl<;>(simp only[prs,List.getElem_cons_zero,List.getElem_cons_succ];omega)
   rw[hnx2,Zkk];generalize (prs (x,y,z))[q]=pr at*
   generalize l0++(prs (x,y,z)).take q=l1 at*
   obtain⟨a,b⟩:=pr;simp only at hpin h12;have hrl:=hrow l1 a;have hRN:=hRl l1;generalize R5 N l1=R at*
   have hdr:=Wl R (show a<R.length by omega);have hput:=Znu R (show a<R.length by omega);obtain⟨k,k1,k2,k3,k4,k5⟩:=Zh4 (b:Int) (R.getD a []);obtain⟨c,c1,c2⟩:=Zkh (R.getD a []) k k1;have hadd:N1 R (a,b)=R.set a (Rh (b:Int) (R.getD a [])):=rfl;have hsame:=Zkj (R:=R) (p:=(a,b));simp only at hsame;have hal:=Mw R (a,b);generalize R.getD a []=row at*
   simp(disch:=omega)only[Zd,QM,QD,Zsv,Zuh,Zss,Zsy,Zst,Nat.reduceAdd,h12,Zs8,hRN,Ztk,Zs4,put2];rw[Zs (λm:Nat=>(R.map rC1,(m:Int),[C.v (.int .i64 (a:Int)),C.v (.int .i64 (b:Int))],())) 0 (R.map rC1,(k:Int),[C.v (.int .i64 (a:Int)),C.v (.int .i64 (b:Int))],()) k ?_ ?_ ?_ (by omega)]
   ·have hnew:Rh (b:Int) row=row.take k++(b:Int)::row.drop k->putAt (R.map rC1) a [C.sl (k+(1+(row.length-k))) (ints (row.take k)++([C.v (.int .i64 (b:Int))]++ints (row.drop k)))]=(N1 R (a,b)).map rC1:=by
     intro e;have e1:(row.take k++(b:Int)::row.drop k).length=k+(1+(row.length-k)):=by rw[Zsz,Zss,Zuh,Ztl,Zt6 k1];omega
     have e2:ints (row.take k++(b:Int)::row.drop k)=ints (row.take k)++([C.v (.int .i64 (b:Int))]++ints (row.drop k)):=by simp[ik]
     rw[hadd,e,<-hput,Zsb (by simp),e1,e2]
    have e0:List.drop 1 [C.v (.int .i64 (a:Int)),C.v (.int .i64 (b:Int))]=[C.v (.int .i64 (b:Int))]:=rfl;by_cases hk:k<row.length
    ·have hia:=ints_at row hk;by_cases hb:row[k]=(b:Int)
     ·rw[hsame (k5 hk hb)];simp(disch:=omega)only[Zd,QM,QD,Zst,Zs4,Ztk,Zsv,hdr,V2,hia,e0,Zs8,hRN];rfl
     ·have hnew:=hnew (k4 λ_=>hb);have hnl:(putAt (R.map rC1) a [C.sl (k+(1+(row.length-k))) (ints (row.take k)++([C.v (.int .i64 (b:Int))]++ints (row.drop k)))]).length=N:=by rw[hnew,Zs8,hal,hRN]
      simp(disch:=omega)only[Zd,QM,QD,Zst,Zs4,Ztk,Zsv,hdr,V2,hia,e0,c1,c2,Zs8,hRN,Zg,Gb,Zsz,Zss,Zsy,Zuh,Ztl,Zt6,hnl,decide_true];rw[hnew];rfl
    ·have hnew:=hnew (k4 λh=>absurd h hk);have hnl:(putAt (R.map rC1) a [C.sl (k+(1+(row.length-k))) (ints (row.take k)++([C.v (.int .i64 (b:Int))]++ints (row.drop k)))]).length=N:=by rw[hnew,Zs8,hal,hRN]
     simp(disch:=omega)only[Zd,QM,QD,Zst,Zs4,Ztk,Zsv,hdr,V2,e0,c1,c2,Zs8,hRN,Zg,Gb,Zsz,Zss,Zsy,Zuh,Ztl,Zt6,hnl,decide_true];rw[hnew];rfl
   ·rfl
   ·intro m hm;have hml:m<row.length:=by omega
    have hlt:=k2 m hml hm;have hia:=ints_at row hml;have e0:List.drop 1 [C.v (.int .i64 (a:Int)),C.v (.int .i64 (b:Int))]=[C.v (.int .i64 (b:Int))]:=rfl;simp(disch:=omega)only[Zd,QM,QD,Zst,Zs4,Ztk,Zsv,hdr,V2,hia,e0,Zs8,hRN];rfl
   ·have e0:List.drop 1 [C.v (.int .i64 (a:Int)),C.v (.int .i64 (b:Int))]=[C.v (.int .i64 (b:Int))]:=rfl;by_cases hk:k<row.length
    ·have hge:=k3 hk;have hia:=ints_at row hk;simp(disch:=omega)only[Zd,QM,QD,Zst,Zs4,Ztk,Zsv,hdr,V2,hia,e0,Zs8,hRN]
    ·simp(disch:=omega)only[Zd,QM,QD,Zst,Zs4,Ztk,Zsv,hdr,V2,e0,Zs8,hRN]
  ·simp(disch:=omega)only[Zd,QM,QD,Zs8,hRl,Ztk,Zs4];rfl
 ·rw[Zt5];simp(disch:=omega)only[Zd,QM,QD,Zs8,hRl,Ztk,Zs4]
end
end Go.Proofs.YtjmempcalaliiaaGreatDoor
/- The reference's edges are the grid's. -/
namespace Go.Proofs.YtjmempcalaliiaaGreatDoor
open Go Go.PM Go.Grid
attribute [local congr] Zt Zu Zv Yd Zw Zx Ye Yf Yg Yh Zy Zz Yi Yx Yy Yz Y1 Y2 Y5 Y6 Y7 Y8 Y4 Z1 Z2 Y9 Z3 Z4 Zk Z5 Z0
def ltE (a b:Ed):Prop:=a.1<b.1\/a.1=b.1/\a.2<b.2
theorem C6 (a:Ed): ¬ltE a a:=by unfold ltE;omega
theorem Zkl {a b:Ed} (h:ltE a b): ¬ltE b a:=by unfold ltE at*;omega
theorem J1: ∀{p q:List Ed},p.Pairwise ltE->q.Pairwise ltE->(∀x,x∈p↔x∈q)->p=q
 | [],[],_,_,_=>rfl
 | [],b::q,_,_,h=>by have:=(h b).2 (Zua ..);cases this
 |a::p,[],_,_,h=>by have:=(h a).1 (Zua ..);cases this
 |a::p,b::q,hp,hq,h=>by
  rw[Zt0]at hp hq;have e:a=b:=by
   rcases Zta.1 ((h a).1 (Zua ..))with h1|h1
   ·exact h1
   ·rcases Zta.1 ((h b).2 (Zua ..))with h2|h2
    ·exact h2.symm
    ·exact absurd (hp.1 b h2) (Zkl (hq.1 a h1))
  subst e;have:p=q:=J1 hp.2 hq.2 λx=>by
   constructor
   ·intro hx;rcases Zta.1 ((h x).1 (Ztd _ hx))with h1|h1
    ·subst h1;exact absurd (hp.1 x hx) (C6 x)
    ·exact h1
   ·intro hx;rcases Zta.1 ((h x).2 (Ztd _ hx))with h1|h1
    ·subst h1;exact absurd (hq.1 x hx) (C6 x)
    ·exact h1
  rw[this]
theorem C7 {α:Type} [Inhabited α] (l:List α) {j:Nat} (hj:j<l.length):l.toArray[j]! =l[j]:=by
 rw[getElem!_pos l.toArray j (by simpa using hj)];simp
theorem Gd {α:Type} [Inhabited α] [DecidableEq α] (l:List α) {j:Nat} (hj:j<l.length):Lib.keeps l.toArray j=true↔j=0\/ ∃h:0<j,l[j]≠l[j-1]:=by
 unfold Lib.keeps;rw[C7 l hj,C7 l (show j-1<l.length by omega)];simp;constructor
 ·rintro (h|h)
  ·exact .inl h
  ·by_cases h0:j=0
   ·exact .inl h0
   ·exact .inr ⟨by omega,h⟩
 ·rintro (h|⟨_,h⟩)
  ·exact .inl h
  ·exact .inr h
theorem compact_all {α:Type} [Inhabited α] [DecidableEq α] (l:List α): ∀(j:Nat) (hj:j<l.length),l[j]∈Lib.compact l:=by
 have key: ∀(j:Nat) (hj:j<l.length),Lib.keeps l.toArray j=true->l[j]∈Lib.compact l:=by
  intro j hj hk;unfold Lib.compact Lib.compactUpTo;rw[<-C7 l hj];exact List.mem_map_of_mem (List.mem_filter.2 ⟨Zun.2 hj,hk⟩)
 intro j
 induction j with
 |zero=>intro hj;exact key 0 hj ((Gd l hj).2 (.inl rfl))
 |succ j ih=>
  intro hj;by_cases e:l[j+1]=l[j]
  ·rw[e];exact ih (by omega)
  ·exact key (j+1) hj ((Gd l hj).2 (.inr ⟨by omega,e⟩))
theorem Zei (l:List Ed) (h:l.Pairwise λa b=>leZ a b=true):(Lib.compact l).Pairwise ltE:=by
 unfold Lib.compact Lib.compactUpTo;rw[List.pairwise_map,List.pairwise_filter];refine(List.pairwise_lt_range (n:=l.length)).imp_of_mem λ{a b} ha hb hab ka kb=> ?_;have ha:=Zun.1 ha;have hb:=Zun.1 hb;rw[C7 l ha,C7 l hb];rcases(Gd l hb).1 kb with h0|⟨h0,hne⟩
 ·omega
 have g:=List.pairwise_iff_getElem.1 h;have h1:leZ l[a] l[b-1]=true:=by
  by_cases e:a=b-1
  ·subst e;rw[Tq];exact .inr ⟨rfl,by omega⟩
  ·exact g a (b-1) ha (by omega) (by omega)
 have h2:leZ l[b-1] l[b]=true:=g (b-1) b (by omega) hb (by omega);have h3:l[b]≠l[b-1]:=hne;generalize l[a]=u at*
 generalize l[b]=v at*
 generalize l[b-1]=w at*
 have h4: ¬leZ v w=true:=λe=>h3 (Zec _ _ e h2);rw[Tq]at h1 h2 h4;unfold ltE;omega
theorem Zp3 (n:Nat):(edg n).Pairwise ltE:=Zei _ (M8 (λa b=>by rw[Tq,Tq];omega) (λa b c h h'=>by rw[Tq]at h h'⊢;omega) _)
theorem Zp4 (n:Nat) (e:Ed):e∈edg n↔e∈Cu n:=by
 constructor
 ·intro h;exact(Xj leZ _).mem_iff.1 (Fi h)
 ·intro h;have h:=(Xj leZ _).mem_iff.2 h;obtain⟨j,hj,rfl⟩:=List.getElem_of_mem h;exact compact_all _ j hj
theorem Znv (n:Nat) (e:Ed):e∈Cu n↔ ∃t∈tri n,e∈Kr t:=by
 unfold Cu;rw[Zva];exact⟨λ⟨t,h,h'⟩=>⟨t,(Xj leT _).mem_iff.1 h,h'⟩,λ⟨t,h,h'⟩=>⟨t,(Xj leT _).mem_iff.2 h,h'⟩⟩
theorem Zej {i j k:Nat} (h1:i≠j) (h2:i≠k) (h3:j≠k):(Xl i j k).1<(Xl i j k).2.1/\(Xl i j k).2.1<(Xl i j k).2.2:=by
 unfold Xl;split<;>split<;>try split
 all_goals first|(simp only;omega)|omega
theorem pt_ne {n f a b a' b':Nat} (h:Yb n) (hne:a≠a'\/b≠b'):pt n f a b≠pt n f a' b':=by
 intro e;have hs:=Q6 h;have e1:a*(840/n)=a'*(840/n):=congrArg Pl.a e;have e2:b*(840/n)=b'*(840/n):=congrArg Pl.b e;rcases hne with hne|hne
 ·exact hne (Nat.eq_of_mul_eq_mul_right (by omega) e1)
 ·exact hne (Nat.eq_of_mul_eq_mul_right (by omega) e2)
theorem Znw {n:Nat} (h:Yb n): ∀t∈tri n,t.1<t.2.1/\t.2.1<t.2.2:=by
 intro t ht;unfold tri Fh rowC at ht;simp only[Zva,Zun]at ht;obtain⟨f,hf,a,ha,b,hb,ht⟩:=ht;have hp: ∀i j i' j',i+j<=n->i'+j'<=n->(i≠i'\/j≠j')->idx n (pt n f i j)≠idx n (pt n f i' j'):=λi j i' j' h1 h2 h3 e=>pt_ne h h3 (Zpp h (Jx hf h1) (Jx hf h2) rfl e);unfold X8 at ht;rcases Zta.1 ht with rfl|ht
 ·exact Zej (hp _ _ _ _ (by omega) (by omega) (by omega)) (hp _ _ _ _ (by omega) (by omega) (by omega)) (hp _ _ _ _ (by omega) (by omega) (by omega))
 ·split at ht
  ·obtain rfl:=List.mem_singleton.1 ht;exact Zej (hp _ _ _ _ (by omega) (by omega) (by omega)) (hp _ _ _ _ (by omega) (by omega) (by omega)) (hp _ _ _ _ (by omega) (by omega) (by omega))
  ·cases ht
def rowE (i:Nat) (r:List Int):List Ed:=(r.filter λk=>decide ((i:Int)<k)).map λk=>((i:Int),k)
def edgR (N:Nat) (A:List (List Int)):List Ed:=(List.range N).flatMap λi=>rowE i (A.getD i [])
theorem Zp5 {n:Nat} (h:Yb n) {L:List T3} (hp:L.Perm (tri n)):edgR (Zf n).length (R5 (Zf n).length (L.flatMap prs))=edg n:=by
 refine J1 ?_ (Zp3 n) λe=> ?_
 ·unfold edgR;refine Qu (Q:=λa b=>a<b) List.pairwise_lt_range (λi _=> ?_) λi _ j _ hij u hu v hv=> ?_
  ·unfold rowE;rw[List.pairwise_map];exact((Pu i).1.filter _).imp λ{a b} h=> .inr ⟨rfl,h⟩
  ·unfold rowE at hu hv;obtain⟨x,_,rfl⟩:=Zvc.1 hu;obtain⟨y,_,rfl⟩:=Zvc.1 hv;refine .inl ?_;show(i:Int)<(j:Int);omega
 ·rw[Zp4,Znv];unfold edgR;rw[Zva];constructor
  ·rintro ⟨i,hi,he⟩
   have hi:=Zun.1 hi;unfold rowE at he;obtain⟨k,hk,rfl⟩:=Zvc.1 he;obtain⟨h1,h2⟩:=List.mem_filter.1 hk;have h2:=of_decide_eq_true h2;obtain⟨k',rfl,h3⟩:=((Pu i).2.1 hi k).1 h1;obtain⟨t,ht,h4⟩:=Zva.1 h3;have ht:=hp.mem_iff.1 ht;obtain⟨l1,l2⟩:=Znw h t ht;refine⟨t,ht, ?_⟩;obtain⟨x,y,z⟩:=t;simp only[prs,Kr,Zta,List.mem_nil_iff,or_false,Prod.mk.injEq]at h4 l1 l2⊢;omega
  ·rintro ⟨t,ht,he⟩
   obtain⟨l1,l2⟩:=Znw h t ht;obtain⟨b1,b2,b3⟩:=Zbs h t ht;have hL:=hp.mem_iff.2 ht;have key: ∀i k:Nat,(i,k)∈prs t->i<k->i<(Zf n).length->e=((i:Int),(k:Int))-> ∃a,a∈List.range (Zf n).length/\e∈rowE a ((R5 (Zf n).length (L.flatMap prs)).getD a []):=by
    intro i k hik hlt hi e1;refine⟨i,Zun.2 hi, ?_⟩;unfold rowE;rw[e1];refine Zvc.2 ⟨(k:Int),List.mem_filter.2 ⟨((Pu i).2.1 hi _).2 ⟨k,rfl,Zva.2 ⟨t,hL,hik⟩⟩,decide_eq_true (by omega)⟩,rfl⟩
   simp only[Kr,Zta,List.mem_nil_iff,or_false]at he;rcases he with e1|e1|e1
   ·exact key t.1 t.2.1 (by simp[prs]) l1 b1 e1
   ·exact key t.1 t.2.2 (by simp[prs]) (by omega) b1 e1
   ·exact key t.2.1 t.2.2 (by simp[prs]) l2 b2 e1
section
variable (fu d:Nat) (hf:18446744073709551616<=fu)
include hf
set_option maxHeartbeats 4000000 in
theorem J2 (n:Nat) (h:Yb n):cl fu (d+9) fn_synopticref03_Edges [I n] []=OK (V.tup [V.c (C.sl (edg n).length (fl edC (edg n))),I 0]):=by
 obtain⟨L,hp,hA⟩:=B0 fu d hf n h;have hE:=Zp5 h hp;have heL:=Vh h;have hNl:=Xz h;have hcnt:=Nm fu (d+7) n h;have hRl:=Fp (Zf n).length (L.flatMap prs);have hin: ∀i,∀k∈(R5 (Zf n).length (L.flatMap prs)).getD i [],i<(Zf n).length->0<=k/\k<=1000:=by
  intro i k hk hi;obtain⟨k',rfl,h3⟩:=((Pu i).2.1 hi k).1 hk;obtain⟨t,ht,h4⟩:=Zva.1 h3;obtain⟨b1,b2,b3⟩:=Zbs h t (hp.mem_iff.1 ht);obtain⟨x,y,z⟩:=t;simp only[prs,Zta,List.mem_nil_iff,or_false,Prod.mk.injEq]at h4 b1 b2 b3;omega
 have hrl: ∀i,((R5 (Zf n).length (L.flatMap prs)).getD i []).length<=30000:=λi=>by
  have h1:((R5 (Zf n).length (L.flatMap prs)).getD i []).length<=(L.flatMap prs).length:=(Pu i).2.2;have h2:=C3 h;rw[prs_length,hp.length_eq]at h1;omega
 generalize R5 (Zf n).length (L.flatMap prs)=A at*
 unfold edgR at hE;generalize (Zf n).length=N at*
 have hpre: ∀j,j<=N->((List.range j).flatMap λi=>rowE i (A.getD i [])).length<=15000:=by
  intro j hj;rw[<-hE]at heL;refine Zte ?_ heL;obtain⟨m,rfl⟩:=Nat.exists_eq_add_of_le hj;rw[List.range_add,Zu3,Zsz];omega
 rw[<-hE];rw[eq_synopticref03_Edges,hcnt];simp only[Zd,QM];rw[H4 Zef,hA];simp only[Zd,QM];rw[Zs (λj:Nat=>(fl edC ((List.range j).flatMap λi=>rowE i (A.getD i [])),(j:Int),())) 0 (fl edC ((List.range N).flatMap λi=>rowE i (A.getD i [])),(N:Int),()) N ?_ ?_ ?_ (by omega)]
 ·have hl:=Zh Xk ((List.range N).flatMap λi=>rowE i (A.getD i []));generalize (List.range N).flatMap (λi=>rowE i (A.getD i []))=E at*
  have hdv:E.length*2/2=E.length:=by omega
  have htk:List.take (E.length*2) (fl edC E)=fl edC E:=Zs1 (by omega);simp(disch:=omega)only[Zd,QM,QD,hl,hdv,Zst,htk]
 ·rfl
 ·intro j hj;have hdr:=Wl A (show j<A.length by omega);have hb:=hpre j (by omega);have hb2:=hpre (j+1) (by omega);have hsu:(List.range (j+1)).flatMap (λi=>rowE i (A.getD i []))=(List.range j).flatMap (λi=>rowE i (A.getD i []))++rowE j (A.getD j []):=by rw[Zus,Zu3];simp
  rw[hsu]at hb2⊢;have hk:=λk hk=>hin j k hk hj;have hrl:=hrl j;generalize (List.range j).flatMap (λi=>rowE i (A.getD i []))=E0 at*
  generalize A.getD j []=row at*
  have hdv: ∀E:List Ed,E.length*2/2=E.length:=λE=>by omega
  have hl:=λE=>Zh Xk E;have hro: ∀m,m<=row.length->(rowE j (row.take m)).length<=m:=by
   intro m hm;unfold rowE;rw[Zs8];exact Zte (List.length_filter_le ..) (by rw[Ztl];omega)
  simp(disch:=omega)only[Zd,QM,QD,V2,Zsv,Zs4,hdr,hl,hdv];rw[Zs (λm:Nat=>(fl edC (E0++rowE j (row.take m)),(m:Int),())) 0 (fl edC (E0++rowE j row),((row.length:Nat):Int),()) row.length ?_ ?_ ?_ (by omega)]
  ·simp(disch:=omega)only[Zd,QM,QD,hl,hdv];rfl
  ·simp only[Zum,rowE,List.filter_nil,List.map_nil,Zve];rfl
  ·intro m hm;have hia:=ints_at row hm;have hkm:=hk row[m] (Zts hm);have hr1:=hro m (by omega);have hr2:=hro (m+1) (by omega);have hst:rowE j (row.take (m+1))=rowE j (row.take m)++(if(j:Int)<row[m]then[((j:Int),row[m])]else[]):=by
    unfold rowE;rw[Ztp hm,List.filter_append,Zur];by_cases hlt:(j:Int)<row[m]
    ·rw[if_pos hlt];simp[hlt]
    ·rw[if_neg hlt];simp[hlt]
   rw[hst]at hr2⊢;generalize row[m]=v at*
   generalize rowE j (row.take m)=E1 at*
   have hEl:(E0++E1).length<=100000:=by rw[Zsz];omega
   by_cases hlt:(j:Int)<v
   ·rw[if_pos hlt]at hr2⊢;rw[<-Ztu];have hsn:fl edC (E0++E1)++[C.v (.int .i64 (j:Int)),C.v (.int .i64 v)]=fl edC (E0++E1++[((j:Int),v)]):=Jt (E0++E1) ((j:Int),v);have hsl:(E0++E1++[((j:Int),v)]).length=(E0++E1).length+1:=by rw[Zsz];rfl
    generalize E0++E1++[((j:Int),v)]=E3 at*
    generalize E0++E1=E2 at*
    simp(disch:=omega)only[Zd,QM,QD,V2,Zsv,Zs4,hia,hl,hdv,hsn,hsl];rfl
   ·rw[if_neg hlt,Zve];generalize E0++E1=E2 at*
    simp(disch:=omega)only[Zd,QM,QD,V2,Zsv,Zs4,hia,hl,hdv];rfl
  ·rw[Zt5];simp(disch:=omega)only[Zd,QM,QD,hl,hdv]
 ·have hl:=Zh Xk ((List.range N).flatMap λi=>rowE i (A.getD i []));have hle:=hpre N (by omega);generalize (List.range N).flatMap (λi=>rowE i (A.getD i []))=E at*
  have hdv:E.length*2/2=E.length:=by omega
  simp(disch:=omega)only[Zd,QM,QD,hl,hdv]
end
end Go.Proofs.YtjmempcalaliiaaGreatDoor
/- What reading codes comes to: numbers, vectors, states. -/
namespace Go.Proofs.YtjmempcalaliiaaGreatDoor
open Go Go.PM Go.Grid
attribute [local congr] Zt Zu Zv Yd Zw Zx Ye Yf Yg Yh Zy Zz Yi Yx Yy Yz Y1 Y2 Y5 Y6 Y7 Y8 Y4 Z1 Z2 Y9 Z3 Z4 Zk Z5 Z0
def bytes (bs:List Int):Prop:=(∀x∈bs,0<=x/\x<=255)/\bs.length<=1000
abbrev Xe (bs:List Int) (i:Nat):PM.Obj:= .ob ty_synopticfield_Codes 0 [C.sl bs.length (ik .u8 bs),C.v (.int .i64 (i:Int))]
def wid (lo hi:Int) (l:List Int):Prop:= ∀v∈l,lo<=v/\v<=hi
theorem Zek {lo hi:Int} {l:List Int} {v:Int} (h:wid lo hi l) (hv:lo<=v/\v<=hi):wid lo hi (l++[v]):=by
 intro x hx;rcases Zu4.1 hx with hx|hx
 ·exact h x hx
 ·rw[List.mem_singleton.1 hx];exact hv
theorem Qa {lo hi lo' hi':Int} {l:List Int} (h:wid lo hi l) (h1:lo'<=lo) (h2:hi<=hi'):wid lo' hi' l:=λv hv=>by have:=h v hv;omega
theorem Zsc {lo hi:Int} {l:List Int} (h:wid lo hi l) {j:Nat} (hj:j<l.length):lo<=l[j]/\l[j]<=hi:=h _ (Zts hj)
theorem ik_at (kd:IntKind) (r:List Int) {m:Nat} (h:m<r.length):(ik kd r).drop m=C.v (.int kd r[m])::ik kd (r.drop (m+1)):=by
 unfold ik;rw[<-List.map_drop,Ztq h,Ztv]
theorem or24 {x y:Nat} (hx:x<16777216) (hy:y<16777216): ∃z:Nat,z<16777216/\IntKind.i64.wrap ((BitVec.ofInt (IntKind.bits .i64) (x:Int)|||BitVec.ofInt (IntKind.bits .i64) (y:Int)).toNat:Int)=(z:Int):=by
 have h1: ∀x:Nat,x<16777216->(BitVec.ofInt (IntKind.bits .i64) (x:Int)).toNat=x:=by
  intro x hx;rw[BitVec.toNat_ofInt];show(((x:Int)%((2^64:Nat):Int))).toNat=x;omega
 have h2:(BitVec.ofInt (IntKind.bits .i64) (x:Int)|||BitVec.ofInt (IntKind.bits .i64) (y:Int)).toNat=x|||y:=by rw[BitVec.toNat_or,h1 x hx,h1 y hy]
 have h3:x|||y<2^24:=Nat.or_lt_two_pow (by omega) (by omega)
 refine⟨x|||y,by omega, ?_⟩;rw[h2,Xv (by omega) (by omega)]
section
variable (fu d:Nat) (hf:18446744073709551616<=fu)
theorem Zp6 (bs:List Int) (i:Nat):cl fu (d+1) fn_synopticfield_Codes_Left [V.ptr 1000000 0] [Xe bs i]=some ⟨B (decide (i<bs.length)),[Xe bs i],none⟩:=by
 unfold Xe;rw[eq_synopticfield_Codes_Left];by_cases h:i<bs.length
 ·rw[decide_eq_true h];simp(disch:=omega)only[Zd,QM,QD]
 ·rw[decide_eq_false h];simp(disch:=omega)only[Zd,QM,QD]
theorem Tr {bs:List Int} (hb:bytes bs) {i:Nat} (hi:i<=1000) (n:Nat) (hn:1<=n/\n<=1000000):
  ∃v j:Nat,v<n/\j<=1000/\cl fu (d+2) fn_synopticfield_Codes_Next [V.ptr 1000000 0,I n] [Xe bs i]=some ⟨I v,[Xe bs j],none⟩:=by
 have hL:=Zp6 fu d bs i;obtain⟨hb,hl⟩:=hb;unfold Xe at hL⊢;rw[eq_synopticfield_Codes_Next,hL];by_cases h:i<bs.length
 ·have hx:=hb bs[i] (Zts h);have hia:=ik_at .u8 bs h;have e1:IntKind.i64.wrap bs[i]=bs[i]:=Xv (by omega) (by omega);have e2:Int.tmod bs[i] (n:Int)=bs[i]%(n:Int):=IntWalk.rem_in _ _ hx.1;have e3:(i:Int)+1-1=(i:Int):=by omega
  have h1:0<=bs[i]%(n:Int):=Int.emod_nonneg _ (by omega);have h2:bs[i]%(n:Int)<n:=Int.emod_lt_of_pos _ (by omega);rw[decide_eq_true h];refine⟨(bs[i]%(n:Int)).toNat,i+1,by omega,by omega, ?_⟩;rw[Int.toNat_of_nonneg h1];simp(disch:=omega)only[Zd,QM,QD,Zss,Zsy,Zst,Nat.reduceAdd,e3,Zsv,Zs4,hia,e1,e2,Ztn,Zuc]
 ·rw[decide_eq_false h];refine⟨0,i,by omega,hi, ?_⟩;simp(disch:=omega)only[Zd,QM,QD,Zss,Zsy,Zst,Nat.reduceAdd];rfl
theorem Zbx {bs:List Int} (hb:bytes bs) {i:Nat} (hi:i<=1000):
  ∃n j:Nat,(n=1\/n=2)/\j<=1000/\cl fu (d+3) fn_synopticfield_Codes_Frequency [V.ptr 1000000 0] [Xe bs i]=some ⟨I n,[Xe bs j],none⟩:=by
 obtain⟨v,j,hv,hj,e⟩:=Tr fu d hb hi 5 (by omega);unfold Xe at e⊢;rw[eq_synopticfield_Codes_Frequency];replace e:cl fu (d+2) fn_synopticfield_Codes_Next [V.ptr 1000000 0,I 5] _=_:=e;have hdr: ∃n:Nat,(n=1\/n=2)/\ ∃r,List.drop v [C.v (.int .i64 1),C.v (.int .i64 1),C.v (.int .i64 1),C.v (.int .i64 1),C.v (.int .i64 2)]=C.v (.int .i64 (n:Int))::r:=by
  rcases(show v=0\/v=1\/v=2\/v=3\/v=4 by omega)with rfl|rfl|rfl|rfl|rfl
  ·exact⟨1, .inl rfl,_,rfl⟩
  ·exact⟨1, .inl rfl,_,rfl⟩
  ·exact⟨1, .inl rfl,_,rfl⟩
  ·exact⟨1, .inl rfl,_,rfl⟩
  ·exact⟨2, .inr rfl,_,rfl⟩
 obtain⟨n,hn,r,hdr⟩:=hdr;refine⟨n,j,hn,hj, ?_⟩;simp(disch:=omega)only[Zd,QM,QD,e,Zss,Zsy,Zst,Nat.reduceAdd,Zsv,Zs4,hdr]
theorem Zkm {bs:List Int} (hb:bytes bs) {i:Nat} (hi:i<=1000):
  ∃a b c j:Nat,(1<=a/\a<=4)/\(1<=b/\b<=4)/\(1<=c/\c<=4)/\j<=1000/\cl fu (d+3) fn_synopticfield_Codes_Scheme [V.ptr 1000000 0] [Xe bs i]=some ⟨V.agg [C.v (.int .i64 (a:Int)),C.v (.int .i64 (b:Int)),C.v (.int .i64 (c:Int))],[Xe bs j],none⟩:=by
 obtain⟨v1,j1,hv1,hj1,e1⟩:=Tr fu d hb hi 4 (by omega);obtain⟨v2,j2,hv2,hj2,e2⟩:=Tr fu d hb hj1 4 (by omega);obtain⟨v3,j3,hv3,hj3,e3⟩:=Tr fu d hb hj2 4 (by omega);unfold Xe at e1 e2 e3⊢;replace e1:cl fu (d+2) fn_synopticfield_Codes_Next [V.ptr 1000000 0,I 4] _=_:=e1;replace e2:cl fu (d+2) fn_synopticfield_Codes_Next [V.ptr 1000000 0,I 4] _=_:=e2;replace e3:cl fu (d+2) fn_synopticfield_Codes_Next [V.ptr 1000000 0,I 4] _=_:=e3;refine⟨1+v1,1+v2,1+v3,j3,by omega,by omega,by omega,hj3, ?_⟩;rw[eq_synopticfield_Codes_Scheme];simp(disch:=omega)only[Zd,QM,QD,e1,e2,e3,Zss,Zsy,Zst,Nat.reduceAdd,Ztn,Zuc]
theorem M9 {bs:List Int} (hb:bytes bs) {i:Nat} (hi:i<=1000) (most:Nat) (hm:most<=10000000000000):
  ∃(v:Int) (j:Nat),(-(most:Int)<=v/\v<=most)/\j<=1000/\cl fu (d+3) fn_synopticfield_Codes_Signed [V.ptr 1000000 0,I most] [Xe bs i]=some ⟨I v,[Xe bs j],none⟩:=by
 obtain⟨v1,j1,hv1,hj1,e1⟩:=Tr fu d hb hi 256 (by omega);obtain⟨v2,j2,hv2,hj2,e2⟩:=Tr fu d hb hj1 256 (by omega);obtain⟨v3,j3,hv3,hj3,e3⟩:=Tr fu d hb hj2 256 (by omega);obtain⟨v4,j4,hv4,hj4,e4⟩:=Tr fu d hb hj3 2 (by omega);unfold Xe at e1 e2 e3 e4⊢;replace e1:cl fu (d+2) fn_synopticfield_Codes_Next [V.ptr 1000000 0,I 256] _=_:=e1;replace e2:cl fu (d+2) fn_synopticfield_Codes_Next [V.ptr 1000000 0,I 256] _=_:=e2;replace e3:cl fu (d+2) fn_synopticfield_Codes_Next [V.ptr 1000000 0,I 256] _=_:=e3;replace e4:cl fu (d+2) fn_synopticfield_Codes_Next [V.ptr 1000000 0,I 2] _=_:=e4;have w1:(v1:Int)*2^16=((v1*65536:Nat):Int):=by omega
 have w2:(v2:Int)*2^8=((v2*256:Nat):Int):=by omega
 obtain⟨z,hz,o1⟩:=or24 (x:=v1*65536) (y:=v2*256) (by omega) (by omega);obtain⟨y,hy,o2⟩:=or24 (x:=z) (y:=v3) hz (by omega);have t1:Int.tmod (y:Int) ((most:Int)+1)=((y%(most+1):Nat):Int):=by
  rw[IntWalk.rem_in _ _ (by omega),Int.natCast_emod,Ztn];rfl
 have hq:y%(most+1)<=most:=by have:=Nat.mod_lt y (show 0<most+1 by omega);omega
 rw[eq_synopticfield_Codes_Signed];simp(disch:=omega)only[Zd,QM,QD,e1,e2,w1,w2,o1,e3,o2,t1,Zss,Zsy,Zst,Nat.reduceAdd];generalize y%(most+1)=q at*
 by_cases h4:v4=1
 ·refine⟨0-(q:Int),j4,by omega,hj4, ?_⟩;simp(disch:=omega)only[Zd,QM,QD,e4,Zss,Zsy,Zst,Nat.reduceAdd]
 ·refine⟨(q:Int),j4,by omega,hj4, ?_⟩;simp(disch:=omega)only[Zd,QM,QD,e4,Zss,Zsy,Zst,Nat.reduceAdd]
theorem Zp7 (bs:List Int) (k:Nat):cl fu (d+1) fn_synopticfield_New [V.c (C.sl bs.length (ik .u8 bs)),I (k:Int)] []=some ⟨V.ptr 1000000 0,[Xe (bs.take k) 0],none⟩:=by
 rw[eq_synopticfield_New];unfold Xe;by_cases h:k<bs.length
 ·have e1:(ik .u8 bs).take k=ik .u8 (bs.take k):=List.map_take.symm;simp(disch:=omega)only[Zd,QM,QD,Zsv,Zs4,e1,Ztl,Zt6];rfl
 ·rw[show bs.take k=bs from Zs1 (by omega)];simp(disch:=omega)only[Zd,QM,QD];rfl
end
end Go.Proofs.YtjmempcalaliiaaGreatDoor
/- Vectors and states that are made from codes. -/
namespace Go.Proofs.YtjmempcalaliiaaGreatDoor
open Go Go.PM Go.Grid
attribute [local congr] Zt Zu Zv Yd Zw Zx Ye Yf Yg Yh Zy Zz Yi Yx Yy Yz Y1 Y2 Y5 Y6 Y7 Y8 Y4 Z1 Z2 Y9 Z3 Z4 Zk Z5 Z0
structure StOk (n:Nat) (dp fw:List Int):Prop where
 dl:dp.length=(Zf n).length
 fl:fw.length=(edg n).length
 dw:wid 0 16777216 dp
 fw:wid (-1000000) 1000000 fw
theorem La {n:Nat} (h:n=1\/n=2):Yb n:=by unfold Yb;omega
section
variable (fu d:Nat) (hf:18446744073709551616<=fu)
include hf
set_option maxHeartbeats 4000000 in
theorem Wm {bs:List Int} (hb:bytes bs) {i:Nat} (hi:i<=1000) (n most:Nat) (hn:n<=1000000) (hm:most<=10000000000000) (top:Int) (ht:(most:Int)<=top/\9<=top):
  ∃(l:List Int) (j:Nat),l.length=n/\wid (-top) top l/\j<=1000/\cl fu (d+4) fn_synopticfield_Codes_Vector [V.ptr 1000000 0,I n,I most] [Xe bs i]=some ⟨V.c (C.sl l.length (ints l)),[Xe bs j],none⟩:=by
 obtain⟨v1,j1,hv1,hj1,e1⟩:=M9 fu d hb hi most (by omega);obtain⟨v2,j2,hv2,hj2,e2⟩:=M9 fu d hb hj1 most (by omega);obtain⟨v3,j3,hv3,hj3,e3⟩:=M9 fu d hb hj2 most (by omega);obtain⟨v4,j4,hv4,hj4,e4⟩:=M9 fu d hb hj3 9 (by omega);have hN:=λ(i:Nat) (hi:i<=1000)=>Tr fu (d+1) hb hi 7 (by omega);replace e4:cl fu (d+3) fn_synopticfield_Codes_Signed [V.ptr 1000000 0,I 9] _=_:=e4;unfold Xe at*
 rw[eq_synopticfield_Codes_Vector];simp(disch:=omega)only[Zd,QM,QD,e1,e2,e3,e4,Zss,Zsy,Zst,Nat.reduceAdd];refine Us (A:=List C×Int×(C×Int×Unit)×Unit) (B:=Out) (fu:=fu) (λo=> ∃(l:List Int) (j:Nat),l.length=n/\wid (-top) top l/\j<=1000/\o=some ⟨V.c (C.sl l.length (ints l)),[Xe bs j],none⟩)
  (λy=> ∃(l:List Int) (j:Nat),l.length<=n/\wid (-top) top l/\j<=1000/\y=(ints l,((l.length:Nat):Int),(C.sl bs.length (ik .u8 bs),(j:Int),()),())) (λy=>(n:Int).toNat-y.2.1.toNat)
  (λe y=>e=0/\ ∃(l:List Int) (j:Nat),l.length=n/\wid (-top) top l/\j<=1000/\y=(ints l,((l.length:Nat):Int),(C.sl bs.length (ik .u8 bs),(j:Int),()),())) ?_ ?_ ?_ ?_
 ·exact⟨[],j4,by simp,(by intro v hv;cases hv),hj4,rfl⟩
 ·show(n:Int).toNat-(0:Int).toNat<fu;omega
 ·rintro y ⟨l,j,hl,hw,hj,rfl⟩
  by_cases hlt:l.length<n
  ·obtain⟨v,k,hv,hk,e5⟩:=hN j hj;replace e5:cl fu (d+3) fn_synopticfield_Codes_Next [V.ptr 1000000 0,I 7] _=_:=e5;have w0:IntKind.i64.wrap (0-(most:Int))=0-(most:Int):=Xv (by omega) (by omega);obtain⟨x,r,hx,hdr⟩: ∃(x:Int) (r:List C),(-top<=x/\x<=top)/\List.drop v [C.v (.int .i64 v1),C.v (.int .i64 v2),C.v (.int .i64 v3),C.v (.int .i64 v4),C.v (.int .i64 0),C.v (.int .i64 (most:Int)),C.v (.int .i64 (0-(most:Int)))]=C.v (.int .i64 x)::r:=by
    rcases(show v=0\/v=1\/v=2\/v=3\/v=4\/v=5\/v=6 by omega)with rfl|rfl|rfl|rfl|rfl|rfl|rfl
    ·exact⟨v1,_,by omega,rfl⟩
    ·exact⟨v2,_,by omega,rfl⟩
    ·exact⟨v3,_,by omega,rfl⟩
    ·exact⟨v4,_,by omega,rfl⟩
    ·exact⟨0,_,by omega,rfl⟩
    ·exact⟨(most:Int),_,by omega,rfl⟩
    ·exact⟨0-(most:Int),_,by omega,rfl⟩
   refine .inl ⟨(ints (l++[x]),(((l++[x]).length:Nat):Int),(C.sl bs.length (ik .u8 bs),(k:Int),()),()), ?_,⟨l++[x],k,by simp;omega,Zek hw hx,hk,rfl⟩, ?_⟩
   ·simp(disch:=omega)only[Zd,QM,QD,e5,Zss,Zsy,Zst,Nat.reduceAdd,w0,Zsv,Zs4,hdr,Zg,Ztk,Qv,Zsz,Ztn,Zuc]
   ·show(n:Int).toNat-(((l++[x]).length:Nat):Int).toNat<(n:Int).toNat-((l.length:Nat):Int).toNat;rw[Zsz,List.length_singleton];omega
  ·refine .inr ⟨0,(ints l,((l.length:Nat):Int),(C.sl bs.length (ik .u8 bs),(j:Int),()),()), ?_,rfl,l,j,by omega,hw,hj,rfl⟩;simp(disch:=omega)only[Zd,QM,QD,Zg,Ztk,Zs4]
 ·rintro e z ⟨rfl,l,j,hl,hw,hj,rfl⟩
  refine⟨l,j,hl,hw,hj, ?_⟩;have htk:List.take l.length (ints l)=ints l:=Zs1 (by rw[Zg];exact Zs2 _);simp(disch:=omega)only[Zd,QM,QD,Zg,Ztk,Zs4,Zst,htk]
omit hf in
theorem Zgr (n:Nat) (h:Yb n):cl fu (d+1) fn_synopticref22_Nodes [I n] []=OK (I ((Zf n).length:Int)):=by
 rw[Vz h,eq_synopticref22_Nodes];rcases Qm h with rfl|rfl|rfl|rfl|rfl|rfl|rfl|rfl<;>(show @Eq (Option Out) _ _;kernel_rfl)
end
end Go.Proofs.YtjmempcalaliiaaGreatDoor
/- Edges as the program hands them out, checks of states, degrees. -/
namespace Go.Proofs.YtjmempcalaliiaaGreatDoor
open Go Go.PM Go.Grid
attribute [local congr] Zt Zu Zv Yd Zw Zx Ye Yf Yg Yh Zy Zz Yi Yx Yy Yz Y1 Y2 Y5 Y6 Y7 Y8 Y4 Z1 Z2 Y9 Z3 Z4 Zk Z5 Z0
def at0 (l:List Int) (i:Nat):Int:=l.getD i 0
theorem Rv {l:List Int} {i:Nat} (h:i<l.length):at0 l i=l[i]:=by
 unfold at0;rw[Zs6,Zsx h];rfl
theorem Yc (l:List Int) {i:Nat} (h:i<l.length):(ints l).drop i=C.v (.int .i64 (at0 l i))::ints (l.drop (i+1)):=by
 rw[ints_at l h,Rv h]
theorem S9 (l:List Int) {i:Nat} (h:i<l.length) (v:Int):putAt (ints l) i [C.v (.int .i64 v)]=ints (l.set i v):=by
 unfold putAt;rw[List.set_eq_take_append_cons_drop,if_pos h,Gb,Ga];simp[ik]
def V3 (l:List Int) (i:Nat) (v:Int):List Int:=l.set i (at0 l i+v)
theorem U7 (l:List Int) (i:Nat) (v:Int):(V3 l i v).length=l.length:=by simp[V3]
theorem J3 (l:List Int) (i:Nat) (v:Int) (k:Nat):at0 (V3 l i v) k=at0 l k+if k=i/\i<l.length then v else 0:=by
 unfold V3 at0;rw[Zs6,List.getElem?_set];by_cases h:i=k
 ·subst h;by_cases hl:i<l.length
  ·simp[hl,Zs6]
  ·rw[if_pos rfl,if_neg hl,if_neg (λe=>hl e.2),Zs6,Zu6 (by omega)];rfl
 ·rw[if_neg h,if_neg (λe=>h e.1.symm),Zs6];simp
theorem Lb (l:List Int) {i:Nat} (h:i<l.length) (v:Int):putAt (ints l) i [C.v (.int .i64 (at0 l i+v))]=ints (V3 l i v):=S9 l h _
def Tj (lo hi:Int) (l:List Int):Bool:=l.any λv=> !(decide (lo<=v)&&decide (v<=hi))
theorem Qn {lo hi:Int} {l:List Int}:Tj lo hi l=false↔wid lo hi l:=by
 unfold Tj wid;rw[Zuy];simp
theorem R6 (n:Nat):(edgesL n).length=(edg n).length:=by simp[edgesL]
theorem Zgs (n:Nat) {j:Nat} (h':j<(edg n).length):(edgesL n)[j]? =some [I ((j:Nat):Int),V.agg [C.v (.int .i64 (edg n)[j].1),C.v (.int .i64 (edg n)[j].2)]]:=by
 unfold edgesL;rw[Zs7,List.getElem?_zipIdx,Zsx h'];simp
theorem Wn (n:Nat) {j:Nat} (h:j<(edgesL n).length) (h':j<(edg n).length):(edgesL n)[j]=[I ((j:Nat):Int),V.agg [C.v (.int .i64 (edg n)[j].1),C.v (.int .i64 (edg n)[j].2)]]:=by
 have:=Zgs n h';rw[Zsx h]at this;exact Option.some.inj this
theorem Zel (n:Nat) {j:Nat} (h:j<(edg n).length):(edgesL n).drop j=[I ((j:Nat):Int),V.agg [C.v (.int .i64 (edg n)[j].1),C.v (.int .i64 (edg n)[j].2)]]::(edgesL n).drop (j+1):=by
 rw[Ztq (by rw[R6];exact h),Wn n _ h]
section
variable (fu d:Nat) (hf:18446744073709551616<=fu)
theorem Wo (v lo hi:Int):cl fu (d+1) fn_flux_within [I v,I lo,I hi] []=OK (B (decide (lo<=v)&&decide (v<=hi))):=by
 rw[eq_flux_within];by_cases h:lo<=v
 ·simp(disch:=omega)only[Zd,QM,QD]
 ·simp(disch:=omega)only[Zd,QM,QD]
theorem Zby (v lo hi:Int):cl fu (d+2) fn_flux_outside_1 [I v,V.c (C.cp [C.v (.int .i64 lo)]),V.c (C.cp [C.v (.int .i64 hi)])] []=OK (B (!(decide (lo<=v)&&decide (v<=hi)))):=by
 have e:=Wo fu d v lo hi;generalize (decide (lo<=v)&&decide (v<=hi))=b at*
 rw[eq_flux_outside_1];simp only[Zd,QM,e]
include hf
theorem Zgt (l:List Int) (hl:l.length<=1000000) (lo hi:Int):cl fu (d+5) fn_flux_outside [V.c (C.sl l.length (ints l)),I lo,I hi] []=OK (B (Tj lo hi l)):=by
 have h1:=λv=>Zby fu d v lo hi;rw[eq_flux_outside,eq2_slices_ContainsFunc_sint_int,eq2_slices_IndexFunc_sint_int];rcases R4 (λj=> ∃h:j<l.length,(!(decide (lo<=l[j])&&decide (l[j]<=hi)))=true) l.length with hn|⟨k,hk,⟨hk2,hb⟩,hn⟩
 ·have hall:Tj lo hi l=false:=by
   unfold Tj;rw[Zuy];intro v hv;obtain⟨j,hj,rfl⟩:=List.getElem_of_mem hv;exact λe=>hn j hj ⟨hj,e⟩
  rw[hall,Zs (λj:Nat=>((0:Int),(j:Int),())) 0 ((0:Int),((l.length:Nat):Int),()) l.length ?_ ?_ ?_ (by omega)]
  ·simp(disch:=omega)only[Zd,QM,QD]
  ·rfl
  ·intro j hj;have hia:=ints_at l hj;have hv:=hn j hj;have hv:(!(decide (lo<=l[j])&&decide (l[j]<=hi)))=false:=by
    cases e:(!(decide (lo<=l[j])&&decide (l[j]<=hi)))
    ·rfl
    ·exact absurd ⟨hj,e⟩ hv
   have h1:=h1 l[j];rw[hv]at h1;simp(disch:=omega)only[Zd,QM,QD,Zsv,Zs4,hia,h1];rfl
  ·simp(disch:=omega)only[Zd,QM,QD]
 ·have hall:Tj lo hi l=true:=by
   unfold Tj;rw[List.any_eq_true];exact⟨l[k],Zts hk2,hb⟩
  rw[hall,Zs (λj:Nat=>((0:Int),(j:Int),())) 1 ((k:Int),(k:Int),()) k ?_ ?_ ?_ (by omega)]
  ·simp(disch:=omega)only[Zd,QM,QD]
  ·rfl
  ·intro j hj;have hjl:j<l.length:=by omega
   have hia:=ints_at l hjl;have hv:=hn j hj;have hv:(!(decide (lo<=l[j])&&decide (l[j]<=hi)))=false:=by
    cases e:(!(decide (lo<=l[j])&&decide (l[j]<=hi)))
    ·rfl
    ·exact absurd ⟨hjl,e⟩ hv
   have h1:=h1 l[j];rw[hv]at h1;simp(disch:=omega)only[Zd,QM,QD,Zsv,Zs4,hia,h1];rfl
  ·have hia:=ints_at l hk2;have h1:=h1 l[k];rw[hb]at h1;simp(disch:=omega)only[Zd,QM,QD,Zsv,Zs4,hia,h1]
omit hf in
theorem Zh5 (n:Nat) (h:Yb n):cl fu (d+1) fn_mesh_Frequency [I n] []=OK (B true):=by
 unfold Yb at h;rw[eq_mesh_Frequency];simp(disch:=omega)only[Zd,QM,QD]
omit hf in
theorem Tt (n:Nat) (h:Yb n):cl fu (d+2) fn_grid_Count [I n] []=OK (I ((Zf n).length:Int)):=by
 rw[Vz h,eq_grid_Count,Zh5 fu d n h];simp only[Zd,QM];rcases Qm h with rfl|rfl|rfl|rfl|rfl|rfl|rfl|rfl<;>(show @Eq (Option Out) _ _;kernel_rfl)
theorem Qf (n:Nat) (h:Yb n):cl fu (d+9) fn_grid_Edges [I n] []=OK (V.tup [V.c (C.sl (edg n).length (fl edC (edg n))),I 0]):=by
 obtain⟨c,e⟩:=Znt fu d hf n h;have e0:=Zh5 fu (d+7) n h;generalize edg n=E at*
 generalize (Zf n).length=N at*
 generalize fl plc (Zf n)=nc at*
 generalize esn 0 (Zf n)=es at*
 generalize nxt n=nx at*
 rw[eq_grid_Edges,e0];simp(disch:=omega)only[Zd,QM,QD,e,Zj5,H2,Zss,Zsy,Zst,Nat.reduceAdd]
theorem Znx (n:Nat) (h:Yb n) (l:Nat) (go:Nat->Bool) (r:List C): ∃out lg,cl fu (d+10) fn_flux_edges_1 [V.c (C.yl l go (edgesL n)),V.c (C.cp (C.v (.int .i64 (n:Int))::r))] []=some out/\out.log=some lg/\(lg.st=true\/lg.rest=[]):=by
 have e1:=Qf fu d hf n h;have heL:=Vh h;have hed:=λ{j:Nat} (hj:j<(edg n).length)=>Zel n hj;have hell:=R6 n;rw[eq_flux_edges_1];simp(disch:=omega)only[Zd,QM,QD,e1];generalize edgesL n=EL at*
 generalize edg n=E at*
 refine Us (A:=Int×Log×Unit) (B:=Out) (fu:=fu) (λo=> ∃out lg,o=some out/\out.log=some lg/\(lg.st=true\/lg.rest=[]))
  (λs=> ∃i:Nat,i<=E.length/\s=((i:Int),⟨l,go,i,EL.drop i,false⟩,())) (λs=>E.length-s.1.toNat) (λ_ z=>z.2.1.st=true\/z.2.1.rest=[]) ⟨0,by omega,rfl⟩ ?_ ?_ ?_
 ·show E.length-(0:Int).toNat<fu;omega
 ·rintro y ⟨i,hi,rfl⟩
  by_cases hlt:i<E.length
  ·have hd:=hed hlt;have hat:=Ju Xk hlt;cases hg:go i with
   |true=>
    refine .inl ⟨(((i+1:Nat):Int),⟨l,go,i+1,EL.drop (i+1),false⟩,()), ?_,⟨i+1,by omega,rfl⟩, ?_⟩
    ·simp(disch:=omega)only[Zd,QM,QD,Zsv,hat,edC,Zto,Ztr,hd,Jn,Jo,hg,Ztn,Zuc]
    ·show E.length-((i+1:Nat):Int).toNat<E.length-(i:Int).toNat;omega
   |false=>
    refine .inr ⟨1,((i:Int),⟨l,go,i+1,EL.drop (i+1),true⟩,()), ?_, .inl rfl⟩;simp(disch:=omega)only[Zd,QM,QD,Zsv,hat,edC,Zto,Ztr,hd,Jn,Jo,hg]
  ·refine .inr ⟨0,((i:Int),⟨l,go,i,EL.drop i,false⟩,()), ?_, .inr ?_⟩
   ·simp(disch:=omega)only[Zd,QM,QD]
   ·show EL.drop i=[];rw[List.drop_eq_nil_iff];omega
 ·rintro e z hz
  refine⟨⟨V.tup [],[],some z.2.1⟩,z.2.1, ?_,rfl,hz⟩;cases e<;>rfl
omit hf in
theorem Zgu (n:Nat) (h:Yb n):prim.iter (d+10) fn_flux_edges_1 [C.cp [C.v (.int .i64 (n:Int))]]=some (edgesL n):=by
 show(bif Nat.ble 10 (d+10)then iterC fn_flux_edges_1 [C.cp [C.v (.int .i64 (n:Int))]]else none)=_;unfold Yb at h;rw[show Nat.ble 10 (d+10)=true from Zuk (by omega)];show need (decide (1<=(n:Int))&&decide ((n:Int)<=8)) (some (edgesL (n:Int).toNat))=_;rw[decide_eq_true (show 1<=(n:Int) by omega),decide_eq_true (show(n:Int)<=8 by omega),Zsv];rfl
end
end Go.Proofs.YtjmempcalaliiaaGreatDoor
/- Degrees, amounts, moves. -/
namespace Go.Proofs.YtjmempcalaliiaaGreatDoor
open Go Go.PM Go.Grid
attribute [local congr] Zt Zu Zv Yd Zw Zx Ye Yf Yg Yh Zy Zz Yi Yx Yy Yz Y1 Y2 Y5 Y6 Y7 Y8 Y4 Z1 Z2 Y9 Z3 Z4 Zk Z5 Z0
def mv1 (l:List Int) (e:Int×Int) (u v:Int):List Int:=V3 (V3 l e.1.toNat u) e.2.toNat v
def Yr (N:Nat) (E:List (Int×Int)):List Int:=E.foldl (λl e=>mv1 l e 1 1) (List.replicate N 0)
def Ri (l:List Int) (P:List ((Int×Int)×Int)):List Int:=P.foldl (λl p=>mv1 l p.1 (-p.2) p.2) l
theorem Ra (l:List Int) (e:Int×Int) (u v:Int):(mv1 l e u v).length=l.length:=by unfold mv1;rw[U7,U7]
theorem Zkn (N:Nat) (E:List (Int×Int)) (e:Int×Int):Yr N (E++[e])=mv1 (Yr N E) e 1 1:=by simp[Yr]
theorem Zko (l:List Int) (P:List ((Int×Int)×Int)) (p:(Int×Int)×Int):Ri l (P++[p])=mv1 (Ri l P) p.1 (-p.2) p.2:=by simp[Ri]
theorem Rw (P:List ((Int×Int)×Int)): ∀l,(Ri l P).length=l.length:=by
 induction P with
 |nil=>intro l;rfl
 |cons p P ih=>intro l;show(Ri (mv1 l p.1 (-p.2) p.2) P).length=_;rw[ih,Ra]
theorem Zgv (l:List Int) (e:Int×Int) (u v:Int) (k:Nat):at0 (mv1 l e u v) k=at0 l k+(if k=e.1.toNat/\k<l.length then u else 0)+if k=e.2.toNat/\k<l.length then v else 0:=by
 unfold mv1;rw[J3,J3,U7]
 congr 1
 ·congr 1
  by_cases h:k=e.1.toNat
  ·subst h;rfl
  ·rw[if_neg (λq=>h q.1),if_neg (λq=>h q.1)]
 ·by_cases h:k=e.2.toNat
  ·subst h;rfl
  ·rw[if_neg (λq=>h q.1),if_neg (λq=>h q.1)]
theorem Zbz (N:Nat) (i:Nat):at0 (List.replicate N 0) i=0:=by
 unfold at0;rw[Zs6,List.getElem?_replicate];split<;>rfl
theorem Rx (N:Nat) (E:List (Int×Int)):(Yr N E).length=N:=by
 have key: ∀(E:List (Int×Int)) (l:List Int),(E.foldl (λl e=>mv1 l e 1 1) l).length=l.length:=by
  intro E
  induction E with
  |nil=>intro l;rfl
  |cons e E ih=>intro l;rw[Zup,ih,Ra]
 unfold Yr;rw[key];simp
theorem Zem (E:List (Int×Int)): ∀(l:List Int) (k:Nat),at0 l k<=at0 (E.foldl (λl e=>mv1 l e 1 1) l) k/\at0 (E.foldl (λl e=>mv1 l e 1 1) l) k<=at0 l k+2*E.length/\((∃e∈E,k=e.1.toNat\/k=e.2.toNat)->k<l.length->at0 l k+1<=at0 (E.foldl (λl e=>mv1 l e 1 1) l) k):=by
 induction E with
 |nil=>intro l k;exact⟨Int.le_refl _,by simp,λ⟨e,he,_⟩=>by cases he⟩
 |cons e E ih=>
  intro l k;rw[Zup];obtain⟨h1,h2,h3⟩:=ih (mv1 l e 1 1) k;have hm:=Zgv l e 1 1 k;rw[Zss];refine⟨?_, ?_, ?_⟩
  ·split at hm<;>split at hm<;>omega
  ·split at hm<;>split at hm<;>omega
  ·rintro ⟨e',he,hk⟩ hlt
   rcases Zta.1 he with rfl|he
   ·rcases hk with hk|hk
    ·rw[if_pos ⟨hk,hlt⟩]at hm;split at hm<;>omega
    ·rw[if_pos (c:=k=e'.2.toNat/\k<l.length) ⟨hk,hlt⟩]at hm;split at hm<;>omega
   ·have:=h3 ⟨e',he,hk⟩ (by rw[Ra];exact hlt);split at hm<;>split at hm<;>omega
theorem Zp8 (N:Nat) (E:List (Int×Int)) (k:Nat):0<=at0 (Yr N E) k/\at0 (Yr N E) k<=2*E.length:=by
 obtain⟨h1,h2,_⟩:=Zem E (List.replicate N 0) k;rw[Zbz]at h1 h2;exact⟨h1,by unfold Yr;omega⟩
theorem Zen {N:Nat} {E:List (Int×Int)} {k:Nat} (h: ∃e∈E,k=e.1.toNat\/k=e.2.toNat) (hk:k<N):1<=at0 (Yr N E) k:=by
 obtain⟨_,_,h3⟩:=Zem E (List.replicate N 0) k;have:=h3 h (by simpa using hk);rw[Zbz]at this;unfold Yr;omega
section
variable (fu d:Nat) (hf:18446744073709551616<=fu)
theorem C8 (n:Nat) (h:Yb n):cl fu (d+11) fn_flux_Degrees [I n] []=OK (V.tup [V.c (C.sl (Zf n).length (ints (Yr (Zf n).length (edg n)))),I 0]):=by
 have hn:=h;unfold Yb at hn;have hNl:=Xz h;have heL:=Vh h;have e1:=Wo fu (d+9) (n:Int) 1 8;rw[decide_eq_true (show 1<=(n:Int) by omega),decide_eq_true (show(n:Int)<=8 by omega)]at e1;have e2:=Tt fu (d+8) n h;have e3:=Zgu d n h;have e4:=eq_flux_edges fu (d+9) (n:Int);have hel:=R6 n;have hea:=λ{j:Nat} (h1:j<(edgesL n).length) (h2:j<(edg n).length)=>Wn n h1 h2;have hin:=Nl h;generalize edgesL n=EL at*
 generalize edg n=E at*
 generalize (Zf n).length=N at*
 have hr0:reps N [C.v (.int .i64 0)]=ints (Yr N []):=by
  unfold Yr reps;simp[ik]
 have hdl:=Rx N;rw[eq_flux_Degrees];simp(disch:=omega)only[Zd,QM,QD,e1,e2,e4,Zsv,Zs4,hr0,Zg,hdl];rw[show prim.iter (d+10) fn_flux_edges_1 [C.cp [C.v (.int .i64 (n:Int))]]=some EL from e3];simp(disch:=omega)only[Zd,QM,QD,Zsv,Zs4,hr0,Zg,hdl];have hov:=Zjs (body:=(λit (y:(List C×Unit)×Unit)=>
    uncV it λx r=>
    rC x λc3=>
    asI .i64 c3 λi1=>
    uncV r λx1 r1=>
    rA x1 λcs1=>
    need (Nat.beq cs1.length 2)<|
    unc cs1 λc4 r2=>
    asI .i64 c4 λi2=>
    unc r2 λc5 _=>
    asI .i64 c5 λi3=>
    nilV r1<|
    need (inR i2 (y.1.1.length/1))<|
    unc (List.drop (0+(i2.toNat*1)) y.1.1) λc6 _=>
    asI .i64 c6 λi4=>
    need (inR i2 (y.1.1.length/1))<|
    need (((Nat.ble 0 (0+(i2.toNat*1)))&&(Nat.ble ((0+(i2.toNat*1))+1) y.1.1.length))&&true)<|
    need (inR i3 (y.1.1.length/1))<|
    unc (List.drop (0+(i3.toNat*1)) (putAt y.1.1 (0+(i2.toNat*1)) ([C.v (.int .i64 (IntKind.i64.wrap (i4+1)))]))) λc7 _=>
    asI .i64 c7 λi5=>
    need (inR i3 (y.1.1.length/1))<|
    need (((Nat.ble 0 (0+(i3.toNat*1)))&&(Nat.ble ((0+(i3.toNat*1))+1) ((putAt y.1.1 (0+(i2.toNat*1)) ([C.v (.int .i64 (IntKind.i64.wrap (i4+1)))])).length)))&&true)<|
    bd (putAt (putAt y.1.1 (0+(i2.toNat*1)) ([C.v (.int .i64 (IntKind.i64.wrap (i4+1)))])) (0+(i3.toNat*1)) ([C.v (.int .i64 (IntKind.i64.wrap (i5+1)))])) λcs2=>
    need (((Nat.beq ((y.1.1.length/1)*1) cs2.length)&&true)&&true)<|
    some (0,((cs2,()),())))) EL (λj:Nat=>((ints (Yr N (E.take j)),()),())) (by
   intro j hj;have hj':j<E.length:=by omega
   have hia:=hea hj hj';have hin:=hin E[j] (Zts hj');have hst:Yr N (E.take (j+1))=mv1 (Yr N (E.take j)) E[j] 1 1:=by rw[Ztp hj',Zkn]
   have hbd:=Zp8 N (E.take j);have htl:(E.take j).length<=15000:=by rw[Ztl];omega
   have hD:=hdl (E.take j);rw[hia,hst];generalize Yr N (E.take j)=D at*
   generalize E[j]=e at*
   obtain⟨ea,eb⟩:=e;simp only at hin⊢;obtain⟨x,rfl⟩: ∃x:Nat,ea=x:=⟨ea.toNat,by omega⟩;obtain⟨y,rfl⟩: ∃y:Nat,eb=y:=⟨eb.toNat,by omega⟩;have d1:=Yc D (i:=x) (by omega);have b1:=hbd x;have p1:=Lb D (i:=x) (by omega) 1;have hB:=U7 D x 1;have hBa:=J3 D x 1 y;have hm:mv1 D ((x:Int),(y:Int)) 1 1=V3 (V3 D x 1) y 1:=by unfold mv1;rw[Zsv,Zsv]
   rw[hm];have b2:0<=at0 (V3 D x 1) y/\at0 (V3 D x 1) y<=40000:=by
    have:=hbd y;split at hBa<;>omega
   generalize V3 D x 1=D1 at*
   have d2:=Yc D1 (i:=y) (by omega);have p2:=Lb D1 (i:=y) (by omega) 1;have hB2:=U7 D1 y 1;generalize V3 D1 y 1=D2 at*
   simp(disch:=omega)only[Zd,QM,QD,Zss,Zsy,Zst,Nat.reduceAdd,Zsv,Zs4,Ztk,Zg,hD,d1,p1,hB,d2,p2,hB2])
 rw[hel,Zt5]at hov;rw[show overK _ EL ((ints (Yr N []),()),())=_ from hov];have htk:List.take N (ints (Yr N E))=ints (Yr N E):=Zs1 (by rw[Zg,hdl];exact Zs2 _);simp(disch:=omega)only[Zd,QM,QD,Zst,Zs4,Ztk,Zg,hdl,htk]
end
end Go.Proofs.YtjmempcalaliiaaGreatDoor
/- Amounts over edges, and what moving them comes to. -/
namespace Go.Proofs.YtjmempcalaliiaaGreatDoor
open Go Go.PM Go.Grid
attribute [local congr] Zt Zu Zv Yd Zw Zx Ye Yf Yg Yh Zy Zz Yi Yx Yy Yz Y1 Y2 Y5 Y6 Y7 Y8 Y4 Z1 Z2 Y9 Z3 Z4 Zk Z5 Z0
def lim (dp dg:List Int) (k:Int):Int:=Int.tdiv (at0 dp k.toNat) (at0 dg k.toNat)
def shr (w:Int) (s:Nat):Int:=Int.fdiv w (2^s)
def amt (w p q:Int):Int:=if w>p then p else if w< -q then -q else w
def amE (dp dg fw:List Int) (s:Nat) (E:List (Int×Int)) (j:Nat):Int:=amt (shr (at0 fw j) s) (lim dp dg (E.getD j (0,0)).1) (lim dp dg (E.getD j (0,0)).2)
def amL (dp dg fw:List Int) (s:Nat) (E:List (Int×Int)) (k:Nat):List Int:=(List.range k).map (amE dp dg fw s E)
theorem Qo (E:List (Int×Int)) {j:Nat} (h:j<E.length):E.getD j (0,0)=E[j]:=by
 rw[Zs6,Zsx h];rfl
theorem Lc {lo hi:Int} {l:List Int} (h:wid lo hi l) (h0:lo<=0/\0<=hi) (k:Nat):lo<=at0 l k/\at0 l k<=hi:=by
 by_cases hk:k<l.length
 ·rw[Rv hk];exact Zsc h hk
 ·unfold at0;rw[Zs6,Zu6 (by omega)];exact h0
section
variable (fu d:Nat) (hf:18446744073709551616<=fu)
include hf
theorem C9 (a b c:Nat) (ha:1<=a/\a<=4) (hb:1<=b/\b<=4) (hc:1<=c/\c<=4):cl fu (d+6) fn_flux_CheckScheme [V.agg [C.v (.int .i64 (a:Int)),C.v (.int .i64 (b:Int)),C.v (.int .i64 (c:Int))]] []=OK (I 0):=by
 have e:=Zgt fu d hf [(a:Int),(b:Int),(c:Int)] (by simp) 1 4;rw[Qn.2 (by intro v hv;simp only[Zta,List.mem_nil_iff,or_false]at hv;omega)]at e;replace e:cl fu (d+5) fn_flux_outside [V.c (C.sl 3 [C.v (.int .i64 (a:Int)),C.v (.int .i64 (b:Int)),C.v (.int .i64 (c:Int))]),I 1,I 4] []=OK (B false):=e;rw[eq_flux_CheckScheme];simp only[Zd,QM,e]
omit hf in
theorem Zny (l:List Int) (h0:0<l.length) (hl:l.length<=1000000):cl fu (d+1) fn_slices_Clone_sint_int [V.c (C.sl l.length (ints l))] []=some ⟨V.own 1000000 0 l.length,[.sb ty_int 0 (ints l)],none⟩:=by
 have hb:Nat.beq l.length 0=false:=by
  cases e:Nat.beq l.length 0
  ·rfl
  ·have:=Zsp e;omega
 have htk:List.take l.length (ints l)=ints l:=Zs1 (by rw[Zg];exact Zs2 _);rw[eq_slices_Clone_sint_int,hb];simp(disch:=omega)only[Zd,QM,QD,Zg,Zs4,Zst,htk]
end
end Go.Proofs.YtjmempcalaliiaaGreatDoor
/- What is moved and moved back; masses; lists that are compared. -/
namespace Go.Proofs.YtjmempcalaliiaaGreatDoor
open Go Go.PM Go.Grid
attribute [local congr] Zt Zu Zv Yd Zw Zx Ye Yf Yg Yh Zy Zz Yi Yx Yy Yz Y1 Y2 Y5 Y6 Y7 Y8 Y4 Z1 Z2 Y9 Z3 Z4 Zk Z5 Z0
def net (P:List ((Int×Int)×Int)) (k:Nat):Int:=(P.map λp=>(if k=p.1.1.toNat then -p.2 else 0)+(if k=p.1.2.toNat then p.2 else 0)).sum
theorem Zeo (p:(Int×Int)×Int) (P:List ((Int×Int)×Int)) (k:Nat):net (p::P) k=(if k=p.1.1.toNat then -p.2 else 0)+(if k=p.1.2.toNat then p.2 else 0)+net P k:=by unfold net;rw[Ztv,List.sum_cons]
theorem Zkp (l:List Int) (p:(Int×Int)×Int) (P:List ((Int×Int)×Int)):Ri l (p::P)=Ri (mv1 l p.1 (-p.2) p.2) P:=rfl
theorem Zb0: ∀(P:List ((Int×Int)×Int)) (l:List Int) (k:Nat),k<l.length->at0 (Ri l P) k=at0 l k+net P k
 | [],l,k,_=>by simp[Ri,net]
 |p::P,l,k,h=>by
  rw[Zkp,Zb0 P _ k (by rw[Ra];exact h),Zgv,Zeo];by_cases h1:k=p.1.1.toNat<;>by_cases h2:k=p.1.2.toNat<;>simp only[h,h1,h2,and_true,if_true,if_false,false_and,true_and]<;>omega
def isL (c:C) (l:List Int):Prop:=nrm c=C.sl l.length (ints l)/\ ∀{R:Type} (k:Nat->List C->Option R),asSl c k=k l.length (ints l)
theorem Znz (l:List Int):isL (C.sl l.length (ints l)) l:=⟨by rw[Zmr],λk=>by rw[Zhv]⟩
section
variable (fu d:Nat) (hf:18446744073709551616<=fu)
include hf
end
end Go.Proofs.YtjmempcalaliiaaGreatDoor
/- Amounts, neighbours: what laws of several chapters lean on. -/
namespace Go.Proofs.YtjmempcalaliiaaGreatDoor
open Go Go.PM Go.Grid
attribute [local congr] Zt Zu Zv Yd Zw Zx Ye Yf Yg Yh Zy Zz Yi Yx Yy Yz Y1 Y2 Y5 Y6 Y7 Y8 Y4 Z1 Z2 Y9 Z3 Z4 Zk Z5 Z0
theorem Zgw {l:List Int} (h: ∀x∈l,0<=x/\x<=255) {k:Nat} (hk:k<=1000):bytes (l.take k):=⟨λx hx=>h x (List.mem_of_mem_take hx),by rw[Ztl];omega⟩
def rs (dp:List Int) (r:List Int):Int:=(r.map λk=>at0 dp k.toNat).sum
theorem Zkq {E:List (Int×Int)} {am:List Int} (h:am.length=E.length):E.zip am=(List.range E.length).map λj=>(E.getD j (0,0),at0 am j):=by
 refine List.ext_getElem (by rw[List.length_zip,Zs8,List.length_range];omega) λj h1 h2=> ?_;rw[List.length_zip]at h1;rw[List.getElem_zip,Zu9,List.getElem_range,Qo E (by omega),Rv (by omega)]
structure Vst (n:Nat) (dp fw:List Int):Prop where
 dl:dp.length=(Zf n).length
 fl:fw.length=(edg n).length
 dw:wid 0 16777216 dp
 fw:wid (-16777216) 16777216 fw
theorem Zb1 {n:Nat} (h:Yb n): ∀e∈edg n,1<=at0 (Yr (Zf n).length (edg n)) e.1.toNat/\1<=at0 (Yr (Zf n).length (edg n)) e.2.toNat:=λe he=>by
 have:=Nl h e he;exact⟨Zen ⟨e,he, .inl rfl⟩ (by omega),Zen ⟨e,he, .inr rfl⟩ (by omega)⟩
theorem J4 {lo hi:Int} {l:List Int} (h: ∀k,k<l.length->lo<=at0 l k/\at0 l k<=hi):wid lo hi l:=λv hv=>by
 obtain⟨k,hk,rfl⟩:=Ztw.1 hv;rw[<-Rv hk];exact h k hk
theorem Zgx {n:Nat} (h:Yb n):0<(Zf n).length:=by rw[Vz h];omega
section
variable (fu d:Nat) (hf:18446744073709551616<=fu)
end
end Go.Proofs.YtjmempcalaliiaaGreatDoor
/- Slopes, accelerated flows, steps. -/
namespace Go.Proofs.YtjmempcalaliiaaGreatDoor
open Go Go.PM Go.Grid
attribute [local congr] Zt Zu Zv Yd Zw Zx Ye Yf Yg Yh Zy Zz Yi Yx Yy Yz Y1 Y2 Y5 Y6 Y7 Y8 Y4 Z1 Z2 Y9 Z3 Z4 Zk Z5 Z0
def clp (x:Int):Int:=if 16777216<(if -16777216>x then -16777216 else x)then 16777216 else if -16777216>x then -16777216 else x
theorem Zsd (x:Int): -16777216<=clp x/\clp x<=16777216:=by
 unfold clp
 repeat' split
 all_goals omega
def slE (dp:List Int) (E:List (Int×Int)) (j:Nat):Int:=at0 dp (E.getD j (0,0)).1.toNat-at0 dp (E.getD j (0,0)).2.toNat
def acc1 (a b:Nat) (f s:Int):Int:=clp (f+(shr s b-shr f a))
def accE (a b:Nat) (dp fw:List Int) (E:List (Int×Int)) (j:Nat):Int:=acc1 a b (at0 fw j) (slE dp E j)
def Zn0 (a b:Nat) (dp fw:List Int) (E:List (Int×Int)) (k:Nat):List Int:=(List.range k).map (accE a b dp fw E)
theorem Zep (a b:Nat) (dp fw:List Int) (E:List (Int×Int)) (k:Nat):(Zn0 a b dp fw E k).length=k:=by simp[Zn0]
theorem V4 (f:Nat->Int) (n:Nat) {j:Nat} (h:j<n):at0 ((List.range n).map f) j=f j:=by
 unfold at0;rw[Zs6,Zs7,List.getElem?_range h];rfl
theorem Zeq (a b:Nat) (dp fw:List Int) (E:List (Int×Int)) (k:Nat):wid (-16777216) 16777216 (Zn0 a b dp fw E k):=λv hv=>by
 unfold Zn0 at hv;obtain⟨j,_,rfl⟩:=Zvc.1 hv;exact Zsd _
theorem Zse {w:Int} (s:Nat) {m:Int} (hm:0<=m) (h: -m<=w/\w<=m): -m-1<=shr w s/\shr w s<=m:=by
 unfold shr;have hp:(1:Int)<=2^s:=by
  have:0<2^s:=Nat.pow_pos (by omega);have e:((2^s:Nat):Int)=(2:Int)^s:=by push_cast;rfl
  omega
 generalize (2:Int)^s=q at*
 rw[Int.fdiv_eq_ediv_of_nonneg _ (by omega)];constructor
 ·refine Int.le_ediv_of_mul_le (by omega) ?_;have:(-m-1)*q<=(-m-1)*1:=Int.mul_le_mul_of_nonpos_left (by omega) hp;omega
 ·have h1:w/q<=m/q:=Int.ediv_le_ediv (by omega) h.2;have h2:m/q<=m:=Int.ediv_le_self _ hm;omega
section
variable (fu d:Nat) (hf:18446744073709551616<=fu)
include hf
end
end Go.Proofs.YtjmempcalaliiaaGreatDoor
/- Steps of the model, one after the other. -/
namespace Go.Proofs.YtjmempcalaliiaaGreatDoor
open Go Go.PM Go.Grid
attribute [local congr] Zt Zu Zv Yd Zw Zx Ye Yf Yg Yh Zy Zz Yi Yx Yy Yz Y1 Y2 Y5 Y6 Y7 Y8 Y4 Z1 Z2 Y9 Z3 Z4 Zk Z5 Z0
def stF (n a b:Nat) (dp fw:List Int):List Int:=Zn0 a b dp fw (edg n) (edg n).length
def stA (n a b c:Nat) (dp fw:List Int):List Int:=amL dp (Yr (Zf n).length (edg n)) (stF n a b dp fw) c (edg n) (edg n).length
def stD (n a b c:Nat) (dp fw:List Int):List Int:=Ri dp ((edg n).zip (stA n a b c dp fw))
def stBad (n a b c:Nat) (dp fw:List Int):Bool:=Tj 0 16777216 (stD n a b c dp fw)
theorem Ba (n a b:Nat) (dp fw:List Int):(stF n a b dp fw).length=(edg n).length:=Zep ..
theorem Zgy (n a b c:Nat) (dp fw:List Int):(stD n a b c dp fw).length=dp.length:=Rw ..
theorem Vst.acc {n:Nat} {dp fw:List Int} (h:Vst n dp fw) (a b:Nat):Vst n dp (stF n a b dp fw):=⟨h.dl,Ba ..,h.dw,Zeq _ _ _ _ _ _⟩
theorem Vst.step {n:Nat} {dp fw:List Int} (h:Vst n dp fw) {a b c:Nat} (ho:stBad n a b c dp fw=false):Vst n (stD n a b c dp fw) (stF n a b dp fw):=⟨by rw[Zgy];exact h.dl,Ba ..,Qn.1 ho,Zeq _ _ _ _ _ _⟩
section
variable (fu d:Nat) (hf:18446744073709551616<=fu)
include hf
end
end Go.Proofs.YtjmempcalaliiaaGreatDoor
/- The linearised step: plain laws. -/
namespace Go.Proofs.YtjmempcalaliiaaGreatDoor
open Go Go.PM Go.Grid
def sc (a b c:Nat):Nat:=30*2^(max a b+c)
def scA (a b c:Nat):Nat:=30*2^(max a b+c-a)
def scB (a b c:Nat):Nat:=30*2^(max a b+c-b)
def tp (a b:Nat):Nat:=30*2^max a b-30*2^(max a b-a)
def tr (a b:Nat):Nat:=30*2^(max a b-b)
theorem pw (m k s:Nat) (h:s<=m) (e:k=m-s):30*2^m=30*2^k*2^s:=by
 rw[Nat.mul_assoc,<-Nat.pow_add,e,Nat.sub_add_cancel h]
theorem sc_a (a b c:Nat):sc a b c=scA a b c*2^a:=pw _ _ _ (by omega) rfl
theorem sc_b (a b c:Nat):sc a b c=scB a b c*2^b:=pw _ _ _ (by omega) rfl
theorem Zq9 (a b c:Nat):scB a b c=tr a b*2^c:=pw _ _ _ (by omega) (by omega)
theorem Ge (a b c:Nat):scA a b c<=sc a b c:=by
 unfold scA sc;exact Nat.mul_le_mul_left _ (Nat.pow_le_pow_right (by omega) (by omega))
theorem Bb (a b c:Nat):scB a b c<=sc a b c:=by
 unfold scB sc;exact Nat.mul_le_mul_left _ (Nat.pow_le_pow_right (by omega) (by omega))
theorem Zra (a b c:Nat):sc a b c-scA a b c=tp a b*2^c:=by
 have h1:sc a b c=30*2^max a b*2^c:=pw _ _ _ (by omega) (by omega);have h2:scA a b c=30*2^(max a b-a)*2^c:=pw _ _ _ (by omega) (by omega);rw[h1,h2,tp,Nat.sub_mul]
theorem Rb {a b c:Nat} (ha:a<=4) (hb:b<=4) (hc:c<=4):sc a b c<=7680:=by
 have h:2^(max a b+c)<=2^8:=Nat.pow_le_pow_right (by omega) (by omega);unfold sc;omega
theorem Zp9 (x q:Int) (s:Nat):shr (x+q*2^s) s=shr x s+q:=by
 unfold shr;have hp:(0:Int)<2^s:=Int.pow_pos (by omega);rw[Int.fdiv_eq_ediv_of_nonneg _ (by omega),Int.fdiv_eq_ediv_of_nonneg _ (by omega),Int.add_mul_ediv_right _ _ (by omega)]
theorem Ld (q:Int) (s:Nat):shr (q*2^s) s=q:=by
 have:=Zp9 0 q s;rw[Int.zero_add]at this;rw[this];unfold shr;rw[Int.zero_fdiv];omega
theorem Le (s:Nat):((2^s:Nat):Int)=2^s:=by simp
theorem sc_aI (a b c:Nat):((sc a b c:Nat):Int)=(scA a b c:Int)*2^a:=by rw[sc_a,Zu5,Le]
theorem Zrb (a b c:Nat):((sc a b c:Nat):Int)=(scB a b c:Int)*2^b:=by rw[sc_b,Zu5,Le]
theorem Zn1 (a b c:Nat):((scB a b c:Nat):Int)=(tr a b:Int)*2^c:=by rw[Zq9,Zu5,Le]
theorem Zn2 (a b c:Nat):((sc a b c:Nat):Int)-(scA a b c:Int)=(tp a b:Int)*2^c:=by
 have h1:=Ge a b c;have h2:=congrArg (λn:Nat=>(n:Int)) (Zra a b c);simp only[Zu5,Le]at h2;omega
def tF (a b c:Nat) (hd hf:List Int) (E:List (Int×Int)) (j:Nat):Int:=((sc a b c:Int)-scA a b c)*at0 hf j+(scB a b c:Int)*(at0 hd (E.getD j (0,0)).1.toNat-at0 hd (E.getD j (0,0)).2.toNat)
def tG (a b:Nat) (hd hf:List Int) (E:List (Int×Int)) (j:Nat):Int:=(tp a b:Int)*at0 hf j+(tr a b:Int)*(at0 hd (E.getD j (0,0)).1.toNat-at0 hd (E.getD j (0,0)).2.toNat)
theorem Zn3 (a b c:Nat) (hd hf:List Int) (E:List (Int×Int)) (j:Nat):tF a b c hd hf E j=tG a b hd hf E j*2^c:=by
 unfold tF tG;rw[Zn2,Zn1,Int.add_mul]
 congr 1
 ·rw[Int.mul_assoc,Int.mul_comm (2^c),<-Int.mul_assoc]
 ·rw[Int.mul_assoc,Int.mul_comm (2^c),<-Int.mul_assoc]
def tAm (a b c:Nat) (dg br hd hf:List Int) (E:List (Int×Int)) (j:Nat):Int:=
 if at0 br j=1 then Int.tdiv (sc a b c) (at0 dg (E.getD j (0,0)).1.toNat)*at0 hd (E.getD j (0,0)).1.toNat
 else if at0 br j= -1 then -(Int.tdiv (sc a b c) (at0 dg (E.getD j (0,0)).2.toNat)*at0 hd (E.getD j (0,0)).2.toNat)
 else tG a b hd hf E j
def tFL (a b c:Nat) (hd hf:List Int) (E:List (Int×Int)) (k:Nat):List Int:=(List.range k).map (tF a b c hd hf E)
def tAL (a b c:Nat) (dg br hd hf:List Int) (E:List (Int×Int)) (k:Nat):List Int:=(List.range k).map (tAm a b c dg br hd hf E)
def tDL (a b c:Nat) (dg br hd hf:List Int) (E:List (Int×Int)):List Int:=Ri (hd.map λx=>(sc a b c:Int)*x) (E.zip (tAL a b c dg br hd hf E E.length))
theorem Kt (a b c:Nat) (hd hf:List Int) (E:List (Int×Int)) (k:Nat):(tFL a b c hd hf E k).length=k:=by simp[tFL]
theorem Bc (a b c:Nat) (dg br hd hf:List Int) (E:List (Int×Int)) (k:Nat):(tAL a b c dg br hd hf E k).length=k:=by simp[tAL]
theorem Ku (a b c:Nat) (dg br hd hf:List Int) (E:List (Int×Int)):(tDL a b c dg br hd hf E).length=hd.length:=by unfold tDL;rw[Rw,Zs8]
theorem Zb2 (f:Int->Int) (h0:f 0=0) (l:List Int) (k:Nat):at0 (l.map f) k=f (at0 l k):=by
 unfold at0;rw[Zs6,Zs7,Zs6];cases l[k]? with
 |none=>exact h0.symm
 |some v=>rfl
theorem Zqa {E:List (Int×Int)} (f:Nat->Int) (i:Nat):net (E.zip ((List.range E.length).map f)) i=((List.range E.length).map λj=>(if i=(E.getD j (0,0)).1.toNat then -(f j)else 0)+(if i=(E.getD j (0,0)).2.toNat then f j else 0)).sum:=by
 rw[Zkq (by simp)];unfold net;rw[List.map_map];refine congrArg List.sum (Zu2 λj hj=> ?_);have hj:=Zun.1 hj;show(if i=(E.getD j (0,0)).1.toNat then -(at0 ((List.range E.length).map f) j)else 0)+(if i=(E.getD j (0,0)).2.toNat then at0 ((List.range E.length).map f) j else 0)=_;rw[V4 f _ hj]
theorem Nn (f g:Nat->Int): ∀n,((List.range n).map λj=>f j+g j).sum=((List.range n).map f).sum+((List.range n).map g).sum
 |0=>rfl
 |n+1=>by
  simp only[Zus,Zur,List.sum_append,Nn f g n,Ztv,List.map_nil,List.sum_cons,List.sum_nil];omega
theorem Zsf (a b c:Nat) (dg br hd hf:List Int) (E:List (Int×Int)) {i:Nat} (hi:i<hd.length):at0 (tDL a b c dg br hd hf E) i=(sc a b c:Int)*at0 hd i+net (E.zip (tAL a b c dg br hd hf E E.length)) i:=by
 unfold tDL;rw[Zb0 _ _ _ (by rw[Zs8];exact hi),Zb2 (λx=>(sc a b c:Int)*x) (Zu1 _)]
end Go.Proofs.YtjmempcalaliiaaGreatDoor
/- Changes, branches, the linearised step's function. -/
namespace Go.Proofs.YtjmempcalaliiaaGreatDoor
open Go Go.PM Go.Grid
attribute [local congr] Zt Zu Zv Yd Zw Zx Ye Yf Yg Yh Zy Zz Yi Yx Yy Yz Y1 Y2 Y5 Y6 Y7 Y8 Y4 Z1 Z2 Y9 Z3 Z4 Zk Z5 Z0
def J5 (E:List (Int×Int)) (k:Nat):Int:=(E.map λe=>(if k=e.1.toNat then(1:Int)else 0)+(if k=e.2.toNat then 1 else 0)).sum
theorem Pv (e:Int×Int) (E:List (Int×Int)) (k:Nat):J5 (e::E) k=(if k=e.1.toNat then(1:Int)else 0)+(if k=e.2.toNat then 1 else 0)+J5 E k:=by unfold J5;rw[Ztv,List.sum_cons]
theorem Zb3 (k:Nat): ∀E,0<=J5 E k
 | []=>by simp[J5]
 |e::E=>by
  rw[Pv];have:=Zb3 k E
  repeat' split
  all_goals omega
theorem Wp (k:Nat): ∀(E:List (Int×Int)) (j:Nat),J5 (E.take j) k<=J5 E k
 | [],j=>by simp
 |e::E,0=>by rw[Zum];exact Zb3 k _
 |e::E,j+1=>by
  rw[Zvf,Pv,Pv];have:=Wp k E j;omega
theorem Zn4 (k:Nat): ∀(E:List (Int×Int)) (l:List Int),k<l.length->at0 (E.foldl (λl e=>mv1 l e 1 1) l) k=at0 l k+J5 E k
 | [],l,_=>by simp[J5]
 |e::E,l,h=>by
  rw[Zup,Zn4 k E _ (by rw[Ra];exact h),Zgv,Pv];by_cases h1:k=e.1.toNat<;>by_cases h2:k=e.2.toNat<;>simp only[h,h1,h2,and_true,if_true,if_false,false_and,true_and]<;>omega
theorem Zn5 {N:Nat} (E:List (Int×Int)) {k:Nat} (hk:k<N):at0 (Yr N E) k=J5 E k:=by
 unfold Yr;rw[Zn4 k E _ (by rw[Zub];exact hk),Zbz];omega
theorem Zh6 {m:Int} (hm:0<=m) (k:Nat): ∀P:List ((Int×Int)×Int),(∀p∈P,-m<=p.2/\p.2<=m)-> -(m*J5 (P.map (·.1)) k)<=net P k/\net P k<=m*J5 (P.map (·.1)) k
 | [],_=>by simp[net,J5]
 |p::P,h=>by
  have h1:=h p (Zua ..);have h2:=Zh6 hm k P λq hq=>h q (Ztd _ hq);rw[Ztv,Pv,Zeo,Int.mul_add,Int.mul_add];by_cases q1:k=p.1.1.toNat<;>by_cases q2:k=p.1.2.toNat
  ·rw[if_pos q1,if_pos q2,if_pos q1,if_pos q2,Int.mul_one];omega
  ·rw[if_pos q1,if_neg q2,if_pos q1,if_neg q2,Int.mul_one,Zu1];omega
  ·rw[if_neg q1,if_pos q2,if_neg q1,if_pos q2,Int.mul_one,Zu1];omega
  ·rw[if_neg q1,if_neg q2,if_neg q1,if_neg q2,Zu1];omega
theorem Zb4 (E:List (Int×Int)) (am:List Int) (h:am.length=E.length) (j:Nat):((E.zip am).take j).map (·.1)=E.take j:=by
 rw[List.map_take,List.map_fst_zip (by omega)]
theorem Zsg {n:Nat} (hn:n=1\/n=2): ∀v∈Yr (Zf n).length (edg n),v=5\/v=6:=by
 have h:((Yr (Zf n).length (edg n)).all λv=>decide (v=5\/v=6))=true:=by rcases hn with rfl|rfl<;>kernel_rfl
 intro v hv;exact of_decide_eq_true (Zs9.1 h v hv)
theorem J6 {n:Nat} (hn:n=1\/n=2) {k:Nat} (hk:k<(Zf n).length):at0 (Yr (Zf n).length (edg n)) k=5\/at0 (Yr (Zf n).length (edg n)) k=6:=by
 rw[Rv (by rw[Rx];exact hk)];exact Zsg hn _ (Zts _)
theorem Zgz (a b c:Nat) {v:Int} (h:v=5\/v=6):(sc a b c:Int)=Int.tdiv (sc a b c) v*v/\0<=Int.tdiv (sc a b c) v/\Int.tdiv (sc a b c) v<=sc a b c:=by
 unfold sc;generalize 2^(max a b+c)=x;rw[Int.tdiv_eq_ediv_of_nonneg (by omega)];rcases h with rfl|rfl<;>omega
theorem Rc {p x m:Int} {P:Int} (hp:0<=p/\p<=P) (hx: -m<=x/\x<=m) (hm:0<=m): -(P*m)<=p*x/\p*x<=P*m:=by
 have h1:p*x<=p*m:=Int.mul_le_mul_of_nonneg_left hx.2 hp.1;have h2:p* -m<=p*x:=Int.mul_le_mul_of_nonneg_left hx.1 hp.1;have h3:p*m<=P*m:=Int.mul_le_mul_of_nonneg_right hp.2 hm;rw[Int.mul_neg]at h2;omega
theorem Zn6 {a b c:Nat} (ha:a<=4) (hb:b<=4) (hc:c<=4) {hd hf:List Int} {E:List (Int×Int)} {m:Int} (hm:0<=m) (h1: ∀i,-m<=at0 hd i/\at0 hd i<=m) (h2: ∀i,-m<=at0 hf i/\at0 hf i<=m) (j:Nat): -(23040*m)<=tF a b c hd hf E j/\tF a b c hd hf E j<=23040*m:=by
 unfold tF;have s1:=Rb ha hb hc;have s2:=Ge a b c;have s3:=Bb a b c;have x1:=h1 (E.getD j (0,0)).1.toNat;have x2:=h1 (E.getD j (0,0)).2.toNat;have m1:=Rc (p:=(sc a b c:Int)-scA a b c) (P:=7680) (by omega) (h2 j) hm;have m2:=Rc (p:=(scB a b c:Int)) (P:=7680) (x:=at0 hd (E.getD j (0,0)).1.toNat-at0 hd (E.getD j (0,0)).2.toNat) (m:=2*m) (by omega) (by omega) (by omega);omega
theorem Zn7 {a b c:Nat} (ha:a<=4) (hb:b<=4) (hc:c<=4) {n:Nat} (hn:n=1\/n=2) {br hd hf:List Int} {m:Int} (hm:0<=m) (h1: ∀i,-m<=at0 hd i/\at0 hd i<=m) (h2: ∀i,-m<=at0 hf i/\at0 hf i<=m) {j:Nat} (hj:j<(edg n).length):
  -(23040*m)<=tAm a b c (Yr (Zf n).length (edg n)) br hd hf (edg n) j/\tAm a b c (Yr (Zf n).length (edg n)) br hd hf (edg n) j<=23040*m:=by
 have hin:=Nl (La hn) _ (Zts hj);have s1:=Rb ha hb hc;have q1:=Zgz a b c (J6 hn (k:=(edg n)[j].1.toNat) (by omega));have q2:=Zgz a b c (J6 hn (k:=(edg n)[j].2.toNat) (by omega));have m1:=Rc (P:=7680) ⟨q1.2.1,by omega⟩ (h1 (edg n)[j].1.toNat) hm;have m2:=Rc (P:=7680) ⟨q2.2.1,by omega⟩ (h1 (edg n)[j].2.toNat) hm;have m3:=Zn6 ha hb hc (E:=edg n) hm h1 h2 j;have e3:tG a b hd hf (edg n) j=shr (tF a b c hd hf (edg n) j) c:=by rw[Zn3,Ld]
 have m4:=Zse c (m:=23040*m) (by omega) m3;have m5: -(23040*m)<=tG a b hd hf (edg n) j:=by
  have h0:tG a b hd hf (edg n) j*2^c=tF a b c hd hf (edg n) j:=(Zn3 ..).symm;have hp:(1:Int)<=2^c:=by
   have:=Nat.pow_pos (n:=c) (show 0<2 by omega);have e:=Le c;omega
  by_cases hneg:tG a b hd hf (edg n) j<0
  ·have:tG a b hd hf (edg n) j*2^c<=tG a b hd hf (edg n) j*1:=Int.mul_le_mul_of_nonpos_left (by omega) hp;omega
  ·omega
 unfold tAm;rw[Qo _ hj];split
 ·omega
 ·split
  ·omega
  ·rw[e3]at m5⊢;omega
section
variable (fu d:Nat) (hf:18446744073709551616<=fu)
theorem Zg0 (v lo hi:Int):cl fu (d+1) fn_tangent_within [I v,I lo,I hi] []=OK (B (decide (lo<=v)&&decide (v<=hi))):=by
 rw[eq_tangent_within];by_cases h:lo<=v
 ·simp(disch:=omega)only[Zd,QM,QD]
 ·simp(disch:=omega)only[Zd,QM,QD]
theorem B3 (v:Int) (m:Nat) (hm:m<=1000000000000000000):cl fu (d+2) fn_tangent_outside_1 [I v,V.c (C.cp [C.v (.int .i64 (m:Int))])] []=OK (B (!(decide (-(m:Int)<=v)&&decide (v<=(m:Int))))):=by
 have e:=Zg0 fu d v (-(m:Int)) m;have w0:IntKind.i64.wrap (0-(m:Int))= -(m:Int):=by rw[Xv (by omega) (by omega)];omega
 generalize (decide (-(m:Int)<=v)&&decide (v<=(m:Int)))=b at*
 rw[eq_tangent_outside_1];simp only[Zd,QM,w0,e]
include hf
theorem Vm (l:List Int) (hl:l.length<=1000000) (m:Nat) (hm:m<=1000000000000000000):cl fu (d+5) fn_tangent_outside [V.c (C.sl l.length (ints l)),I (m:Int)] []=OK (B (Tj (-(m:Int)) m l)):=by
 have h1:=λv=>B3 fu d v m hm;rw[eq_tangent_outside,eq1_slices_ContainsFunc_sint_int,eq1_slices_IndexFunc_sint_int];rcases R4 (λj=> ∃h:j<l.length,(!(decide (-(m:Int)<=l[j])&&decide (l[j]<=(m:Int))))=true) l.length with hn|⟨k,hk,⟨hk2,hb⟩,hn⟩
 ·have hall:Tj (-(m:Int)) m l=false:=by
   unfold Tj;rw[Zuy];intro v hv;obtain⟨j,hj,rfl⟩:=List.getElem_of_mem hv;exact λe=>hn j hj ⟨hj,e⟩
  rw[hall,Zs (λj:Nat=>((0:Int),(j:Int),())) 0 ((0:Int),((l.length:Nat):Int),()) l.length ?_ ?_ ?_ (by omega)]
  ·simp(disch:=omega)only[Zd,QM,QD]
  ·rfl
  ·intro j hj;have hia:=ints_at l hj;have hv:=hn j hj;have hv:(!(decide (-(m:Int)<=l[j])&&decide (l[j]<=(m:Int))))=false:=by
    cases e:(!(decide (-(m:Int)<=l[j])&&decide (l[j]<=(m:Int))))
    ·rfl
    ·exact absurd ⟨hj,e⟩ hv
   have h1:=h1 l[j];rw[hv]at h1;simp(disch:=omega)only[Zd,QM,QD,Zsv,Zs4,hia,h1];rfl
  ·simp(disch:=omega)only[Zd,QM,QD]
 ·have hall:Tj (-(m:Int)) m l=true:=by
   unfold Tj;rw[List.any_eq_true];exact⟨l[k],Zts hk2,hb⟩
  rw[hall,Zs (λj:Nat=>((0:Int),(j:Int),())) 1 ((k:Int),(k:Int),()) k ?_ ?_ ?_ (by omega)]
  ·simp(disch:=omega)only[Zd,QM,QD]
  ·rfl
  ·intro j hj;have hjl:j<l.length:=by omega
   have hia:=ints_at l hjl;have hv:=hn j hj;have hv:(!(decide (-(m:Int)<=l[j])&&decide (l[j]<=(m:Int))))=false:=by
    cases e:(!(decide (-(m:Int)<=l[j])&&decide (l[j]<=(m:Int))))
    ·rfl
    ·exact absurd ⟨hjl,e⟩ hv
   have h1:=h1 l[j];rw[hv]at h1;simp(disch:=omega)only[Zd,QM,QD,Zsv,Zs4,hia,h1];rfl
  ·have hia:=ints_at l hk2;have h1:=h1 l[k];rw[hb]at h1;simp(disch:=omega)only[Zd,QM,QD,Zsv,Zs4,hia,h1]
theorem Zkr {bs:List Int} (hb:bytes bs) {i:Nat} (hi:i<=1000) (n:Nat) (h:Yb n) (most:Nat) (hm:most<=10000000000000) (top:Int) (ht:(most:Int)<=top/\9<=top):
  ∃(hd hf:List Int) (j:Nat),hd.length=(Zf n).length/\hf.length=(edg n).length/\wid (-top) top hd/\wid (-top) top hf/\j<=1000/\cl fu (d+10) fn_synopticfield_Codes_Change [V.ptr 1000000 0,I n,I most] [Xe bs i]=some ⟨V.agg [C.sl hd.length (ints hd),C.sl hf.length (ints hf)],[Xe bs j],none⟩:=by
 have hE:=J2 fu d hf n h;have heL:=Vh h;have hNl:=Xz h;have hN22:=Zgr fu (d+8) n h;obtain⟨l1,j1,hl1,hw1,hj1,e1⟩:=Wm fu (d+5) hf hb hi (Zf n).length most (by omega) hm top ht;obtain⟨l2,j2,hl2,hw2,hj2,e2⟩:=Wm fu (d+5) hf hb hj1 (edg n).length most (by omega) hm top ht;refine⟨l1,l2,j2,hl1,hl2,hw1,hw2,hj2, ?_⟩;unfold Xe at*
 generalize edg n=E at*
 generalize (Zf n).length=N at*
 rw[eq_synopticfield_Codes_Change,hE];simp(disch:=omega)only[Zd,QM,QD,hN22,e1,e2,Zss,Zsy,Zst,Nat.reduceAdd]
theorem Wq {bs:List Int} (hb:bytes bs) {i:Nat} (hi:i<=1000) (n:Nat) (h:Yb n):
  ∃(br:List Int) (j:Nat),br.length=(edg n).length/\wid (-1) 1 br/\j<=1000/\cl fu (d+10) fn_synopticfield_Codes_Branch [V.ptr 1000000 0,I n] [Xe bs i]=some ⟨V.c (C.sl br.length (ints br)),[Xe bs j],none⟩:=by
 have hE:=J2 fu d hf n h;have heL:=Vh h;have hN:=λ(i:Nat) (hi:i<=1000)=>Tr fu (d+7) hb hi 5 (by omega);unfold Xe at*
 generalize edg n=E at*
 rw[eq_synopticfield_Codes_Branch,hE];simp(disch:=omega)only[Zd,QM,QD,Zss,Zsy,Zst,Nat.reduceAdd];refine Us (A:=List C×Int×(C×Int×Unit)×Unit) (B:=Out) (fu:=fu) (λo=> ∃(l:List Int) (j:Nat),l.length=E.length/\wid (-1) 1 l/\j<=1000/\o=some ⟨V.c (C.sl l.length (ints l)),[Xe bs j],none⟩)
  (λy=> ∃(l:List Int) (j:Nat),l.length<=E.length/\wid (-1) 1 l/\j<=1000/\y=(ints l,((l.length:Nat):Int),(C.sl bs.length (ik .u8 bs),(j:Int),()),())) (λy=>E.length-y.2.1.toNat)
  (λe y=>e=0/\ ∃(l:List Int) (j:Nat),l.length=E.length/\wid (-1) 1 l/\j<=1000/\y=(ints l,((l.length:Nat):Int),(C.sl bs.length (ik .u8 bs),(j:Int),()),())) ?_ ?_ ?_ ?_
 ·exact⟨[],i,by simp,(by intro v hv;cases hv),hi,rfl⟩
 ·show E.length-_<fu;omega
 ·rintro y ⟨l,j,hl,hw,hj,rfl⟩
  by_cases hlt:l.length<E.length
  ·obtain⟨v,k,hv,hk,e5⟩:=hN j hj;replace e5:cl fu (d+9) fn_synopticfield_Codes_Next [V.ptr 1000000 0,I 5] _=_:=e5;obtain⟨x,r,hx,hdr⟩: ∃(x:Int) (r:List C),(-1<=x/\x<=1)/\List.drop v [C.v (.int .i64 0),C.v (.int .i64 0),C.v (.int .i64 0),C.v (.int .i64 1),C.v (.int .i64 (-1))]=C.v (.int .i64 x)::r:=by
    rcases(show v=0\/v=1\/v=2\/v=3\/v=4 by omega)with rfl|rfl|rfl|rfl|rfl
    ·exact⟨0,_,by omega,rfl⟩
    ·exact⟨0,_,by omega,rfl⟩
    ·exact⟨0,_,by omega,rfl⟩
    ·exact⟨1,_,by omega,rfl⟩
    ·exact⟨-1,_,by omega,rfl⟩
   refine .inl ⟨(ints (l++[x]),(((l++[x]).length:Nat):Int),(C.sl bs.length (ik .u8 bs),(k:Int),()),()), ?_,⟨l++[x],k,by simp;omega,Zek hw hx,hk,rfl⟩, ?_⟩
   ·simp(disch:=omega)only[Zd,QM,QD,e5,Zss,Zsy,Zst,Nat.reduceAdd,Zsv,Zs4,hdr,Zg,Ztk,Qv,Zsz,Ztn,Zuc]
   ·show E.length-(((l++[x]).length:Nat):Int).toNat<E.length-((l.length:Nat):Int).toNat;rw[Zsz,List.length_singleton];omega
  ·refine .inr ⟨0,(ints l,((l.length:Nat):Int),(C.sl bs.length (ik .u8 bs),(j:Int),()),()), ?_,rfl,l,j,by omega,hw,hj,rfl⟩;simp(disch:=omega)only[Zd,QM,QD,Zg,Ztk,Zs4]
 ·rintro e z ⟨rfl,l,j,hl,hw,hj,rfl⟩
  refine⟨l,j,hl,hw,hj, ?_⟩;have htk:List.take l.length (ints l)=ints l:=Zs1 (by rw[Zg];exact Zs2 _);simp(disch:=omega)only[Zd,QM,QD,Zg,Ztk,Zs4,Zst,htk]
theorem J7 (a b c:Nat) (ha:1<=a/\a<=4) (hb:1<=b/\b<=4) (hc:1<=c/\c<=4):cl fu (d+7) fn_tangent_Scale [V.agg [C.v (.int .i64 (a:Int)),C.v (.int .i64 (b:Int)),C.v (.int .i64 (c:Int))]] []=OK (V.tup [I (sc a b c:Int),I 0]):=by
 have e1:=C9 fu d hf a b c ha hb hc;have hs:=Rb ha.2 hb.2 hc.2;have em:(if(b:Int)>(a:Int)then(b:Int)else(a:Int))=((max a b:Nat):Int):=by split<;>omega
 have hw:IntKind.i64.wrap (((max a b:Nat):Int)+(c:Int))=((max a b+c:Nat):Int):=by rw[Xv (by omega) (by omega)];rfl
 have hmin:min (max a b+c) (IntKind.bits .i64)=max a b+c:=by show min _ 64=_;omega
 have hsc:(30:Int)*2^(max a b+c)=(sc a b c:Int):=by unfold sc;rw[Zu5,Le];rfl
 rw[eq_tangent_Scale];simp(disch:=omega)only[Zd,QM,QD,e1,em,hw,Zsv,hmin,hsc]
theorem Wr (n:Nat) (h:Yb n) (br hd hfl:List Int) (l1:br.length=(edg n).length) (l2:hd.length=(Zf n).length) (l3:hfl.length=(edg n).length) (w1:wid (-1) 1 br) (w2:wid (-1099511627776) 1099511627776 hd) (w3:wid (-1099511627776) 1099511627776 hfl):
  cl fu (d+10) fn_tangent_Check [I n,V.c (C.sl br.length (ints br)),V.agg [C.sl hd.length (ints hd),C.sl hfl.length (ints hfl)]] []=OK (I 0):=by
 have hNl:=Xz h;have heL:=Vh h;have e1:=Qf fu d hf n h;have e2:=Tt fu (d+7) n h;have e3:=Vm fu (d+4) hf br (by omega) 1 (by omega);have e4:=Vm fu (d+4) hf hd (by omega) 1099511627776 (by omega);have e5:=Vm fu (d+4) hf hfl (by omega) 1099511627776 (by omega);replace e3:cl fu (d+9) fn_tangent_outside [V.c (C.sl br.length (ints br)),I 1] []=OK (B (Tj (-1) 1 br)):=e3;replace e4:cl fu (d+9) fn_tangent_outside [V.c (C.sl hd.length (ints hd)),I 1099511627776] []=OK (B (Tj (-1099511627776) 1099511627776 hd)):=e4;replace e5:cl fu (d+9) fn_tangent_outside [V.c (C.sl hfl.length (ints hfl)),I 1099511627776] []=OK (B (Tj (-1099511627776) 1099511627776 hfl)):=e5;rw[Qn.2 w1]at e3;rw[Qn.2 w2]at e4;rw[Qn.2 w3]at e5;generalize edg n=E at*
 generalize (Zf n).length=N at*
 rw[eq_tangent_Check];simp(disch:=omega)only[Zd,QM,QD,e1,e2,e3,e4,e5]
end
end Go.Proofs.YtjmempcalaliiaaGreatDoor
/- The linearised step: what Apply comes to. -/
namespace Go.Proofs.YtjmempcalaliiaaGreatDoor
open Go Go.PM Go.Grid
attribute [local congr] Zt Zu Zv Yd Zw Zx Ye Yf Yg Yh Zy Zz Yi Yx Yy Yz Y1 Y2 Y5 Y6 Y7 Y8 Y4 Z1 Z2 Y9 Z3 Z4 Zk Z5 Z0
theorem Zsh (a b c:Nat) (dg br hd hf:List Int) (E:List (Int×Int)) {j:Nat} (h:j<E.length):at0 (tAL a b c dg br hd hf E E.length) j=tAm a b c dg br hd hf E j:=V4 _ _ h
theorem Zn8 (a b c:Nat) (hd hf:List Int) (E:List (Int×Int)) (k:Nat):tFL a b c hd hf E (k+1)=tFL a b c hd hf E k++[tF a b c hd hf E k]:=by simp[tFL,Zus]
theorem Q9 {m:Int} {l:List Int} (h:wid (-m) m l) (hm:0<=m) (i:Nat): -m<=at0 l i/\at0 l i<=m:=Lc h (by omega) i
theorem Zrc (a b c:Nat):Int.fdiv (sc a b c:Int) (2^a)=scA a b c:=by rw[sc_aI];exact Ld _ _
theorem Zrd (a b c:Nat):Int.fdiv (sc a b c:Int) (2^b)=scB a b c:=by rw[Zrb];exact Ld _ _
theorem fdivC (a b c:Nat) (hd hf:List Int) (E:List (Int×Int)) (j:Nat):Int.fdiv (tF a b c hd hf E j) (2^c)=tG a b hd hf E j:=by rw[Zn3];exact Ld _ _
theorem Zn9 {a b c:Nat} (ha:a<=4) (hb:b<=4) (hc:c<=4) {n:Nat} (hn:n=1\/n=2) {br hd hf:List Int} {m:Int} (hm:0<=m) (h0:hd.length=(Zf n).length) (h1: ∀i,-m<=at0 hd i/\at0 hd i<=m) (h2: ∀i,-m<=at0 hf i/\at0 hf i<=m) (j k:Nat):
  -(145920*m)<=at0 (Ri (hd.map λx=>(sc a b c:Int)*x) (((edg n).zip (tAL a b c (Yr (Zf n).length (edg n)) br hd hf (edg n) (edg n).length)).take j)) k/\at0 (Ri (hd.map λx=>(sc a b c:Int)*x) (((edg n).zip (tAL a b c (Yr (Zf n).length (edg n)) br hd hf (edg n) (edg n).length)).take j)) k<=145920*m:=by
 have s1:=Rb ha hb hc;by_cases hk:k<(Zf n).length
 ·have e:=Zb0 (((edg n).zip (tAL a b c (Yr (Zf n).length (edg n)) br hd hf (edg n) (edg n).length)).take j) (hd.map λx=>(sc a b c:Int)*x) k (by rw[Zs8,h0];exact hk);have m0:=Zb2 (λx=>(sc a b c:Int)*x) (Zu1 _) hd k;have m1:=Rc (p:=(sc a b c:Int)) (P:=7680) (by omega) (h1 k) hm;have m2:=Zh6 (m:=23040*m) (by omega) k (((edg n).zip (tAL a b c (Yr (Zf n).length (edg n)) br hd hf (edg n) (edg n).length)).take j) (λp hp=>by
   have hp:=List.mem_of_mem_take hp;have hp2:=(List.of_mem_zip hp).2;unfold tAL at hp2;obtain⟨i,hi,hq⟩:=Zvc.1 hp2;rw[<-hq];exact Zn7 ha hb hc hn hm h1 h2 (Zun.1 hi))
  rw[Zb4 _ _ (Bc ..)]at m2;have m3:=Wp k (edg n) j;have m4:=Zb3 k ((edg n).take j);have m5:=Zn5 (edg n) hk;have m6:=J6 hn hk;have m7:23040*m*J5 ((edg n).take j) k<=23040*m*6:=Int.mul_le_mul_of_nonneg_left (by omega) (by omega);rw[e,m0];omega
 ·have:at0 (Ri (hd.map λx=>(sc a b c:Int)*x) (((edg n).zip (tAL a b c (Yr (Zf n).length (edg n)) br hd hf (edg n) (edg n).length)).take j)) k=0:=by
   unfold at0;rw[Zs6,Zu6 (by rw[Rw,Zs8,h0];omega)];rfl
  rw[this];omega
section
variable (fu d:Nat) (hfu:18446744073709551616<=fu)
include hfu
set_option maxHeartbeats 16000000 in
theorem Zks (n:Nat) (hn:n=1\/n=2) (a b c:Nat) (ha:1<=a/\a<=4) (hb:1<=b/\b<=4) (hc:1<=c/\c<=4) (br hd hf:List Int) (l1:br.length=(edg n).length) (l2:hd.length=(Zf n).length) (l3:hf.length=(edg n).length) (w1:wid (-1) 1 br) (M:Int) (hM:0<=M/\M<=1099511627776) (w2:wid (-M) M hd) (w3:wid (-M) M hf):
  cl fu (d+12) fn_tangent_Apply [V.agg [C.v (.int .i64 (a:Int)),C.v (.int .i64 (b:Int)),C.v (.int .i64 (c:Int))],I n,V.c (C.sl br.length (ints br)),V.agg [C.sl hd.length (ints hd),C.sl hf.length (ints hf)]] []=OK (V.tup [V.agg [C.sl hd.length (ints (tDL a b c (Yr (Zf n).length (edg n)) br hd hf (edg n))),C.sl (edg n).length (ints (tFL a b c hd hf (edg n) (edg n).length))],I 0]):=by
 have h:=La hn;have hNl:=Xz h;have heL:=Vh h;have e1:=J7 fu (d+4) hfu a b c ha hb hc;have e2:=Wr fu (d+1) hfu n h br hd hf l1 l2 l3 w1 (Qa w2 (by omega) (by omega)) (Qa w3 (by omega) (by omega));have e3:=C8 fu d n h;have e4:=Qf fu (d+2) hfu n h;have hin:=Nl h;have h1:=Q9 w2 hM.1;have h2:=Q9 w3 hM.1;have hway:=λj k=>Zn9 (br:=br) ha.2 hb.2 hc.2 hn hM.1 l2 h1 h2 j k;have hAb:=λ{j:Nat} (hj:j<(edg n).length)=>Zn7 (br:=br) ha.2 hb.2 hc.2 hn hM.1 h1 h2 hj;have hFb:=λj=>Zn6 ha.2 hb.2 hc.2 (E:=edg n) hM.1 h1 h2 j;have hd56:=λ{k:Nat} (hk:k<(Zf n).length)=>J6 hn hk;have hs1:=Rb ha.2 hb.2 hc.2;have hs2:=Ge a b c;have hs3:=Bb a b c;have hAL:=λ{j:Nat} (hj:j<(edg n).length)=>Zsh a b c (Yr (Zf n).length (edg n)) br hd hf (edg n) hj;have hAl:=Bc a b c (Yr (Zf n).length (edg n)) br hd hf (edg n) (edg n).length;have hdl:=Rx (Zf n).length (edg n);have hdiv:=λ{v:Int} (hv:v=5\/v=6)=>Zgz a b c hv;have fA:=Zrc a b c;have fB:=Zrd a b c;have fC:=λj=>fdivC a b c hd hf (edg n) j;have ma:min a (IntKind.bits .i64)=a:=by show min a 64=a;omega
 have mb:min b (IntKind.bits .i64)=b:=by show min b 64=b;omega
 have mc:min c (IntKind.bits .i64)=c:=by show min c 64=c;omega
 have hFl:=λk=>Kt a b c hd hf (edg n) k;have hFs:=λk=>Zn8 a b c hd hf (edg n) k;have hDl:(tDL a b c (Yr (Zf n).length (edg n)) br hd hf (edg n)).length=hd.length:=Ku ..;have hDD:tDL a b c (Yr (Zf n).length (edg n)) br hd hf (edg n)=Ri (hd.map λx=>(sc a b c:Int)*x) ((edg n).zip (tAL a b c (Yr (Zf n).length (edg n)) br hd hf (edg n) (edg n).length)):=rfl;have htF: ∀j,tF a b c hd hf (edg n) j=((sc a b c:Int)-scA a b c)*at0 hf j+(scB a b c:Int)*(at0 hd ((edg n).getD j (0,0)).1.toNat-at0 hd ((edg n).getD j (0,0)).2.toNat):=λj=>rfl;have htA: ∀j,tAm a b c (Yr (Zf n).length (edg n)) br hd hf (edg n) j=if at0 br j=1 then Int.tdiv (sc a b c) (at0 (Yr (Zf n).length (edg n)) ((edg n).getD j (0,0)).1.toNat)*at0 hd ((edg n).getD j (0,0)).1.toNat else if at0 br j= -1 then -(Int.tdiv (sc a b c) (at0 (Yr (Zf n).length (edg n)) ((edg n).getD j (0,0)).2.toNat)*at0 hd ((edg n).getD j (0,0)).2.toNat)else tG a b hd hf (edg n) j:=λj=>rfl
 rw[hDD];rw[hDD]at hDl;clear hDD;generalize tAL a b c (Yr (Zf n).length (edg n)) br hd hf (edg n) (edg n).length=AL at*
 generalize hdg:Yr (Zf n).length (edg n)=dg at*
 generalize hE:edg n=E at*
 generalize (Zf n).length=N at*
 have hML:=λP=>Rw P (hd.map λx=>(sc a b c:Int)*x);rw[eq_tangent_Apply];simp(disch:=omega)only[Zd,QM,QD,e1,e2,e3,e4];rw[Zs (λj:Nat=>(((j:Nat):Int),(C.nl,C.nl,()),(ints ((hd.take j).map λx=>(sc a b c:Int)*x),[],()),())) 0 (((hd.length:Nat):Int),(C.nl,C.nl,()),(ints (hd.map λx=>(sc a b c:Int)*x),[],()),()) hd.length ?_ ?_ ?_ (by omega)]
 rotate_left
 ·rfl
 ·intro j hj;have i1:=Yc hd hj;have b1:=Rc (p:=(sc a b c:Int)) (P:=7680) (by omega) (h1 j) hM.1;have hsn:ints ((hd.take j).map λx=>(sc a b c:Int)*x)++[C.v (.int .i64 ((sc a b c:Int)*at0 hd j))]=ints ((hd.take (j+1)).map λx=>(sc a b c:Int)*x):=by
   rw[Ztp hj,Zur,Qv,Rv hj];rfl
  generalize hz:(sc a b c:Int)*at0 hd j=z at*
  have hlt:((hd.take j).map λx=>(sc a b c:Int)*x).length=j:=by rw[Zs8,Ztl];omega
  have hlt1:((hd.take (j+1)).map λx=>(sc a b c:Int)*x).length=j+1:=by rw[Zs8,Ztl];omega
  simp(disch:=omega)only[Zd,QM,QD,Zsv,Zs4,i1];rw[hz];simp(disch:=omega)only[Zd,QM,QD,Zg,hlt,hlt1,Ztk,Zs4,hsn,Zsz,Zss,Zsy,Zst];rfl
 ·rw[Zt5];simp(disch:=omega)only[Zd,QM,QD,Zg,Zs8,Ztk,Zs4,Zsy]
 have hl0:(hd.map λx=>(sc a b c:Int)*x).length=hd.length:=Zs8 ..;simp(disch:=omega)only[Zd,QM,QD,Zg,hl0,Ztk,Zs4,Zsy];rw[Zs (λj:Nat=>(((j:Nat):Int),(C.nl,C.nl,()),(ints (Ri (hd.map λx=>(sc a b c:Int)*x) ((E.zip AL).take j)),ints (tFL a b c hd hf E j),()),())) 0 (((E.length:Nat):Int),(C.nl,C.nl,()),(ints (Ri (hd.map λx=>(sc a b c:Int)*x) (E.zip AL)),ints (tFL a b c hd hf E E.length),()),()) E.length ?_ ?_ ?_ (by omega)]
 ·have htk1:List.take hd.length (ints (Ri (hd.map λx=>(sc a b c:Int)*x) (E.zip AL)))=ints (Ri (hd.map λx=>(sc a b c:Int)*x) (E.zip AL)):=Zs1 (by rw[Zg,hDl];exact Zs2 _);have htk2:List.take E.length (ints (tFL a b c hd hf E E.length))=ints (tFL a b c hd hf E E.length):=Zs1 (by rw[Zg,hFl];exact Zs2 _);simp(disch:=omega)only[Zd,QM,QD,Zg,hDl,hFl,Ztk,Zs4,Zst,htk1,htk2]
 ·rfl
 ·intro j hj;have hz:j<(E.zip AL).length:=by rw[List.length_zip];omega
  have hin:=hin E[j] (Zts hj);have hjf:j<hf.length:=by omega
  have hjb:j<br.length:=by omega
  have i3:=Yc hf hjf;have i4:=Yc br hjb;have bj:=Lc w1 (by omega) j;have hst:Ri (hd.map λx=>(sc a b c:Int)*x) ((E.zip AL).take (j+1))=mv1 (Ri (hd.map λx=>(sc a b c:Int)*x) ((E.zip AL).take j)) E[j] (-(AL[j]'(by omega))) (AL[j]'(by omega)):=by rw[Ztp hz,Zko,List.getElem_zip]
  have hALj:=hAL hj;rw[Rv (by omega:j<AL.length)]at hALj;rw[hALj]at hst;have hAb:=hAb hj;have hFb:=hFb j;have htF:=htF j;have htA:=htA j;have hFs:=hFs j;have hFlj:=hFl j;have fC:=fC j;rw[Qo E hj]at htF htA;have hway:=hway j;have hD:=hML ((E.zip AL).take j);rw[hst,hFs];generalize tFL a b c hd hf E j=FL at*
  generalize Ri (hd.map λx=>(sc a b c:Int)*x) ((E.zip AL).take j)=D at*
  generalize hee:E[j]=e at*
  obtain⟨ea,eb⟩:=e;simp only at hin htF htA;obtain⟨x,rfl⟩: ∃x:Nat,ea=x:=⟨ea.toNat,by omega⟩;obtain⟨y,rfl⟩: ∃y:Nat,eb=y:=⟨eb.toNat,by omega⟩;rw[Zsv,Zsv]at htF htA;have hea:=Ju Xk hj;rw[hee,show edC ((x:Int),(y:Int))=[C.v (.int .i64 (x:Int)),C.v (.int .i64 (y:Int))] from rfl]at hea;have i5:=Yc hd (i:=x) (by omega);have i6:=Yc hd (i:=y) (by omega);have i7:=Yc dg (i:=x) (by omega);have i8:=Yc dg (i:=y) (by omega);have bx:=h1 x;have by':=h1 y;have bf:=h2 j;have dx:=hd56 (k:=x) (by omega);have dy:=hd56 (k:=y) (by omega);have qx:=hdiv dx;have qy:=hdiv dy;have p1:=Rc (p:=(sc a b c:Int)-scA a b c) (P:=7680) (by omega) bf hM.1;have p2:=Rc (p:=(scB a b c:Int)) (P:=7680) (x:=at0 hd x-at0 hd y) (m:=2*M) (by omega) (by omega) (by omega);have p3:=Rc (P:=7680) ⟨qx.2.1,by omega⟩ bx hM.1;have p4:=Rc (P:=7680) ⟨qy.2.1,by omega⟩ by' hM.1;have d1:=Yc D (i:=x) (by omega);have hm:mv1 D ((x:Int),(y:Int)) (-(tAm a b c dg br hd hf E j)) (tAm a b c dg br hd hf E j)=V3 (V3 D x (-(tAm a b c dg br hd hf E j))) y (tAm a b c dg br hd hf E j):=by unfold mv1;rw[Zsv,Zsv]
  rw[hm];generalize tAm a b c dg br hd hf E j=A at*
  generalize tF a b c hd hf E j=F at*
  generalize tG a b hd hf E j=G at*
  have b1:=hway x;have b2:=hway y;have pb1:=Lb D (i:=x) (by omega) (-A);have hB:=U7 D x (-A);have hBa:=J3 D x (-A) y;have b3: -(145920*M)-23040*M<=at0 (V3 D x (-A)) y/\at0 (V3 D x (-A)) y<=145920*M+23040*M:=by
   split at hBa<;>omega
  generalize V3 D x (-A)=D1 at*
  have d2:=Yc D1 (i:=y) (by omega);have pb2:=Lb D1 (i:=y) (by omega) A;have hB2:=U7 D1 y A;generalize V3 D1 y A=D2 at*
  have e0:at0 D x-A=at0 D x+ -A:=by omega
  generalize hP1:((sc a b c:Int)-scA a b c)*at0 hf j=P1 at*
  generalize hP2:(scB a b c:Int)*(at0 hd x-at0 hd y)=P2 at*
  generalize hQx:Int.tdiv (sc a b c:Int) (at0 dg x)*at0 hd x=Qx at*
  generalize hQy:Int.tdiv (sc a b c:Int) (at0 dg y)*at0 hd y=Qy at*
  rcases(show at0 br j=1\/at0 br j= -1\/at0 br j=0 by omega)with q|q|q
  ·rw[q]at htA i4;rw[if_pos rfl]at htA;subst htA;simp(disch:=omega)only[Zd,QM,QD,Zto,Ztr,Zsv,Zs4,Ztk,Zst,hea,i3,i5,i6,fA,fB,ma,mb,mc,hP1,hP2,<-htF,i4,i7,i8,hQx,hQy,fC,Zg,hD,hl0,hFlj,d1,e0,pb1,hB,d2,pb2,hB2,Qv,Zsz,Zss,Zsy];rfl
  ·rw[q]at htA i4;rw[if_neg (by decide),if_pos rfl]at htA;have n0:0-Qy=A:=by omega
   simp(disch:=omega)only[Zd,QM,QD,Zto,Ztr,Zsv,Zs4,Ztk,Zst,hea,i3,i5,i6,fA,fB,ma,mb,mc,hP1,hP2,<-htF,i4,i7,i8,hQx,hQy,fC,Zg,hD,hl0,hFlj,d1,e0,pb1,hB,d2,pb2,hB2,Qv,Zsz,Zss,Zsy,n0];rfl
  ·rw[q]at htA i4;rw[if_neg (by decide),if_neg (by decide)]at htA;subst htA;simp(disch:=omega)only[Zd,QM,QD,Zto,Ztr,Zsv,Zs4,Ztk,Zst,hea,i3,i5,i6,fA,fB,ma,mb,mc,hP1,hP2,<-htF,i4,i7,i8,hQx,hQy,fC,Zg,hD,hl0,hFlj,d1,e0,pb1,hB,d2,pb2,hB2,Qv,Zsz,Zss,Zsy];rfl
 ·rw[Zs1 (l:=E.zip AL) (by rw[List.length_zip];omega)];simp(disch:=omega)only[Zd,QM,QD,Zg,hDl,hFl,Ztk,Zs4]
end
end Go.Proofs.YtjmempcalaliiaaGreatDoor
/- TangentLinear answers true. -/
namespace Go.Proofs.YtjmempcalaliiaaGreatDoor
open Go Go.PM Go.Grid
attribute [local congr] Zt Zu Zv Yd Zw Zx Ye Yf Yg Yh Zy Zz Yi Yx Yy Yz Y1 Y2 Y5 Y6 Y7 Y8 Y4 Z1 Z2 Y9 Z3 Z4 Zk Z5 Z0
theorem Zh7 {a b c:Nat} (ha:a<=4) (hb:b<=4) (hc:c<=4) {n:Nat} (hn:n=1\/n=2) {br hd hf:List Int} {m:Int} (hm:0<=m) (h0:hd.length=(Zf n).length) (h1: ∀i,-m<=at0 hd i/\at0 hd i<=m) (h2: ∀i,-m<=at0 hf i/\at0 hf i<=m):wid (-(145920*m)) (145920*m) (tDL a b c (Yr (Zf n).length (edg n)) br hd hf (edg n)):=J4 λk _=>by
 have:=Zn9 (br:=br) ha hb hc hn hm h0 h1 h2 ((edg n).zip (tAL a b c (Yr (Zf n).length (edg n)) br hd hf (edg n) (edg n).length)).length k;rw[Zt5]at this;exact this
theorem Zh8 {a b c:Nat} (ha:a<=4) (hb:b<=4) (hc:c<=4) {hd hf:List Int} {E:List (Int×Int)} {m:Int} (hm:0<=m) (h1: ∀i,-m<=at0 hd i/\at0 hd i<=m) (h2: ∀i,-m<=at0 hf i/\at0 hf i<=m) (k:Nat):wid (-(23040*m)) (23040*m) (tFL a b c hd hf E k):=λv hv=>by
 unfold tFL at hv;obtain⟨j,_,rfl⟩:=Zvc.1 hv;exact Zn6 ha hb hc hm h1 h2 j
section
variable (fu d:Nat) (hfu:18446744073709551616<=fu)
include hfu
end
end Go.Proofs.YtjmempcalaliiaaGreatDoor
/- Both programs' checks, at any numbers. -/
namespace Go.Proofs.YtjmempcalaliiaaGreatDoor
open Go Go.PM Go.Grid
attribute [local congr] Zt Zu Zv Yd Zw Zx Ye Yf Yg Yh Zy Zz Yi Yx Yy Yz Y1 Y2 Y5 Y6 Y7 Y8 Y4 Z1 Z2 Y9 Z3 Z4 Zk Z5 Z0
section
variable (fu d:Nat) (hf:18446744073709551616<=fu)
include hf
omit hf in
theorem Zer (n:Int) (h:n<1\/8<n):cl fu (d+1) fn_mesh_Frequency [I n] []=OK (B false):=by
 rw[eq_mesh_Frequency];rcases h with h|h
 ·simp(disch:=omega)only[Zd,QM,QD]
 ·simp(disch:=omega)only[Zd,QM,QD]
omit hf in
theorem J8 (n:Int) (h:n<1\/8<n):cl fu (d+2) fn_grid_Edges [I n] []=OK (V.tup [V.c C.nl,I 1]):=by
 have e:=Zer fu d n h;rw[eq_grid_Edges,e];simp(disch:=omega)only[Zd,QM,QD]
end
end Go.Proofs.YtjmempcalaliiaaGreatDoor
/- Shifted states, clipped flows, and the step of a changed state. -/
namespace Go.Proofs.YtjmempcalaliiaaGreatDoor
open Go Go.PM Go.Grid
attribute [local congr] Zt Zu Zv Yd Zw Zx Ye Yf Yg Yh Zy Zz Yi Yx Yy Yz Y1 Y2 Y5 Y6 Y7 Y8 Y4 Z1 Z2 Y9 Z3 Z4 Zk Z5 Z0
section
variable (fu d:Nat) (hfu:18446744073709551616<=fu)
include hfu
end
end Go.Proofs.YtjmempcalaliiaaGreatDoor
/- The scale and the check of linearised steps, at any numbers, in both programs. -/
namespace Go.Proofs.YtjmempcalaliiaaGreatDoor
open Go Go.PM Go.Grid
attribute [local congr] Zt Zu Zv Yd Zw Zx Ye Yf Yg Yh Zy Zz Yi Yx Yy Yz Y1 Y2 Y5 Y6 Y7 Y8 Y4 Z1 Z2 Y9 Z3 Z4 Zk Z5 Z0
def isCh (n:Int) (br hd hf:List Int):Prop:= ∃m:Nat,n=m/\Yb m/\hd.length=(Zf m).length/\hf.length=(edg m).length/\br.length=(edg m).length/\wid (-1) 1 br/\wid (-1099511627776) 1099511627776 hd/\wid (-1099511627776) 1099511627776 hf
section
variable (fu d:Nat) (hf:18446744073709551616<=fu)
include hf
set_option maxHeartbeats 1000000 in
theorem Zg1 (n:Int) (br:List Int) {c1 c2:C} {dp fw:List Int} (h1:isL c1 dp) (h2:isL c2 fw) (l0:br.length<=1000000) (l1:dp.length<=1000000) (l2:fw.length<=1000000):
  (isCh n br dp fw->cl fu (d+10) fn_tangent_Check [I n,V.c (C.sl br.length (ints br)),V.agg [c1,c2]] []=OK (I 0))/\(¬isCh n br dp fw->cl fu (d+10) fn_tangent_Check [I n,V.c (C.sl br.length (ints br)),V.agg [c1,c2]] []=OK (I 1)):=by
 have o0:=Vm fu (d+4) hf br l0 1 (by omega);have o1:=Vm fu (d+4) hf dp l1 1099511627776 (by omega);have o2:=Vm fu (d+4) hf fw l2 1099511627776 (by omega);replace o0:cl fu (d+9) fn_tangent_outside [V.c (C.sl br.length (ints br)),I 1] []=OK (B (Tj (-1) 1 br)):=o0;replace o1:cl fu (d+9) fn_tangent_outside [V.c (C.sl dp.length (ints dp)),I 1099511627776] []=OK (B (Tj (-1099511627776) 1099511627776 dp)):=o1;replace o2:cl fu (d+9) fn_tangent_outside [V.c (C.sl fw.length (ints fw)),I 1099511627776] []=OK (B (Tj (-1099511627776) 1099511627776 fw)):=o2;by_cases hn:1<=n/\n<=8
 ·obtain⟨m,rfl⟩: ∃m:Nat,n=m:=⟨n.toNat,by omega⟩;have h:Yb m:=by unfold Yb;omega
  have heL:=Vh h;have hNl:=Xz h;have e1:=Qf fu d hf m h;have e2:=Tt fu (d+7) m h;have key:cl fu (d+10) fn_tangent_Check [I m,V.c (C.sl br.length (ints br)),V.agg [c1,c2]] []=OK (I (if dp.length=(Zf m).length/\fw.length=(edg m).length/\br.length=(edg m).length/\Tj (-1) 1 br=false/\Tj (-1099511627776) 1099511627776 dp=false/\Tj (-1099511627776) 1099511627776 fw=false then 0 else 1)):=by
   generalize edg m=E at*
   generalize (Zf m).length=N at*
   rw[eq_tangent_Check];have n1:=h1.1;have n2:=h2.1;have s1:=λ{R:Type} (k:Nat->List C->Option R)=>h1.2 k;have s2:=λ{R:Type} (k:Nat->List C->Option R)=>h2.2 k;simp(disch:=omega)only[Zd,QM,QD,e1];rw[s1];simp(disch:=omega)only[Zd,QM,QD,e2];by_cases q1:dp.length=N
   ·simp(disch:=omega)only[Zd,QM,QD];rw[s2];simp(disch:=omega)only[Zd,QM,QD];by_cases q2:fw.length=E.length
    ·simp(disch:=omega)only[Zd,QM,QD];by_cases q5:br.length=E.length
     ·simp(disch:=omega)only[Zd,QM,QD,o0];cases q6:Tj (-1) 1 br with
      |true=>
       rw[if_neg (λq=>by cases q.2.2.2.1)];simp(disch:=omega)only[Zd,QM,QD]
      |false=>
       simp(disch:=omega)only[Zd,QM,QD,n1,o1];cases q3:Tj (-1099511627776) 1099511627776 dp with
       |true=>
        rw[if_neg (λq=>by cases q.2.2.2.2.1)];simp(disch:=omega)only[Zd,QM,QD]
       |false=>
        simp(disch:=omega)only[Zd,QM,QD,n2,o2];cases q4:Tj (-1099511627776) 1099511627776 fw with
        |true=>
         rw[if_neg (λq=>by cases q.2.2.2.2.2)];simp(disch:=omega)only[Zd,QM,QD]
        |false=>
         rw[if_pos ⟨q1,q2,q5,by simp,by simp,by simp⟩];simp(disch:=omega)only[Zd,QM,QD]
     ·rw[if_neg (λq=>q5 q.2.2.1)];simp(disch:=omega)only[Zd,QM,QD]
    ·rw[if_neg (λq=>q2 q.2.1)];simp(disch:=omega)only[Zd,QM,QD]
   ·rw[if_neg (λq=>q1 q.1)];simp(disch:=omega)only[Zd,QM,QD]
  constructor
  ·rintro ⟨k,hk,hfk,v1,v2,v3,v4,v5,v6⟩
   obtain rfl:m=k:=by omega
   rw[key,if_pos ⟨v1,v2,v3,Qn.2 v4,Qn.2 v5,Qn.2 v6⟩]
  ·intro hb;rw[key,if_neg (λq=>hb ⟨m,rfl,h,q.1,q.2.1,q.2.2.1,Qn.1 q.2.2.2.1,Qn.1 q.2.2.2.2.1,Qn.1 q.2.2.2.2.2⟩)]
 ·have e1:=J8 fu (d+7) n (by omega);refine⟨λ⟨m,hm,hfm,_⟩=>absurd (by unfold Yb at hfm;omega) hn,λ_=> ?_⟩;rw[eq_tangent_Check];simp(disch:=omega)only[Zd,QM,QD,e1]
end
end Go.Proofs.YtjmempcalaliiaaGreatDoor
/- The transposed step, in both programs. -/
namespace Go.Proofs.YtjmempcalaliiaaGreatDoor
open Go Go.PM Go.Grid
attribute [local congr] Zt Zu Zv Yd Zw Zx Ye Yf Yg Yh Zy Zz Yi Yx Yy Yz Y1 Y2 Y5 Y6 Y7 Y8 Y4 Z1 Z2 Y9 Z3 Z4 Zk Z5 Z0
def aFl (a b c:Nat) (br m f:Int):Int:=if br=0 then IntKind.i64.wrap (IntKind.i64.wrap (((sc a b c:Int)-scA a b c)*f)+IntKind.i64.wrap (Int.fdiv ((sc a b c:Int)-scA a b c) (2^c)*m))else IntKind.i64.wrap (((sc a b c:Int)-scA a b c)*f)
def aZ (a b c:Nat) (br m f:Int):Int:=if br=0 then IntKind.i64.wrap (IntKind.i64.wrap ((scB a b c:Int)*f)+IntKind.i64.wrap ((tr a b:Int)*m))else IntKind.i64.wrap ((scB a b c:Int)*f)
def aD1 (s:Int) (dg:List Int) (br m:Int) (x y:Nat) (D:List Int):List Int:=if br=1 then D.set x (IntKind.i64.wrap (at0 D x+IntKind.i64.wrap (Int.tdiv s (at0 dg x)*m)))else if br= -1 then D.set y (IntKind.i64.wrap (at0 D y-IntKind.i64.wrap (Int.tdiv s (at0 dg y)*m)))else D
def aD2 (z:Int) (x y:Nat) (D:List Int):List Int:=(D.set x (IntKind.i64.wrap (at0 D x+z))).set y (IntKind.i64.wrap (at0 (D.set x (IntKind.i64.wrap (at0 D x+z))) y-z))
theorem Bd (s:Int) (dg:List Int) (br m:Int) (x y:Nat) (D:List Int):(aD1 s dg br m x y D).length=D.length:=by
 unfold aD1
 repeat' split
 all_goals simp only[Zut]
theorem Zg2 (z:Int) (x y:Nat) (D:List Int):(aD2 z x y D).length=D.length:=by
 unfold aD2;simp only[Zut]
theorem Zsi (a b c:Nat):Int.fdiv (sc a b c:Int) (2^(b+c))=tr a b:=by
 rw[Zrb,Zn1,Int.mul_assoc,show((2:Int)^c*2^b)=2^(b+c) by rw[Int.mul_comm,<-Int.pow_add]];exact Ld _ _
theorem Lg {s v:Int} (hs:0<=s) (hv:1<=v):0<=Int.tdiv s v/\Int.tdiv s v<=s:=by
 rw[Int.tdiv_eq_ediv_of_nonneg hs];exact⟨Int.ediv_nonneg hs (by omega),Int.ediv_le_self _ hs⟩
abbrev lkC (x y:Nat) (a b c:Nat) (br:Int) (dg:List Int):List C:=[C.v (.int .i64 (x:Int)),C.v (.int .i64 (y:Int)),C.v (.int .i64 (a:Int)),C.v (.int .i64 (b:Int)),C.v (.int .i64 (c:Int)),C.v (.int .i64 (sc a b c:Int)),C.v (.int .i64 br),C.sl dg.length (ints dg)]
section
variable (fu d:Nat)
theorem Zg3 (x y a b c:Nat) (br:Int) (dg:List Int) (ha:1<=a/\a<=4) (hb:1<=b/\b<=4) (hc:1<=c/\c<=4):cl fu (d+1) fn_adjoint_link_through [V.agg (lkC x y a b c br dg)] []=OK (I ((sc a b c:Int)-scA a b c)):=by
 have hs1:=Rb ha.2 hb.2 hc.2;have hs2:=Ge a b c;have fA:=Zrc a b c;have ma:min a (IntKind.bits .i64)=a:=by show min a 64=a;omega
 unfold lkC;rw[eq_adjoint_link_through];simp(disch:=omega)only[Zd,QM,QD,Zsv,fA,ma]
theorem Ws (x y a b c:Nat) (br:Int) (dg hd hf:List Int) (hx:x<hd.length) (hy:y<hd.length):cl fu (d+1) fn_adjoint_link_amount [V.agg (lkC x y a b c br dg),V.agg [C.sl hd.length (ints hd),C.sl hf.length (ints hf)]] []=OK (I (IntKind.i64.wrap (at0 hd y-at0 hd x))):=by
 have i1:=Yc hd hx;have i2:=Yc hd hy;unfold lkC;rw[eq_adjoint_link_amount];simp(disch:=omega)only[Zd,QM,QD,Zsv,Zs4,i1,i2]
theorem Zqb (x y a b c j:Nat) (br:Int) (dg hd hf:List Int) (hx:x<hd.length) (hy:y<hd.length) (hj:j<hf.length) (ha:1<=a/\a<=4) (hb:1<=b/\b<=4) (hc:1<=c/\c<=4):cl fu (d+2) fn_adjoint_link_flow [V.agg (lkC x y a b c br dg),V.agg [C.sl hd.length (ints hd),C.sl hf.length (ints hf)],I j] []=OK (I (aFl a b c br (IntKind.i64.wrap (at0 hd y-at0 hd x)) (at0 hf j))):=by
 have e1:=Zg3 fu d x y a b c br dg ha hb hc;have e2:=Ws fu d x y a b c br dg hd hf hx hy;have i1:=Yc hf hj;have mc:min c (IntKind.bits .i64)=c:=by show min c 64=c;omega
 generalize IntKind.i64.wrap (at0 hd y-at0 hd x)=m at*
 generalize at0 hf j=f at*
 unfold lkC at*
 unfold aFl;rw[eq_adjoint_link_flow];generalize (sc a b c:Int)-scA a b c=T at*
 by_cases q:br=0
 ·subst q;rw[if_pos rfl];simp(disch:=omega)only[Zd,QM,QD,e1,e2,Zsv,Zs4,i1,mc]
 ·rw[if_neg q];simp(disch:=omega)only[Zd,QM,QD,e1,Zsv,Zs4,i1]
set_option maxHeartbeats 1000000 in
theorem Zoa (x y a b c j:Nat) (br:Int) (dg hd hf D:List Int) (hl:hd.length<=1000000) (hx:x<hd.length) (hy:y<hd.length) (hj:j<hf.length) (hD:D.length=hd.length) (hdg:dg.length=hd.length) (dx:1<=at0 dg x) (dy:1<=at0 dg y) (hbr: -1<=br/\br<=1) (ha:1<=a/\a<=4) (hb:1<=b/\b<=4) (hc:1<=c/\c<=4):
  cl fu (d+2) fn_adjoint_link_depth [V.agg (lkC x y a b c br dg),V.own 1000000 0 D.length,V.agg [C.sl hd.length (ints hd),C.sl hf.length (ints hf)],I j] [.sb ty_int 0 (ints D)]=some ⟨V.tup [],[.sb ty_int 0 (ints (aD2 (aZ a b c br (IntKind.i64.wrap (at0 hd y-at0 hd x)) (at0 hf j)) x y (aD1 (sc a b c) dg br (IntKind.i64.wrap (at0 hd y-at0 hd x)) x y D)))],none⟩:=by
 have e2:=Ws fu d x y a b c br dg hd hf hx hy;have i1:=Yc hf hj;have hs1:=Rb ha.2 hb.2 hc.2;have fB:=Zrd a b c;have fBC:=Zsi a b c;have mb:min b (IntKind.bits .i64)=b:=by show min b 64=b;omega
 have mbc:min (b+c) (IntKind.bits .i64)=b+c:=by show min (b+c) 64=b+c;omega
 have hbc:IntKind.i64.wrap ((b:Int)+(c:Int))=((b+c:Nat):Int):=by rw[Xv (by omega) (by omega)];rfl
 have g1:=Yc dg (i:=x) (by omega);have g2:=Yc dg (i:=y) (by omega);have t1:=Lg (s:=(sc a b c:Int)) (by omega) dx;have t2:=Lg (s:=(sc a b c:Int)) (by omega) dy;have r1:=Yc D (i:=x) (by omega);have r2:=Yc D (i:=y) (by omega);generalize IntKind.i64.wrap (at0 hd y-at0 hd x)=m at*
 generalize hf':at0 hf j=f at*
 have hz: ∀z,aZ a b c br m f=z->aZ a b c br m f=z:=λz h=>h;have hA:(aD1 (sc a b c) dg br m x y D).length=D.length:=Bd ..;have s1:=Yc (aD1 (sc a b c) dg br m x y D) (i:=x) (by omega);have p1:=S9 (aD1 (sc a b c) dg br m x y D) (i:=x) (by omega) (IntKind.i64.wrap (at0 (aD1 (sc a b c) dg br m x y D) x+aZ a b c br m f));have hS:((aD1 (sc a b c) dg br m x y D).set x (IntKind.i64.wrap (at0 (aD1 (sc a b c) dg br m x y D) x+aZ a b c br m f))).length=D.length:=by rw[Zut];exact hA
 have s2:=Yc ((aD1 (sc a b c) dg br m x y D).set x (IntKind.i64.wrap (at0 (aD1 (sc a b c) dg br m x y D) x+aZ a b c br m f))) (i:=y) (by omega);have p2:=S9 ((aD1 (sc a b c) dg br m x y D).set x (IntKind.i64.wrap (at0 (aD1 (sc a b c) dg br m x y D) x+aZ a b c br m f))) (i:=y) (by omega) (IntKind.i64.wrap (at0 ((aD1 (sc a b c) dg br m x y D).set x (IntKind.i64.wrap (at0 (aD1 (sc a b c) dg br m x y D) x+aZ a b c br m f))) y-aZ a b c br m f));unfold lkC at*
 unfold aD2;rw[eq_adjoint_link_depth];rcases(show br=1\/br= -1\/br=0 by omega)with rfl|rfl|rfl
 ·have hz1:aZ a b c 1 m f=IntKind.i64.wrap ((scB a b c:Int)*f):=if_neg (by decide);have w1:aD1 (sc a b c) dg 1 m x y D=D.set x (IntKind.i64.wrap (at0 D x+IntKind.i64.wrap (Int.tdiv (sc a b c) (at0 dg x)*m))):=if_pos rfl;have p0:=S9 D (i:=x) (by omega) (IntKind.i64.wrap (at0 D x+IntKind.i64.wrap (Int.tdiv (sc a b c) (at0 dg x)*m)));rw[<-w1]at p0;rw[hz1]at p1 hS s2 p2⊢;generalize aD1 (sc a b c) dg 1 m x y D=D1 at*
  simp(disch:=omega)only[Zd,QM,QD,e2,Zsv,Zs4,Zst,Ztk,i1,fB,mb,g1,r1,Zg,p0,s1,p1,s2,p2,hA,hS]
 ·have hz1:aZ a b c (-1) m f=IntKind.i64.wrap ((scB a b c:Int)*f):=if_neg (by decide);have w1:aD1 (sc a b c) dg (-1) m x y D=D.set y (IntKind.i64.wrap (at0 D y-IntKind.i64.wrap (Int.tdiv (sc a b c) (at0 dg y)*m))):=by unfold aD1;rw[if_neg (by decide),if_pos rfl]
  have p0:=S9 D (i:=y) (by omega) (IntKind.i64.wrap (at0 D y-IntKind.i64.wrap (Int.tdiv (sc a b c) (at0 dg y)*m)));rw[<-w1]at p0;rw[hz1]at p1 hS s2 p2⊢;generalize aD1 (sc a b c) dg (-1) m x y D=D1 at*
  simp(disch:=omega)only[Zd,QM,QD,e2,Zsv,Zs4,Zst,Ztk,i1,fB,mb,g2,r2,Zg,p0,s1,p1,s2,p2,hA,hS]
 ·have hz1:aZ a b c 0 m f=IntKind.i64.wrap (IntKind.i64.wrap ((scB a b c:Int)*f)+IntKind.i64.wrap ((tr a b:Int)*m)):=if_pos rfl;have w1:aD1 (sc a b c) dg 0 m x y D=D:=by unfold aD1;rw[if_neg (by decide),if_neg (by decide)]
  rw[w1]at s1 p1 hA hS s2 p2⊢;rw[hz1]at p1 hS s2 p2⊢;simp(disch:=omega)only[Zd,QM,QD,e2,Zsv,Zs4,Zst,Ztk,i1,fB,mb,hbc,mbc,fBC,Zg,s1,p1,s2,p2,hA,hS]
end
end Go.Proofs.YtjmempcalaliiaaGreatDoor
/- The reference's Degrees: the same as the program's. -/
namespace Go.Proofs.YtjmempcalaliiaaGreatDoor
open Go Go.PM Go.Grid
attribute [local congr] Zt Zu Zv Yd Zw Zx Ye Yf Yg Yh Zy Zz Yi Yx Yy Yz Y1 Y2 Y5 Y6 Y7 Y8 Y4 Z1 Z2 Y9 Z3 Z4 Zk Z5 Z0
section
variable (fu d:Nat) (hf:18446744073709551616<=fu)
include hf
end
end Go.Proofs.YtjmempcalaliiaaGreatDoor
/- Both programs' Apply of the transposed step. -/
namespace Go.Proofs.YtjmempcalaliiaaGreatDoor
open Go Go.PM Go.Grid
attribute [local congr] Zt Zu Zv Yd Zw Zx Ye Yf Yg Yh Zy Zz Yi Yx Yy Yz Y1 Y2 Y5 Y6 Y7 Y8 Y4 Z1 Z2 Y9 Z3 Z4 Zk Z5 Z0
def am (hd:List Int) (E:List (Int×Int)) (j:Nat):Int:=IntKind.i64.wrap (at0 hd (E.getD j (0,0)).2.toNat-at0 hd (E.getD j (0,0)).1.toNat)
def Wt (a b c:Nat) (dg br hd hf:List Int) (E:List (Int×Int)) (D:List Int) (j:Nat):List Int:=
 aD2 (aZ a b c (at0 br j) (am hd E j) (at0 hf j)) (E.getD j (0,0)).1.toNat (E.getD j (0,0)).2.toNat (aD1 (sc a b c) dg (at0 br j) (am hd E j) (E.getD j (0,0)).1.toNat (E.getD j (0,0)).2.toNat D)
def aDS (a b c:Nat) (dg br hd hf:List Int) (E:List (Int×Int)) (k:Nat):List Int:=(List.range k).foldl (Wt a b c dg br hd hf E) (hd.map λx=>IntKind.i64.wrap ((sc a b c:Int)*x))
def aFS (a b c:Nat) (br hd hf:List Int) (E:List (Int×Int)) (k:Nat):List Int:=(List.range k).map λj=>aFl a b c (at0 br j) (am hd E j) (at0 hf j)
theorem J9 (a b c:Nat) (dg br hd hf:List Int) (E:List (Int×Int)) (D:List Int) (j:Nat):(Wt a b c dg br hd hf E D j).length=D.length:=by
 unfold Wt;rw[Zg2,Bd]
theorem Be (a b c:Nat) (dg br hd hf:List Int) (E:List (Int×Int)) (k:Nat):aDS a b c dg br hd hf E (k+1)=Wt a b c dg br hd hf E (aDS a b c dg br hd hf E k) k:=by
 unfold aDS;rw[Zus,List.foldl_append];rfl
theorem Re (a b c:Nat) (dg br hd hf:List Int) (E:List (Int×Int)) (k:Nat):(aDS a b c dg br hd hf E k).length=hd.length:=by
 induction k with
 |zero=>exact Zs8 ..
 |succ k ih=>rw[Be,J9,ih]
theorem Zob (a b c:Nat) (br hd hf:List Int) (E:List (Int×Int)) (k:Nat):aFS a b c br hd hf E (k+1)=aFS a b c br hd hf E k++[aFl a b c (at0 br k) (am hd E k) (at0 hf k)]:=by simp[aFS,Zus]
theorem Rf (a b c:Nat) (br hd hf:List Int) (E:List (Int×Int)) (k:Nat):(aFS a b c br hd hf E k).length=k:=by simp[aFS]
section
variable (fu d:Nat) (hfu:18446744073709551616<=fu)
include hfu
set_option maxHeartbeats 2000000 in
theorem Wu (n:Nat) (h:Yb n) (a b c:Nat) (ha:1<=a/\a<=4) (hb:1<=b/\b<=4) (hc:1<=c/\c<=4) (br hd hf:List Int) (l1:br.length=(edg n).length) (l2:hd.length=(Zf n).length) (l3:hf.length=(edg n).length) (w1:wid (-1) 1 br) (w2:wid (-1099511627776) 1099511627776 hd) (w3:wid (-1099511627776) 1099511627776 hf):
  cl fu (d+12) fn_adjoint_Apply [V.agg [C.v (.int .i64 (a:Int)),C.v (.int .i64 (b:Int)),C.v (.int .i64 (c:Int))],I n,V.c (C.sl br.length (ints br)),V.agg [C.sl hd.length (ints hd),C.sl hf.length (ints hf)]] []=OK (V.tup [V.agg [C.sl hd.length (ints (aDS a b c (Yr (Zf n).length (edg n)) br hd hf (edg n) (edg n).length)),C.sl (edg n).length (ints (aFS a b c br hd hf (edg n) (edg n).length))],I 0]):=by
 have hNl:=Xz h;have heL:=Vh h;have e1:=J7 fu (d+4) hfu a b c ha hb hc;have e2:=Wr fu (d+1) hfu n h br hd hf l1 l2 l3 w1 w2 w3;have e3:=C8 fu d n h;have e4:=Qf fu (d+2) hfu n h;have hin:=Nl h;have hdp:=Zb1 h;have hdl:=Rx (Zf n).length (edg n);have hFl:=λk=>Rf a b c br hd hf (edg n) k;have hFs:=λk=>Zob a b c br hd hf (edg n) k;have hDl:=λk=>Re a b c (Yr (Zf n).length (edg n)) br hd hf (edg n) k;have hDs:=λk=>Be a b c (Yr (Zf n).length (edg n)) br hd hf (edg n) k;have hSl:=λD j=>J9 a b c (Yr (Zf n).length (edg n)) br hd hf (edg n) D j;generalize hdg:Yr (Zf n).length (edg n)=dg at*
 generalize hE:edg n=E at*
 generalize (Zf n).length=N at*
 rw[eq_adjoint_Apply];simp(disch:=omega)only[Zd,QM,QD,e1,e2,e3,e4];rw[Zs (λj:Nat=>(((j:Nat):Int),(C.nl,C.nl,()),(ints ((hd.take j).map λx=>IntKind.i64.wrap ((sc a b c:Int)*x)),[],()),())) 0 (((hd.length:Nat):Int),(C.nl,C.nl,()),(ints (aDS a b c dg br hd hf E 0),[],()),()) hd.length ?_ ?_ ?_ (by omega)]
 rotate_left
 ·rfl
 ·intro j hj;have i1:=Yc hd hj;have hsn:ints ((hd.take j).map λx=>IntKind.i64.wrap ((sc a b c:Int)*x))++[C.v (.int .i64 (IntKind.i64.wrap ((sc a b c:Int)*at0 hd j)))]=ints ((hd.take (j+1)).map λx=>IntKind.i64.wrap ((sc a b c:Int)*x)):=by
   rw[Ztp hj,Zur,Qv,Rv hj];rfl
  have hlt:((hd.take j).map λx=>IntKind.i64.wrap ((sc a b c:Int)*x)).length=j:=by rw[Zs8,Ztl];omega
  have hlt1:((hd.take (j+1)).map λx=>IntKind.i64.wrap ((sc a b c:Int)*x)).length=j+1:=by rw[Zs8,Ztl];omega
  simp(disch:=omega)only[Zd,QM,QD,Zsv,Zs4,i1];simp(disch:=omega)only[Zd,QM,QD,Zg,hlt,hlt1,Ztk,Zs4,hsn,Zsz,Zss,Zsy,Zst];rfl
 ·rw[Zt5];have hl0:(hd.map λx=>IntKind.i64.wrap ((sc a b c:Int)*x)).length=hd.length:=Zs8 ..;simp(disch:=omega)only[Zd,QM,QD,Zg,hl0,Ztk,Zs4,Zsy];rfl
 simp(disch:=omega)only[Zd,QM,QD,Zg,hDl,Ztk,Zs4,Zsy];rw[Zs (λj:Nat=>(((j:Nat):Int),(C.nl,C.nl,()),(ints (aDS a b c dg br hd hf E j),ints (aFS a b c br hd hf E j),()),())) 0 (((E.length:Nat):Int),(C.nl,C.nl,()),(ints (aDS a b c dg br hd hf E E.length),ints (aFS a b c br hd hf E E.length),()),()) E.length ?_ ?_ ?_ (by omega)]
 ·have htk1:List.take hd.length (ints (aDS a b c dg br hd hf E E.length))=ints (aDS a b c dg br hd hf E E.length):=Zs1 (by rw[Zg,hDl];exact Zs2 _);have htk2:List.take E.length (ints (aFS a b c br hd hf E E.length))=ints (aFS a b c br hd hf E E.length):=Zs1 (by rw[Zg,hFl];exact Zs2 _);simp(disch:=omega)only[Zd,QM,QD,Zg,hDl,hFl,Ztk,Zs4,Zst,htk1,htk2]
 ·rfl
 ·intro j hj;have hinj:=hin E[j] (Zts hj);have hdpj:=hdp E[j] (Zts hj);have i4:=Yc br (i:=j) (by omega);have bj:=Lc w1 (by omega) j;have hD:=hDl j;have hst:=hDs j;have hft:=hFs j;have hFlj:=hFl j;have hsl:=hSl (aDS a b c dg br hd hf E j) j;unfold Wt am at hst hsl;unfold am at hft;rw[Qo E hj]at hst hsl hft;rw[hst,hft];generalize aFS a b c br hd hf E j=FL at*
  generalize aDS a b c dg br hd hf E j=D at*
  generalize hee:E[j]=e at*
  obtain⟨ea,eb⟩:=e;simp only at hinj hdpj hsl⊢;obtain⟨x,rfl⟩: ∃x:Nat,ea=x:=⟨ea.toNat,by omega⟩;obtain⟨y,rfl⟩: ∃y:Nat,eb=y:=⟨eb.toNat,by omega⟩;rw[Zsv,Zsv]at hdpj hsl⊢;have hea:=Ju Xk hj;rw[hee,show edC ((x:Int),(y:Int))=[C.v (.int .i64 (x:Int)),C.v (.int .i64 (y:Int))] from rfl]at hea;have q1:=Zqb fu (d+9) x y a b c j (at0 br j) dg hd hf (by omega) (by omega) (by omega) ha hb hc;have q2:=Zoa fu (d+9) x y a b c j (at0 br j) dg hd hf D (by omega) (by omega) (by omega) (by omega) (by omega) (by omega) hdpj.1 hdpj.2 bj ha hb hc;unfold lkC at q1 q2;rw[show dg.length=N by omega]at q1 q2;rw[hD]at q2 hsl;generalize at0 br j=v at*
  simp(disch:=omega)only[Zd,QM,QD,Zto,Ztr,Zsv,Zs4,Ztk,Zst,hea,i4,Zg,hD,hFlj,q1,q2,hsl,Qv,Zsz,Zss,Zsy];rfl
 ·simp(disch:=omega)only[Zd,QM,QD,Zg,hDl,hFl,Ztk,Zs4]
end
end Go.Proofs.YtjmempcalaliiaaGreatDoor
/- Products of changes: the transposed step, in plain numbers. -/
namespace Go.Proofs.YtjmempcalaliiaaGreatDoor
open Go Go.PM Go.Grid
attribute [local congr] Zt Zu Zv Yd Zw Zx Ye Yf Yg Yh Zy Zz Yi Yx Yy Yz Y1 Y2 Y5 Y6 Y7 Y8 Y4 Z1 Z2 Y9 Z3 Z4 Zk Z5 Z0
def T8 (a b:List Int):Int:=((List.range a.length).map λk=>at0 a k*at0 b k).sum
theorem Qp {f g:Nat->Int} (n:Nat) (h: ∀j,j<n->f j=g j):((List.range n).map f).sum=((List.range n).map g).sum:=
 congrArg List.sum (Zu2 λj hj=>h j (Zun.1 hj))
theorem Ha: ∀n:Nat,((List.range n).map λ_=>(0:Int)).sum=0
 |0=>rfl
 |n+1=>by simp only[Zus,Zur,List.sum_append,Ha n,Ztv,List.map_nil,List.sum_cons,List.sum_nil];rfl
theorem Mx (f:Nat->Int) (n:Nat):((List.range (n+1)).map f).sum=((List.range n).map f).sum+f n:=by
 simp only[Zus,Zur,List.sum_append,Ztv,List.map_nil,List.sum_cons,List.sum_nil,Zvd]
theorem Hc (f:Nat->Int) (x:Nat): ∀n,x<n->((List.range n).map λk=>if k=x then f k else 0).sum=f x
 |0,h=>by omega
 |n+1,h=>by
  rw[Mx];by_cases e:n=x
  ·subst e;rw[if_pos rfl,Qp n (g:=λ_=>0) (λj hj=>if_neg (by omega)),Ha,Int.zero_add]
  ·rw[if_neg e,Hc f x n (by omega),Zvd]
theorem parts (N:Nat) (x y:Nat->Nat) (al be w:Nat->Int): ∀M,(∀j,j<M->x j<N/\y j<N)->
  ((List.range N).map λk=>w k*((List.range M).map λj=>(if k=x j then al j else 0)+(if k=y j then be j else 0)).sum).sum=((List.range M).map λj=>w (x j)*al j+w (y j)*be j).sum
 |0,_=>by
  show((List.range N).map λk=>w k*0).sum=0;rw[Qp N (g:=λ_=>0) (λj _=>Zu1 _),Ha]
 |M+1,h=>by
  have h1:=parts N x y al be w M λj hj=>h j (by omega);have hM:=h M (by omega);rw[Mx (λj=>w (x j)*al j+w (y j)*be j),<-h1];have e: ∀k,w k*((List.range (M+1)).map λj=>(if k=x j then al j else 0)+(if k=y j then be j else 0)).sum=w k*((List.range M).map λj=>(if k=x j then al j else 0)+(if k=y j then be j else 0)).sum+((if k=x M then w k*al M else 0)+(if k=y M then w k*be M else 0)):=by
   intro k;rw[Mx (λj=>(if k=x j then al j else 0)+(if k=y j then be j else 0)),Int.mul_add,Int.mul_add]
   congr 1
   congr 1
   ·split
    ·rfl
    ·exact Zu1 _
   ·split
    ·rfl
    ·exact Zu1 _
  rw[Qp N (λk _=>e k),Nn,Nn,Hc (λk=>w k*al M) (x M) N hM.1,Hc (λk=>w k*be M) (y M) N hM.2]
theorem wA (x y:Int):IntKind.i64.wrap (IntKind.i64.wrap x+y)=IntKind.i64.wrap (x+y):=by simp only[IntKind.wrap_i64];omega
theorem wB (x y:Int):IntKind.i64.wrap (x+IntKind.i64.wrap y)=IntKind.i64.wrap (x+y):=by simp only[IntKind.wrap_i64];omega
theorem wC (x y:Int):IntKind.i64.wrap (x-IntKind.i64.wrap y)=IntKind.i64.wrap (x+ -y):=by simp only[IntKind.wrap_i64];omega
theorem Zh9 {l:List Int} {i:Nat} (h:i<l.length) (v:Int) (k:Nat):at0 (l.set i v) k=if k=i then v else at0 l k:=by
 unfold at0;rw[Zs6,List.getElem?_set];by_cases e:i=k
 ·rw[if_pos e,if_pos (by omega),if_pos e.symm];rfl
 ·rw[if_neg e,if_neg (λq=>e q.symm),Zs6]
theorem wset {D:List Int} {T:Nat->Int} {x:Nat} {v:Int} (u:Int) (hD: ∀k,k<D.length->at0 D k=IntKind.i64.wrap (T k)) (hx:x<D.length) (hv:v=IntKind.i64.wrap (T x+u)):
  ∀k,k<(D.set x v).length->at0 (D.set x v) k=IntKind.i64.wrap (T k+if k=x then u else 0):=by
 intro k hk;rw[Zut]at hk;rw[Zh9 hx];by_cases e:k=x
 ·rw[if_pos e,if_pos e,hv,e]
 ·rw[if_neg e,if_neg e,Zvd,hD k hk]
def zE (a b c:Nat) (br gd gf:List Int) (E:List (Int×Int)) (j:Nat):Int:=(scB a b c:Int)*at0 gf j+if at0 br j=0 then(tr a b:Int)*(at0 gd (E.getD j (0,0)).2.toNat-at0 gd (E.getD j (0,0)).1.toNat)else 0
def alE (a b c:Nat) (dg br gd gf:List Int) (E:List (Int×Int)) (j:Nat):Int:=zE a b c br gd gf E j+if at0 br j=1 then Int.tdiv (sc a b c) (at0 dg (E.getD j (0,0)).1.toNat)*(at0 gd (E.getD j (0,0)).2.toNat-at0 gd (E.getD j (0,0)).1.toNat)else 0
def beE (a b c:Nat) (dg br gd gf:List Int) (E:List (Int×Int)) (j:Nat):Int:= -(zE a b c br gd gf E j)+if at0 br j= -1 then -(Int.tdiv (sc a b c) (at0 dg (E.getD j (0,0)).2.toNat)*(at0 gd (E.getD j (0,0)).2.toNat-at0 gd (E.getD j (0,0)).1.toNat))else 0
def sS (a b c:Nat) (dg br gd gf:List Int) (E:List (Int×Int)) (J k:Nat):Int:=((List.range J).map λj=>(if k=(E.getD j (0,0)).1.toNat then alE a b c dg br gd gf E j else 0)+(if k=(E.getD j (0,0)).2.toNat then beE a b c dg br gd gf E j else 0)).sum
theorem Zb5 (a b c:Nat) (dg br gd gf:List Int) (E:List (Int×Int)) (J k:Nat):sS a b c dg br gd gf E (J+1) k=sS a b c dg br gd gf E J k+((if k=(E.getD J (0,0)).1.toNat then alE a b c dg br gd gf E J else 0)+(if k=(E.getD J (0,0)).2.toNat then beE a b c dg br gd gf E J else 0)):=Mx _ _
theorem Zb6 (a b c:Nat) (dg br gd gf:List Int) (E:List (Int×Int)) (hE: ∀e∈E,e.1.toNat<gd.length/\e.2.toNat<gd.length) (hg: ∀i,-1099511627776<=at0 gd i/\at0 gd i<=1099511627776):
  ∀J,J<=E.length-> ∀k,k<(aDS a b c dg br gd gf E J).length->at0 (aDS a b c dg br gd gf E J) k=IntKind.i64.wrap ((sc a b c:Int)*at0 gd k+sS a b c dg br gd gf E J k)
 |0,_=>by
  intro k hk;show at0 (gd.map λx=>IntKind.i64.wrap ((sc a b c:Int)*x)) k=_;rw[Zb2 (λx=>IntKind.i64.wrap ((sc a b c:Int)*x)) (by rw[Zu1];rfl)];show _=IntKind.i64.wrap ((sc a b c:Int)*at0 gd k+0);rw[Zvd]
 |J+1,hJ=>by
  have ih:=Zb6 a b c dg br gd gf E hE hg J (by omega);have hl:=Re a b c dg br gd gf E J;have hEJ:=hE E[J] (Zts (by omega));rw[Be];unfold Wt aD1;have hm:am gd E J=at0 gd (E.getD J (0,0)).2.toNat-at0 gd (E.getD J (0,0)).1.toNat:=by
   unfold am;have h1:=hg (E.getD J (0,0)).2.toNat;have h2:=hg (E.getD J (0,0)).1.toNat;exact Xv (by omega) (by omega)
  rw[hm];have hx:(E.getD J (0,0)).1.toNat<(aDS a b c dg br gd gf E J).length:=by rw[hl,Qo E (by omega)];exact hEJ.1
  have hy:(E.getD J (0,0)).2.toNat<(aDS a b c dg br gd gf E J).length:=by rw[hl,Qo E (by omega)];exact hEJ.2
  have hS:=λk=>Zb5 a b c dg br gd gf E J k;have hz:aZ a b c (at0 br J) (at0 gd (E.getD J (0,0)).2.toNat-at0 gd (E.getD J (0,0)).1.toNat) (at0 gf J)=IntKind.i64.wrap (zE a b c br gd gf E J):=by
   unfold aZ zE;split
   ·rw[wA,wB]
   ·rw[Zvd]
  rw[hz];unfold alE beE at hS;generalize zE a b c br gd gf E J=z at*
  generalize at0 gd (E.getD J (0,0)).2.toNat-at0 gd (E.getD J (0,0)).1.toNat=m at*
  generalize (E.getD J (0,0)).1.toNat=x at*
  generalize (E.getD J (0,0)).2.toNat=y at*
  generalize aDS a b c dg br gd gf E J=D at*
  generalize Int.tdiv (sc a b c) (at0 dg x)=qx at*
  generalize Int.tdiv (sc a b c) (at0 dg y)=qy at*
  generalize at0 br J=r at*
  have two: ∀(D:List Int) (T:Nat->Int),(∀k,k<D.length->at0 D k=IntKind.i64.wrap (T k))->x<D.length->y<D.length-> ∀k,k<(aD2 (IntKind.i64.wrap z) x y D).length->at0 (aD2 (IntKind.i64.wrap z) x y D) k=IntKind.i64.wrap (T k+(if k=x then z else 0)+(if k=y then -z else 0)):=by
   intro D T hD hx hy;have h1:=wset (D:=D) (T:=T) (x:=x) (v:=IntKind.i64.wrap (at0 D x+IntKind.i64.wrap z)) z hD hx (by rw[hD x hx,wA,wB]);have hy1:y<(D.set x (IntKind.i64.wrap (at0 D x+IntKind.i64.wrap z))).length:=by rw[Zut];exact hy
   exact wset (-z) h1 hy1 (by rw[h1 y hy1,wC,wA])
  intro k hk;by_cases q1:r=1
  ·rw[if_pos q1]at hk⊢;have h1:=wset (D:=D) (x:=x) (v:=IntKind.i64.wrap (at0 D x+IntKind.i64.wrap (qx*m))) (qx*m) ih hx (by rw[ih x hx,wA,wB]);rw[two _ _ h1 (by rw[Zut];exact hx) (by rw[Zut];exact hy) k hk,hS k,if_pos q1,if_neg (show ¬r= -1 by omega)]
   congr 1
   repeat' split
   all_goals omega
  ·rw[if_neg q1]at hk⊢;by_cases q2:r= -1
   ·rw[if_pos q2]at hk⊢;have h1:=wset (D:=D) (x:=y) (v:=IntKind.i64.wrap (at0 D y-IntKind.i64.wrap (qy*m))) (-(qy*m)) ih hy (by rw[ih y hy,wC,wA]);rw[two _ _ h1 (by rw[Zut];exact hx) (by rw[Zut];exact hy) k hk,hS k,if_neg q1,if_pos q2]
    congr 1
    repeat' split
    all_goals omega
   ·rw[if_neg q2]at hk⊢;rw[two _ _ ih hx hy k hk,hS k,if_neg q1,if_neg q2]
    congr 1
    repeat' split
    all_goals omega
end Go.Proofs.YtjmempcalaliiaaGreatDoor
/- The transposed step is exact: products of changes, in plain numbers. -/
namespace Go.Proofs.YtjmempcalaliiaaGreatDoor
open Go Go.PM Go.Grid
attribute [local congr] Zt Zu Zv Yd Zw Zx Ye Yf Yg Yh Zy Zz Yi Yx Yy Yz Y1 Y2 Y5 Y6 Y7 Y8 Y4 Z1 Z2 Y9 Z3 Z4 Zk Z5 Z0
theorem Zia {n:Nat} (hn:n=1\/n=2):(edg n).length<=120:=by
 have h:decide ((edg n).length<=120)=true:=by rcases hn with rfl|rfl<;>kernel_rfl
 exact of_decide_eq_true h
theorem mbd {p x P m:Int} (hp:0<=p/\p<=P) (hx: -m<=x/\x<=m) (hm:0<=m): -(P*m)<=p*x/\p*x<=P*m:=Rc hp hx hm
section
variable (a b c:Nat) (ha:a<=4) (hb:b<=4) (hc:c<=4)
include ha hb hc
theorem Zoc:(0:Int)<=tr a b/\(tr a b:Int)<=7680:=by
 have h1:=Zq9 a b c;have h2:=Rb ha hb hc;have h3:=Bb a b c;have h4:0<2^c:=Nat.pow_pos (by omega);have h5:tr a b<=tr a b*2^c:=Nat.le_mul_of_pos_right _ h4;omega
theorem Zod:(0:Int)<=tp a b/\(tp a b:Int)<=7680:=by
 have h1:=Zra a b c;have h2:=Rb ha hb hc;have h4:0<2^c:=Nat.pow_pos (by omega);have h5:tp a b<=tp a b*2^c:=Nat.le_mul_of_pos_right _ h4;omega
theorem Zsj {dg br gd gf:List Int} {E:List (Int×Int)} (hd: ∀k,(∃e∈E,k=e.1.toNat\/k=e.2.toNat)->1<=at0 dg k) (g1: ∀i,-1099511627776<=at0 gd i/\at0 gd i<=1099511627776) (g2: ∀i,-1099511627776<=at0 gf i/\at0 gf i<=1099511627776) {j:Nat} (hj:j<E.length):
  (-25332747903959040<=alE a b c dg br gd gf E j/\alE a b c dg br gd gf E j<=25332747903959040)/\(-25332747903959040<=beE a b c dg br gd gf E j/\beE a b c dg br gd gf E j<=25332747903959040):=by
 have hs:=Rb ha hb hc;have hB:=Bb a b c;have ht:=Zoc a b c ha hb hc;have hx:=hd (E.getD j (0,0)).1.toNat ⟨E[j],Zts hj, .inl (by rw[Qo E hj])⟩;have hy:=hd (E.getD j (0,0)).2.toNat ⟨E[j],Zts hj, .inr (by rw[Qo E hj])⟩;have qx:=Lg (s:=(sc a b c:Int)) (by omega) hx;have qy:=Lg (s:=(sc a b c:Int)) (by omega) hy;have h1:=g1 (E.getD j (0,0)).2.toNat;have h2:=g1 (E.getD j (0,0)).1.toNat;have h3:=g2 j;have b1:=mbd (p:=(scB a b c:Int)) (P:=7680) ⟨by omega,by omega⟩ h3 (by omega);unfold alE beE zE;generalize hm:at0 gd (E.getD j (0,0)).2.toNat-at0 gd (E.getD j (0,0)).1.toNat=m;have hm': -2199023255552<=m/\m<=2199023255552:=by omega
 have b2:=mbd (p:=(tr a b:Int)) (P:=7680) ht hm' (by omega);have b3:=mbd (p:=Int.tdiv (sc a b c) (at0 dg (E.getD j (0,0)).1.toNat)) (P:=7680) ⟨qx.1,by omega⟩ hm' (by omega);have b4:=mbd (p:=Int.tdiv (sc a b c) (at0 dg (E.getD j (0,0)).2.toNat)) (P:=7680) ⟨qy.1,by omega⟩ hm' (by omega);generalize (scB a b c:Int)*at0 gf j=p1 at*
 generalize (tr a b:Int)*m=p2 at*
 generalize Int.tdiv (sc a b c) (at0 dg (E.getD j (0,0)).1.toNat)*m=p3 at*
 generalize Int.tdiv (sc a b c) (at0 dg (E.getD j (0,0)).2.toNat)*m=p4 at*
 generalize at0 br j=r
 repeat' split
 all_goals omega
theorem Zre {dg br gd gf:List Int} {E:List (Int×Int)} (hd: ∀k,(∃e∈E,k=e.1.toNat\/k=e.2.toNat)->1<=at0 dg k) (g1: ∀i,-1099511627776<=at0 gd i/\at0 gd i<=1099511627776) (g2: ∀i,-1099511627776<=at0 gf i/\at0 gf i<=1099511627776) (k:Nat):
  ∀J,J<=E.length-> -((J:Int)*50665495807918080)<=sS a b c dg br gd gf E J k/\sS a b c dg br gd gf E J k<=(J:Int)*50665495807918080
 |0,_=>by
  show -((0:Int)*_)<=0/\(0:Int)<=0*_;omega
 |J+1,h=>by
  have ih:=Zre hd g1 g2 k J (by omega) (br:=br);have hb:=Zsj a b c ha hb hc (br:=br) hd g1 g2 (j:=J) (by omega);rw[Zb5];generalize sS a b c dg br gd gf E J k=S at*
  generalize alE a b c dg br gd gf E J=p at*
  generalize beE a b c dg br gd gf E J=q at*
  repeat' split
  all_goals omega
def qFE (a b c:Nat) (br gd gf:List Int) (E:List (Int×Int)) (j:Nat):Int:=((sc a b c:Int)-scA a b c)*at0 gf j+if at0 br j=0 then(tp a b:Int)*(at0 gd (E.getD j (0,0)).2.toNat-at0 gd (E.getD j (0,0)).1.toNat)else 0
theorem Zoe {br gd gf:List Int} {E:List (Int×Int)} (g1: ∀i,-1099511627776<=at0 gd i/\at0 gd i<=1099511627776) (g2: ∀i,-1099511627776<=at0 gf i/\at0 gf i<=1099511627776) {j:Nat} (hj:j<E.length):
  at0 (aFS a b c br gd gf E E.length) j=qFE a b c br gd gf E j:=by
 unfold aFS;rw[V4 _ _ hj];have hs:=Rb ha hb hc;have hA:=Ge a b c;have ht:=Zod a b c ha hb hc;have h1:=g1 (E.getD j (0,0)).2.toNat;have h2:=g1 (E.getD j (0,0)).1.toNat;have h3:=g2 j;have hm:am gd E j=at0 gd (E.getD j (0,0)).2.toNat-at0 gd (E.getD j (0,0)).1.toNat:=by
  unfold am;exact Xv (by omega) (by omega)
 have hf:Int.fdiv ((sc a b c:Int)-scA a b c) (2^c)=tp a b:=by rw[Zn2];exact Ld _ _
 unfold aFl qFE;rw[hm,hf];generalize hm:at0 gd (E.getD j (0,0)).2.toNat-at0 gd (E.getD j (0,0)).1.toNat=m;have hm': -2199023255552<=m/\m<=2199023255552:=by omega
 have b1:=mbd (p:=(sc a b c:Int)-scA a b c) (P:=7680) ⟨by omega,by omega⟩ h3 (by omega);have b2:=mbd (p:=(tp a b:Int)) (P:=7680) ht hm' (by omega);generalize ((sc a b c:Int)-scA a b c)*at0 gf j=p1 at*
 generalize (tp a b:Int)*m=p2 at*
 split
 ·rw[wA,wB];exact Xv (by omega) (by omega)
 ·rw[Zvd];exact Xv (by omega) (by omega)
omit ha hb hc in
theorem Zqc {dg br hd hf gd gf:List Int} {E:List (Int×Int)} {j:Nat} (hbr: -1<=at0 br j/\at0 br j<=1):
  at0 gd (E.getD j (0,0)).1.toNat* -(tAm a b c dg br hd hf E j)+at0 gd (E.getD j (0,0)).2.toNat*tAm a b c dg br hd hf E j+tF a b c hd hf E j*at0 gf j=at0 hd (E.getD j (0,0)).1.toNat*alE a b c dg br gd gf E j+at0 hd (E.getD j (0,0)).2.toNat*beE a b c dg br gd gf E j+at0 hf j*qFE a b c br gd gf E j:=by
 unfold tAm tF alE beE qFE zE tG;generalize (sc a b c:Int)-scA a b c=s1;generalize at0 gd (E.getD j (0,0)).1.toNat=gx;generalize at0 gd (E.getD j (0,0)).2.toNat=gy;generalize at0 hd (E.getD j (0,0)).1.toNat=hx;generalize at0 hd (E.getD j (0,0)).2.toNat=hy;generalize at0 hf j=f;generalize at0 gf j=g;generalize Int.tdiv (sc a b c) (at0 dg (E.getD j (0,0)).1.toNat)=q1;generalize Int.tdiv (sc a b c) (at0 dg (E.getD j (0,0)).2.toNat)=q2;generalize (scB a b c:Int)=s2;generalize (tr a b:Int)=t1;generalize (tp a b:Int)=t2;generalize at0 br j=r at*
 rcases(show r=0\/r=1\/r= -1 by omega)with rfl|rfl|rfl
 ·simp only[if_true,show((0:Int)=1)=False from by simp,show((0:Int)= -1)=False from by simp,if_false]
  grind
 ·simp only[if_true,show((1:Int)=0)=False from by simp,show((1:Int)= -1)=False from by simp,if_false]
  grind
 ·simp only[if_true,show((-1:Int)=0)=False from by simp,show((-1:Int)=1)=False from by simp,if_false]
  grind
theorem Zkt {n:Nat} (hn:n=1\/n=2) {br hd hf gd gf:List Int} (l1:hd.length=(Zf n).length) (l2:hf.length=(edg n).length) (l3:gd.length=(Zf n).length) (l4:gf.length=(edg n).length) (w1:wid (-1) 1 br)
  (w2:wid (-1099511627776) 1099511627776 gd) (w3:wid (-1099511627776) 1099511627776 gf):
  T8 (tDL a b c (Yr (Zf n).length (edg n)) br hd hf (edg n)) gd+T8 (tFL a b c hd hf (edg n) (edg n).length) gf=T8 hd (aDS a b c (Yr (Zf n).length (edg n)) br gd gf (edg n) (edg n).length)+T8 hf (aFS a b c br gd gf (edg n) (edg n).length):=by
 have h:Yb n:=by unfold Yb;omega
 have hin:=Nl h;have h120:=Zia hn;have hdp:=Zb1 h;have g1:=λi=>Q9 w2 (by omega) i;have g2:=λi=>Q9 w3 (by omega) i;have hbr:=λi=>Q9 w1 (by omega) i;have hd1: ∀k,(∃e∈edg n,k=e.1.toNat\/k=e.2.toNat)->1<=at0 (Yr (Zf n).length (edg n)) k:=by
  rintro k ⟨e,he,rfl|rfl⟩
  ·exact(hdp e he).1
  ·exact(hdp e he).2
 generalize hdg:Yr (Zf n).length (edg n)=dg at*
 generalize hE:edg n=E at*
 generalize (Zf n).length=N at*
 have hN: ∀e∈E,e.1.toNat<gd.length/\e.2.toNat<gd.length:=λe he=>by have:=hin e he;omega
 have hXY: ∀j,j<E.length->(E.getD j (0,0)).1.toNat<N/\(E.getD j (0,0)).2.toNat<N:=λj hj=>by
  have:=hin E[j] (Zts hj);rw[Qo E hj];omega
 have pD: ∀k,k<N->at0 (tDL a b c dg br hd hf E) k=(sc a b c:Int)*at0 hd k+((List.range E.length).map λj=>(if k=(E.getD j (0,0)).1.toNat then -(tAm a b c dg br hd hf E j)else 0)+(if k=(E.getD j (0,0)).2.toNat then tAm a b c dg br hd hf E j else 0)).sum:=by
  intro k hk;rw[Zsf _ _ _ _ _ _ _ _ (by omega)];unfold tAL;rw[Zqa]
 have qD: ∀k,k<N->at0 (aDS a b c dg br gd gf E E.length) k=(sc a b c:Int)*at0 gd k+sS a b c dg br gd gf E E.length k:=by
  intro k hk;rw[Zb6 a b c dg br gd gf E hN g1 E.length (Zs2 _) k (by rw[Re];omega)];have b1:=Zre a b c ha hb hc (br:=br) hd1 g1 g2 k E.length (Zs2 _);have b2:=mbd (p:=(sc a b c:Int)) (P:=7680) ⟨by omega,by have:=Rb ha hb hc;omega⟩ (g1 k) (by omega);exact Xv (by omega) (by omega)
 have e1:T8 (tDL a b c dg br hd hf E) gd=((List.range N).map λk=>(sc a b c:Int)*(at0 hd k*at0 gd k)).sum+((List.range E.length).map λj=>at0 gd (E.getD j (0,0)).1.toNat* -(tAm a b c dg br hd hf E j)+at0 gd (E.getD j (0,0)).2.toNat*tAm a b c dg br hd hf E j).sum:=by
  unfold T8;rw[Ku,l1,<-parts N (λj=>(E.getD j (0,0)).1.toNat) (λj=>(E.getD j (0,0)).2.toNat) (λj=> -(tAm a b c dg br hd hf E j)) (λj=>tAm a b c dg br hd hf E j) (λk=>at0 gd k) E.length hXY,<-Nn];refine Qp N λk hk=> ?_;rw[pD k hk,Int.add_mul,Int.mul_assoc,Int.mul_comm (List.sum _) (at0 gd k)]
 have e2:T8 hd (aDS a b c dg br gd gf E E.length)=((List.range N).map λk=>(sc a b c:Int)*(at0 hd k*at0 gd k)).sum+((List.range E.length).map λj=>at0 hd (E.getD j (0,0)).1.toNat*alE a b c dg br gd gf E j+at0 hd (E.getD j (0,0)).2.toNat*beE a b c dg br gd gf E j).sum:=by
  unfold T8;rw[l1,<-parts N (λj=>(E.getD j (0,0)).1.toNat) (λj=>(E.getD j (0,0)).2.toNat) (λj=>alE a b c dg br gd gf E j) (λj=>beE a b c dg br gd gf E j) (λk=>at0 hd k) E.length hXY,<-Nn];refine Qp N λk hk=> ?_;rw[qD k hk,Int.mul_add,Int.mul_left_comm];rfl
 have e3:T8 (tFL a b c hd hf E E.length) gf=((List.range E.length).map λj=>tF a b c hd hf E j*at0 gf j).sum:=by
  unfold T8;rw[Kt];refine Qp _ λj hj=> ?_;unfold tFL;rw[V4 _ _ hj]
 have e4:T8 hf (aFS a b c br gd gf E E.length)=((List.range E.length).map λj=>at0 hf j*qFE a b c br gd gf E j).sum:=by
  unfold T8;rw[l2];refine Qp _ λj hj=> ?_;rw[Zoe a b c ha hb hc g1 g2 hj]
 rw[e1,e2,e3,e4,Int.add_assoc,Int.add_assoc,<-Nn,<-Nn]
 congr 1
 exact Qp _ λj hj=>Zqc a b c (hbr j)
end
end Go.Proofs.YtjmempcalaliiaaGreatDoor
