/- Parts put together: W, Gc, Gd, Ge, Ea, H, Eb, Ec, Ed, Ee, Ef, Eg, Eh, Ei, Ej, Ek, El, Fa, Fb, Fc, Fd, Fe, Ff, Fp, Nb, Nc, Pa, Pb, Pc, Pd, Fi, Pe, Pi, Pj, Fs, Pk. -/
import Derived.Test.YtjmempcalaliiaaGreatDoorJ5
import Derived.Test.YtjmempcalaliiaaGreatDoorEq
import Derived.Test.YtjmempcalaliiaaGreatDoorJ6
set_option linter.defProp false
set_option linter.unusedSimpArgs false
set_option linter.unusedVariables false
/- Rules whose conditions simp can have shown by omega; lists of records as cells. -/
namespace Go.PM
open Go
theorem Xj {x:Int} (h1: -9223372036854775808<=x) (h2:x<=9223372036854775807):IntKind.i64.wrap x=x:=IntWalk.i64_in x ⟨by omega,by omega⟩
theorem Zrc {a b:Int} (h:a<b):decide (a<b)=true:=decide_eq_true h
theorem Zrd {a b:Int} (h:b<=a):decide (a<b)=false:=decide_eq_false (by omega)
theorem dle_t {a b:Int} (h:a<=b):decide (a<=b)=true:=decide_eq_true h
theorem dle_f {a b:Int} (h:b<a):decide (a<=b)=false:=decide_eq_false (by omega)
theorem dgt_t {a b:Int} (h:b<a):decide (a>b)=true:=decide_eq_true h
theorem dgt_f {a b:Int} (h:a<=b):decide (a>b)=false:=decide_eq_false (by omega)
theorem dge_t {a b:Int} (h:b<=a):decide (a≥b)=true:=decide_eq_true h
theorem dge_f {a b:Int} (h:a<b):decide (a≥b)=false:=decide_eq_false (by omega)
theorem Znc {a b:Int} (h:a=b):(a==b)=true:=beq_iff_eq.2 h
theorem H6 {a b:Int} (h:a≠b):(a==b)=false:=beq_eq_false_iff_ne.2 h
theorem Zsd {a b:Int} (h:a≠b):(a !=b)=true:=bne_iff_ne.2 h
theorem Znd {a b:Int} (h:a=b):(a !=b)=false:=by subst h;simp
def fl {A:Type} (e:A->List C) (l:List A):List C:=l.flatMap e
section
variable {A:Type} {e:A->List C} {m:Nat}
@[simp] theorem fl_nil:fl e []=[]:=rfl
theorem Rx (x:A) (l:List A):fl e (x::l)=e x++fl e l:=by simp[fl]
theorem H7 (l l':List A):fl e (l++l')=fl e l++fl e l':=by simp[fl]
theorem Jz (l:List A) (x:A):fl e l++e x=fl e (l++[x]):=by simp[fl]
theorem Zh (h: ∀x,(e x).length=m): ∀l:List A,(fl e l).length=l.length*m
 | []=>by simp[fl]
 |x::l=>by rw[Rx,Ztb,h,Zh h l,Zs4,Zug];omega
theorem En (h: ∀x,(e x).length=m): ∀(k:Nat) (l:List A),(fl e l).drop (k*m)=fl e (l.drop k)
 |0,l=>by simp
 |k+1,[]=>by simp[fl]
 |k+1,x::l=>by
  rw[Rx,Zug,Zvz,Zxq];rw[show(e x).drop (m+k*m)=[] from Zvr (by rw[h];omega),h,Zv2,Zt3,En h k l];rfl
theorem Zby (h: ∀x,(e x).length=m): ∀(k:Nat) (l:List A),(fl e l).take (k*m)=fl e (l.take k)
 |0,l=>by simp
 |k+1,[]=>by simp[fl]
 |k+1,x::l=>by
  rw[Rx,Zug,Zvz,Zv1];rw[Ztd (by rw[h];omega),h,Zv2,Zby h k l,Zvp,Rx]
theorem Lw (h: ∀x,(e x).length=m) {k:Nat} {l:List A} (hk:k<l.length):(fl e l).drop (k*m)=e l[k]++fl e (l.drop (k+1)):=by
 rw[En h,Zt4 hk,Rx]
end
theorem R6 (P:Nat->Prop) [DecidablePred P] (n:Nat):(∀j,j<n-> ¬P j)\/ ∃k,k<n/\P k/\ ∀j,j<k-> ¬P j:=by
 induction n with
 |zero=>left;intro j hj;omega
 |succ n ih=>
  rcases ih with ih|⟨k,h1,h2,h3⟩
  ·by_cases h:P n
   ·exact .inr ⟨n,by omega,h,ih⟩
   ·left;intro j hj;by_cases e:j=n
    ·subst e;exact h
    ·exact ih j (by omega)
  ·exact .inr ⟨k,by omega,h2,h3⟩
theorem Zs {A:Type} {body:A->Option (Nat×A)} {x:A} {fu:Nat} (f:Nat->A) (e:Nat) (z:A) (k:Nat) (hx:x=f 0) (h: ∀j,j<k->body (f j)=some (0,f (j+1))) (he:body (f k)=some (e+1,z)) (hf:k<fu):iter body fu x=some (e,z):=by
 rw[hx];exact Ju f e z k 0 fu (λj _ hj=>h j (by omega)) (by rw[Zs3];exact he) hf
theorem Zgt {A:Type} {body:A->Option (Nat×A)} {x:A} {fu:Nat} (J:A->Prop) (m:A->Nat) (e:Nat) (z:A) (hx:J x) (hm:m x<fu) (h: ∀y,J y->(∃y',body y=some (0,y')/\J y'/\m y'<m y)\/body y=some (e+1,z)):iter body fu x=some (e,z):=by
 obtain⟨e',z',h1,h2,h3⟩:=H5 (body:=body) J m (λe' z'=>e'=e/\z'=z) (λy hy=>(h y hy).imp id λhh=>⟨e,z,hh,rfl,rfl⟩) fu x hx hm;rw[h1,h2,h3]
theorem Rb {A:Type} (body:A->Option (Nat×A)) (n:Nat) (x:A):iter body (n+1) x=(body x).bind λp=>natD p.1 (iter body n p.2) λm=>some (m,p.2):=by
 simp only[iter]
 congr 1
def QM:=And.intro @obs (And.intro @rC_c (And.intro @Zr4 (And.intro @Zr5 (And.intro @Kq (And.intro @Zr6 (And.intro @rS_sb (And.intro @rF_sb (And.intro @Zjw (And.intro @Zjx (And.intro @Zmv (And.intro @rO_ob (And.intro @Zq9 (And.intro @Zmw (And.intro @asI_int (And.intro @asB_bool (And.intro @Zgf (And.intro @Zh4 (And.intro @Zpl (And.intro @Zpm (And.intro @Zr7 (And.intro @Zmx (And.intro @Zr8 (And.intro @Wi (And.intro @ct (And.intro @cf (And.intro @Zra (And.intro @Zjy (And.intro @Zjz (And.intro @Zmy (And.intro @Zr9 (And.intro @Zpn (And.intro @Zpo (And.intro @Zpp (And.intro @Zpq (And.intro @Bool.and_true (And.intro @Bool.true_and (And.intro @Bool.and_self (And.intro @Zj0 (And.intro @Bool.not_true (And.intro @Bool.not_false (And.intro @Bool.and_false (And.intro @Bool.false_and (And.intro @Bool.or_false (And.intro @Bool.false_or (And.intro @Bool.or_true @Bool.true_or)))))))))))))))))))))))))))))))))))))))))))))
def QD:=And.intro @Xj (And.intro @Zrc (And.intro @Zrd (And.intro @dle_t (And.intro @dle_f (And.intro @dgt_t (And.intro @dgt_f (And.intro @dge_t (And.intro @dge_f (And.intro @Znc (And.intro @H6 (And.intro @Zsd (And.intro @Znd (And.intro @Zpt (And.intro @Zpr @Zps))))))))))))))
end Go.PM
/- Places: what the functions of the program and of the reference come to. -/
namespace Go.Proofs.YtjmempcalaliiaaGreatDoor
open Go Go.PM Go.Grid
def plc (p:Pl):List C:=[.v (.int .i64 p.f), .v (.int .i64 p.a), .v (.int .i64 p.b), .v (.int .i64 p.c)]
theorem Zp (p:Pl):(plc p).length=4:=rfl
def wcs (w:Nat->Nat):List C:=(List.range 12).map λv=> .v (.int .i64 (w v))
abbrev OK (r:V):Option Out:=some ⟨r,[],none⟩
def X3 (f a b c:Int):Bool:=decide (0<=f/\f<20/\0<=a/\a<=840/\0<=b/\b<=840/\0<=c/\c<=840/\a+b+c=840)
theorem Wq {p:Pl} (h:p.ok):X3 p.f p.a p.b p.c=true:=by
 obtain⟨h1,h2⟩:=h;exact decide_eq_true (by omega)
theorem Zbz (fu d:Nat) (f a b c:Int):cl fu (d+1) fn_synopticref02_Valid [V.agg [.v (.int .i64 f), .v (.int .i64 a), .v (.int .i64 b), .v (.int .i64 c)]] []=OK (B (X3 f a b c)):=by
 rw[eq_synopticref02_Valid];by_cases h1:0<=f
 case neg=>rw[show X3 f a b c=false from decide_eq_false (by omega)];simp(disch:=omega)only[QM,QD]
 by_cases h2:f<20
 case neg=>rw[show X3 f a b c=false from decide_eq_false (by omega)];simp(disch:=omega)only[QM,QD]
 by_cases h3:0<=a
 case neg=>rw[show X3 f a b c=false from decide_eq_false (by omega)];simp(disch:=omega)only[QM,QD]
 by_cases h4:a<=840
 case neg=>rw[show X3 f a b c=false from decide_eq_false (by omega)];simp(disch:=omega)only[QM,QD]
 by_cases h5:0<=b
 case neg=>rw[show X3 f a b c=false from decide_eq_false (by omega)];simp(disch:=omega)only[QM,QD]
 by_cases h6:b<=840
 case neg=>rw[show X3 f a b c=false from decide_eq_false (by omega)];simp(disch:=omega)only[QM,QD]
 by_cases h7:0<=c
 case neg=>rw[show X3 f a b c=false from decide_eq_false (by omega)];simp(disch:=omega)only[QM,QD]
 by_cases h8:c<=840
 case neg=>rw[show X3 f a b c=false from decide_eq_false (by omega)];simp(disch:=omega)only[QM,QD]
 by_cases h9:a+b+c=840
 ·rw[show X3 f a b c=true from decide_eq_true (by omega)];simp(disch:=omega)only[QM,QD]
 ·rw[show X3 f a b c=false from decide_eq_false (by omega)];simp(disch:=omega)only[QM,QD]
theorem twenty {f:Nat} (h:f<20):f=0\/f=1\/f=2\/f=3\/f=4\/f=5\/f=6\/f=7\/f=8\/f=9\/f=10\/f=11\/f=12\/f=13\/f=14\/f=15\/f=16\/f=17\/f=18\/f=19:=by omega
theorem Mt (fu d f:Nat) (h:f<20):cl fu (d+1) fn_synopticref02_Corners [I f] []=OK (V.tup [V.agg [.v (.int .i64 (crn f).1), .v (.int .i64 (crn f).2.1), .v (.int .i64 (crn f).2.2)],I 0]):=by
 rw[eq_synopticref02_Corners];rcases twenty h with rfl|rfl|rfl|rfl|rfl|rfl|rfl|rfl|rfl|rfl|rfl|rfl|rfl|rfl|rfl|rfl|rfl|rfl|rfl|rfl<;>(show @Eq (Option Out) _ _;kernel_rfl)
theorem Cz (fu d:Nat) (p:Pl) (h:p.ok):cl fu (d+2) fn_synopticref02_Weights [V.agg (plc p)] []=OK (V.agg (wcs (wt p))):=by
 obtain⟨f,a,b,c⟩:=p;unfold plc;rw[eq_synopticref02_Weights];simp only;rw[Mt fu d f h.1];have hf:f<20:=h.1;rcases twenty hf with rfl|rfl|rfl|rfl|rfl|rfl|rfl|rfl|rfl|rfl|rfl|rfl|rfl|rfl|rfl|rfl|rfl|rfl|rfl|rfl<;>(show @Eq (Option Out) _ _;kernel_rfl)
theorem Zj8 (fu d:Nat) (w:Nat->Nat) (hw: ∀v,w v<=840) (f:Nat) (h:f<20):cl fu (d+2) fn_synopticref02_On [I f,V.agg (wcs w)] []=OK (V.tup [V.agg (plc (onW w f)),B (onW w f).full]):=by
 have e:cl fu (d+2) fn_synopticref02_On [I f,V.agg (wcs w)] []=OK (V.tup [V.agg (plc (onW w f)),B (IntKind.i64.wrap (IntKind.i64.wrap ((w (crn f).1:Int)+(w (crn f).2.1:Int))+(w (crn f).2.2:Int))==840)]):=by
  rw[eq_synopticref02_On,Mt fu d f h];rcases twenty h with rfl|rfl|rfl|rfl|rfl|rfl|rfl|rfl|rfl|rfl|rfl|rfl|rfl|rfl|rfl|rfl|rfl|rfl|rfl|rfl<;>(show @Eq (Option Out) _ _;kernel_rfl)
 rw[e];have h1:=hw (crn f).1;have h2:=hw (crn f).2.1;have h3:=hw (crn f).2.2;simp(disch:=omega)only[Xj];have e2:((w (crn f).1:Int)+(w (crn f).2.1:Int)+(w (crn f).2.2:Int)==840)=(onW w f).full:=by
  rw[Zu2,Ms,beq_iff_eq];show _↔w (crn f).1+w (crn f).2.1+w (crn f).2.2=840;omega
 rw[e2]
def V3 (w:Nat->Nat) (j:Nat):List Pl:=((List.range j).map (onW w)).filter Pl.full
theorem Sm (w:Nat->Nat) (j:Nat):V3 w (j+1)=if(onW w j).full then V3 w j++[onW w j]else V3 w j:=by
 unfold V3;rw[Zun,Zup,List.filter_append];simp only[Zt7,Zwf,List.filter_cons,List.filter_nil];split<;>simp
theorem C0 (w:Nat->Nat) (j:Nat):(V3 w j).length<=j:=by
 unfold V3;refine Ztr (Zwy _ _) ?_;simp
theorem Zne {p:Pl} (h:p.ok) (v:Nat):wt p v<=840:=by
 have h2:=h.2;unfold wt wt3
 (repeat' split)<;>omega
theorem Zpw (l:List Pl) (q:Pl):fl plc l++[.v (.int .i64 q.f), .v (.int .i64 q.a), .v (.int .i64 q.b), .v (.int .i64 q.c)]=fl plc (l++[q]):=Jz l q
theorem Xy (l:List Pl):l.length*4/4=l.length:=Zvh _ (by omega)
theorem Zh7 (w:Nat->Nat):putAt [C.v (.int .i64 0),C.v (.int .i64 0),C.v (.int .i64 0),C.v (.int .i64 0),C.v (.int .i64 0),C.v (.int .i64 0),C.v (.int .i64 0),C.v (.int .i64 0),C.v (.int .i64 0),C.v (.int .i64 0),C.v (.int .i64 0),C.v (.int .i64 0)] 0 (wcs w)=wcs w:=id rfl
theorem Zei (w:Nat->Nat):List.take 12 (wcs w)=wcs w:=id rfl
theorem C1 (w:Nat->Nat):(wcs w).length=12:=id rfl
theorem H8 (fu d:Nat) (hf:18446744073709551616<=fu) (p:Pl) (h:p.ok):
  cl fu (d+3) fn_synopticref02_Addresses [V.agg (plc p)] []=OK (V.tup [V.c (C.sl (S7 p).length (fl plc (S7 p))),I 0]):=by
 have e1:=Cz fu d p h;have hv:=Wq h;unfold plc at e1⊢;rw[eq_synopticref02_Addresses,Zbz,hv,e1];simp only[QM,Zh7,Zei,C1,Zs3,show Nat.ble 12 12=true from rfl];rw[show(([]:List C),(0:Int),())=(λj:Nat=>(fl plc (V3 (wt p) j),(j:Int),())) 0 from rfl,Ju (λj:Nat=>(fl plc (V3 (wt p) j),(j:Int),())) 0 (fl plc (V3 (wt p) 20),(20:Int),()) 20 0 fu ?_ ?_ (by omega)]
 ·simp(disch:=omega)only[QM,QD,Zh Zp,Xy,Zs3];rw[Ztd (by rw[Zh Zp];omega)];rfl
 ·intro j _ hj;have hl:=C0 (wt p) j;rw[Sm];have e2:=Zj8 fu d (wt p) (Zne h) j (by omega);unfold plc at e2;simp(disch:=omega)only[QM,QD,e2,Zh Zp,Xy,Zs4,Zs8,Zs3,Nat.reduceAdd];cases hfull:(onW (wt p) j).full with
  |true=>
   simp(disch:=omega)only[QM,QD,Zpw,Zh Zp,Ztb,Zs4,Zs8,Zs3,if_true,Zt2,Zuq]
  |false=>
   simp(disch:=omega)only[QM,QD,Zwl,if_false,Zt2,Zuq]
 ·simp(disch:=omega)only[QM,QD,Zh Zp,Xy,Zs3];rfl
end Go.Proofs.YtjmempcalaliiaaGreatDoor
/- Places, continued: the normal place; the program's functions. -/
namespace Go.Proofs.YtjmempcalaliiaaGreatDoor
open Go Go.PM Go.Grid
theorem Lx (fu d:Nat) (hf:18446744073709551616<=fu) (p:Pl) (h:p.ok):cl fu (d+4) fn_synopticref02_Normal [V.agg (plc p)] []=OK (V.tup [V.agg (plc (norm p)),I 0]):=by
 have e1:=H8 fu d hf p h;obtain⟨r,hr⟩:=M8 h;rw[hr]at e1;unfold plc at e1⊢;rw[eq_synopticref02_Normal,e1];simp(disch:=omega)only[QM,QD,Rx,plc,Zt1,Zt3,Zs4]
theorem Zb0 (p q:Pl):((p.f:Int)==q.f&&((p.a:Int)==q.a&&((p.b:Int)==q.b&&(p.c:Int)==q.c)))=decide (p=q):=by
 obtain⟨f,a,b,c⟩:=p;obtain⟨f',a',b',c'⟩:=q;rw[Zu2];simp only[Zs2,beq_iff_eq,decide_eq_true_eq,Pl.mk.injEq];omega
theorem F1 (fu d:Nat) (hf:18446744073709551616<=fu) (p:Pl) (h:p.ok):cl fu (d+5) fn_synopticref02_IsNormal [V.agg (plc p)] []=OK (B (isN p)):=by
 have e1:=Lx fu d hf p h;unfold plc at e1⊢;rw[eq_synopticref02_IsNormal,e1];simp(disch:=omega)only[QM,QD,Zs4,Zs8,Zb0,Nat.reduceAdd];unfold isN;rw[show decide (p=norm p)=decide (norm p=p) from by rw[Zu2];simp[eq_comm]]
theorem Zpx (fu d:Nat) (f:Int):cl fu (d+1) fn_place_face [I f] []=OK (B (decide (0<=f/\f<20))):=by
 rw[eq_place_face];by_cases h1:0<=f
 ·simp(disch:=omega)only[QM,QD];by_cases h2:f<20
  ·rw[Zrc h2,decide_eq_true ⟨h1,h2⟩]
  ·rw[Zrd (by omega),decide_eq_false (by omega)]
 ·rw[decide_eq_false (by omega: ¬(0<=f/\f<20))];simp(disch:=omega)only[QM,QD]
theorem Zej (fu d:Nat) (hf:18446744073709551616<=fu) (f a b c:Int):cl fu (d+2) fn_place_Valid [V.agg [.v (.int .i64 f), .v (.int .i64 a), .v (.int .i64 b), .v (.int .i64 c)]] []=OK (B (X3 f a b c)):=by
 rw[eq_place_Valid,Zpx];obtain⟨fu',rfl⟩: ∃n,fu=n+4:=⟨fu-4,by omega⟩;by_cases h3:0<=a
 case neg=>rw[show X3 f a b c=false from decide_eq_false (by omega)];rw[Rb];simp(disch:=omega)only[QM,QD,Zvb,Zua,Zu0]
 by_cases h4:a<=840
 case neg=>rw[show X3 f a b c=false from decide_eq_false (by omega)];rw[Rb];simp(disch:=omega)only[QM,QD,Zvb,Zua,Zu0]
 by_cases h5:0<=b
 case neg=>rw[show X3 f a b c=false from decide_eq_false (by omega)];rw[Rb];simp(disch:=omega)only[QM,QD,Zvb,Zua,Zu0,Zwh,Rb,Zw3,Zv4,Zuw]
 by_cases h6:b<=840
 case neg=>rw[show X3 f a b c=false from decide_eq_false (by omega)];rw[Rb];simp(disch:=omega)only[QM,QD,Zvb,Zua,Zu0,Zwh,Rb,Zw3,Zv4,Zuw]
 by_cases h7:0<=c
 case neg=>rw[show X3 f a b c=false from decide_eq_false (by omega)];rw[Rb];simp(disch:=omega)only[QM,QD,Zvb,Zua,Zu0,Zwh,Rb,Zw3,Zv4,Zuw,Int.reduceAdd,Int.reduceToNat]
 by_cases h8:c<=840
 case neg=>rw[show X3 f a b c=false from decide_eq_false (by omega)];rw[Rb];simp(disch:=omega)only[QM,QD,Zvb,Zua,Zu0,Zwh,Rb,Zw3,Zv4,Zuw,Int.reduceAdd,Int.reduceToNat]
 simp(disch:=omega)only[QM,QD,Zvb,Zua,Zu0,Zwh,Rb,Zw3,Zv4,Zuw,Int.reduceAdd,Int.reduceToNat];by_cases h1:0<=f/\f<20
 ·rw[decide_eq_true h1];by_cases h9:a+b+c=840
  ·rw[show X3 f a b c=true from decide_eq_true (by omega)];simp(disch:=omega)only[QM,QD]
  ·rw[show X3 f a b c=false from decide_eq_false (by omega)];simp(disch:=omega)only[QM,QD]
 ·rw[decide_eq_false h1,show X3 f a b c=false from decide_eq_false (by omega)];simp(disch:=omega)only[QM,QD]
theorem sp_of (fu d:Nat) (p:Pl) (h:p.ok):cl fu (d+1) fn_place_of [V.agg (plc p)] []=OK (V.agg (wcs (wt p))):=by
 obtain⟨f,a,b,c⟩:=p;unfold plc;rw[eq_place_of];have hf:f<20:=h.1;rcases twenty hf with rfl|rfl|rfl|rfl|rfl|rfl|rfl|rfl|rfl|rfl|rfl|rfl|rfl|rfl|rfl|rfl|rfl|rfl|rfl|rfl<;>(show @Eq (Option Out) _ _;kernel_rfl)
theorem Zgu {w:Nat->Nat} (hw: ∀v,w v<=840) {f:Nat} (h:f<20):X3 (onW w f).f (onW w f).a (onW w f).b (onW w f).c=(onW w f).full:=by
 have h1:=hw (crn f).1;have h2:=hw (crn f).2.1;have h3:=hw (crn f).2.2;rw[Zu2,Ms];unfold X3;rw[decide_eq_true_eq];show(0:Int)<=(f:Nat)/\((f:Nat):Int)<20/\(0:Int)<=((w (crn f).1:Nat):Int)/\((w (crn f).1:Nat):Int)<=840/\(0:Int)<=((w (crn f).2.1:Nat):Int)/\((w (crn f).2.1:Nat):Int)<=840/\(0:Int)<=((w (crn f).2.2:Nat):Int)/\((w (crn f).2.2:Nat):Int)<=840/\((w (crn f).1:Nat):Int)+((w (crn f).2.1:Nat):Int)+((w (crn f).2.2:Nat):Int)=840↔w (crn f).1+w (crn f).2.1+w (crn f).2.2=840;omega
theorem Zre (fu d:Nat) (hf:18446744073709551616<=fu) (w:Nat->Nat) (hw: ∀v,w v<=840) (f:Nat) (h:f<20):cl fu (d+3) fn_place_on [I f,V.agg (wcs w)] []=OK (V.tup [V.agg (plc (onW w f)),B (onW w f).full]):=by
 have e:cl fu (d+3) fn_place_on [I f,V.agg (wcs w)] []=((cl fu (d+2) fn_place_Valid [V.agg (plc (onW w f))] []).bind λout=>rC out.r λc6=>asB c6 λb=>OK (V.tup [V.agg (plc (onW w f)),B b])):=by
  rw[eq_place_on];rcases twenty h with rfl|rfl|rfl|rfl|rfl|rfl|rfl|rfl|rfl|rfl|rfl|rfl|rfl|rfl|rfl|rfl|rfl|rfl|rfl|rfl<;>(show @Eq (Option Out) _ _;kernel_rfl)
 rw[e];unfold plc;rw[Zej fu d hf,Zgu hw h];simp only[QM]
theorem J0 {w:Nat->Nat}: ∀{k:Nat},(∀j,j<k->(onW w j).full=false)->V3 w k=[]
 |0,_=>rfl
 |k+1,h=>by rw[Sm,h k (by omega),J0 (λj hj=>h j (by omega))];rfl
theorem Ly {w:Nat->Nat} {k:Nat} (hk:(onW w k).full=true) (h: ∀j,j<k->(onW w j).full=false): ∀n,k<n-> ∃r,V3 w n=onW w k::r
 |0,hn=>by omega
 |n+1,hn=>by
  by_cases e:k=n
  ·subst e;exact⟨[],by rw[Sm,hk,J0 h];rfl⟩
  ·obtain⟨r,hr⟩:=Ly hk h n (by omega);rw[Sm,hr];split
   ·exact⟨r++[onW w n],rfl⟩
   ·exact⟨r,rfl⟩
theorem Wr (fu d:Nat) (hf:18446744073709551616<=fu) (p:Pl) (h:p.ok):cl fu (d+4) fn_place_Normal [V.agg (plc p)] []=OK (V.tup [V.agg (plc (norm p)),I 0]):=by
 have e1:=sp_of fu (d+2) p h;have hv:=Wq h;unfold plc at e1⊢;rw[eq_place_Normal,Zej fu (d+1) hf,hv,e1];simp only[QM,Zh7,Zei,C1,Zs3,show Nat.ble 12 12=true from rfl];obtain⟨r,hr⟩:=M8 h;have hm:=Jx h;obtain⟨k,hk,hke,hkl⟩: ∃k,k<20/\onW (wt p) k=norm p/\ ∀j,j<k->(onW (wt p) j).full=false:=by
  rcases R6 (λj=>(onW (wt p) j).full=true) 20 with h0|⟨k,h1,h2,h3⟩
  ·exfalso;obtain⟨g,g1,g2,g3⟩:=M7.1 hm;exact h0 g g1 (by rw[g2];exact Ms.2 g3)
  ·refine⟨k,h1, ?_,λj hj=>by simpa using h3 j hj⟩;obtain⟨r',this⟩:=Ly h2 (λj hj=>by simpa using h3 j hj) 20 h1;have this:S7 p=onW (wt p) k::r':=this;rw[hr]at this;exact(List.cons.inj this).1.symm
 rw[show((0:Int),(0:Int),((0:Int),(0:Int),(0:Int),(0:Int),()),())=(λj:Nat=>((0:Int),(j:Int),((0:Int),(0:Int),(0:Int),(0:Int),()),())) 0 from rfl,Ju (λj:Nat=>((0:Int),(j:Int),((0:Int),(0:Int),(0:Int),(0:Int),()),())) 1 (0,(k:Int),((norm p).f,(norm p).a,(norm p).b,(norm p).c,()),()) k 0 fu ?_ ?_ (by omega)]
 ·simp only[QM]
 ·intro j _ hj;have e2:=Zre fu d hf (wt p) (Zne h) j (by omega);rw[hkl j (by omega)]at e2;unfold plc at e2;simp(disch:=omega)only[QM,QD,e2,Zs4,Zs8,Zs3,Nat.reduceAdd,Zt2,Zuq]
 ·have e2:=Zre fu d hf (wt p) (Zne h) k hk;rw[hke,Ms.2 (Ej h).2]at e2;unfold plc at e2;simp(disch:=omega)only[QM,QD,e2,Zs4,Zs8,Zs3,Nat.reduceAdd]
end Go.Proofs.YtjmempcalaliiaaGreatDoor
/- The nodes of the grids as they are collected; a map from the nodes to their numbers: plain laws. -/
namespace Go.Grid
def pre (n f i j:Nat):List Pl:=(List.range f).flatMap (face n)++((List.range i).flatMap (row n f)++(List.range j).map (pt n f i))
def X9 (n f i j:Nat):List Pl:=(pre n f i j).filter isN
theorem pre_j (n f i j:Nat):pre n f i (j+1)=pre n f i j++[pt n f i j]:=by
 unfold pre;rw[List.range_succ,List.map_append];simp[List.append_assoc]
theorem Zrf (n f i:Nat):pre n f i (n+1-i)=pre n f (i+1) 0:=by
 unfold pre;rw[List.range_succ,List.flatMap_append];simp[row]
theorem Zrg (n f:Nat):pre n f (n+1) 0=pre n (f+1) 0 0:=by
 unfold pre;rw[List.range_succ (n:=f),List.flatMap_append];simp[face]
theorem Zpy (n:Nat):pre n 20 0 0=pts n:=by unfold pre pts;simp
theorem Znf (n f i j:Nat):X9 n f i (j+1)=if norm (pt n f i j)=pt n f i j then X9 n f i j++[pt n f i j]else X9 n f i j:=by
 unfold X9;rw[pre_j,List.filter_append];simp only[List.filter_cons,List.filter_nil,isN,decide_eq_true_eq];split<;>simp
theorem Zse {n f i j:Nat} (h:Yc n) {q:Pl} (hq:q∈pre n f i j):plt q (pt n f i j):=by
 have hst:=Q9 h;have hmul: ∀{i j:Nat},i<j->i*(840/n)<j*(840/n):=λhij=>Nat.mul_lt_mul_of_pos_right hij (by omega);simp only[pre,List.mem_append,List.mem_flatMap,List.mem_range,List.mem_map,face,row]at hq;rcases hq with⟨f',h1,i',_,j',_,rfl⟩|⟨i',h1,j',_,rfl⟩|⟨j',h1,rfl⟩
 ·exact .inl h1
 ·exact .inr ⟨rfl, .inl (hmul h1)⟩
 ·exact .inr ⟨rfl, .inr ⟨rfl,hmul h1⟩⟩
theorem Zng {n f i j:Nat} (h:Yc n):pt n f i j∉X9 n f i j:=λhm=>Ks _ (Zse h (List.mem_filter.1 hm).1)
theorem Qb {B:Type} {g:Nat->List B} {m:Nat} (h: ∀x,(g x).length<=m): ∀k,((List.range k).flatMap g).length<=k*m
 |0=>by simp
 |k+1=>by
  rw[List.range_succ,List.flatMap_append,List.length_append,Nat.succ_mul];have:=Qb h k;have:=h k;simp only[List.flatMap_cons,List.flatMap_nil,List.append_nil];omega
theorem Znh (n f i:Nat) (h:n<=8):(row n f i).length<=9:=by unfold row;simp;omega
theorem Zpz (n f:Nat) (h:n<=8):(face n f).length<=81:=by
 unfold face;have:=Qb (g:=row n f) (λi=>Znh n f i h) (n+1);omega
theorem Un {n f i j:Nat} (h:Yc n) (hf:f<=20) (hi:i<=9) (hj:j<=9):(X9 n f i j).length<=2000:=by
 refine Nat.le_trans (List.length_filter_le _ _) ?_;unfold pre;rw[List.length_append,List.length_append,List.length_map,List.length_range];have h1:=Qb (g:=face n) (λf=>Zpz n f h.2) f;have h2:=Qb (g:=row n f) (λi=>Znh n f i h.2) i;omega
theorem Zek (n:Nat):X9 n 20 0 0=Zg n:=by unfold X9;rw[Zpy];rfl
theorem Zj9 {p:Pl} (h:p.ok) (ha:0<p.a) (hb:0<p.b) (hc:0<p.c):isN p=true:=decide_eq_true (Zgm h ha hb hc)
end Go.Grid
/- The nodes of a grid where the net is handed out as a new object. -/
namespace Go.Proofs.YtjmempcalaliiaaGreatDoor
open Go Go.PM Go.Grid
theorem Ws (p q:Pl):eqT Tryz.prog 20 ty_api_Place (plc p) (plc q)=some (decide (p=q)):=by
 have:eqT Tryz.prog 20 ty_api_Place (plc p) (plc q)=some ((p.f:Int)==q.f&&((p.a:Int)==q.a&&((p.b:Int)==q.b&&((p.c:Int)==q.c&&true)))):=by kernel_rfl
 rw[this,Bool.and_true,Zb0]
def esn:Nat->List Pl->List (List C×List C)
 |_,[]=>[]
 |k,p::r=>(plc p,[.v (.int .i64 k)])::esn (k+1) r
theorem Zel (p:Pl): ∀(l:List Pl) (k:Nat),esn k l++[(plc p,[.v (.int .i64 ((k+l.length:Nat):Int))])]=esn k (l++[p])
 | [],k=>by simp[esn]
 |q::l,k=>by
  simp only[esn,Zt1,Zs4];rw[<-Zel p l (k+1),show k+(l.length+1)=k+1+l.length by omega]
theorem Zni (p:Pl):Ze7 (plc p) (plc p)=true:=by simp[plc,Ze7,ceq]
theorem Zh8 {p:Pl}: ∀(l:List Pl) (k i:Nat),p∉l->mfind Tryz.prog ty_api_Place (plc p) (esn k l) i=some none
 | [],k,i,_=>by simp[esn,mfind]
 |q::l,k,i,h=>by
  simp only[esn,mfind,Ws];rw[decide_eq_false (λe=>h (by simp[e]))];simp only[cf];exact Zh8 l (k+1) (i+1) (λe=>h (by simp[e]))
theorem Zh9 {p:Pl}: ∀(l:List Pl) (k i:Nat),p∈l->mfind Tryz.prog ty_api_Place (plc p) (esn k l) i=some (some (i+l.idxOf p,[.v (.int .i64 ((k+l.idxOf p:Nat):Int))]))
 | [],k,i,h=>by cases h
 |q::l,k,i,h=>by
  simp only[esn,mfind,Ws];by_cases e:p=q
  ·subst e;rw[decide_eq_true rfl];simp[Zni,need]
  ·rw[decide_eq_false e];simp only[cf];have hm:p∈l:=by rcases Zto.1 h with h|h;exact absurd h e;exact h
   rw[Zh9 l (k+1) (i+1) hm,List.idxOf_cons];have:(q==p)=false:=by simpa using Ne.symm e
   rw[this];simp only[cond_false];rw[show i+1+l.idxOf p=i+(l.idxOf p+1) by omega,show k+1+l.idxOf p=k+(l.idxOf p+1) by omega]
theorem Zka (es:List (List C×List C)) (k v:List C):mput es none k v=es++[(k,v)]:=id rfl
abbrev netC (n:Nat) (l:List Pl):List C:=[.v (.int .i64 n), .v (.int .i64 ((840/n:Nat):Int)),C.sl l.length (fl plc l),C.mp ty_api_Place ty_int (some 4) none (esn 0 l),C.nl,C.nl,C.nl]
abbrev Zkb (n:Nat) (l:List Pl):Int×Int×List C×List (List C×List C)×C×C×C×Unit:=((n:Int),((840/n:Nat):Int),fl plc l,esn 0 l,C.nl,C.nl,C.nl,())
theorem C2 {n:Nat} (h:Yc n):IntKind.i64.wrap (Int.tdiv 840 n)=((840/n:Nat):Int):=by
 rcases Qu h with rfl|rfl|rfl|rfl|rfl|rfl|rfl|rfl<;>rfl
theorem Mu {n i:Nat} (h:Yc n) (hi:i<=n):i*(840/n)<=840:=by
 have:=Zut (840/n) hi;rw[S8 h]at this;exact this
theorem Pt {n i:Nat} (h:Yc n) (hi:i<=n):IntKind.i64.wrap ((i:Int)*((840/n:Nat):Int))=((i*(840/n):Nat):Int):=by
 have:=Mu h hi;rw[show((i:Int)*((840/n:Nat):Int))=((i*(840/n):Nat):Int) from(Zve _ _).symm];exact Xj (Int.le_trans (by decide) (Int.natCast_nonneg _)) (Int.le_trans (Int.ofNat_le.2 this) (by decide))
theorem Mv (l:List Pl) (f a b c:Nat):fl plc l++[.v (.int .i64 f), .v (.int .i64 a), .v (.int .i64 b), .v (.int .i64 c)]=fl plc (l++[⟨f,a,b,c⟩]):=Jz l ⟨f,a,b,c⟩
theorem Zkc (l:List Pl) (f a b c:Nat):esn 0 l++[([.v (.int .i64 f), .v (.int .i64 a), .v (.int .i64 b), .v (.int .i64 c)],[.v (.int .i64 (l.length:Int))])]=esn 0 (l++[⟨f,a,b,c⟩]):=by
 have:=Zel ⟨f,a,b,c⟩ l 0;rw[Zs3]at this;exact this
theorem Zgv (fu d:Nat) (hf:18446744073709551616<=fu) (n:Nat) (h:Yc n):cl fu (d+5) fn_mesh_Points [I n] []=some ⟨V.ptr 1000000 0,[.ob ty_mesh_Net 0 (netC n (Zg n))],none⟩:=by
 have hn:=h;unfold Yc at hn;rw[eq_mesh_Points,C2 h,show(!((n:Int)==0))=true from by rw[H6 (by omega)];rfl,Wi];rw[Zs (λf:Nat=>((f:Int),Zkb n (X9 n f 0 0),())) 0 ((20:Int),Zkb n (X9 n 20 0 0),()) 20 ?_ ?_ ?_ (by omega)]
 ·rw[Zek];simp(disch:=omega)only[QM,QD,Zh Zp,Xy,Zs3];rw[Ztd (by rw[Zh Zp];omega)]
 ·rfl
 ·intro f hf';have hl:(X9 n f 0 0).length<=2000:=Un h (by omega) (by omega) (by omega);simp(disch:=omega)only[QM,QD,Zh Zp,Xy];rw[Zs (λi:Nat=>((i:Int),Zkb n (X9 n f i 0),())) 0 (((n+1:Nat):Int),Zkb n (X9 n f (n+1) 0),()) (n+1) ?_ ?_ ?_ (by omega)]
  ·have hl:(X9 n f (n+1) 0).length<=2000:=Un h (by omega) (by omega) (by omega);simp(disch:=omega)only[QM,QD,Zh Zp,Xy,Zt2,Zuq];unfold X9;rw[Zrg]
  ·rfl
  ·intro i hi;have hl:(X9 n f i 0).length<=2000:=Un h (by omega) (by omega) (by omega);simp(disch:=omega)only[QM,QD,Zh Zp,Xy];rw[Zs (λj:Nat=>((j:Int),Zkb n (X9 n f i j),())) 0 (((n+1-i:Nat):Int),Zkb n (X9 n f i (n+1-i)),()) (n+1-i) ?_ ?_ ?_ (by omega)]
   ·have hl:(X9 n f i (n+1-i)).length<=2000:=Un h (by omega) (by omega) (by omega);simp(disch:=omega)only[QM,QD,Zh Zp,Xy,Zt2,Zuq];unfold X9;rw[Zrf]
   ·rfl
   ·intro j hj;have hl:(X9 n f i j).length<=2000:=Un h (by omega) (by omega) (by omega);have hnot:=Zng (f:=f) (i:=i) (j:=j) h;have hc:IntKind.i64.wrap (((n:Int)-(i:Int)-(j:Int))*((840/n:Nat):Int))=(((n-i-j)*(840/n):Nat):Int):=by
     rw[show(n:Int)-i-j=((n-i-j:Nat):Int) by omega,Pt h (by omega)]
    have e2:=Wr fu d hf (pt n f i j) (Znb h hf' (by omega));have e3:=Zh8 (X9 n f i j) 0 0 hnot;have e4:=Zb0 (norm (pt n f i j)) (pt n f i j);have e5:=Znf n f i j;generalize hz:decide (norm (pt n f i j)=pt n f i j)=z at e4;replace e5:X9 n f i (j+1)=bif z then X9 n f i j++[pt n f i j]else X9 n f i j:=by
     cases z with
     |true=>rw[e5,if_pos (of_decide_eq_true hz)];rfl
     |false=>rw[e5,if_neg (of_decide_eq_false hz)];rfl
    clear hz;simp only[plc]at e2 e3;generalize norm (pt n f i j)=q at e2 e4 e5;simp only[pt]at e2 e3 e4 e5;simp(disch:=omega)only[QM,QD,hc,Pt h (show i<=n by omega),Pt h (show j<=n by omega),e2,e4,Zs4,Zs8,Zs3,Nat.reduceAdd,Zh Zp,Xy];rw[e5];cases z with
    |true=>
     simp(disch:=omega)only[QM,QD,mfd,e3,Zka,Mv,Zkc,Zh Zp,Xy,Ztb,Zs4,Zs8,Zs3,Zt2,Zuq]
    |false=>
     simp(disch:=omega)only[QM,QD,Zt2,Zuq]
   ·have hl:(X9 n f i (n+1-i)).length<=2000:=Un h (by omega) (by omega) (by omega);simp(disch:=omega)only[QM,QD,Zh Zp,Xy]
  ·have hl:(X9 n f (n+1) 0).length<=2000:=Un h (by omega) (by omega) (by omega);simp(disch:=omega)only[QM,QD,Zh Zp,Xy]
 ·have hl:(X9 n 20 0 0).length<=2000:=Un h (by omega) (by omega) (by omega);simp(disch:=omega)only[QM,QD,Zh Zp,Xy];rfl
end Go.Proofs.YtjmempcalaliiaaGreatDoor
/- Rules that keep simp at what comes first: nothing behind it is looked at (attribute [local congr] in the texts that use them). -/
namespace Go.PM
open Go
def hdt {A:Type} (x:A):A:=x
theorem Zc {A:Type} (x:A):hdt x=x:=id rfl
theorem Zem:Nat.beq 1000000 (OUT+0)=true:=id rfl
theorem out1:Nat.beq 1000001 (OUT+1)=true:=id rfl
theorem out2:Nat.beq 1000002 (OUT+2)=true:=id rfl
section
variable {R A B':Type}
theorem Zu {x x':Option A} {k:A->Option B'} (h:hdt x=x'):x.bind k=x'.bind k:=by rw[<-h];rfl
theorem Zv {b b':Bool} {k:Option R} (h:hdt b=b'):need b k=need b' k:=by rw[<-h];rfl
theorem Zw {b b':Bool} {x y:R} (h:hdt b=b'):(bif b then x else y)=(bif b' then x else y):=by rw[<-h];rfl
theorem Yd {c c':List C} {k:C->List C->Option R} (h:hdt c=c'):unc c k=unc c' k:=by rw[<-h];rfl
theorem Zx {c c':List V} {k:V->List V->Option R} (h:hdt c=c'):uncV c k=uncV c' k:=by rw[<-h];rfl
theorem Zy {c c':List PM.Obj} {k:PM.Obj->List PM.Obj->Option R} (h:hdt c=c'):uncO c k=uncO c' k:=by rw[<-h];rfl
theorem Ye {c c':List (List V)} {k:List V->List (List V)->Option R} (h:hdt c=c'):unI c k=unI c' k:=by rw[<-h];rfl
theorem Yf {kd:IntKind} {c c':C} {k:Int->Option R} (h:hdt c=c'):asI kd c k=asI kd c' k:=by rw[<-h];rfl
theorem Yg {c c':C} {k:Bool->Option R} (h:hdt c=c'):asB c k=asB c' k:=by rw[<-h];rfl
theorem Yh {c c':C} {k:ByteArray->Option R} (h:hdt c=c'):asS c k=asS c' k:=by rw[<-h];rfl
theorem Zz {c c':C} {k:Nat->List C->Option R} (h:hdt c=c'):asSl c k=asSl c' k:=by rw[<-h];rfl
theorem Z0 {c c':C} {k:FuncId->List C->Option R} (h:hdt c=c'):asFn c k=asFn c' k:=by rw[<-h];rfl
theorem Yi {c c':C} {k:List C->Option R} (h:hdt c=c'):asP c k=asP c' k:=by rw[<-h];rfl
theorem Z1 {c c':C} {ky:Nat->Option R} {k:FuncId->List C->Option R} (h:hdt c=c'):Zab c ky k=Zab c' ky k:=by rw[<-h];rfl
theorem Yx {x x':V} {k:C->Option R} (h:hdt x=x'):rC x k=rC x' k:=by rw[<-h];rfl
theorem Yy {x x':V} {k:List C->Option R} (h:hdt x=x'):rA x k=rA x' k:=by rw[<-h];rfl
theorem Yz {x x':V} {k:List V->Option R} (h:hdt x=x'):rT x k=rT x' k:=by rw[<-h];rfl
theorem Y1 {x x':V} {k:List V->Option R} (h:hdt x=x'):rG x k=rG x' k:=by rw[<-h];rfl
theorem Y2 {x x':V} {m:Nat} {k:Option R} (h:hdt x=x'):rP x m k=rP x' m k:=by rw[<-h];rfl
theorem Y4 {x x':V} {m:Nat} {k:Nat->Option R} (h:hdt x=x'):rW x m k=rW x' m k:=by rw[<-h];rfl
theorem Y5 {o o':PM.Obj} {t fz:Nat} {k:List C->Option R} (h:hdt o=o'):rO o t fz k=rO o' t fz k:=by rw[<-h];rfl
theorem Y6 {o o':PM.Obj} {t n:Nat} {k:List C->Option R} (h:hdt o=o'):rN o t n k=rN o' t n k:=by rw[<-h];rfl
theorem Y7 {o o':PM.Obj} {t:Nat} {k:Nat->List C->Option R} (h:hdt o=o'):rF o t k=rF o' t k:=by rw[<-h];rfl
theorem Y8 {o o':PM.Obj} {t fz:Nat} {k:List C->Option R} (h:hdt o=o'):rS o t fz k=rS o' t fz k:=by rw[<-h];rfl
theorem Z2 {x x':List V} {k:Option R} (h:hdt x=x'):nilV x k=nilV x' k:=by rw[<-h];rfl
theorem Z3 {n n':Nat} {a:Option R} {b:Nat->Option R} (h:hdt n=n'):natD n a b=natD n' a b:=by rw[<-h];rfl
theorem Y9 {x x':A} {k:A->Option R} (h:hdt x=x'):bd x k=bd x' k:=by rw[<-h];rfl
theorem Z4 {body:A->Option (Nat×A)} {fu:Nat} {x x':A} (h:hdt x=x'):iter body fu x=iter body fu x':=by rw[<-h];rfl
theorem Z5 {I:Type} {body:I->A->Option (Nat×A)} {l l':List I} {x x':A} (h1:hdt l=l') (h:hdt x=x'):overK body l x=overK body l' x':=by rw[<-h,<-h1];rfl
theorem Zk {sz:Nat} {lo lo' hi hi':Option V} {c c':C} {k:C->Option R} (h1:hdt lo=lo') (h2:hdt hi=hi') (h:hdt c=c'):sliceC sz lo hi c k=sliceC sz lo' hi' c' k:=by rw[<-h,<-h1,<-h2];rfl
theorem Z6 {c c':C} {kt et:TypeId} {ka va:Option Nat} {k:List (List C×List C)->Option R} (h:hdt c=c'):Zcq c kt et ka va k=Zcq c' kt et ka va k:=by rw[<-h];rfl
end
end Go.PM
/- A grid's cells: what the functions that add them come to. -/
namespace Go.PM
open Go
theorem Zsf {R:Type} (g t:Nat) (ps:List PC) (k:List PC->Option R):rPk (.pk g t (.ps ps) none) t k=k ps:=by
 show need (Nat.beq t t) (k ps)=_;rw[show Nat.beq t t=true from Zuk t];rfl
theorem Zkd {R:Type} (p:PC) (ps:List PC) (k:PC->List PC->Option R):uncP (p::ps) k=k p ps:=id rfl
theorem Zsg {R:Type} (c:C) (k:C->Option R):asPc (.c c) k=k c:=id rfl
theorem Zsh {R:Type} (te:TypeId) (row:List C) (k:List C->Option R):asRw te (.r te row) k=k row:=by
 show need (Nat.beq te te) (k row)=_;rw[show Nat.beq te te=true from Zuk te];rfl
theorem Zp0 {R:Type} (te:TypeId) (row:List C) (k:List C->Option R):asRow te (.r te row) k=k row:=by
 show need (Nat.beq te te) (k row)=_;rw[show Nat.beq te te=true from Zuk te];rfl
theorem Znj {R:Type} (te:TypeId) (k:List C->Option R):asRow te (.c .nl) k=k []:=id rfl
theorem Znk {R:Type} (k:Option R):nilP [] k=k:=id rfl
theorem H9 {R:Type} (te:TypeId) (row cs:List C) (k:List C->Option R) (h:cs.length=row.length):rowBack te row false [.sb te 0 cs] k=k cs:=by
 show need (Nat.beq te te&&Nat.beq cs.length row.length&&Nat.beq 0 0) (k cs)=_;rw[show Nat.beq te te=true from Zuk te,h,show Nat.beq row.length row.length=true from Zuk _];rfl
theorem Zke {R:Type} (te:TypeId) (row cs:List C) (k:List C->Option R) (h:cs.length=row.length):rowBack te row true [.sb te row.length cs] k=k cs:=by
 show need (Nat.beq te te&&Nat.beq cs.length row.length&&Nat.beq row.length cs.length) (k cs)=_;rw[show Nat.beq te te=true from Zuk te,h,show Nat.beq row.length row.length=true from Zuk _];rfl
set_option linter.defProp false in
def QE:=And.intro @Zsf (And.intro @Zkd (And.intro @Zsg (And.intro @Zsh (And.intro @Zp0 (And.intro @Znj @Znk)))))
end Go.PM
namespace Go.Proofs.YtjmempcalaliiaaGreatDoor
open Go Go.PM Go.Grid
attribute [local congr] Zu Zv Zw Yd Zx Zy Ye Yf Yg Yh Zz Z0 Yi Yx Yy Yz Y1 Y2 Y5 Y6 Y7 Y8 Y4 Z2 Z3 Y9 Z4 Z5 Zk Z6 Z1
abbrev Znl (n:Nat) (cs:List C):List PC:=[PC.c (C.v (.int .i64 n)),PC.c (C.v (.int .i64 ((840/n:Nat):Int))),PC.c (C.sl (Zg n).length (fl plc (Zg n))),PC.c (C.mp ty_api_Place ty_int (some 4) none (esn 0 (Zg n))),PC.r ty_api_Cell cs,PC.c .nl,PC.c .nl]
abbrev Ll (g n:Nat) (cs:List C):PM.Obj:= .pk g ty_mesh_Net (.ps (Znl n cs)) none
theorem Yw {n:Nat} (h:Yc n):(Zg n).length<=700:=by
 rw[Qa h];rcases Qu h with rfl|rfl|rfl|rfl|rfl|rfl|rfl|rfl<;>decide
section
variable (fu d:Nat) (hf:18446744073709551616<=fu)
theorem Rc (f a b c:Nat) (x y z:Int) (h:a<=10000/\b<=10000/\c<=10000) (hx: -10000<=x/\x<=10000) (hy: -10000<=y/\y<=10000) (hz: -10000<=z/\z<=10000):
  cl fu (d+1) fn_mesh_moved [V.agg (plc ⟨f,a,b,c⟩),I x,I y,I z] []=OK (V.agg [C.v (.int .i64 f),C.v (.int .i64 (a+x)),C.v (.int .i64 (b+y)),C.v (.int .i64 (c+z))]):=by
 simp only[plc];rw[eq_mesh_moved,Xj (by omega) (by omega),Xj (by omega) (by omega),Xj (by omega) (by omega)]
include hf
theorem Zgw (g n:Nat) (h:Yc n) (p:Pl) (hp:p∈pts n) (cs:List C):
  cl fu (d+5) fn_mesh_Net_at [V.ptr 1000000 0,V.agg (plc p)] [Ll g n cs]=some ⟨I (idx n p),[Ll g n cs],none⟩:=by
 have hok:=Cw h hp;have e1:=Wr fu d hf p hok;have e2:=Zh9 (Zg n) 0 0 (Zeh h hp);simp only[plc]at e1 e2⊢;rw[eqp_mesh_Net_at];simp(disch:=omega)only[Zc,QM,QD,e1,mfd,e2,orZ,Zs4,Zs8,Zs3,Nat.reduceAdd];rfl
omit hf in
theorem J1 {α:Type} {le:α->α->Prop} (anti: ∀a b,le a b->le b a->a=b): ∀{p q:List α},p.Perm q->p.Pairwise le->q.Pairwise le->p=q
 | [],q,h,_,_=>(List.nil_perm.1 h).symm
 |a::p,[],h,_,_=>by have:=h.length_eq;simp at this
 |a::p,b::q,h,hp,hq=>by
  rw[Zue]at hp hq;have e:a=b:=by
   have h1:a∈b::q:=h.mem_iff.1 (Zub ..);have h2:b∈a::p:=h.mem_iff.2 (Zub ..);rcases Zto.1 h1 with h1|h1
   ·exact h1
   ·rcases Zto.1 h2 with h2|h2
    ·exact h2.symm
    ·exact anti a b (hp.1 b h2) (hq.1 a h1)
  subst e;rw[J1 anti h.cons_inv hp.2 hq.2]
omit hf in
theorem Zgx (l:List Int):(Q8 l).Perm l:=List.mergeSort_perm ..
omit hf in
theorem Zkf (l:List Int):(Q8 l).Pairwise (λa b=>a<=b):=by
 have:=List.pairwise_mergeSort (le:=λx y:Int=>decide (x<=y)) (λa b c h1 h2=>by simp at*;omega) (λa b=>by simp;omega) l;exact this.imp λh=>by simpa using h
omit hf in
theorem Znm {l m:List Int} (hp:m.Perm l) (hs:m.Pairwise (λa b=>a<=b)):Q8 l=m:=
 J1 (λa b h1 h2=>Int.le_antisymm h1 h2) ((Zgx l).trans hp.symm) (Zkf l) hs
omit hf in
theorem Zp1 (i j k:Nat):Q8 [(i:Int),j,k]=[((Xn i j k).1:Int),((Xn i j k).2.1:Int),((Xn i j k).2.2:Int)]:=by
 unfold Xn;split<;>split<;>try split
 all_goals
  refine Znm ?_ (by simp;omega);first
  |exact .refl _
  |exact .swap _ _ _
  |exact(List.Perm.swap _ _ _).cons _
  |exact(List.Perm.swap _ _ _).trans ((List.Perm.swap _ _ _).cons _)
  |exact((List.Perm.swap _ _ _).cons _).trans (.swap _ _ _)
  |exact((List.Perm.swap _ _ _).trans ((List.Perm.swap _ _ _).cons _)).trans (.swap _ _ _)
end
end Go.Proofs.YtjmempcalaliiaaGreatDoor
/- A grid's cells, one place after the other. -/
namespace Go.Proofs.YtjmempcalaliiaaGreatDoor
open Go Go.PM Go.Grid
attribute [local congr] Zu Zv Zw Yd Zx Zy Ye Yf Yg Yh Zz Z0 Yi Yx Yy Yz Y1 Y2 Y5 Y6 Y7 Y8 Y4 Z2 Z3 Y9 Z4 Z5 Zk Z6 Z1
abbrev pl3 (p q r:Pl):List C:=[.v (.int .i64 p.f), .v (.int .i64 p.a), .v (.int .i64 p.b), .v (.int .i64 p.c), .v (.int .i64 q.f), .v (.int .i64 q.a), .v (.int .i64 q.b), .v (.int .i64 q.c), .v (.int .i64 r.f), .v (.int .i64 r.a), .v (.int .i64 r.b), .v (.int .i64 r.c)]
def trC (t:Nat×Nat×Nat):List C:=[.v (.int .i64 t.1), .v (.int .i64 t.2.1), .v (.int .i64 t.2.2)]
theorem Yk (t:Nat×Nat×Nat):(trC t).length=3:=rfl
section
variable (fu d:Nat) (hf:18446744073709551616<=fu)
theorem Zkg (g n f a b c:Nat) (h:Yc n) (hb:a<=840/\b<=840/\c<=840) (cs:List C):
  cl fu (d+2) fn_mesh_Net_upward [V.ptr 1000000 0,V.agg (plc ⟨f,a,b,c⟩)] [Ll g n cs]=some ⟨V.agg (pl3 ⟨f,a+840/n,b,c⟩ ⟨f,a,b+840/n,c⟩ ⟨f,a,b,c+840/n⟩),[Ll g n cs],none⟩:=by
 have hs:=Q9 h;have m1:=Rc fu d f a b c ((840/n:Nat):Int) 0 0 (by omega) (by omega) (by omega) (by omega);have m2:=Rc fu d f a b c 0 ((840/n:Nat):Int) 0 (by omega) (by omega) (by omega) (by omega);have m3:=Rc fu d f a b c 0 0 ((840/n:Nat):Int) (by omega) (by omega) (by omega) (by omega);simp only[plc]at m1 m2 m3⊢;rw[eqp_mesh_Net_upward];simp(disch:=omega)only[Zc,QM,QD,m1,m2,m3,Zs4,Zs8,Zs3,Nat.reduceAdd,Zvs];rfl
theorem Zen (g n f a b c:Nat) (h:Yc n) (hb:a<=840/\b<=840/\c<=840) (cs:List C):
  cl fu (d+2) fn_mesh_Net_downward [V.ptr 1000000 0,V.agg (plc ⟨f,a,b,c⟩)] [Ll g n cs]=some ⟨V.agg (pl3 ⟨f,a,b+840/n,c+840/n⟩ ⟨f,a+840/n,b,c+840/n⟩ ⟨f,a+840/n,b+840/n,c⟩),[Ll g n cs],none⟩:=by
 have hs:=Q9 h;have m1:=Rc fu d f a b c 0 ((840/n:Nat):Int) ((840/n:Nat):Int) (by omega) (by omega) (by omega) (by omega);have m2:=Rc fu d f a b c ((840/n:Nat):Int) 0 ((840/n:Nat):Int) (by omega) (by omega) (by omega) (by omega);have m3:=Rc fu d f a b c ((840/n:Nat):Int) ((840/n:Nat):Int) 0 (by omega) (by omega) (by omega) (by omega);simp only[plc]at m1 m2 m3⊢;rw[eqp_mesh_Net_downward];simp(disch:=omega)only[Zc,QM,QD,m1,m2,m3,Zs4,Zs8,Zs3,Nat.reduceAdd,Zvs];rfl
theorem Znn (i j k:Nat):cl fu (d+1) fn_slices_Sort_sint_int [V.ws 1000000 3] [.ob ty_3_int 0 [.v (.int .i64 i), .v (.int .i64 j), .v (.int .i64 k)]]=some ⟨.tup [],[.ob ty_3_int 0 (trC (Xn i j k))],none⟩:=by
 have e:cl fu (d+1) fn_slices_Sort_sint_int [V.ws 1000000 3] [.ob ty_3_int 0 [.v (.int .i64 i), .v (.int .i64 j), .v (.int .i64 k)]]=some ⟨.tup [],[.ob ty_3_int 0 (ints (Q8 [(i:Int),j,k]))],none⟩:=by kernel_rfl
 rw[e,Zp1];rfl
include hf
theorem Zia (g n:Nat) (h:Yc n) (p q r:Pl) (hp:p∈pts n) (hq:q∈pts n) (hr:r∈pts n) (L:List (Nat×Nat×Nat)) (hL:L.length<=100000):
  cl fu (d+6) fn_mesh_Net_cell [V.ptr 1000000 0,V.agg (pl3 p q r)] [Ll g n (fl trC L)]=some ⟨V.tup [],[Ll 1 n (fl trC (L++[tc n p q r]))],none⟩:=by
 have hfl:=Zh Yk L;have hdv:L.length*3/3=L.length:=by omega
 have a1:=Zgw fu d hf 0 n h p hp (fl trC L);have a2:=Zgw fu d hf 0 n h q hq (fl trC L);have a3:=Zgw fu d hf 0 n h r hr (fl trC L);have hsn:fl trC L++[.v (.int .i64 (tc n p q r).1), .v (.int .i64 (tc n p q r).2.1), .v (.int .i64 (tc n p q r).2.2)]=fl trC (L++[tc n p q r]):=Jz L _;have hfl2:(fl trC (L++[tc n p q r])).length=(L.length+1)*3:=by rw[Zh Yk,Ztb];rfl
 have hs:=Znn fu (d+4) (idx n p) (idx n q) (idx n r);generalize hi:idx n p=ip at*
 generalize hj:idx n q=iq at*
 generalize hk:idx n r=ir at*
 unfold tc at hsn hfl2⊢;rw[hi,hj,hk]at hsn hfl2⊢;simp only[plc]at a1 a2 a3;unfold Ll Znl at a1 a2 a3⊢;rw[eqp_mesh_Net_cell];generalize (Zg n).length=nl at*
 generalize fl plc (Zg n)=nc at*
 generalize esn 0 (Zg n)=es at*
 simp(disch:=omega)only[Zc,QM,QD,Zs4,Zs8,Zs3,Nat.reduceAdd];rw[Zs (λj:Nat=>(((j:Nat):Int),(match j with|0=>[C.v (.int .i64 0),C.v (.int .i64 0),C.v (.int .i64 0)]|1=>[C.v (.int .i64 ip),C.v (.int .i64 0),C.v (.int .i64 0)]|2=>[C.v (.int .i64 ip),C.v (.int .i64 iq),C.v (.int .i64 0)]|_=>[C.v (.int .i64 ip),C.v (.int .i64 iq),C.v (.int .i64 ir)]),((n:Int),(((840/n:Nat):Int)),C.sl nl nc,C.mp ty_api_Place ty_int (some 4) none es,fl trC L,C.nl,C.nl,()),())) 0
  ((3:Int),[C.v (.int .i64 ip),C.v (.int .i64 iq),C.v (.int .i64 ir)],((n:Int),(((840/n:Nat):Int)),C.sl nl nc,C.mp ty_api_Place ty_int (some 4) none es,fl trC L,C.nl,C.nl,()),()) 3 ?_ ?_ ?_ (by omega)]
 ·simp(disch:=omega)only[Zc,QM,QD,hs,trC,Zs4,Zs8,Zs3,Nat.reduceAdd,hfl,hdv,Zuw,Zu0,hsn,hfl2]
 ·rfl
 ·intro j hj;rcases(show j=0\/j=1\/j=2 by omega)with rfl|rfl|rfl
  ·simp(disch:=omega)only[Zc,QM,QD,QE,a1,Nat.reduceMul,Zs5,Zxx,Zvb,show Int.toNat 1=1 from rfl,show Int.toNat 2=2 from rfl,show((1:Nat):Int)=1 from rfl,show((2:Nat):Int)=2 from rfl,Zua,Zv4,Zvp,Zuz,Zu0,Zuw,Zs4,Zs8,Zs3,Nat.reduceAdd];rfl
  ·simp(disch:=omega)only[Zc,QM,QD,QE,a2,Nat.reduceMul,Zs5,Zxx,Zvb,show Int.toNat 1=1 from rfl,show Int.toNat 2=2 from rfl,show((1:Nat):Int)=1 from rfl,show((2:Nat):Int)=2 from rfl,Zua,Zv4,Zvp,Zuz,Zu0,Zuw,Zs4,Zs8,Zs3,Nat.reduceAdd];rfl
  ·simp(disch:=omega)only[Zc,QM,QD,QE,a3,Nat.reduceMul,Zs5,Zxx,Zvb,show Int.toNat 1=1 from rfl,show Int.toNat 2=2 from rfl,show((1:Nat):Int)=1 from rfl,show((2:Nat):Int)=2 from rfl,Zua,Zv4,Zvp,Zuz,Zu0,Zuw,Zs4,Zs8,Zs3,Nat.reduceAdd];rfl
 ·rfl
end
end Go.Proofs.YtjmempcalaliiaaGreatDoor
/- All of a grid's cells. -/
namespace Go.Proofs.YtjmempcalaliiaaGreatDoor
open Go Go.PM Go.Grid
attribute [local congr] Zu Zv Zw Yd Zx Zy Ye Yf Yg Yh Zz Z0 Yi Yx Yy Yz Y1 Y2 Y5 Y6 Y7 Y8 Y4 Z2 Z3 Y9 Z4 Z5 Zk Z6 Z1
def Ul (n f a b:Nat):List (Nat×Nat×Nat):=(List.range f).flatMap (Jy n)++((List.range a).flatMap (rowC n f)++(List.range b).flatMap (X2 n f a))
theorem Zgy (n f a b:Nat):Ul n f a b++X2 n f a b=Ul n f a (b+1):=by
 unfold Ul;rw[Zun,Zvd];simp[Zt6]
theorem Zno (n f a:Nat):Ul n f a (n-a)=Ul n f (a+1) 0:=by
 unfold Ul;rw[Zun (n:=a),Zvd];simp[rowC]
theorem Znp (n f:Nat):Ul n f n 0=Ul n (f+1) 0 0:=by
 unfold Ul;rw[Zun (n:=f),Zvd];simp[Jy]
theorem C3 (n:Nat):Ul n 20 0 0=tri n:=by unfold Ul tri;simp
theorem C4 (n f a b:Nat):(X2 n f a b).length<=2:=by unfold X2;split<;>simp
theorem Zib (n f a:Nat) (h:n<=8):(rowC n f a).length<=16:=by
 have:=Qb (g:=X2 n f a) (λb=>C4 n f a b) (n-a);unfold rowC;omega
theorem Znq (n f:Nat) (h:n<=8):(Jy n f).length<=128:=by
 have:=Qb (g:=rowC n f) (λa=>Zib n f a h) n;unfold Jy;omega
theorem Zb1 {n f a b:Nat} (h:n<=8) (hf:f<=20) (ha:a<=9) (hb:b<=9):(Ul n f a b).length<=5000:=by
 have h1:=Qb (g:=Jy n) (λa=>Znq n a h) f;have h2:=Qb (g:=rowC n f) (λa=>Zib n f a h) a;have h3:=Qb (g:=X2 n f a) (λb=>C4 n f a b) b;unfold Ul;rw[Ztb,Ztb];omega
theorem J2 {n f i j:Nat} (hf:f<20) (h:i+j<=n):pt n f i j∈pts n:=El.2 ⟨f,i,j,hf,h,rfl⟩
section
variable (fu d:Nat) (hf:18446744073709551616<=fu)
include hf
theorem Znr (g n:Nat) (h:Yc n) (f a b:Nat) (hf':f<20) (hab:a+b<n) (L:List (Nat×Nat×Nat)) (hL:L.length<=50000):
  ∃g',cl fu (d+7) fn_mesh_Net_cells [V.ptr 1000000 0,V.agg [.v (.int .i64 f), .v (.int .i64 ((a*(840/n):Nat):Int)), .v (.int .i64 ((b*(840/n):Nat):Int)), .v (.int .i64 (((n-1-a-b)*(840/n):Nat):Int))]] [Ll g n (fl trC L)]=some ⟨V.tup [],[Ll g' n (fl trC (L++X2 n f a b))],none⟩:=by
 have hs:=Q9 h;have hn:=h;unfold Yc at hn;have ha:a*(840/n)<=840:=Mu h (by omega);have hb:b*(840/n)<=840:=Mu h (by omega);have hc:(n-1-a-b)*(840/n)<=840:=Mu h (by omega);have u1:=Zkg fu (d+4) g n f (a*(840/n)) (b*(840/n)) ((n-1-a-b)*(840/n)) h ⟨ha,hb,hc⟩ (fl trC L);have e1:(⟨f,a*(840/n)+840/n,b*(840/n),(n-1-a-b)*(840/n)⟩:Pl)=pt n f (a+1) b:=by
  unfold pt;rw[Zug,show n-1-a-b=n-(a+1)-b by omega]
 have e2:(⟨f,a*(840/n),b*(840/n)+840/n,(n-1-a-b)*(840/n)⟩:Pl)=pt n f a (b+1):=by
  unfold pt;rw[Zug,show n-1-a-b=n-a-(b+1) by omega]
 have e3:(⟨f,a*(840/n),b*(840/n),(n-1-a-b)*(840/n)+840/n⟩:Pl)=pt n f a b:=by
  unfold pt;rw[<-Zug,show(n-1-a-b).succ=n-a-b by omega]
 rw[e1,e2,e3]at u1;have p1:=J2 (n:=n) (i:=a+1) (j:=b) hf' (by omega);have p2:=J2 (n:=n) (i:=a) (j:=b+1) hf' (by omega);have p3:=J2 (n:=n) (i:=a) (j:=b) hf' (by omega);have c1:=Zia fu d hf (Nat.succ g) n h _ _ _ p1 p2 p3 L (by omega);by_cases hd:a+b+1<n
 ·have e4:((n-1-a-b)*(840/n))=(n-2-a-b)*(840/n)+840/n:=by rw[<-Zug,show(n-2-a-b).succ=n-1-a-b by omega]
  have hc2:(n-2-a-b)*(840/n)<=840:=by omega
  have m1:=Rc fu (d+5) f (a*(840/n)) (b*(840/n)) ((n-1-a-b)*(840/n)) 0 0 (0-((840/n:Nat):Int)) (by omega) (by omega) (by omega) (by omega);have e5:((((n-1-a-b)*(840/n):Nat):Int)+(0-((840/n:Nat):Int)))=(((n-2-a-b)*(840/n):Nat):Int):=by omega
  rw[e5]at m1;have u2:=Zen fu (d+4) (Nat.succ (Nat.succ g)) n f (a*(840/n)) (b*(840/n)) ((n-2-a-b)*(840/n)) h ⟨ha,hb,hc2⟩ (fl trC (L++[tc n (pt n f (a+1) b) (pt n f a (b+1)) (pt n f a b)]));have e6:(⟨f,a*(840/n),b*(840/n)+840/n,(n-2-a-b)*(840/n)+840/n⟩:Pl)=pt n f a (b+1):=by rw[<-e4];exact e2
  have e7:(⟨f,a*(840/n)+840/n,b*(840/n),(n-2-a-b)*(840/n)+840/n⟩:Pl)=pt n f (a+1) b:=by rw[<-e4];exact e1
  have e8:(⟨f,a*(840/n)+840/n,b*(840/n)+840/n,(n-2-a-b)*(840/n)⟩:Pl)=pt n f (a+1) (b+1):=by
   unfold pt;rw[Zug,Zug,show n-2-a-b=n-(a+1)-(b+1) by omega]
  rw[e6,e7,e8]at u2;have p4:=J2 (n:=n) (i:=a+1) (j:=b+1) hf' (by omega);have c2:=Zia fu d hf (Nat.succ (Nat.succ (Nat.succ g))) n h _ _ _ p2 p1 p4 (L++[tc n (pt n f (a+1) b) (pt n f a (b+1)) (pt n f a b)]) (by simp;omega);have hge:((840/n:Nat):Int)<=(((n-1-a-b)*(840/n):Nat):Int):=by omega
  have hL2:L++X2 n f a b=(L++[tc n (pt n f (a+1) b) (pt n f a (b+1)) (pt n f a b)])++[tc n (pt n f a (b+1)) (pt n f (a+1) b) (pt n f (a+1) (b+1))]:=by
   unfold X2;rw[if_pos hd];simp
  rw[hL2];generalize tc n (pt n f (a+1) b) (pt n f a (b+1)) (pt n f a b)=t1 at*
  generalize tc n (pt n f a (b+1)) (pt n f (a+1) b) (pt n f (a+1) (b+1))=t2 at*
  simp only[plc,Zvs]at u1 u2 m1;generalize pt n f (a+1) b=q1 at*
  generalize pt n f a (b+1)=q2 at*
  generalize pt n f a b=q3 at*
  generalize pt n f (a+1) (b+1)=q4 at*
  unfold Ll Znl at u1 u2 c1 c2⊢;refine⟨Nat.succ (Nat.succ (Nat.succ (Nat.succ g))), ?_⟩;rw[eqp_mesh_Net_cells];generalize (Zg n).length=nl at*
  generalize fl plc (Zg n)=nc at*
  generalize esn 0 (Zg n)=es at*
  generalize a*(840/n)=x at*
  generalize b*(840/n)=y at*
  generalize (n-1-a-b)*(840/n)=z at*
  generalize (n-2-a-b)*(840/n)=z2 at*
  simp(disch:=omega)only[Zc,QM,QD,QE,u1,c1,m1,u2,c2,Zs4,Zs8,Zs3,Nat.reduceAdd]
 ·have hz:n-1-a-b=0:=by omega
  have hlt:(((n-1-a-b)*(840/n):Nat):Int)<((840/n:Nat):Int):=by rw[hz,Zua];omega
  have hL2:L++X2 n f a b=L++[tc n (pt n f (a+1) b) (pt n f a (b+1)) (pt n f a b)]:=by
   unfold X2;rw[if_neg hd]
  rw[hL2];generalize tc n (pt n f (a+1) b) (pt n f a (b+1)) (pt n f a b)=t1 at*
  simp only[plc]at u1;generalize pt n f (a+1) b=q1 at*
  generalize pt n f a (b+1)=q2 at*
  generalize pt n f a b=q3 at*
  unfold Ll Znl at u1 c1⊢;refine⟨Nat.succ (Nat.succ g), ?_⟩;rw[eqp_mesh_Net_cells];generalize (Zg n).length=nl at*
  generalize fl plc (Zg n)=nc at*
  generalize esn 0 (Zg n)=es at*
  generalize a*(840/n)=x at*
  generalize b*(840/n)=y at*
  generalize (n-1-a-b)*(840/n)=z at*
  simp(disch:=omega)only[Zc,QM,QD,QE,u1,c1,Zs4,Zs8,Zs3,Nat.reduceAdd]
end
end Go.Proofs.YtjmempcalaliiaaGreatDoor
/- A grid's cells and edges, sorted; equal edges once. -/
namespace Go.Proofs.YtjmempcalaliiaaGreatDoor
open Go Go.PM Go.Grid
attribute [local congr] Zu Zv Zw Yd Zx Zy Ye Yf Yg Yh Zz Z0 Yi Yx Yy Yz Y1 Y2 Y5 Y6 Y7 Y8 Y4 Z2 Z3 Y9 Z4 Z5 Zk Z6 Z1
section
variable {α:Type} (le:α->α->Bool)
theorem Ga (x:α): ∀l,(Zgs le x l).Perm (x::l)
 | []=> .refl _
 |y::l=>by
  unfold Zgs;split
  ·exact .refl _
  ·exact((Ga x l).cons y).trans (.swap x y l)
theorem Xm: ∀l,(Ra le l).Perm l
 | []=> .refl _
 |x::l=>(Ga le x (Ra le l)).trans ((Xm l).cons x)
variable {le} (ht: ∀a b,le a b=true\/le b a=true) (htr: ∀a b c,le a b=true->le b c=true->le a c=true)
include ht htr
theorem Zeo (x:α): ∀{l:List α},l.Pairwise (λa b=>le a b=true)->(Zgs le x l).Pairwise (λa b=>le a b=true)
 | [],_=>by simp[Zgs]
 |y::l,h=>by
  unfold Zgs;rw[Zue]at h;split
  ·rename_i hxy;rw[Zue,Zue];exact⟨λz hz=>(Zto.1 hz).elim (λe=>e▸hxy) λhz=>htr _ _ _ hxy (h.1 z hz),h⟩
  ·rename_i hxy;rw[Zue];refine⟨λz hz=> ?_,Zeo x h.2⟩;rcases Zto.1 ((Ga le x l).mem_iff.1 hz)with rfl|hz
   ·exact(ht _ _).resolve_left hxy
   ·exact h.1 z hz
theorem M9: ∀l,(Ra le l).Pairwise (λa b=>le a b=true)
 | []=> .nil
 |x::l=>Zeo ht htr x (M9 l)
end
theorem J3 {a b:Nat×Nat×Nat}:leT a b=true↔a.1<b.1\/a.1=b.1/\(a.2.1<b.2.1\/a.2.1=b.2.1/\a.2.2<=b.2.2):=by simp[leT]
theorem Tq {a b:Ed}:leZ a b=true↔a.1<b.1\/a.1=b.1/\a.2<=b.2:=by simp[leZ]
def trI (t:Nat×Nat×Nat):List Int:=[(t.1:Int),(t.2.1:Int),(t.2.2:Int)]
def edI (e:Ed):List Int:=[e.1,e.2]
def edC (e:Ed):List C:=[.v (.int .i64 e.1), .v (.int .i64 e.2)]
theorem Xf (e:Ed):(edC e).length=2:=rfl
theorem Zb2 (L:List (Nat×Nat×Nat)):fl trC L=ints (L.flatMap trI):=by
 induction L with
 |nil=>rfl
 |cons x L ih=>rw[Rx,ih,Zuo];rfl
theorem J4 (L:List Ed):fl edC L=ints (Uk L):=by
 induction L with
 |nil=>rfl
 |cons x L ih=>rw[Rx,ih,Nl];rfl
theorem Zp2 (a b:Nat×Nat×Nat):(¬lexZ [0,1,2] (trI b) (trI a)<0)↔leT a b=true:=by
 rw[J3,T6,T6,T6];simp only[trI,lexZ,List.getD_cons_zero,List.getD_cons_succ];omega
theorem Zp3 (a b:Ed):(¬lexZ [0,1] (edI b) (edI a)<0)↔leZ a b=true:=by
 rw[Tq,T6,T6];simp only[edI,lexZ,List.getD_cons_zero,List.getD_cons_succ];omega
theorem Zns (a b:Nat×Nat×Nat) (h:leT a b=true) (h':leT b a=true):a=b:=by
 rw[J3]at h h';obtain⟨a1,a2,a3⟩:=a;obtain⟨b1,b2,b3⟩:=b;simp only at h h';have e1:a1=b1:=by omega
 have e2:a2=b2:=by omega
 have e3:a3=b3:=by omega
 rw[e1,e2,e3]
theorem Zep (a b:Ed) (h:leZ a b=true) (h':leZ b a=true):a=b:=by
 rw[Tq]at h h';obtain⟨a1,a2⟩:=a;obtain⟨b1,b2⟩:=b;simp only at h h';have e1:a1=b1:=by omega
 have e2:a2=b2:=by omega
 rw[e1,e2]
section
variable (fu d:Nat)
theorem Znt (L:List (Nat×Nat×Nat)) (hl:L.length<=1000000):cl fu (d+1) fn_slices_SortFunc_sapi_Cell_api_Cell [V.own 1000000 0 L.length,V.c (C.fn fn_mesh_Build_1 [])] [.sb ty_api_Cell 0 (fl trC L)]=
  some ⟨.tup [],[.sb ty_api_Cell 0 (fl trC (Ra leT L))],none⟩:=by
 have e:cl fu (d+1) fn_slices_SortFunc_sapi_Cell_api_Cell [V.own 1000000 0 L.length,V.c (C.fn fn_mesh_Build_1 [])] [.sb ty_api_Cell 0 (fl trC L)]=(Tj (fl trC L)).bind λzs=>need (Nat.beq 1000000 OUT&&Nat.beq 0 0&&Nat.beq fn_mesh_Build_1 fn_mesh_Build_1&&Nat.beq ty_api_Cell ty_api_Cell&&Nat.beq 0 0&&Nat.beq zs.length (L.length*3)&&Nat.ble L.length 4611686018427387903) (some ⟨.tup [],[.sb ty_api_Cell 0 (ints (Rw 3 (Nx 3 (lexZ [0,1,2]) L.length zs)))],none⟩):=by kernel_rfl
 have hlen:(L.flatMap trI).length=L.length*3:=by
  have:=Zh Yk L;rw[Zb2]at this;simpa using this
 have e1:Nat.beq 1000000 OUT=true:=rfl;obtain⟨l',h1,h2,h3⟩:=Cs (k:=3) (g:=trI) (λ_=>rfl) (lexZ_swo [0,1,2]) L;have h4:l'=Ra leT L:=J1 Zns (h1.trans (Xm leT L).symm) (h2.imp λ{a b} h=>(Zp2 a b).1 h) (M9 (λa b=>by rw[J3,J3];omega) (λa b c h h'=>by rw[J3]at h h'⊢;omega) L);rw[e,Zb2,Rv];simp(disch:=omega)only[Zc,QM,QD,hlen,e1];rw[h3,h4,Zb2]
theorem Znu (L:List Ed) (hl:L.length<=1000000):cl fu (d+1) fn_slices_SortFunc_sapi_Edge_api_Edge [V.own 1000000 0 L.length,V.c (C.fn fn_mesh_Build_2 [])] [.sb ty_api_Edge 0 (fl edC L)]=
  some ⟨.tup [],[.sb ty_api_Edge 0 (fl edC (Ra leZ L))],none⟩:=by
 have e:cl fu (d+1) fn_slices_SortFunc_sapi_Edge_api_Edge [V.own 1000000 0 L.length,V.c (C.fn fn_mesh_Build_2 [])] [.sb ty_api_Edge 0 (fl edC L)]=(Tj (fl edC L)).bind λzs=>need (Nat.beq 1000000 OUT&&Nat.beq 0 0&&Nat.beq fn_mesh_Build_2 fn_mesh_Build_2&&Nat.beq ty_api_Edge ty_api_Edge&&Nat.beq 0 0&&Nat.beq zs.length (L.length*2)&&Nat.ble L.length 4611686018427387903) (some ⟨.tup [],[.sb ty_api_Edge 0 (ints (Rw 2 (Nx 2 (lexZ [0,1]) L.length zs)))],none⟩):=by kernel_rfl
 have hlen:(Uk L).length=L.length*2:=Q0 L;have e1:Nat.beq 1000000 OUT=true:=rfl;obtain⟨l',h1,h2,h3⟩:=Cs (k:=2) (g:=edI) (λ_=>rfl) (lexZ_swo [0,1]) L;have h4:l'=Ra leZ L:=J1 Zep (h1.trans (Xm leZ L).symm) (h2.imp λ{a b} h=>(Zp3 a b).1 h) (M9 (λa b=>by rw[Tq,Tq];omega) (λa b c h h'=>by rw[Tq]at h h'⊢;omega) L);have h5: ∀l:List Ed,l.flatMap edI=Uk l:=λl=>rfl;rw[e,J4,Rv];simp(disch:=omega)only[Zc,QM,QD,hlen,e1];rw[h5,h5]at h3;rw[h3,h4,J4]
theorem C5 {α:Type} [Inhabited α] [DecidableEq α] (l:List α):(Lib.compact l).length<=l.length:=by
 unfold Lib.compact Lib.compactUpTo;rw[Zte];exact Ztr (Zwy ..) (by simp)
theorem Fj {α:Type} [Inhabited α] [DecidableEq α] {l:List α} {x:α} (h:x∈Lib.compact l):x∈l:=by
 unfold Lib.compact Lib.compactUpTo at h;obtain⟨j,hj,rfl⟩:=Zu5.1 h;have:=Zus.1 (Zxa.1 hj).1;rw[getElem!_pos l.toArray j (by simpa using this)];simp
theorem Zgz (L:List Ed) (hl:L.length<=1000000): ∃pad:List Ed,pad.length=L.length/\cl fu (d+1) fn_slices_Compact_sapi_Edge_api_Edge [V.own 1000000 0 L.length] [.sb ty_api_Edge 0 (fl edC L)]=
  some ⟨V.c (C.sl (Lib.compact L).length (fl edC (Lib.compact L))),[.sb ty_api_Edge (fl edC L).length (fl edC pad)],none⟩:=by
 have e:cl fu (d+1) fn_slices_Compact_sapi_Edge_api_Edge [V.own 1000000 0 L.length] [.sb ty_api_Edge 0 (fl edC L)]=(Tj (fl edC L)).bind λzs=>(Mr zs).bind λl=>need (Nat.beq 1000000 OUT&&Nat.beq 0 0&&Nat.beq ty_api_Edge ty_api_Edge&&Nat.beq 0 0&&Nat.beq l.length L.length&&Nat.ble L.length 4611686018427387903&&Nat.ble (Lib.compact l).length L.length)
   (some ⟨.c (.sl (Lib.compact l).length (ints (Uk (Lib.compact l)))),[.sb ty_api_Edge (fl edC L).length (ints (Uk (Zed l L.length)))],none⟩):=by kernel_rfl
 have e1:Nat.beq 1000000 OUT=true:=rfl;have hle:=C5 L;refine⟨Zed L L.length,Fh hle, ?_⟩;rw[e,J4,Rv,J4,J4];show(Mr (Uk L)).bind _=_;rw[Zgh];simp(disch:=omega)only[Zc,QM,QD,e1]
end
end Go.Proofs.YtjmempcalaliiaaGreatDoor
/- A grid: what mesh.Build comes to. -/
namespace Go.Proofs.YtjmempcalaliiaaGreatDoor
open Go Go.PM Go.Grid
attribute [local congr] Zu Zv Zw Yd Zx Zy Ye Yf Yg Yh Zz Z0 Yi Yx Yy Yz Y1 Y2 Y5 Y6 Y7 Y8 Y4 Z2 Z3 Y9 Z4 Z5 Zk Z6 Z1
theorem Zrh {a b:Nat} (h:a<b):Nat.blt a b=true:=Zux h
def Pu (R:List (List Int)) (i:Nat) (z:Int):List (List Int):=R.set i (R.getD i []++[z])
def C6 (R:List (List Int)) (e:Ed):List (List Int):=Pu (Pu R e.1.toNat e.2) e.2.toNat e.1
def V4 (N:Nat) (E:List Ed):List (List Int):=E.foldl C6 (List.replicate N [])
noncomputable def nxt (n:Nat):List (List Int):=(V4 (Zg n).length (edg n)).map Q8
theorem Wt (P:Nat->Prop) {i j k:Nat} (h1:P i) (h2:P j) (h3:P k):P (Xn i j k).1/\P (Xn i j k).2.1/\P (Xn i j k).2.2:=by
 unfold Xn;split<;>split<;>try split
 all_goals exact⟨by assumption,by assumption,by assumption⟩
theorem Zb3 {n:Nat} (h:Yc n): ∀t∈tri n,t.1<(Zg n).length/\t.2.1<(Zg n).length/\t.2.2<(Zg n).length:=by
 intro t ht;unfold tri Jy rowC at ht;simp only[Zu7,Zus]at ht;obtain⟨f,hf,a,ha,b,hb,ht⟩:=ht;have hp: ∀i j,i+j<=n->idx n (pt n f i j)<(Zg n).length:=λi j hij=>Cx h (J2 hf hij);unfold X2 at ht;rcases Zto.1 ht with rfl|ht
 ·exact Wt (λx=>x<(Zg n).length) (hp _ _ (by omega)) (hp _ _ (by omega)) (hp _ _ (by omega))
 ·split at ht
  ·rename_i hd;obtain rfl:=Zwn.1 ht;exact Wt (λx=>x<(Zg n).length) (hp _ _ (by omega)) (hp _ _ (by omega)) (hp _ _ (by omega))
  ·cases ht
theorem Zp4 {n:Nat} (h:Yc n): ∀e∈Cy n,(0<=e.1/\e.1<((Zg n).length:Nat))/\(0<=e.2/\e.2<((Zg n).length:Nat)):=by
 intro e he;obtain⟨t,ht,he⟩:=Zu7.1 he;obtain⟨h1,h2,h3⟩:=Zb3 h t ((Xm leT _).mem_iff.1 ht);simp only[Kt,Zto,Zv3,or_false]at he;rcases he with rfl|rfl|rfl<;>(simp only;omega)
theorem Re {n:Nat} (h:Yc n): ∀e∈edg n,(0<=e.1/\e.1<((Zg n).length:Nat))/\(0<=e.2/\e.2<((Zg n).length:Nat)):=
 λe he=>Zp4 h e ((Xm leZ _).mem_iff.1 (Fj he))
theorem C7 {n:Nat} (h:Yc n):(tri n).length<=5000:=by
 unfold Yc at h;rw[<-C3];exact Zb1 (by omega) (by omega) (by omega) (by omega)
theorem Ku (L:List (Nat×Nat×Nat)):(L.flatMap Kt).length=L.length*3:=by
 induction L with
 |nil=>rfl
 |cons x L ih=>rw[Zuo,Ztb,ih,Zs4];simp only[Kt,Zs4,Zs8];omega
theorem Zic {n:Nat} (h:Yc n):(Cy n).length<=15000:=by
 unfold Cy;rw[Ku,(Xm leT _).length_eq];have:=C7 h;omega
theorem Qc {n:Nat} (h:Yc n):(edg n).length<=15000:=
 Ztr (C5 _) (by rw[(Xm leZ _).length_eq];exact Zic h)
theorem Sn (R:List (List Int)) (i:Nat) (z:Int):(Pu R i z).length=R.length:=by simp[Pu]
theorem Zb4 {R:List (List Int)} {m:Nat} (h: ∀r∈R,r.length<=m) (i:Nat):(R.getD i []).length<=m:=by
 rw[Ztj];cases hi:R[i]? with
 |none=>simp
 |some r=>exact h r (Ztf hi)
theorem C8 {R:List (List Int)} {m:Nat} (h: ∀r∈R,r.length<=m) (i:Nat) (z:Int): ∀r∈Pu R i z,r.length<=m+1:=by
 intro r hr;rcases List.mem_or_eq_of_mem_set hr with hr|rfl
 ·have:=h r hr;omega
 ·have:=Zb4 h i;rw[Ztb,Zs4,Zs8];omega
theorem Zeq (R:List (List Int)) (i:Nat) (r:List Int):(R.map ints).set i (ints r)=(R.set i r).map ints:=List.map_set.symm
theorem Wu (R:List (List Int)) (i:Nat):(R.map ints).getD i []=ints (R.getD i []):=by
 rw[Ztj,Ztj,Ztk];cases R[i]? <;>rfl
theorem Xx (r:List Int) (z:Int):ints r++[C.v (.int .i64 z)]=ints (r++[z]):=by simp[ik]
theorem Zer (N:Nat) (E:List Ed) (e:Ed):V4 N (E++[e])=C6 (V4 N E) e:=by simp[V4]
theorem Lz (N:Nat) (E:List Ed):(V4 N E).length=N:=by
 have key: ∀(E:List Ed) (R:List (List Int)),(E.foldl C6 R).length=R.length:=by
  intro E
  induction E with
  |nil=>intro R;rfl
  |cons e E ih=>intro R;rw[Zu1,ih];unfold C6;rw[Sn,Sn]
 unfold V4;rw[key];simp
theorem Wv (N:Nat) (E:List Ed): ∀r∈V4 N E,r.length<=2*E.length:=by
 have key: ∀(E:List Ed) (R:List (List Int)) (m:Nat),(∀r∈R,r.length<=m)-> ∀r∈E.foldl C6 R,r.length<=m+2*E.length:=by
  intro E
  induction E with
  |nil=>intro R m h r hr;have:=h r hr;simp;omega
  |cons e E ih=>
   intro R m h r hr;rw[Zu1]at hr;have:=ih _ (m+1+1) (C8 (C8 h _ _) _ _) r hr;rw[Zs4];omega
 intro r hr;have:=key E _ 0 (λr hr=>by rw[Zvl hr];simp) r hr;omega
theorem Zsi (t:Nat×Nat×Nat):fl edC (Kt t)=[C.v (.int .i64 t.1),C.v (.int .i64 t.2.1),C.v (.int .i64 t.1),C.v (.int .i64 t.2.2),C.v (.int .i64 t.2.1),C.v (.int .i64 t.2.2)]:=rfl
def F2 (R:List (List Int)) (j:Nat):List (List Int):=(R.take j).map Q8++R.drop j
theorem Fl (R:List (List Int)) (j:Nat):(F2 R j).length=R.length:=by
 unfold F2;rw[Ztb,Zte,<-Ztb,Zwx]
theorem Znv {R:List (List Int)} {j:Nat} (hj:j<R.length):(F2 R j).getD j []=R[j]:=by
 unfold F2;rw[Ztj,Zva (by simp;omega)];simp[Zuf (Nat.le_of_lt hj),hj]
theorem Znw {R:List (List Int)} {j:Nat} (hj:j<R.length):(F2 R j).set j (Q8 R[j])=F2 R (j+1):=by
 unfold F2;have h1:((R.take j).map Q8).length=j:=by simp;omega
 rw[List.set_append_right _ _ (by omega),h1,Zxd,Zt4 hj,List.set_cons_zero,Zty hj,Zup,Zt6];rfl
theorem Zkh (R:List (List Int)):F2 R 0=R:=by simp[F2]
theorem Znx (R:List (List Int)):F2 R R.length=R.map Q8:=by simp[F2]
section
variable (fu d:Nat)
theorem Zny (r:List Int) (h:r.length<=1000000):cl fu (d+1) fn_slices_Sort_sint_int [V.own 1000000 0 r.length] [.sb ty_int 0 (ints r)]=some ⟨.tup [],[.sb ty_int 0 (ints (Q8 r))],none⟩:=by
 have e:cl fu (d+1) fn_slices_Sort_sint_int [V.own 1000000 0 r.length] [.sb ty_int 0 (ints r)]=orP (sortP ty_int) (sortWsP ty_3_int) [.own 1000000 0 r.length] [.sb ty_int 0 (ints r)]:=by kernel_rfl
 have hw:=Zj2 (t:=ty_int) (l:=r) (by omega);have hs:sortP ty_int [.own 1000000 0 r.length] [.sb ty_int 0 (ints r)]=some ⟨.tup [],[.sb ty_int 0 (ints (Q8 r))],none⟩:=by
  rw[sortP,hw];exact Zvx ..
 rw[e,orP,hs]
variable (hf:18446744073709551616<=fu)
include hf
theorem Zki (n:Nat) (h:Yc n) (f a b:Nat) (hf':f<20) (hab:a+b<n): ∃g',cl fu (d+7) fn_mesh_Net_cells [V.ptr 1000000 0,V.agg [.v (.int .i64 f), .v (.int .i64 ((a*(840/n):Nat):Int)), .v (.int .i64 ((b*(840/n):Nat):Int)), .v (.int .i64 (((n-1-a-b)*(840/n):Nat):Int))]] [Ll 0 n (fl trC (Ul n f a b))]=some ⟨V.tup [],[Ll g' n (fl trC (Ul n f a (b+1)))],none⟩:=by
 have hn:=h;unfold Yc at hn;have h5:(Ul n f a b).length<=5000:=Zb1 hn.2 (Nat.le_of_lt hf') (show a<=9 by omega) (show b<=9 by omega);have h6:=Znr fu d hf 0 n h f a b hf' hab (Ul n f a b) (Ztr h5 (Zs6 rfl));rw[Zgy]at h6;exact h6
set_option maxHeartbeats 8000000 in
set_option maxRecDepth 4000 in
theorem Znz (n:Nat) (h:Yc n): ∃c:C,cl fu (d+8) fn_mesh_Build [I n] []=some ⟨V.ptr 1000000 0,[.ob ty_mesh_Net 0 [C.v (.int .i64 n),C.v (.int .i64 ((840/n:Nat):Int)),C.sl (Zg n).length (fl plc (Zg n)),C.mp ty_api_Place ty_int (some 4) none (esn 0 (Zg n)),c,C.sl (edg n).length (fl edC (edg n)),C.sl (nxt n).length ((nxt n).map λr=>C.sl r.length (ints r))]],none⟩:=by
 have hn:=h;unfold Yc at hn;have hs:=Q9 h;have hP:=Zgv fu (d+2) hf n h;have hC:=Zki fu d hf n h;have hNl:=Yw h;have hlT:=C7 h;unfold Ll Znl at hC;unfold netC at hP;have heI:=Re h;have heL:=Qc h;have hrL:=Zic h;unfold nxt;generalize hE:edg n=E at*
 generalize hNl2:(Zg n).length=N at*
 generalize fl plc (Zg n)=nc at*
 generalize esn 0 (Zg n)=es at*
 have eO0:Nat.beq 1000000 (OUT+0)=true:=rfl;refine⟨C.sl (Ra leT (tri n)).length (fl trC (Ra leT (tri n))), ?_⟩;rw[eq_mesh_Build,hP];simp(disch:=omega)only[Zc,QM,QD,QE,eO0,Zs4,Zs8,Zs3,Nat.reduceAdd];rw[Zs (λf:Nat=>(((f:Nat):Int),((n:Int),(((840/n:Nat):Int)),C.sl N nc,C.mp ty_api_Place ty_int (some 4) none es,fl trC (Ul n f 0 0),C.nl,C.nl,()),())) 0
  ((20:Int),((n:Int),(((840/n:Nat):Int)),C.sl N nc,C.mp ty_api_Place ty_int (some 4) none es,fl trC (tri n),C.nl,C.nl,()),()) 20 ?_ ?_ ?_ (by omega)]
 ·generalize hT0:tri n=T0 at*
  generalize hT:Ra leT T0=T at*
  have hTl:T.length=T0.length:=by rw[<-hT];exact(Xm leT T0).length_eq
  have hfl0:=Zh Yk T0;have hflT:=Zh Yk T;have hdv0:T0.length*3/3=T0.length:=by omega
  have hdvT:T.length*3/3=T.length:=by omega
  have s1:=Znt fu (d+6) T0 (by omega);rw[hT]at s1;have b1: ∀{R:Type} (k:List C->Option R),rowBack ty_api_Cell (fl trC T0) false [.sb ty_api_Cell 0 (fl trC T)] k=k (fl trC T):=λk=>H9 _ _ _ k (by omega);simp(disch:=omega)only[Zc,QM,QD,QE,hfl0,hdv0,s1,b1,hflT,hdvT];rw[Zs (λj:Nat=>(((j:Nat):Int),((n:Int),(((840/n:Nat):Int)),C.sl N nc,C.mp ty_api_Place ty_int (some 4) none es,C.sl T.length (fl trC T),fl edC ((T.take j).flatMap Kt),C.nl,()),())) 0
   (((T.length:Nat):Int),((n:Int),(((840/n:Nat):Int)),C.sl N nc,C.mp ty_api_Place ty_int (some 4) none es,C.sl T.length (fl trC T),fl edC (T.flatMap Kt),C.nl,()),()) T.length ?_ ?_ ?_ (by omega)]
  rotate_left
  ·rfl
  ·intro j hj;have hat:=Lw Yk hj;have hln:(fl edC ((T.take j).flatMap Kt)).length=(j*3)*2:=by rw[Zh Xf,Ku,Ztx,Zuf (by omega)]
   have hdl:(j*3)*2/2=j*3:=by omega
   have happ:fl edC ((T.take j).flatMap Kt)++[C.v (.int .i64 T[j].1),C.v (.int .i64 T[j].2.1),C.v (.int .i64 T[j].1),C.v (.int .i64 T[j].2.2),C.v (.int .i64 T[j].2.1),C.v (.int .i64 T[j].2.2)]=fl edC ((T.take (j+1)).flatMap Kt):=by
    rw[<-Zsi,<-H7,Zty hj,Zvd];simp
   have hln2:(fl edC ((T.take (j+1)).flatMap Kt)).length=(j*3+3)*2:=by rw[Zh Xf,Ku,Ztx,Zuf (by omega)];omega
   simp(disch:=omega)only[Zc,QM,QD,Zs5,hat,trC,Zt1,Zt3,hln,hdl,happ,hln2];rfl
  ·rw[Zud];simp(disch:=omega)only[Zc,QM,QD]
  have hraw:T.flatMap Kt=Cy n:=by unfold Cy;rw[hT0,hT]
  rw[hraw];have hEd:Lib.compact (Ra leZ (Cy n))=E:=hE;generalize Cy n=W at*
  have hflW:=Zh Xf W;have hdvW:W.length*2/2=W.length:=by omega
  have s2:=Znu fu (d+6) W (by omega);have hZl:(Ra leZ W).length=W.length:=(Xm leZ W).length_eq;generalize Ra leZ W=Z at*
  have hflZ:=Zh Xf Z;have hdvZ:Z.length*2/2=Z.length:=by omega
  have b2: ∀{R:Type} (k:List C->Option R),rowBack ty_api_Edge (fl edC W) false [.sb ty_api_Edge 0 (fl edC Z)] k=k (fl edC Z):=λk=>H9 _ _ _ k (by omega);obtain⟨pad,hpad,s3⟩:=Zgz fu (d+6) Z (by omega);rw[hEd]at s3;have hflP:=Zh Xf pad;have b3: ∀{R:Type} (k:List C->Option R),rowBack ty_api_Edge (fl edC Z) true [.sb ty_api_Edge (Z.length*2) (fl edC pad)] k=k (fl edC pad):=λk=>by rw[<-hflZ];exact Zke _ _ _ k (by omega)
  have hflE:=Zh Xf E;simp(disch:=omega)only[Zc,QM,QD,QE,hflW,hdvW,s2,b2,hflZ,hdvZ,s3,b3,Zs5,Zww,decide_true];rw[Zs (λj:Nat=>(((j:Nat):Int),((n:Int),(((840/n:Nat):Int)),C.sl N nc,C.mp ty_api_Place ty_int (some 4) none es,C.sl T.length (fl trC T),C.sl E.length (fl edC E),(V4 N (E.take j)).map ints,()),())) 0
   (((E.length:Nat):Int),((n:Int),(((840/n:Nat):Int)),C.sl N nc,C.mp ty_api_Place ty_int (some 4) none es,C.sl T.length (fl trC T),C.sl E.length (fl edC E),(V4 N E).map ints,()),()) E.length ?_ ?_ ?_ (by omega)]
  rotate_left
  ·show _=(((0:Nat):Int),_,());simp only[Zuz,V4,Zxh,List.map_replicate];rfl
  ·intro j hj;have hat:=Lw Xf hj;have hin:=heI E[j] (Zt0 hj);have hps:V4 N (E.take (j+1))=C6 (V4 N (E.take j)) E[j]:=by rw[Zty hj,Zer]
   have hRl:=Lz N (E.take j);have hRb:=Wv N (E.take j);rw[Ztx,Zuf (by omega)]at hRb;rw[hps];generalize V4 N (E.take j)=R at*
   generalize E[j]=e at*
   obtain⟨ea,eb⟩:=e
   dsimp only at hin
   obtain⟨x,rfl⟩: ∃x:Nat,ea=x:=⟨ea.toNat,by omega⟩;obtain⟨y,rfl⟩: ∃y:Nat,eb=y:=⟨eb.toNat,by omega⟩;have hg1:=Zb4 hRb x;have hg2:=Zb4 (C8 hRb x (y:Int)) y;have hl1:=Sn R x (y:Int);have hpe:C6 R ((x:Int),(y:Int))=Pu (Pu R x (y:Int)) y (x:Int):=rfl;have hp1: ∀i z,R.set i (R.getD i []++[z])=Pu R i z:=λi z=>rfl;have hp2: ∀i z,(Pu R x (y:Int)).set i ((Pu R x (y:Int)).getD i []++[z])=Pu (Pu R x (y:Int)) i z:=λi z=>rfl;have hl2:=Sn (Pu R x (y:Int)) y (x:Int);rw[hpe];simp(disch:=omega)only[Zc,QM,QD,Zrh,Ze,hat,edC,Zt1,Zt3,Zs5,Ztc,Ztl,Zte,Wu,Xx,Zeq,hp1,hp2,hRl,hl1,hl2,Ztb,Zs4,Zs8,Zs3];rfl
  ·rw[Zud];simp(disch:=omega)only[Zc,QM,QD]
  have hRl:=Lz N E;have hRb:=Wv N E;generalize V4 N E=R at*
  simp(disch:=omega)only[Zc,QM,QD,Zte];rw[Zs (λj:Nat=>(((j:Nat):Int),((n:Int),(((840/n:Nat):Int)),C.sl N nc,C.mp ty_api_Place ty_int (some 4) none es,C.sl T.length (fl trC T),C.sl E.length (fl edC E),(F2 R j).map ints,()),())) 0
   (((R.length:Nat):Int),((n:Int),(((840/n:Nat):Int)),C.sl N nc,C.mp ty_api_Place ty_int (some 4) none es,C.sl T.length (fl trC T),C.sl E.length (fl edC E),(R.map Q8).map ints,()),()) R.length ?_ ?_ ?_ (by omega)]
  rotate_left
  ·rw[Zkh];rfl
  ·intro j hj;have hml:=Fl R j;have hgt:=Znv hj;have hst:=Znw hj;have hml2:=Fl R (j+1);have hrl:=hRb R[j] (Zt0 hj);have s4:=Zny fu (d+6) R[j] (by omega);have hsl:=Zbp R[j];generalize R[j]=r at*
   have b4: ∀{R:Type} (k:List C->Option R),rowBack ty_int (ints r) false [.sb ty_int 0 (ints (Q8 r))] k=k (ints (Q8 r)):=λk=>H9 _ _ _ k (by rw[Ze,Ze];exact hsl);simp(disch:=omega)only[Zc,QM,QD,Zrh,Zs5,Ztc,Ztl,Zte,Wu,hgt,Ze,s4,b4,Zeq,hst,hml,hml2];rfl
  ·rw[Znx];simp(disch:=omega)only[Zc,QM,QD,Zte]
  have hmm:List.map (λ(r:List C)=>C.sl (r.length/1) r) ((R.map Q8).map ints)=(R.map Q8).map λr=>C.sl r.length (ints r):=by
   rw[Zwt];apply Zvc;intro r _;show C.sl ((ints r).length/1) (ints r)=_;rw[Ze,Ztl]
  simp(disch:=omega)only[Zc,QM,QD,Zte,hmm]
 ·rfl
 ·intro f hf';simp(disch:=omega)only[Zc,QM,QD];rw[Zs (λa:Nat=>(((a:Nat):Int),((n:Int),(((840/n:Nat):Int)),C.sl N nc,C.mp ty_api_Place ty_int (some 4) none es,fl trC (Ul n f a 0),C.nl,C.nl,()),())) 0
   ((n:Int),((n:Int),(((840/n:Nat):Int)),C.sl N nc,C.mp ty_api_Place ty_int (some 4) none es,fl trC (Ul n f n 0),C.nl,C.nl,()),()) n ?_ ?_ ?_ (by omega)]
  ·simp(disch:=omega)only[Zc,QM,QD];rw[Znp];rfl
  ·rfl
  ·intro a ha;simp(disch:=omega)only[Zc,QM,QD];rw[Zs (λb:Nat=>(((b:Nat):Int),((n:Int),(((840/n:Nat):Int)),C.sl N nc,C.mp ty_api_Place ty_int (some 4) none es,fl trC (Ul n f a b),C.nl,C.nl,()),())) 0
    (((n-a:Nat):Int),((n:Int),(((840/n:Nat):Int)),C.sl N nc,C.mp ty_api_Place ty_int (some 4) none es,fl trC (Ul n f a (n-a)),C.nl,C.nl,()),()) (n-a) ?_ ?_ ?_ (by omega)]
   ·simp(disch:=omega)only[Zc,QM,QD];rw[Zno];rfl
   ·rfl
   ·intro b hb;obtain⟨g',hC⟩:=hC f a b hf' (by omega);have w1:IntKind.i64.wrap ((a:Int)*((840/n:Nat):Int))=((a*(840/n):Nat):Int):=Pt h (by omega);have w2:IntKind.i64.wrap ((b:Int)*((840/n:Nat):Int))=((b*(840/n):Nat):Int):=Pt h (by omega);have w3:IntKind.i64.wrap (((n:Int)-1-(a:Int)-(b:Int))*((840/n:Nat):Int))=(((n-1-a-b)*(840/n):Nat):Int):=by
     rw[show(n:Int)-1-(a:Int)-(b:Int)=((n-1-a-b:Nat):Int) by omega];exact Pt h (by omega)
    simp(disch:=omega)only[Zc,QM,QD,QE,w1,w2,w3,hC];rfl
   ·simp(disch:=omega)only[Zc,QM,QD]
  ·simp(disch:=omega)only[Zc,QM,QD]
 ·rw[C3];simp(disch:=omega)only[Zc,QM,QD];rfl
end
end Go.Proofs.YtjmempcalaliiaaGreatDoor
/- The reference's nodes and the index of a place. -/
namespace Go.Proofs.YtjmempcalaliiaaGreatDoor
open Go Go.PM Go.Grid
theorem Nm (fu d n:Nat) (h:Yc n):cl fu (d+1) fn_synopticref03_Count [I n] []=OK (I ((10*n*n+2:Nat):Int)):=by
 rw[eq_synopticref03_Count];rcases Qu h with rfl|rfl|rfl|rfl|rfl|rfl|rfl|rfl<;>(show @Eq (Option Out) _ _;kernel_rfl)
theorem Zp5 (n f i j:Nat):X9 n f i (j+1)=bif isN (pt n f i j)then X9 n f i j++[pt n f i j]else X9 n f i j:=by
 rw[Znf];unfold isN;by_cases h:norm (pt n f i j)=pt n f i j
 ·rw[if_pos h,decide_eq_true h];rfl
 ·rw[if_neg h,decide_eq_false h];rfl
theorem Zes {n:Nat}:((10*n*n+2:Nat):Int)≠0:=by omega
theorem Zb5 (fu d:Nat) (hf:18446744073709551616<=fu) (n:Nat) (h:Yc n):cl fu (d+6) fn_synopticref03_Nodes [I n] []=OK (V.tup [V.c (C.sl (Zg n).length (fl plc (Zg n))),I 0]):=by
 have hn:=h;unfold Yc at hn;have hst:=Q9 h;rw[eq_synopticref03_Nodes,Nm fu (d+4) n h,C2 h];simp only[QM];rw[H6 Zes,H6 (show(n:Int)≠0 by omega)];simp only[QM];rw[Zs (λf:Nat=>(fl plc (X9 n f 0 0),(f:Int),())) 0 (fl plc (X9 n 20 0 0),(20:Int),()) 20 ?_ ?_ ?_ (by omega)]
 ·rw[Zek];simp(disch:=omega)only[QM,QD,Zh Zp,Xy,Zs3];rw[Ztd (by rw[Zh Zp];omega)]
 ·rfl
 ·intro f hf';have hl:(X9 n f 0 0).length<=2000:=Un h (by omega) (by omega) (by omega);simp(disch:=omega)only[QM,QD,Zh Zp,Xy];rw[Zs (λi:Nat=>(fl plc (X9 n f i 0),((i*(840/n):Nat):Int),())) 0 (fl plc (X9 n f (n+1) 0),(((n+1)*(840/n):Nat):Int),()) (n+1) ?_ ?_ ?_ (by omega)]
  ·have hl:(X9 n f (n+1) 0).length<=2000:=Un h (by omega) (by omega) (by omega);simp(disch:=omega)only[QM,QD,Zh Zp,Xy,Zt2,Zuq];unfold X9;rw[Zrg]
  ·simp only[Zua];rfl
  ·intro i hi;have hl:(X9 n f i 0).length<=2000:=Un h (by omega) (by omega) (by omega);have hA:=Mu h (show i<=n by omega);have hA1:(i+1)*(840/n)=i*(840/n)+840/n:=Zug _ _;rw[hA1];generalize hAe:i*(840/n)=A at hA⊢;simp(disch:=omega)only[QM,QD,Zh Zp,Xy];rw[Zs (λj:Nat=>(fl plc (X9 n f i j),((j*(840/n):Nat):Int),())) 0 (fl plc (X9 n f i (n+1-i)),(((n+1-i)*(840/n):Nat):Int),()) (n+1-i) ?_ ?_ ?_ (by omega)]
   ·have hl:(X9 n f i (n+1-i)).length<=2000:=Un h (by omega) (by omega) (by omega);generalize hst':840/n=s at*
    simp(disch:=omega)only[QM,QD,Zh Zp,Xy,Zt2];unfold X9;rw[Zrf]
   ·simp only[Zua];rfl
   ·intro j hj;have hl:(X9 n f i j).length<=2000:=Un h (by omega) (by omega) (by omega);have hs:=Zgn (n:=n) (i:=i) (j:=j) h (by omega);have hB1:(j+1)*(840/n)=j*(840/n)+840/n:=Zug _ _;have hok:=Znb (f:=f) h hf' (show i+j<=n by omega);have hN:=F1 fu d hf (pt n f i j) hok;have hin:0<A->0<j*(840/n)->0<(n-i-j)*(840/n)->isN (pt n f i j)=true:=λh1 h2 h3=>Zj9 hok (by show 0<i*(840/n);omega) h2 h3;have hup:=Zp5 n f i j;rw[hB1];simp only[plc]at hN;generalize isN (pt n f i j)=z at hN hin hup;simp only[pt]at hN hup;rw[hAe]at hs hN hup;generalize j*(840/n)=B at*
    generalize (n-i-j)*(840/n)=D at*
    generalize 840/n=s at*
    have hD:(840:Int)-A-B=(D:Int):=by omega
    rw[hup];by_cases c1:0<A
    ·by_cases c2:0<B
     ·by_cases c3:0<D
      ·rw[hin c1 c2 c3];simp(disch:=omega)only[QM,QD,hD,Mv,Zh Zp,Xy,Ztb,Zs4,Zs8,Zs3,Zt2]
      ·cases z<;>simp(disch:=omega)only[QM,QD,hD,hN,Mv,Zh Zp,Xy,Ztb,Zs4,Zs8,Zs3,Zt2]
     ·cases z<;>simp(disch:=omega)only[QM,QD,hD,hN,Mv,Zh Zp,Xy,Ztb,Zs4,Zs8,Zs3,Zt2]
    ·cases z<;>simp(disch:=omega)only[QM,QD,hD,hN,Mv,Zh Zp,Xy,Ztb,Zs4,Zs8,Zs3,Zt2]
   ·have hl:(X9 n f i (n+1-i)).length<=2000:=Un h (by omega) (by omega) (by omega);have hs:=Zgn (n:=n) (i:=i) (j:=n-i) h (by omega);have h1:(n+1-i)*(840/n)=(n-i)*(840/n)+840/n:=by rw[show n+1-i=n-i+1 by omega,Zug]
    rw[hAe,show n-i-(n-i)=0 by omega]at hs;rw[h1];generalize (n-i)*(840/n)=B at*
    generalize 840/n=s at*
    simp(disch:=omega)only[QM,QD,Zh Zp,Xy,Zt2]
  ·have hl:(X9 n f (n+1) 0).length<=2000:=Un h (by omega) (by omega) (by omega);have h1:(n+1)*(840/n)=840+840/n:=by rw[Zug,S8 h]
   rw[h1];generalize 840/n=s at*
   simp(disch:=omega)only[QM,QD,Zh Zp,Xy,Zt2]
 ·have hl:(X9 n 20 0 0).length<=2000:=Un h (by omega) (by omega) (by omega);simp(disch:=omega)only[QM,QD,Zh Zp,Xy];rfl
theorem Zp6 (fu d:Nat) (p q:Pl):cl fu (d+1) fn_synopticref03_less [V.agg (plc p),V.agg (plc q)] []=OK (B (decide (plt p q))):=by
 unfold plc;rw[eq_synopticref03_less];by_cases h1:p.f=q.f
 ·by_cases h2:p.a=q.a
  ·by_cases h3:p.b<q.b
   ·rw[decide_eq_true (show plt p q from .inr ⟨h1, .inr ⟨h2,h3⟩⟩)];simp(disch:=omega)only[QM,QD]
   ·rw[decide_eq_false (show ¬plt p q from by unfold plt;omega)];simp(disch:=omega)only[QM,QD]
  ·by_cases h3:p.a<q.a
   ·rw[decide_eq_true (show plt p q from .inr ⟨h1, .inl h3⟩)];simp(disch:=omega)only[QM,QD]
   ·rw[decide_eq_false (show ¬plt p q from by unfold plt;omega)];simp(disch:=omega)only[QM,QD]
 ·by_cases h3:p.f<q.f
  ·rw[decide_eq_true (show plt p q from .inl h3)];simp(disch:=omega)only[QM,QD]
  ·rw[decide_eq_false (show ¬plt p q from by unfold plt;omega)];simp(disch:=omega)only[QM,QD]
theorem J5 {l:List Pl} (h:l.Pairwise plt) {i j:Nat} (hi:i<l.length) (hj:j<l.length) (hij:i<j):plt l[i] l[j]:=Zwi.1 h i j hi hj hij
theorem Zp7 (fu d:Nat) (hf:18446744073709551616<=fu) (l:List Pl) (hl:l.length<=1000000) (hs:l.Pairwise plt) (k:Nat) (hk:k<l.length):
  cl fu (d+2) fn_synopticref03_find [V.c (C.sl l.length (fl plc l)),V.agg (plc l[k])] []=OK (I k):=by
 have hq:plc l[k]=[.v (.int .i64 l[k].f), .v (.int .i64 l[k].a), .v (.int .i64 l[k].b), .v (.int .i64 l[k].c)]:=rfl;rw[hq,eq_synopticref03_find];rw[Zgt (λy:Int×Int×Unit=> ∃lo hi:Nat,y=((lo:Int),(hi:Int),())/\lo<=k/\k<=hi/\hi<=l.length) (λy=>(y.2.1-y.1).toNat) 0 ((k:Int),(k:Int),()) ?_ ?_ ?_]
 ·have hd:=Lw Zp hk;simp(disch:=omega)only[QM,QD,Zs5,hd,plc,Zt1,Zt3,Znc]
 ·exact⟨0,l.length,rfl,Zt5 _,by omega,Ztg _⟩
 ·simp only[];omega
 ·rintro _ ⟨lo,hi,rfl,g1,g2,g3⟩
  by_cases hlt:lo<hi
  ·left;have hm:Int.tdiv ((lo:Int)+(hi:Int)) 2=(((lo+hi)/2:Nat):Int):=by
    rw[show((lo:Int)+(hi:Int))=((lo+hi:Nat):Int) from by omega];rfl
   have hml:(lo+hi)/2<l.length:=by omega
   have hd:=Lw Zp hml;have hless:=Zp6 fu d l[(lo+hi)/2] l[k];simp only[plc]at hless;by_cases hmk:(lo+hi)/2<k
   ·rw[decide_eq_true (J5 hs hml hk hmk)]at hless;refine⟨((((lo+hi)/2+1:Nat):Int),(hi:Int),()), ?_,⟨(lo+hi)/2+1,hi,rfl,by omega,g2,g3⟩, ?_⟩
    ·simp(disch:=omega)only[QM,QD,hm,Zs5,hd,plc,Zt1,Zt3,hless,Zt2,Zuq]
    ·simp only[];omega
   ·have hn: ¬plt l[(lo+hi)/2] l[k]:=by
     rcases Nat.lt_or_ge k ((lo+hi)/2)with h|h
     ·exact λh'=>Ks _ (Zj7 h' (J5 hs hk hml h))
     ·have:(lo+hi)/2=k:=by omega
      simp only[this];exact Ks _
    rw[decide_eq_false hn]at hless;refine⟨((lo:Int),(((lo+hi)/2:Nat):Int),()), ?_,⟨lo,(lo+hi)/2,rfl,g1,by omega,by omega⟩, ?_⟩
    ·simp(disch:=omega)only[QM,QD,hm,Zs5,hd,plc,Zt1,Zt3,hless]
    ·simp only[];omega
  ·right;have e1:lo=k:=by omega
   have e2:hi=k:=by omega
   subst e1 e2;simp(disch:=omega)only[QM,QD]
theorem Zkj (fu d:Nat) (hf:18446744073709551616<=fu) (n:Nat) (h:Yc n) (p:Pl) (hp:p∈pts n):
  cl fu (d+5) fn_synopticref03_at [V.c (C.sl (Zg n).length (fl plc (Zg n))),I p.f,I p.a,I p.b] []=OK (I (idx n p)):=by
 have hok:=Cw h hp;have hs:=hok.2;have e1:=Lx fu d hf p hok;have e2:=Zp7 fu (d+2) hf (Zg n) (by have:=Yw h;omega) (Zbw h) (idx n p) (Cx h hp);rw[Zgr h hp]at e2;have hc:(840:Int)-p.a-p.b=p.c:=by omega
 simp only[plc]at e1 e2;rw[eq_synopticref03_at];simp(disch:=omega)only[QM,QD,hc,e1,e2,Zs4,Zs8,Zs3,Nat.reduceAdd]
end Go.Proofs.YtjmempcalaliiaaGreatDoor
/- The reference's cells: what they come to. -/
namespace Go.Proofs.YtjmempcalaliiaaGreatDoor
open Go Go.PM Go.Grid
attribute [local congr] Zu Zv Zw Yd Zx Zy Ye Yf Yg Yh Zz Z0 Yi Yx Yy Yz Y1 Y2 Y5 Y6 Y7 Y8 Y4 Z2 Z3 Y9 Z4 Z5 Zk Z6 Z1
theorem Uw {A B:Type} {body:A->Option (Nat×A)} {fu:Nat} {x:A} {K:Nat×A->Option B} (R:Option B->Prop) (J:A->Prop) (m:A->Nat) (Q:Nat->A->Prop) (hx:J x) (hm:m x<fu)
  (h: ∀y,J y->(∃y',body y=some (0,y')/\J y'/\m y'<m y)\/ ∃e z,body y=some (e+1,z)/\Q e z) (hK: ∀e z,Q e z->R (K (e,z))):R ((iter body fu x).bind K):=by
 obtain⟨e,z,h1,h2⟩:=H5 (body:=body) J m Q h fu x hx hm;rw[h1];exact hK e z h2
theorem Zkk (i j k:Nat):(Xn i j k).1+(Xn i j k).2.1+(Xn i j k).2.2=i+j+k:=by
 unfold Xn;split<;>split<;>try split
 all_goals first|rfl|(simp only;omega)|omega
theorem Zkl (i j k:Nat):(if(k:Int)<(if(j:Int)<i then(j:Int)else i)then(k:Int)else(if(j:Int)<i then(j:Int)else i))=((Xn i j k).1:Int):=by
 unfold Xn
 repeat' split
 all_goals first|(simp only at*;done)|(simp only at*;omega)|omega
theorem Zkm (i j k:Nat):(if(k:Int)>(if(j:Int)>i then(j:Int)else i)then(k:Int)else(if(j:Int)>i then(j:Int)else i))=((Xn i j k).2.2:Int):=by
 unfold Xn
 repeat' split
 all_goals first|(simp only at*;done)|(simp only at*;omega)|omega
theorem Zb6 {A:Type} {e:A->List C} {m:Nat} (hm: ∀x,(e x).length=m) (L B:List A) (i:Nat):putAt (fl e L) (i*m) (fl e B)=fl e (L.take i++B++L.drop (i+B.length)):=by
 unfold putAt;rw[Zby hm,Zh hm,<-Nat.add_mul,En hm,H7,H7]
section
variable (fu d:Nat) (hf:18446744073709551616<=fu)
theorem Zet (i j k:Nat) (hi:i<=1000000) (hj:j<=1000000) (hk:k<=1000000):cl fu (d+1) fn_synopticref03_cell [I i,I j,I k] []=OK (V.agg (trC (Xn i j k))):=by
 have h1:=Zkl i j k;have h2:=Zkm i j k;have h3:=Zkk i j k;have e1:IntKind.i64.wrap (IntKind.i64.wrap ((i:Int)+j)+k)=(i:Int)+j+k:=by rw[Xj (x:=(i:Int)+j) (by omega) (by omega),Xj (by omega) (by omega)]
 have e2:(i:Int)+j+k-((Xn i j k).1:Int)-((Xn i j k).2.2:Int)=((Xn i j k).2.1:Int):=by omega
 rw[eq_synopticref03_cell,h1,h2,e1];simp(disch:=omega)only[Zc,QM,QD,e2];rfl
include hf
theorem Zkn (L:List (Nat×Nat×Nat)) (hL:L.length<=100000) (x:Nat×Nat×Nat): ∃k,k<=L.length/\
  cl fu (d+1) fn_synopticref03_insert [V.own 1000000 0 L.length,V.agg (trC x)] [.sb ty_api_Cell 0 (fl trC L)]=some ⟨V.own 1000001 0 (L.length+1),[.dead, .sb ty_api_Cell 0 (fl trC (L.take k++x::L.drop k))],none⟩:=by
 have hfl:=Zh Yk L;have hz:fl trC L++[C.v (.int .i64 0),C.v (.int .i64 0),C.v (.int .i64 0)]=fl trC (L++[(0,0,0)]):=Jz L (0,0,0);have hflz:(fl trC (L++[(0,0,0)])).length=(L.length+1)*3:=by rw[Zh Yk,Ztb];rfl
 unfold trC;rw[eq_synopticref03_insert];refine Uw (A:=(Nat×List C)×Int×Unit) (B:=Out) (fu:=fu) (λo=> ∃k,k<=L.length/\o=some ⟨V.own 1000001 0 (L.length+1),[.dead, .sb ty_api_Cell 0 (fl trC (L.take k++x::L.drop k))],none⟩)
  (λy=> ∃k:Nat,k<=L.length/\y=((L.length,fl trC L),(k:Int),())) (λy=>y.2.1.toNat) (λe y=>e=0/\ ∃k:Nat,k<=L.length/\y=((L.length,fl trC L),(k:Int),())) ?_ ?_ ?_ ?_
 ·exact⟨L.length,Ztg _,rfl⟩
 ·show((L.length:Nat):Int).toNat<fu;omega
 ·rintro y ⟨k,hk,rfl⟩
  cases k with
  |zero=>
   refine .inr ⟨0,_, ?_,rfl,0,hk,rfl⟩;simp(disch:=omega)only[Zc,QM,QD]
  |succ k=>
   have hat:=Lw Yk (l:=L) (k:=k) (by omega);have hk1:((k+1:Nat):Int)-1=(k:Int):=by omega
   have go: ∀{b:Option (Nat×((Nat×List C)×Int×Unit))},b=some (0,((L.length,fl trC L),(k:Int),()))\/b=some (1,((L.length,fl trC L),((k+1:Nat):Int),()))->
     (∃y',b=some (0,y')/\(∃k:Nat,k<=L.length/\y'=((L.length,fl trC L),(k:Int),()))/\y'.2.1.toNat<((k+1:Nat):Int).toNat)\/ ∃e z,b=some (e+1,z)/\e=0/\ ∃k:Nat,k<=L.length/\z=((L.length,fl trC L),(k:Int),()):=by
    intro b hb;rcases hb with rfl|rfl
    ·exact .inl ⟨_,rfl,⟨k,by omega,rfl⟩,by show(k:Int).toNat<_;omega⟩
    ·exact .inr ⟨0,_,rfl,rfl,k+1,hk,rfl⟩
   refine go ?_;have hat1:List.drop (k*3+1) (fl trC L)=C.v (.int .i64 L[k].2.1)::C.v (.int .i64 L[k].2.2)::fl trC (L.drop (k+1)):=by rw[<-Zwq,hat];rfl
   have hat2:List.drop (k*3+2) (fl trC L)=C.v (.int .i64 L[k].2.2)::fl trC (L.drop (k+1)):=by rw[<-Zwq,hat];rfl
   generalize L[k]=t at*
   obtain⟨t1,t2,t3⟩:=t;obtain⟨x1,x2,x3⟩:=x;simp only at hat hat1 hat2⊢;by_cases q1:x1<t1
   ·simp(disch:=omega)only[Zc,QM,QD,hk1,Zs3,Zs5,hat,hat1,hat2,trC,Zt1,Zt3];exact .inl trivial
   by_cases q2:x1=t1
   ·by_cases q3:x2<t2
    ·simp(disch:=omega)only[Zc,QM,QD,hk1,Zs3,Zs5,hat,hat1,hat2,trC,Zt1,Zt3];exact .inl trivial
    by_cases q4:x2=t2
    ·by_cases q5:x3<t3
     ·simp(disch:=omega)only[Zc,QM,QD,hk1,Zs3,Zs5,hat,hat1,hat2,trC,Zt1,Zt3];exact .inl trivial
     ·simp(disch:=omega)only[Zc,QM,QD,hk1,Zs3,Zs5,hat,hat1,hat2,trC,Zt1,Zt3];exact .inr trivial
    ·simp(disch:=omega)only[Zc,QM,QD,hk1,Zs3,Zs5,hat,hat1,hat2,trC,Zt1,Zt3];exact .inr trivial
   ·simp(disch:=omega)only[Zc,QM,QD,hk1,Zs3,Zs5,hat,hat1,hat2,trC,Zt1,Zt3];exact .inr trivial
 ·rintro e z ⟨rfl,k,hk,rfl⟩
  refine⟨k,hk, ?_⟩;have hx1:[C.v (.int .i64 x.1),C.v (.int .i64 x.2.1),C.v (.int .i64 x.2.2)]=fl trC [x]:=by simp[fl,trC]
  have hput:putAt (fl trC (L++[(0,0,0)])) (k*3) (fl trC [x])=fl trC ((L++[(0,0,0)]).take k++[x]++(L++[(0,0,0)]).drop (k+1)):=Zb6 Yk _ [x] k;by_cases hkl:k=L.length
  ·subst hkl;have hres:(L++[(0,0,0)]).take L.length++[x]++(L++[(0,0,0)]).drop (L.length+1)=L.take L.length++x::L.drop L.length:=by simp
   rw[hres]at hput;have hfl2:(fl trC (L.take L.length++x::L.drop L.length)).length=(L.length+1)*3:=by rw[Zh Yk];simp
   have htk:List.take ((L.length+1)*3) (fl trC (L.take L.length++x::L.drop L.length))=fl trC (L.take L.length++x::L.drop L.length):=Ztd (by omega);have hmin:Nat.min (L.length+1-L.length) (L.length+1-(L.length+1))=0:=by simp
   have hc1:((L.length:Nat):Int)+1=((L.length+1:Nat):Int):=by omega
   simp(disch:=omega)only[Zc,QM,QD,hfl,hz,hflz,hc1,Zs5,hmin,Zs3,hx1,hput,hfl2,htk]
  ·have hcp:List.take ((L.length-k)*3) (List.drop (k*3) (fl trC (L++[(0,0,0)])))=fl trC (L.drop k):=by
    rw[En Yk,Zby Yk]
    congr 1
    rw[List.drop_append_of_le_length hk,Zu3 (by simp),Ztd (by simp)]
   have hput1:putAt (fl trC (L++[(0,0,0)])) ((k+1)*3) (fl trC (L.drop k))=fl trC ((L++[(0,0,0)]).take (k+1)++L.drop k):=by
    rw[Zb6 Yk,Zuv,show List.drop (k+1+(L.length-k)) (L++[((0,0,0):Nat×Nat×Nat)])=[] from Zvr (by rw[Ztb,Zvw];omega),Zvn]
   have hflc:(fl trC ((L++[(0,0,0)]).take (k+1)++L.drop k)).length=(L.length+1)*3:=by rw[Zh Yk];simp;omega
   have hput2:putAt (fl trC ((L++[(0,0,0)]).take (k+1)++L.drop k)) (k*3) (fl trC [x])=fl trC (L.take k++x::L.drop k):=by
    rw[Zb6 Yk]
    congr 1
    have e1:((L++[(0,0,0)]).take (k+1)++L.drop k).take k=L.take k:=by
     rw[Zu3 (by simp;omega),Zxg,Zuf (by omega),Zu3 hk]
    have e2:((L++[(0,0,0)]).take (k+1)++L.drop k).drop (k+[x].length)=L.drop k:=by
     rw[Zxq,Zvr (by simp;omega)];simp[Zuf (show k+1<=L.length+1 by omega)]
    rw[e1,e2];simp
   have hfl2:(fl trC (L.take k++x::L.drop k)).length=(L.length+1)*3:=by rw[Zh Yk];simp;omega
   have htk:List.take ((L.length+1)*3) (fl trC (L.take k++x::L.drop k))=fl trC (L.take k++x::L.drop k):=Ztd (by omega);obtain⟨q,hq⟩: ∃q,L.length-k=q+1:=⟨L.length-k-1,by omega⟩;have hmin:Nat.min (L.length+1-k) (L.length+1-(k+1))=q+1:=by
    show min _ _=_;omega
   have hc1:((k:Nat):Int)+1=((k+1:Nat):Int):=by omega
   rw[hq]at hcp;simp(disch:=omega)only[Zc,QM,QD,hfl,hz,hflz,hc1,Zs5,hmin,Zs3,hcp,hput1,hflc,hx1,hput2,hfl2,htk]
end
end Go.Proofs.YtjmempcalaliiaaGreatDoor
/- The reference's cells: the same as the grid's, in another order. -/
namespace Go.Proofs.YtjmempcalaliiaaGreatDoor
open Go Go.PM Go.Grid
attribute [local congr] Zu Zv Zw Yd Zx Zy Ye Yf Yg Yh Zz Z0 Yi Yx Yy Yz Y1 Y2 Y5 Y6 Y7 Y8 Y4 Z2 Z3 Y9 Z4 Z5 Zk Z6 Z1
abbrev T3:=Nat×Nat×Nat
def Lm (K:List T3×T3->Nat) (L:List T3) (x:T3):List T3:=L.take (K (L,x))++x::L.drop (K (L,x))
def Vl (K:List T3×T3->Nat) (l:List T3):List T3:=l.foldl (Lm K) []
theorem Gb (K:List T3×T3->Nat) (l:List T3) (x:T3):Vl K (l++[x])=Lm K (Vl K l) x:=by simp[Vl]
theorem Ww (K:List T3×T3->Nat) (L:List T3) (x:T3):(Lm K L x).Perm (x::L):=by
 unfold Lm;refine List.perm_middle.trans ?_;rw[Zwx]
theorem Wx (K:List T3×T3->Nat) (l:List T3):(Vl K l).Perm l:=by
 have key: ∀(l acc:List T3),(l.foldl (Lm K) acc).Perm (acc++l):=by
  intro l
  induction l with
  |nil=>intro acc;simp
  |cons x l ih=>
   intro acc;rw[Zu1];refine(ih _).trans (((Ww K acc x).append_right l).trans ?_);exact(List.perm_middle (l₁:=acc) (a:=x) (l₂:=l)).symm
 exact key l []
theorem Fo (K:List T3×T3->Nat) (l:List T3):(Vl K l).length=l.length:=(Wx K l).length_eq
section
variable (fu d:Nat) (hf:18446744073709551616<=fu)
include hf
theorem Zsj (n:Nat) (h:Yc n) (f i j:Nat) (hf':f<20) (hij:i+j<=n) (x y:Int) (hx:x=((i*(840/n):Nat):Int)) (hy:y=((j*(840/n):Nat):Int)):
  cl fu (d+5) fn_synopticref03_at [V.c (C.sl (Zg n).length (fl plc (Zg n))),I f,I x,I y] []=OK (I (idx n (pt n f i j))):=by
 subst hx hy;have:=Zkj fu d hf n h (pt n f i j) (J2 hf' hij);generalize idx n (pt n f i j)=k at*
 simp only[pt]at this;exact this
set_option maxHeartbeats 8000000 in
theorem Zb7 (n:Nat) (h:Yc n): ∃L:List T3,L.Perm (tri n)/\cl fu (d+7) fn_synopticref03_Cells [I n] []=OK (V.tup [V.c (C.sl L.length (fl trC L)),I 0]):=by
 have hn:=h;unfold Yc at hn;have hst:=Q9 h;obtain⟨K,hK⟩: ∃K:List T3×T3->Nat,∀p:List T3×T3,p.1.length<=100000->cl fu (d+6) fn_synopticref03_insert [V.own 1000000 0 p.1.length,V.agg (trC p.2)] [.sb ty_api_Cell 0 (fl trC p.1)]=some ⟨V.own 1000001 0 (p.1.length+1),[.dead, .sb ty_api_Cell 0 (fl trC (p.1.take (K p)++p.2::p.1.drop (K p)))],none⟩:=by
  refine Classical.axiomOfChoice (r:=λ(p:List T3×T3) (k:Nat)=>p.1.length<=100000->cl fu (d+6) fn_synopticref03_insert [V.own 1000000 0 p.1.length,V.agg (trC p.2)] [.sb ty_api_Cell 0 (fl trC p.1)]=some ⟨V.own 1000001 0 (p.1.length+1),[.dead, .sb ty_api_Cell 0 (fl trC (p.1.take k++p.2::p.1.drop k))],none⟩) λp=> ?_;by_cases hp:p.1.length<=100000
  ·obtain⟨k,_,hk⟩:=Zkn fu (d+5) hf p.1 hp p.2;exact⟨k,λ_=>hk⟩
  ·exact⟨0,λh=>absurd h hp⟩
 have hK: ∀L x,L.length<=100000->cl fu (d+6) fn_synopticref03_insert [V.own 1000000 0 L.length,V.agg (trC x)] [.sb ty_api_Cell 0 (fl trC L)]=some ⟨V.own 1000001 0 (L.length+1),[.dead, .sb ty_api_Cell 0 (fl trC (Lm K L x))],none⟩:=λL x hl=>hK (L,x) hl;have hpl: ∀L x,(Lm K L x).length=L.length+1:=λL x=>by rw[(Ww K L x).length_eq];rfl
 refine⟨Vl K (tri n),Wx K (tri n), ?_⟩;have hle: ∀{f a b:Nat},f<=20->a<=9->b<=9->(Vl K (Ul n f a b)).length<=5000:=λh1 h2 h3=>by rw[Fo];exact Zb1 hn.2 h1 h2 h3
 have hdv: ∀L:List T3,L.length*3/3=L.length:=λL=>by omega
 have hfl: ∀L:List T3,(fl trC L).length=L.length*3:=λL=>Zh Yk L;have hat:=λf i j hf' hij x y hx hy=>Zsj fu (d+1) hf n h f i j hf' hij x y hx hy;have hN:=Zb5 fu d hf n h;have hNl:=Yw h;have hidx: ∀{f i j:Nat},f<20->i+j<=n->idx n (pt n f i j)<=1000000:=λh1 h2=>by have:=Cx h (J2 (n:=n) h1 h2);omega
 rw[eq_synopticref03_Cells,hN,C2 h];generalize (Zg n).length=N at*
 generalize fl plc (Zg n)=nc at*
 simp only[Zc,QM];rw[Znd rfl,H6 (show(n:Int)≠0 by omega)];simp only[Zc,QM];rw[Zs (λf:Nat=>(fl trC (Vl K (Ul n f 0 0)),(f:Int),())) 0 (fl trC (Vl K (tri n)),(20:Int),()) 20 ?_ ?_ ?_ (by omega)]
 ·have h1:(Vl K (tri n)).length<=5000:=by rw[Fo];exact C7 h
  have htk:List.take ((Vl K (tri n)).length*3) (fl trC (Vl K (tri n)))=fl trC (Vl K (tri n)):=Ztd (by rw[hfl];omega);simp(disch:=omega)only[Zc,QM,QD,hdv,hfl,Zs3,htk]
 ·rfl
 ·intro f hf';have h1:=hle (f:=f) (a:=0) (b:=0) (by omega) (by omega) (by omega);simp(disch:=omega)only[Zc,QM,QD,hdv,hfl];rw[Zs (λi:Nat=>(fl trC (Vl K (Ul n f i 0)),((i*(840/n):Nat):Int),())) 0 (fl trC (Vl K (Ul n f n 0)),((n*(840/n):Nat):Int),()) n ?_ ?_ ?_ (by omega)]
  ·simp(disch:=omega)only[Zc,QM,QD,hdv,hfl];rw[Znp];rfl
  ·simp only[Zua];rfl
  ·intro i hi;have h1:=hle (f:=f) (a:=i) (b:=0) (by omega) (by omega) (by omega);have hA:=Mu h (show i+1<=n by omega);have hA1:(i+1)*(840/n)=i*(840/n)+840/n:=Zug _ _;rw[hA1]at hA⊢;simp(disch:=omega)only[Zc,QM,QD,hdv,hfl];rw[Zs (λj:Nat=>(fl trC (Vl K (Ul n f i j)),((j*(840/n):Nat):Int),())) 0 (fl trC (Vl K (Ul n f i (n-i))),(((n-i)*(840/n):Nat):Int),()) (n-i) ?_ ?_ ?_ (by omega)]
   ·simp(disch:=omega)only[Zc,QM,QD,hdv,hfl];rw[Zno];simp only[Zt2]
   ·simp only[Zua];rfl
   ·intro j hj;have h1:=hle (f:=f) (a:=i) (b:=j) (by omega) (by omega) (by omega);have hB1:(j+1)*(840/n)=j*(840/n)+840/n:=Zug _ _;have hAB:=Mu h (show i+j+1<=n by omega);have hAB1:(i+j+1)*(840/n)=i*(840/n)+j*(840/n)+840/n:=by rw[Zug,Nat.add_mul]
    rw[hAB1]at hAB;have a1:=hat f (i+1) j hf' (by omega) (((i*(840/n):Nat):Int)+((840/n:Nat):Int)) ((j*(840/n):Nat):Int) (by rw[hA1];omega) rfl;have a2:=hat f i (j+1) hf' (by omega) ((i*(840/n):Nat):Int) (((j*(840/n):Nat):Int)+((840/n:Nat):Int)) rfl (by rw[hB1];omega);have a3:=hat f i j hf' (by omega) ((i*(840/n):Nat):Int) ((j*(840/n):Nat):Int) rfl rfl;have i1:=hidx (f:=f) (i:=i+1) (j:=j) hf' (by omega);have i2:=hidx (f:=f) (i:=i) (j:=j+1) hf' (by omega);have i3:=hidx (f:=f) (i:=i) (j:=j) hf' (by omega);have c1:=Zet fu (d+5) _ _ _ i1 i2 i3;have n1:=hK (Vl K (Ul n f i j)) (Xn (idx n (pt n f (i+1) j)) (idx n (pt n f i (j+1))) (idx n (pt n f i j))) (by omega);rw[hB1];by_cases hd:i+j+1<n
    ·have hAB2:=Mu h (show i+j+2<=n by omega);have hAB3:(i+j+2)*(840/n)=i*(840/n)+j*(840/n)+840/n+840/n:=by rw[Zug,hAB1]
     rw[hAB3]at hAB2;have a4:=hat f (i+1) (j+1) hf' (by omega) (((i*(840/n):Nat):Int)+((840/n:Nat):Int)) (((j*(840/n):Nat):Int)+((840/n:Nat):Int)) (by rw[hA1];omega) (by rw[hB1];omega);have i4:=hidx (f:=f) (i:=i+1) (j:=j+1) hf' (by omega);have c2:=Zet fu (d+5) _ _ _ i2 i1 i4;have n2:=hK (Lm K (Vl K (Ul n f i j)) (Xn (idx n (pt n f (i+1) j)) (idx n (pt n f i (j+1))) (idx n (pt n f i j)))) (Xn (idx n (pt n f i (j+1))) (idx n (pt n f (i+1) j)) (idx n (pt n f (i+1) (j+1)))) (by rw[hpl];omega);have hL:Vl K (Ul n f i (j+1))=Lm K (Lm K (Vl K (Ul n f i j)) (Xn (idx n (pt n f (i+1) j)) (idx n (pt n f i (j+1))) (idx n (pt n f i j)))) (Xn (idx n (pt n f i (j+1))) (idx n (pt n f (i+1) j)) (idx n (pt n f (i+1) (j+1)))):=by
      rw[<-Zgy,show X2 n f i j=[tc n (pt n f (i+1) j) (pt n f i (j+1)) (pt n f i j)]++[tc n (pt n f i (j+1)) (pt n f (i+1) j) (pt n f (i+1) (j+1))] by unfold X2;rw[if_pos hd];rfl,<-Zt6,Gb,Gb];rfl
     rw[hL];generalize idx n (pt n f (i+1) j)=q1 at*
     generalize idx n (pt n f i (j+1))=q2 at*
     generalize idx n (pt n f i j)=q3 at*
     generalize idx n (pt n f (i+1) (j+1))=q4 at*
     generalize Xn q1 q2 q3=t1 at*
     generalize Xn q2 q1 q4=t2 at*
     have l1:=hpl (Vl K (Ul n f i j)) t1;rw[l1]at n2;have l2:=hpl (Lm K (Vl K (Ul n f i j)) t1) t2;generalize Lm K (Lm K (Vl K (Ul n f i j)) t1) t2=L2 at*
     generalize Lm K (Vl K (Ul n f i j)) t1=L1 at*
     generalize Vl K (Ul n f i j)=L0 at*
     generalize i*(840/n)=A at*
     generalize j*(840/n)=B at*
     generalize 840/n=s at*
     obtain⟨t11,t12,t13⟩:=t1;obtain⟨t21,t22,t23⟩:=t2;simp only[trC]at c1 n1 c2 n2;simp(disch:=omega)only[Zc,QM,QD,a1,a2,a3,a4,c1,n1,c2,n2,out1,hdv,hfl,l1,l2,Zs4,Zs8,Zs3,Nat.reduceAdd,Zt2]
    ·have hnn:i+j+1=n:=by omega
     have hL:Vl K (Ul n f i (j+1))=Lm K (Vl K (Ul n f i j)) (Xn (idx n (pt n f (i+1) j)) (idx n (pt n f i (j+1))) (idx n (pt n f i j))):=by
      rw[<-Zgy,show X2 n f i j=[tc n (pt n f (i+1) j) (pt n f i (j+1)) (pt n f i j)] by unfold X2;rw[if_neg hd],Gb];rfl
     have hAB4:i*(840/n)+j*(840/n)+840/n=840:=by rw[<-hAB1,hnn];exact S8 h
     rw[hL];generalize idx n (pt n f (i+1) j)=q1 at*
     generalize idx n (pt n f i (j+1))=q2 at*
     generalize idx n (pt n f i j)=q3 at*
     generalize Xn q1 q2 q3=t1 at*
     have l1:=hpl (Vl K (Ul n f i j)) t1;generalize Lm K (Vl K (Ul n f i j)) t1=L1 at*
     generalize Vl K (Ul n f i j)=L0 at*
     generalize i*(840/n)=A at*
     generalize j*(840/n)=B at*
     generalize 840/n=s at*
     obtain⟨t11,t12,t13⟩:=t1;simp only[trC]at c1 n1;simp(disch:=omega)only[Zc,QM,QD,a1,a2,a3,c1,n1,out1,hdv,hfl,l1,Zs4,Zs8,Zs3,Nat.reduceAdd,Zt2]
   ·have hend:i*(840/n)+(n-i)*(840/n)=840:=by rw[<-Nat.add_mul,show i+(n-i)=n by omega];exact S8 h
    have h1:=hle (f:=f) (a:=i) (b:=n-i) (by omega) (by omega) (by omega);generalize (n-i)*(840/n)=B at*
    simp(disch:=omega)only[Zc,QM,QD,hdv,hfl]
  ·have h1:=hle (f:=f) (a:=n) (b:=0) (by omega) (by omega) (by omega);have hend:=S8 h;generalize n*(840/n)=B at*
   simp(disch:=omega)only[Zc,QM,QD,hdv,hfl]
 ·have h1:=hle (f:=20) (a:=0) (b:=0) (by omega) (by omega) (by omega);simp(disch:=omega)only[Zc,QM,QD,hdv,hfl];rw[C3];rfl
end
end Go.Proofs.YtjmempcalaliiaaGreatDoor
/- The reference's neighbours. -/
namespace Go.Proofs.YtjmempcalaliiaaGreatDoor
open Go Go.PM Go.Grid
attribute [local congr] Zu Zv Zw Yd Zx Zy Ye Yf Yg Yh Zz Z0 Yi Yx Yy Yz Y1 Y2 Y5 Y6 Y7 Y8 Y4 Z2 Z3 Y9 Z4 Z5 Zk Z6 Z1
def Rm (z:Int):List Int->List Int
 | []=>[z]
 |y::l=>if y<z then y::Rm z l else if y=z then y::l else z::y::l
theorem C9 {z x:Int}: ∀{l:List Int},x∈Rm z l↔x=z\/x∈l
 | []=>by simp[Rm]
 |y::l=>by
  unfold Rm;split
  ·rw[Zto,C9,Zto];exact⟨λh=>h.elim (λh=> .inr (.inl h)) λh=>h.elim .inl λh=> .inr (.inr h),λh=>h.elim (λh=> .inr (.inl h)) λh=>h.elim .inl λh=> .inr (.inr h)⟩
  ·split
   ·rename_i h1 h2;subst h2;simp
   ·simp
theorem Zeu {z:Int}: ∀{l:List Int},l.Pairwise (λa b=>a<b)->(Rm z l).Pairwise (λa b=>a<b)
 | [],h=>by simp[Rm]
 |y::l,h=>by
  rw[Zue]at h;unfold Rm;split
  ·rename_i h1;rw[Zue];refine⟨λx hx=> ?_,Zeu h.2⟩;rcases C9.1 hx with rfl|hx
   ·exact h1
   ·exact h.1 x hx
  ·split
   ·rw[Zue];exact h
   ·rename_i h1 h2;rw[Zue,Zue];refine⟨λx hx=> ?_,h⟩;rcases Zto.1 hx with rfl|hx
    ·omega
    ·have:=h.1 x hx;omega
theorem Fp (z:Int): ∀l,(Rm z l).length<=l.length+1
 | []=>by simp[Rm]
 |y::l=>by
  unfold Rm;have:=Fp z l;split
  ·simp;omega
  ·split<;>simp
theorem Zid (z:Int): ∀l:List Int,∃k,k<=l.length/\(∀j (h:j<l.length),j<k->l[j]<z)/\(∀h:k<l.length,¬l[k]<z)/\((∀h:k<l.length,l[k]≠z)->Rm z l=l.take k++z::l.drop k)/\ ∀h:k<l.length,l[k]=z->Rm z l=l
 | []=>⟨0,by simp,by simp,by simp,by simp[Rm],by simp⟩
 |y::l=>by
  obtain⟨k,h1,h2,h3,h4,h5⟩:=Zid z l;by_cases hy:y<z
  ·refine⟨k+1,by simp;omega,λj hj hjk=> ?_,λh=>h3 (by simp at h;omega),λh=> ?_,λh e=> ?_⟩
   ·cases j with
    |zero=>exact hy
    |succ j=>exact h2 j (by simp at hj;omega) (by omega)
   ·unfold Rm;rw[if_pos hy,h4 λh'=>h (by simp;omega)];rfl
   ·unfold Rm;rw[if_pos hy,h5 (by simp at h;omega) e]
  ·refine⟨0,by simp,λj hj hjk=>by omega,λ_=>hy,λh=> ?_,λh e=> ?_⟩
   ·have:y≠z:=h (by simp);unfold Rm;rw[if_neg hy,if_neg this];rfl
   ·have e:y=z:=e;unfold Rm;rw[if_neg hy,if_pos e]
def rC1 (r:List Int):C:=match r with| []=> .nl|_::_=> .sl r.length (ints r)
theorem V5 {R:Type} (r:List Int) (k:Nat->List C->Option R):asSl (rC1 r) k=k r.length (ints r):=by cases r<;>rfl
theorem Zsk {r:List Int} (h:r≠[]):rC1 r= .sl r.length (ints r):=by cases r with|nil=>exact absurd rfl h|cons x r=>rfl
theorem Gc (r:List Int) (k:Nat):(ints r).drop k=ints (r.drop k):=(Zxn).symm
theorem Gd (r:List Int) (k:Nat):(ints r).take k=ints (r.take k):=(Zxo).symm
theorem Zko (r:List Int) (k:Nat) (hk:k<=r.length): ∃c:C,(∀{R:Type} (k':C->Option R),sliceC 1 (some (I k)) none (rC1 r) k'=k' c)/\ ∀{R:Type} (k':Nat->List C->Option R),asSl c k'=k' (r.length-k) (ints (r.drop k)):=by
 cases r with
 |nil=>
  have:k=0:=by simpa using hk
  subst this;exact⟨.nl,λk'=>rfl,λk'=>rfl⟩
 |cons x r=>
  refine⟨.sl ((x::r).length-k) (ints ((x::r).drop k)),λk'=> ?_,λk'=>rfl⟩;have h1:decide ((0:Int)<=(k:Int))=true:=decide_eq_true (by omega);have h2:decide ((k:Int)<=(((x::r).length:Nat):Int))=true:=decide_eq_true (by omega);have h3:((k:Int)).toNat=k:=Zs5 k;show bound none (x::r).length (x::r).length (λh=>bound (some (I k)) 0 h λa=>k' (.sl (h-a) (((ints (x::r)).drop (a*1)).take ((h-a)*1))))=_;show need (decide ((0:Int)<=(k:Int))&&decide ((k:Int)<=(((x::r).length:Nat):Int))) (k' (.sl ((x::r).length-(k:Int).toNat) (((ints (x::r)).drop ((k:Int).toNat*1)).take (((x::r).length-(k:Int).toNat)*1))))=_;rw[h1,h2,h3,Ztc,Ztc,Gc,Ztd (by rw[Ze,Zuv];omega)];rfl
theorem Wy (R:List (List Int)) {i:Nat} (hi:i<R.length):(R.map rC1).drop i=rC1 (R.getD i [])::(R.map rC1).drop (i+1):=by
 rw[Zt4 (by simpa using hi),Zvj,Ztj,Zta hi];rfl
theorem Zn0 (R:List (List Int)) {i:Nat} (hi:i<R.length) (r:List Int):putAt (R.map rC1) i [rC1 r]=(R.set i r).map rC1:=by
 unfold putAt;rw[List.map_set,Zwp,if_pos (by simpa using hi)];simp
theorem Zp8 (N:Nat):reps N [C.nl]=(List.replicate N ([]:List Int)).map rC1:=by
 induction N with
 |zero=>rfl
 |succ N ih=>rw[Zvo,Zt7,<-ih];unfold reps;rw[Zvo,List.flatten_cons];rfl
def N1 (R:List (List Int)) (p:Nat×Nat):List (List Int):=R.set p.1 (Rm p.2 (R.getD p.1 []))
def prs (t:T3):List (Nat×Nat):=[(t.1,t.2.1),(t.1,t.2.2),(t.2.1,t.2.2),(t.2.1,t.1),(t.2.2,t.1),(t.2.2,t.2.1)]
theorem Mw (R:List (List Int)) (p:Nat×Nat):(N1 R p).length=R.length:=by simp[N1]
theorem Ad (l:List (Nat×Nat)): ∀R,(l.foldl N1 R).length=R.length:=by
 induction l with
 |nil=>intro R;rfl
 |cons p l ih=>intro R;rw[Zu1,ih,Mw]
theorem Zkp (R:List (List Int)) (p:Nat×Nat) (i:Nat):(N1 R p).getD i []=if i=p.1/\i<R.length then Rm p.2 (R.getD i [])else R.getD i []:=by
 unfold N1;rw[Ztj,Zws];by_cases h:p.1=i
 ·subst h;by_cases hl:p.1<R.length
  ·simp[hl]
  ·rw[if_pos rfl,if_neg hl,if_neg (λe=>hl e.2),Ztj,Zvg (by omega)]
 ·rw[if_neg h,if_neg (λe=>h e.1.symm),Ztj]
theorem Zkq {R:List (List Int)} {p:Nat×Nat} (h:Rm p.2 (R.getD p.1 [])=R.getD p.1 []):N1 R p=R:=by
 unfold N1;rw[h];by_cases hl:p.1<R.length
 ·rw[Ztj,Zta hl];exact List.set_getElem_self hl
 ·exact List.set_eq_of_length_le (by omega)
theorem Zg0 (l:List (Nat×Nat)): ∀(R:List (List Int)) (i:Nat),(∀r,R.getD i []=r->r.Pairwise (λa b=>a<b))->((l.foldl N1 R).getD i []).Pairwise (λa b=>a<b)/\(i<R.length-> ∀x,x∈(l.foldl N1 R).getD i []↔x∈R.getD i []\/ ∃k:Nat,x=k/\(i,k)∈l)/\((l.foldl N1 R).getD i []).length<=(R.getD i []).length+l.length:=by
 induction l with
 |nil=>intro R i h;exact⟨h _ rfl,λ_ x=>by simp,by simp⟩
 |cons p l ih=>
  intro R i h;rw[Zu1];have hg:=Zkp R p i;obtain⟨a1,a2,a3⟩:=ih (N1 R p) i (λr hr=>by
   subst hr;rw[hg];split
   ·exact Zeu (h _ rfl)
   ·exact h _ rfl)
  refine⟨a1,λhi x=> ?_, ?_⟩
  ·rw[a2 (by rw[Mw];exact hi),hg];by_cases hp:i=p.1
   ·subst hp;rw[if_pos ⟨rfl,hi⟩,C9];constructor
    ·rintro ((rfl|h1)|⟨k,h1,h2⟩)
     ·exact .inr ⟨p.2,rfl,Zub ..⟩
     ·exact .inl h1
     ·exact .inr ⟨k,h1,Ztq _ h2⟩
    ·rintro (h1|⟨k,h1,h2⟩)
     ·exact .inl (.inr h1)
     ·rcases Zto.1 h2 with h2|h2
      ·have e:k=p.2:=congrArg Prod.snd h2;exact .inl (.inl (h1.trans (by rw[e])))
      ·exact .inr ⟨k,h1,h2⟩
   ·rw[if_neg (λe=>hp e.1)];constructor
    ·rintro (h1|⟨k,h1,h2⟩)
     ·exact .inl h1
     ·exact .inr ⟨k,h1,Ztq _ h2⟩
    ·rintro (h1|⟨k,h1,h2⟩)
     ·exact .inl h1
     ·rcases Zto.1 h2 with h2|h2
      ·subst h2;exact absurd rfl hp
      ·exact .inr ⟨k,h1,h2⟩
  ·rw[hg]at a3;rw[Zs4];split at a3
   ·have:=Fp p.2 (R.getD i []);omega
   ·omega
theorem prs_length (L:List T3):(L.flatMap prs).length=L.length*6:=by
 induction L with
 |nil=>rfl
 |cons x L ih=>rw[Zuo,Ztb,ih,Zs4];simp only[prs,Zs4,Zs8];omega
theorem Ge (N i:Nat):(List.replicate N ([]:List Int)).getD i []=[]:=by
 rw[Ztj,Zwo];split<;>rfl
theorem Pv {N:Nat} {l:List (Nat×Nat)} (i:Nat):((l.foldl N1 (List.replicate N [])).getD i []).Pairwise (λa b=>a<b)/\(i<N-> ∀x,x∈(l.foldl N1 (List.replicate N [])).getD i []↔ ∃k:Nat,x=k/\(i,k)∈l)/\((l.foldl N1 (List.replicate N [])).getD i []).length<=l.length:=by
 obtain⟨h1,h2,h3⟩:=Zg0 l (List.replicate N []) i (λr hr=>by rw[Ge]at hr;subst hr;exact .nil);refine⟨h1,λhi x=> ?_, ?_⟩
 ·rw[h2 (by simpa using hi),Ge];simp
 ·rw[Ge]at h3;simpa using h3
end Go.Proofs.YtjmempcalaliiaaGreatDoor
/- The reference's neighbours: what the function comes to. -/
namespace Go.Proofs.YtjmempcalaliiaaGreatDoor
open Go Go.PM Go.Grid
attribute [local congr] Zu Zv Zw Yd Zx Zy Ye Yf Yg Yh Zz Z0 Yi Yx Yy Yz Y1 Y2 Y5 Y6 Y7 Y8 Y4 Z2 Z3 Y9 Z4 Z5 Zk Z6 Z1
def R7 (N:Nat) (l:List (Nat×Nat)):List (List Int):=l.foldl N1 (List.replicate N [])
theorem Zkr (N:Nat) (l:List (Nat×Nat)) (p:Nat×Nat):R7 N (l++[p])=N1 (R7 N l) p:=by simp[R7]
theorem Fq (N:Nat) (l:List (Nat×Nat)):(R7 N l).length=N:=by unfold R7;rw[Ad];simp
theorem put2 (a b:C):putAt [C.v (.int .i64 0),C.v (.int .i64 0)] 0 [a,b]=[a,b]:=rfl
theorem ints_at (r:List Int) {m:Nat} (h:m<r.length):(ints r).drop m=C.v (.int .i64 r[m])::ints (r.drop (m+1)):=by
 rw[Gc,Zt4 h];rfl
section
variable (fu d:Nat) (hf:18446744073709551616<=fu)
include hf
set_option maxHeartbeats 8000000 in
theorem Ae (n:Nat) (h:Yc n): ∃L:List T3,L.Perm (tri n)/\cl fu (d+8) fn_synopticref03_around [I n] []=OK (V.c (C.sl (Zg n).length ((R7 (Zg n).length (L.flatMap prs)).map rC1))):=by
 have hn:=h;unfold Yc at hn;obtain⟨L,hp,hC⟩:=Zb7 fu d hf n h;have hN:=Qa h;have hNl:=Yw h;have hcnt:=Nm fu (d+6) n h;rw[<-hN]at hcnt;have hin: ∀t∈L,t.1<(Zg n).length/\t.2.1<(Zg n).length/\t.2.2<(Zg n).length:=λt ht=>Zb3 h t (hp.mem_iff.1 ht);have hLl:L.length<=5000:=by rw[hp.length_eq];exact C7 h
 refine⟨L,hp, ?_⟩;generalize (Zg n).length=N at*
 have hR0:(R7 N []).map rC1=reps N [C.nl]:=by rw[Zp8];rfl
 have hRl:=Fq N;have hrow: ∀l i,((R7 N l).getD i []).length<=l.length:=λl i=>(Pv (N:=N) (l:=l) i).2.2;rw[eq_synopticref03_around,hC];simp(disch:=omega)only[Zc,QM,QD,hcnt,Zs5,Qs,Zs4,Zs8,Zs3,Ztc];rw[Zs (λj:Nat=>((R7 N ((L.take j).flatMap prs)).map rC1,(j:Int),())) 0 ((R7 N (L.flatMap prs)).map rC1,((L.length:Nat):Int),()) L.length ?_ ?_ ?_ (by omega)]
 ·have htk:List.take N ((R7 N (L.flatMap prs)).map rC1)=(R7 N (L.flatMap prs)).map rC1:=Ztd (by rw[Zte,hRl];exact Ztg _);simp(disch:=omega)only[Zc,QM,QD,Zte,hRl,Ztl,Ztc,Zs3,htk]
 ·rw[<-hR0];rfl
 ·intro j hj;have hat:=Lw Yk hj;have hts:=hin L[j] (Zt0 hj);have hnx:(L.take (j+1)).flatMap prs=(L.take j).flatMap prs++prs L[j]:=by rw[Zty hj,Zvd];simp
  have hl0:((L.take j).flatMap prs).length=j*6:=by rw[prs_length,Ztx,Zuf (by omega)]
  rw[hnx];generalize (L.take j).flatMap prs=l0 at*
  generalize L[j]=t at*
  obtain⟨x,y,z⟩:=t;simp only[trC]at hat hts;simp(disch:=omega)only[Zc,QM,QD,Zs5,hat,Zt1,Zt3,Zte,hRl,Ztl,Ztc];rw[Zs (λq:Nat=>((R7 N (l0++(prs (x,y,z)).take q)).map rC1,(q:Int),())) 0 ((R7 N (l0++prs (x,y,z))).map rC1,(6:Int),()) 6 ?_ ?_ ?_ (by omega)]
  ·simp(disch:=omega)only[Zc,QM,QD,Zte,hRl,Ztl,Ztc];rfl
  ·simp only[Zuz,Zvn];rfl
  ·intro q hq;have hpl:(prs (x,y,z)).length=6:=rfl;have hq':q<(prs (x,y,z)).length:=hq;have hnx2:l0++(prs (x,y,z)).take (q+1)=(l0++(prs (x,y,z)).take q)++[(prs (x,y,z))[q]]:=by rw[Zty hq',Zt6]
   have hl1:(l0++(prs (x,y,z)).take q).length<=30000:=by rw[Ztb,Ztx,hl0];omega
   have h12:List.take 2 (List.drop (q*2) [C.v (.int .i64 (x:Int)),C.v (.int .i64 (y:Int)),C.v (.int .i64 (x:Int)),C.v (.int .i64 (z:Int)),C.v (.int .i64 (y:Int)),C.v (.int .i64 (z:Int)),C.v (.int .i64 (y:Int)),C.v (.int .i64 (x:Int)),C.v (.int .i64 (z:Int)),C.v (.int .i64 (x:Int)),C.v (.int .i64 (z:Int)),C.v (.int .i64 (y:Int))])=[C.v (.int .i64 ((prs (x,y,z))[q].1:Int)),C.v (.int .i64 ((prs (x,y,z))[q].2:Int))]:=by
    rcases(show q=0\/q=1\/q=2\/q=3\/q=4\/q=5 by omega)with rfl|rfl|rfl|rfl|rfl|rfl<;>rfl
   have hpin:(prs (x,y,z))[q].1<N:=by
    rcases(show q=0\/q=1\/q=2\/q=3\/q=4\/q=5 by omega)with rfl|rfl|rfl|rfl|rfl|rfl<;>(simp only[prs,List.getElem_cons_zero,List.getElem_cons_succ];omega)
   rw[hnx2,Zkr];generalize (prs (x,y,z))[q]=pr at*
   generalize l0++(prs (x,y,z)).take q=l1 at*
   obtain⟨a,b⟩:=pr;simp only at hpin h12;have hrl:=hrow l1 a;have hRN:=hRl l1;generalize R7 N l1=R at*
   have hdr:=Wy R (show a<R.length by omega);have hput:=Zn0 R (show a<R.length by omega);obtain⟨k,k1,k2,k3,k4,k5⟩:=Zid (b:Int) (R.getD a []);obtain⟨c,c1,c2⟩:=Zko (R.getD a []) k k1;have hadd:N1 R (a,b)=R.set a (Rm (b:Int) (R.getD a [])):=rfl;have hsame:=Zkq (R:=R) (p:=(a,b));simp only at hsame;have hal:=Mw R (a,b);generalize R.getD a []=row at*
   simp(disch:=omega)only[Zc,QM,QD,Zs5,Zuv,Zs4,Zs8,Zs3,Nat.reduceAdd,h12,Zte,hRN,Ztl,Ztc,put2];rw[Zs (λm:Nat=>(R.map rC1,(m:Int),[C.v (.int .i64 (a:Int)),C.v (.int .i64 (b:Int))],())) 0 (R.map rC1,(k:Int),[C.v (.int .i64 (a:Int)),C.v (.int .i64 (b:Int))],()) k ?_ ?_ ?_ (by omega)]
   ·have hnew:Rm (b:Int) row=row.take k++(b:Int)::row.drop k->putAt (R.map rC1) a [C.sl (k+(1+(row.length-k))) (ints (row.take k)++([C.v (.int .i64 (b:Int))]++ints (row.drop k)))]=(N1 R (a,b)).map rC1:=by
     intro e;have e1:(row.take k++(b:Int)::row.drop k).length=k+(1+(row.length-k)):=by rw[Ztb,Zs4,Zuv,Ztx,Zuf k1];omega
     have e2:ints (row.take k++(b:Int)::row.drop k)=ints (row.take k)++([C.v (.int .i64 (b:Int))]++ints (row.drop k)):=by simp[ik]
     rw[hadd,e,<-hput,Zsk (by simp),e1,e2]
    have e0:List.drop 1 [C.v (.int .i64 (a:Int)),C.v (.int .i64 (b:Int))]=[C.v (.int .i64 (b:Int))]:=rfl;by_cases hk:k<row.length
    ·have hia:=ints_at row hk;by_cases hb:row[k]=(b:Int)
     ·rw[hsame (k5 hk hb)];simp(disch:=omega)only[Zc,QM,QD,Zs3,Ztc,Ztl,Zs5,hdr,V5,hia,e0,Zte,hRN];rfl
     ·have hnew:=hnew (k4 λ_=>hb);have hnl:(putAt (R.map rC1) a [C.sl (k+(1+(row.length-k))) (ints (row.take k)++([C.v (.int .i64 (b:Int))]++ints (row.drop k)))]).length=N:=by rw[hnew,Zte,hal,hRN]
      simp(disch:=omega)only[Zc,QM,QD,Zs3,Ztc,Ztl,Zs5,hdr,V5,hia,e0,c1,c2,Zte,hRN,Ze,Gd,Ztb,Zs4,Zs8,Zuv,Ztx,Zuf,hnl,decide_true];rw[hnew];rfl
    ·have hnew:=hnew (k4 λh=>absurd h hk);have hnl:(putAt (R.map rC1) a [C.sl (k+(1+(row.length-k))) (ints (row.take k)++([C.v (.int .i64 (b:Int))]++ints (row.drop k)))]).length=N:=by rw[hnew,Zte,hal,hRN]
     simp(disch:=omega)only[Zc,QM,QD,Zs3,Ztc,Ztl,Zs5,hdr,V5,e0,c1,c2,Zte,hRN,Ze,Gd,Ztb,Zs4,Zs8,Zuv,Ztx,Zuf,hnl,decide_true];rw[hnew];rfl
   ·rfl
   ·intro m hm;have hml:m<row.length:=by omega
    have hlt:=k2 m hml hm;have hia:=ints_at row hml;have e0:List.drop 1 [C.v (.int .i64 (a:Int)),C.v (.int .i64 (b:Int))]=[C.v (.int .i64 (b:Int))]:=rfl;simp(disch:=omega)only[Zc,QM,QD,Zs3,Ztc,Ztl,Zs5,hdr,V5,hia,e0,Zte,hRN];rfl
   ·have e0:List.drop 1 [C.v (.int .i64 (a:Int)),C.v (.int .i64 (b:Int))]=[C.v (.int .i64 (b:Int))]:=rfl;by_cases hk:k<row.length
    ·have hge:=k3 hk;have hia:=ints_at row hk;simp(disch:=omega)only[Zc,QM,QD,Zs3,Ztc,Ztl,Zs5,hdr,V5,hia,e0,Zte,hRN]
    ·simp(disch:=omega)only[Zc,QM,QD,Zs3,Ztc,Ztl,Zs5,hdr,V5,e0,Zte,hRN]
  ·simp(disch:=omega)only[Zc,QM,QD,Zte,hRl,Ztl,Ztc];rfl
 ·rw[Zud];simp(disch:=omega)only[Zc,QM,QD,Zte,hRl,Ztl,Ztc]
end
end Go.Proofs.YtjmempcalaliiaaGreatDoor
/- The reference's edges are the grid's. -/
namespace Go.Proofs.YtjmempcalaliiaaGreatDoor
open Go Go.PM Go.Grid
attribute [local congr] Zu Zv Zw Yd Zx Zy Ye Yf Yg Yh Zz Z0 Yi Yx Yy Yz Y1 Y2 Y5 Y6 Y7 Y8 Y4 Z2 Z3 Y9 Z4 Z5 Zk Z6 Z1
def ltE (a b:Ed):Prop:=a.1<b.1\/a.1=b.1/\a.2<b.2
theorem Ba (a:Ed): ¬ltE a a:=by unfold ltE;omega
theorem Zks {a b:Ed} (h:ltE a b): ¬ltE b a:=by unfold ltE at*;omega
theorem J6: ∀{p q:List Ed},p.Pairwise ltE->q.Pairwise ltE->(∀x,x∈p↔x∈q)->p=q
 | [],[],_,_,_=>rfl
 | [],b::q,_,_,h=>by have:=(h b).2 (Zub ..);cases this
 |a::p,[],_,_,h=>by have:=(h a).1 (Zub ..);cases this
 |a::p,b::q,hp,hq,h=>by
  rw[Zue]at hp hq;have e:a=b:=by
   rcases Zto.1 ((h a).1 (Zub ..))with h1|h1
   ·exact h1
   ·rcases Zto.1 ((h b).2 (Zub ..))with h2|h2
    ·exact h2.symm
    ·exact absurd (hp.1 b h2) (Zks (hq.1 a h1))
  subst e;have:p=q:=J6 hp.2 hq.2 λx=>by
   constructor
   ·intro hx;rcases Zto.1 ((h x).1 (Ztq _ hx))with h1|h1
    ·subst h1;exact absurd (hp.1 x hx) (Ba x)
    ·exact h1
   ·intro hx;rcases Zto.1 ((h x).2 (Ztq _ hx))with h1|h1
    ·subst h1;exact absurd (hq.1 x hx) (Ba x)
    ·exact h1
  rw[this]
theorem Bb {α:Type} [Inhabited α] (l:List α) {j:Nat} (hj:j<l.length):l.toArray[j]! =l[j]:=by
 rw[getElem!_pos l.toArray j (by simpa using hj)];simp
theorem Gf {α:Type} [Inhabited α] [DecidableEq α] (l:List α) {j:Nat} (hj:j<l.length):Lib.keeps l.toArray j=true↔j=0\/ ∃h:0<j,l[j]≠l[j-1]:=by
 unfold Lib.keeps;rw[Bb l hj,Bb l (show j-1<l.length by omega)];simp;constructor
 ·rintro (h|h)
  ·exact .inl h
  ·by_cases h0:j=0
   ·exact .inl h0
   ·exact .inr ⟨by omega,h⟩
 ·rintro (h|⟨_,h⟩)
  ·exact .inl h
  ·exact .inr h
theorem compact_all {α:Type} [Inhabited α] [DecidableEq α] (l:List α): ∀(j:Nat) (hj:j<l.length),l[j]∈Lib.compact l:=by
 have key: ∀(j:Nat) (hj:j<l.length),Lib.keeps l.toArray j=true->l[j]∈Lib.compact l:=by
  intro j hj hk;unfold Lib.compact Lib.compactUpTo;rw[<-Bb l hj];exact List.mem_map_of_mem (Zxa.2 ⟨Zus.2 hj,hk⟩)
 intro j
 induction j with
 |zero=>intro hj;exact key 0 hj ((Gf l hj).2 (.inl rfl))
 |succ j ih=>
  intro hj;by_cases e:l[j+1]=l[j]
  ·rw[e];exact ih (by omega)
  ·exact key (j+1) hj ((Gf l hj).2 (.inr ⟨by omega,e⟩))
theorem Zev (l:List Ed) (h:l.Pairwise λa b=>leZ a b=true):(Lib.compact l).Pairwise ltE:=by
 unfold Lib.compact Lib.compactUpTo;rw[List.pairwise_map,List.pairwise_filter];refine(List.pairwise_lt_range (n:=l.length)).imp_of_mem λ{a b} ha hb hab ka kb=> ?_;have ha:=Zus.1 ha;have hb:=Zus.1 hb;rw[Bb l ha,Bb l hb];rcases(Gf l hb).1 kb with h0|⟨h0,hne⟩
 ·omega
 have g:=Zwi.1 h;have h1:leZ l[a] l[b-1]=true:=by
  by_cases e:a=b-1
  ·subst e;rw[Tq];exact .inr ⟨rfl,by omega⟩
  ·exact g a (b-1) ha (by omega) (by omega)
 have h2:leZ l[b-1] l[b]=true:=g (b-1) b (by omega) hb (by omega);have h3:l[b]≠l[b-1]:=hne;generalize l[a]=u at*
 generalize l[b]=v at*
 generalize l[b-1]=w at*
 have h4: ¬leZ v w=true:=λe=>h3 (Zep _ _ e h2);rw[Tq]at h1 h2 h4;unfold ltE;omega
theorem Zp9 (n:Nat):(edg n).Pairwise ltE:=Zev _ (M9 (λa b=>by rw[Tq,Tq];omega) (λa b c h h'=>by rw[Tq]at h h'⊢;omega) _)
theorem Zie (n:Nat) (e:Ed):e∈edg n↔e∈Cy n:=by
 constructor
 ·intro h;exact(Xm leZ _).mem_iff.1 (Fj h)
 ·intro h;have h:=(Xm leZ _).mem_iff.2 h;obtain⟨j,hj,rfl⟩:=Zxc h;exact compact_all _ j hj
theorem Zew (n:Nat) (e:Ed):e∈Cy n↔ ∃t∈tri n,e∈Kt t:=by
 unfold Cy;rw[Zu7];exact⟨λ⟨t,h,h'⟩=>⟨t,(Xm leT _).mem_iff.1 h,h'⟩,λ⟨t,h,h'⟩=>⟨t,(Xm leT _).mem_iff.2 h,h'⟩⟩
theorem Zex {i j k:Nat} (h1:i≠j) (h2:i≠k) (h3:j≠k):(Xn i j k).1<(Xn i j k).2.1/\(Xn i j k).2.1<(Xn i j k).2.2:=by
 unfold Xn;split<;>split<;>try split
 all_goals first|(simp only;omega)|omega
theorem pt_ne {n f a b a' b':Nat} (h:Yc n) (hne:a≠a'\/b≠b'):pt n f a b≠pt n f a' b':=by
 intro e;have hs:=Q9 h;have e1:a*(840/n)=a'*(840/n):=congrArg Pl.a e;have e2:b*(840/n)=b'*(840/n):=congrArg Pl.b e;rcases hne with hne|hne
 ·exact hne (Zxi (by omega) e1)
 ·exact hne (Zxi (by omega) e2)
theorem Zn1 {n:Nat} (h:Yc n): ∀t∈tri n,t.1<t.2.1/\t.2.1<t.2.2:=by
 intro t ht;unfold tri Jy rowC at ht;simp only[Zu7,Zus]at ht;obtain⟨f,hf,a,ha,b,hb,ht⟩:=ht;have hp: ∀i j i' j',i+j<=n->i'+j'<=n->(i≠i'\/j≠j')->idx n (pt n f i j)≠idx n (pt n f i' j'):=λi j i' j' h1 h2 h3 e=>pt_ne h h3 (Zpv h (J2 hf h1) (J2 hf h2) rfl e);unfold X2 at ht;rcases Zto.1 ht with rfl|ht
 ·exact Zex (hp _ _ _ _ (by omega) (by omega) (by omega)) (hp _ _ _ _ (by omega) (by omega) (by omega)) (hp _ _ _ _ (by omega) (by omega) (by omega))
 ·split at ht
  ·obtain rfl:=Zwn.1 ht;exact Zex (hp _ _ _ _ (by omega) (by omega) (by omega)) (hp _ _ _ _ (by omega) (by omega) (by omega)) (hp _ _ _ _ (by omega) (by omega) (by omega))
  ·cases ht
def rowE (i:Nat) (r:List Int):List Ed:=(r.filter λk=>decide ((i:Int)<k)).map λk=>((i:Int),k)
def edgR (N:Nat) (A:List (List Int)):List Ed:=(List.range N).flatMap λi=>rowE i (A.getD i [])
theorem Zqa {n:Nat} (h:Yc n) {L:List T3} (hp:L.Perm (tri n)):edgR (Zg n).length (R7 (Zg n).length (L.flatMap prs))=edg n:=by
 refine J6 ?_ (Zp9 n) λe=> ?_
 ·unfold edgR;refine Q1 (Q:=λa b=>a<b) List.pairwise_lt_range (λi _=> ?_) λi _ j _ hij u hu v hv=> ?_
  ·unfold rowE;rw[List.pairwise_map];exact((Pv i).1.filter _).imp λ{a b} h=> .inr ⟨rfl,h⟩
  ·unfold rowE at hu hv;obtain⟨x,_,rfl⟩:=Zu5.1 hu;obtain⟨y,_,rfl⟩:=Zu5.1 hv;refine .inl ?_;show(i:Int)<(j:Int);omega
 ·rw[Zie,Zew];unfold edgR;rw[Zu7];constructor
  ·rintro ⟨i,hi,he⟩
   have hi:=Zus.1 hi;unfold rowE at he;obtain⟨k,hk,rfl⟩:=Zu5.1 he;obtain⟨h1,h2⟩:=Zxa.1 hk;have h2:=of_decide_eq_true h2;obtain⟨k',rfl,h3⟩:=((Pv i).2.1 hi k).1 h1;obtain⟨t,ht,h4⟩:=Zu7.1 h3;have ht:=hp.mem_iff.1 ht;obtain⟨l1,l2⟩:=Zn1 h t ht;refine⟨t,ht, ?_⟩;obtain⟨x,y,z⟩:=t;simp only[prs,Kt,Zto,Zv3,or_false,Prod.mk.injEq]at h4 l1 l2⊢;omega
  ·rintro ⟨t,ht,he⟩
   obtain⟨l1,l2⟩:=Zn1 h t ht;obtain⟨b1,b2,b3⟩:=Zb3 h t ht;have hL:=hp.mem_iff.2 ht;have key: ∀i k:Nat,(i,k)∈prs t->i<k->i<(Zg n).length->e=((i:Int),(k:Int))-> ∃a,a∈List.range (Zg n).length/\e∈rowE a ((R7 (Zg n).length (L.flatMap prs)).getD a []):=by
    intro i k hik hlt hi e1;refine⟨i,Zus.2 hi, ?_⟩;unfold rowE;rw[e1];refine Zu5.2 ⟨(k:Int),Zxa.2 ⟨((Pv i).2.1 hi _).2 ⟨k,rfl,Zu7.2 ⟨t,hL,hik⟩⟩,decide_eq_true (by omega)⟩,rfl⟩
   simp only[Kt,Zto,Zv3,or_false]at he;rcases he with e1|e1|e1
   ·exact key t.1 t.2.1 (by simp[prs]) l1 b1 e1
   ·exact key t.1 t.2.2 (by simp[prs]) (by omega) b1 e1
   ·exact key t.2.1 t.2.2 (by simp[prs]) l2 b2 e1
section
variable (fu d:Nat) (hf:18446744073709551616<=fu)
include hf
set_option maxHeartbeats 4000000 in
theorem J7 (n:Nat) (h:Yc n):cl fu (d+9) fn_synopticref03_Edges [I n] []=OK (V.tup [V.c (C.sl (edg n).length (fl edC (edg n))),I 0]):=by
 obtain⟨L,hp,hA⟩:=Ae fu d hf n h;have hE:=Zqa h hp;have heL:=Qc h;have hNl:=Yw h;have hcnt:=Nm fu (d+7) n h;have hRl:=Fq (Zg n).length (L.flatMap prs);have hin: ∀i,∀k∈(R7 (Zg n).length (L.flatMap prs)).getD i [],i<(Zg n).length->0<=k/\k<=1000:=by
  intro i k hk hi;obtain⟨k',rfl,h3⟩:=((Pv i).2.1 hi k).1 hk;obtain⟨t,ht,h4⟩:=Zu7.1 h3;obtain⟨b1,b2,b3⟩:=Zb3 h t (hp.mem_iff.1 ht);obtain⟨x,y,z⟩:=t;simp only[prs,Zto,Zv3,or_false,Prod.mk.injEq]at h4 b1 b2 b3;omega
 have hrl: ∀i,((R7 (Zg n).length (L.flatMap prs)).getD i []).length<=30000:=λi=>by
  have h1:((R7 (Zg n).length (L.flatMap prs)).getD i []).length<=(L.flatMap prs).length:=(Pv i).2.2;have h2:=C7 h;rw[prs_length,hp.length_eq]at h1;omega
 generalize R7 (Zg n).length (L.flatMap prs)=A at*
 unfold edgR at hE;generalize (Zg n).length=N at*
 have hpre: ∀j,j<=N->((List.range j).flatMap λi=>rowE i (A.getD i [])).length<=15000:=by
  intro j hj;rw[<-hE]at heL;refine Ztr ?_ heL;obtain⟨m,rfl⟩:=Nat.exists_eq_add_of_le hj;rw[List.range_add,Zvd,Ztb];omega
 rw[<-hE];rw[eq_synopticref03_Edges,hcnt];simp only[Zc,QM];rw[H6 Zes,hA];simp only[Zc,QM];rw[Zs (λj:Nat=>(fl edC ((List.range j).flatMap λi=>rowE i (A.getD i [])),(j:Int),())) 0 (fl edC ((List.range N).flatMap λi=>rowE i (A.getD i [])),(N:Int),()) N ?_ ?_ ?_ (by omega)]
 ·have hl:=Zh Xf ((List.range N).flatMap λi=>rowE i (A.getD i []));generalize (List.range N).flatMap (λi=>rowE i (A.getD i []))=E at*
  have hdv:E.length*2/2=E.length:=by omega
  have htk:List.take (E.length*2) (fl edC E)=fl edC E:=Ztd (by omega);simp(disch:=omega)only[Zc,QM,QD,hl,hdv,Zs3,htk]
 ·rfl
 ·intro j hj;have hdr:=Wy A (show j<A.length by omega);have hb:=hpre j (by omega);have hb2:=hpre (j+1) (by omega);have hsu:(List.range (j+1)).flatMap (λi=>rowE i (A.getD i []))=(List.range j).flatMap (λi=>rowE i (A.getD i []))++rowE j (A.getD j []):=by rw[Zun,Zvd];simp
  rw[hsu]at hb2⊢;have hk:=λk hk=>hin j k hk hj;have hrl:=hrl j;generalize (List.range j).flatMap (λi=>rowE i (A.getD i []))=E0 at*
  generalize A.getD j []=row at*
  have hdv: ∀E:List Ed,E.length*2/2=E.length:=λE=>by omega
  have hl:=λE=>Zh Xf E;have hro: ∀m,m<=row.length->(rowE j (row.take m)).length<=m:=by
   intro m hm;unfold rowE;rw[Zte];exact Ztr (Zwy ..) (by rw[Ztx];omega)
  simp(disch:=omega)only[Zc,QM,QD,V5,Zs5,Ztc,hdr,hl,hdv];rw[Zs (λm:Nat=>(fl edC (E0++rowE j (row.take m)),(m:Int),())) 0 (fl edC (E0++rowE j row),((row.length:Nat):Int),()) row.length ?_ ?_ ?_ (by omega)]
  ·simp(disch:=omega)only[Zc,QM,QD,hl,hdv];rfl
  ·simp only[Zuz,rowE,List.filter_nil,Zwf,Zvn];rfl
  ·intro m hm;have hia:=ints_at row hm;have hkm:=hk row[m] (Zt0 hm);have hr1:=hro m (by omega);have hr2:=hro (m+1) (by omega);have hst:rowE j (row.take (m+1))=rowE j (row.take m)++(if(j:Int)<row[m]then[((j:Int),row[m])]else[]):=by
    unfold rowE;rw[Zty hm,List.filter_append,Zup];by_cases hlt:(j:Int)<row[m]
    ·rw[if_pos hlt];simp[hlt]
    ·rw[if_neg hlt];simp[hlt]
   rw[hst]at hr2⊢;generalize row[m]=v at*
   generalize rowE j (row.take m)=E1 at*
   have hEl:(E0++E1).length<=100000:=by rw[Ztb];omega
   by_cases hlt:(j:Int)<v
   ·rw[if_pos hlt]at hr2⊢;rw[<-Zt6];have hsn:fl edC (E0++E1)++[C.v (.int .i64 (j:Int)),C.v (.int .i64 v)]=fl edC (E0++E1++[((j:Int),v)]):=Jz (E0++E1) ((j:Int),v);have hsl:(E0++E1++[((j:Int),v)]).length=(E0++E1).length+1:=by rw[Ztb];rfl
    generalize E0++E1++[((j:Int),v)]=E3 at*
    generalize E0++E1=E2 at*
    simp(disch:=omega)only[Zc,QM,QD,V5,Zs5,Ztc,hia,hl,hdv,hsn,hsl];rfl
   ·rw[if_neg hlt,Zvn];generalize E0++E1=E2 at*
    simp(disch:=omega)only[Zc,QM,QD,V5,Zs5,Ztc,hia,hl,hdv];rfl
  ·rw[Zud];simp(disch:=omega)only[Zc,QM,QD,hl,hdv]
 ·have hl:=Zh Xf ((List.range N).flatMap λi=>rowE i (A.getD i []));have hle:=hpre N (by omega);generalize (List.range N).flatMap (λi=>rowE i (A.getD i []))=E at*
  have hdv:E.length*2/2=E.length:=by omega
  simp(disch:=omega)only[Zc,QM,QD,hl,hdv]
end
end Go.Proofs.YtjmempcalaliiaaGreatDoor
/- What reading codes comes to: numbers, vectors, states. -/
namespace Go.Proofs.YtjmempcalaliiaaGreatDoor
open Go Go.PM Go.Grid
attribute [local congr] Zu Zv Zw Yd Zx Zy Ye Yf Yg Yh Zz Z0 Yi Yx Yy Yz Y1 Y2 Y5 Y6 Y7 Y8 Y4 Z2 Z3 Y9 Z4 Z5 Zk Z6 Z1
def bytes (bs:List Int):Prop:=(∀x∈bs,0<=x/\x<=255)/\bs.length<=1000
abbrev Xh (bs:List Int) (i:Nat):PM.Obj:= .ob ty_synopticfield_Codes 0 [C.sl bs.length (ik .u8 bs),C.v (.int .i64 (i:Int))]
def wid (lo hi:Int) (l:List Int):Prop:= ∀v∈l,lo<=v/\v<=hi
theorem Zn2 {lo hi:Int} {l:List Int} {v:Int} (h:wid lo hi l) (hv:lo<=v/\v<=hi):wid lo hi (l++[v]):=by
 intro x hx;rcases Zu6.1 hx with hx|hx
 ·exact h x hx
 ·rw[Zwn.1 hx];exact hv
theorem V6 {lo hi lo' hi':Int} {l:List Int} (h:wid lo hi l) (h1:lo'<=lo) (h2:hi<=hi'):wid lo' hi' l:=λv hv=>by have:=h v hv;omega
theorem Zg1 {lo hi:Int} {l:List Int} (h:wid lo hi l) {j:Nat} (hj:j<l.length):lo<=l[j]/\l[j]<=hi:=h _ (Zt0 hj)
theorem ik_at (kd:IntKind) (r:List Int) {m:Nat} (h:m<r.length):(ik kd r).drop m=C.v (.int kd r[m])::ik kd (r.drop (m+1)):=by
 unfold ik;rw[<-Zxn,Zt4 h,Zt7]
theorem or24 {x y:Nat} (hx:x<16777216) (hy:y<16777216): ∃z:Nat,z<16777216/\IntKind.i64.wrap ((BitVec.ofInt (IntKind.bits .i64) (x:Int)|||BitVec.ofInt (IntKind.bits .i64) (y:Int)).toNat:Int)=(z:Int):=by
 have h1: ∀x:Nat,x<16777216->(BitVec.ofInt (IntKind.bits .i64) (x:Int)).toNat=x:=by
  intro x hx;rw[BitVec.toNat_ofInt];show(((x:Int)%((2^64:Nat):Int))).toNat=x;omega
 have h2:(BitVec.ofInt (IntKind.bits .i64) (x:Int)|||BitVec.ofInt (IntKind.bits .i64) (y:Int)).toNat=x|||y:=by rw[BitVec.toNat_or,h1 x hx,h1 y hy]
 have h3:x|||y<2^24:=Nat.or_lt_two_pow (by omega) (by omega)
 refine⟨x|||y,by omega, ?_⟩;rw[h2,Xj (by omega) (by omega)]
section
variable (fu d:Nat) (hf:18446744073709551616<=fu)
theorem Zqb (bs:List Int) (i:Nat):cl fu (d+1) fn_synopticfield_Codes_Left [V.ptr 1000000 0] [Xh bs i]=some ⟨B (decide (i<bs.length)),[Xh bs i],none⟩:=by
 unfold Xh;rw[eq_synopticfield_Codes_Left];by_cases h:i<bs.length
 ·rw[decide_eq_true h];simp(disch:=omega)only[Zc,QM,QD]
 ·rw[decide_eq_false h];simp(disch:=omega)only[Zc,QM,QD]
theorem Ve {bs:List Int} (hb:bytes bs) {i:Nat} (hi:i<=1000) (n:Nat) (hn:1<=n/\n<=1000000):
  ∃v j:Nat,v<n/\j<=1000/\cl fu (d+2) fn_synopticfield_Codes_Next [V.ptr 1000000 0,I n] [Xh bs i]=some ⟨I v,[Xh bs j],none⟩:=by
 have hL:=Zqb fu d bs i;obtain⟨hb,hl⟩:=hb;unfold Xh at hL⊢;rw[eq_synopticfield_Codes_Next,hL];by_cases h:i<bs.length
 ·have hx:=hb bs[i] (Zt0 h);have hia:=ik_at .u8 bs h;have e1:IntKind.i64.wrap bs[i]=bs[i]:=Xj (by omega) (by omega);have e2:Int.tmod bs[i] (n:Int)=bs[i]%(n:Int):=IntWalk.rem_in _ _ hx.1;have e3:(i:Int)+1-1=(i:Int):=by omega
  have h1:0<=bs[i]%(n:Int):=Int.emod_nonneg _ (by omega);have h2:bs[i]%(n:Int)<n:=Int.emod_lt_of_pos _ (by omega);rw[decide_eq_true h];refine⟨(bs[i]%(n:Int)).toNat,i+1,by omega,by omega, ?_⟩;rw[Int.toNat_of_nonneg h1];simp(disch:=omega)only[Zc,QM,QD,Zs4,Zs8,Zs3,Nat.reduceAdd,e3,Zs5,Ztc,hia,e1,e2,Zt2,Zuq]
 ·rw[decide_eq_false h];refine⟨0,i,by omega,hi, ?_⟩;simp(disch:=omega)only[Zc,QM,QD,Zs4,Zs8,Zs3,Nat.reduceAdd];rfl
theorem Zb8 {bs:List Int} (hb:bytes bs) {i:Nat} (hi:i<=1000):
  ∃n j:Nat,(n=1\/n=2)/\j<=1000/\cl fu (d+3) fn_synopticfield_Codes_Frequency [V.ptr 1000000 0] [Xh bs i]=some ⟨I n,[Xh bs j],none⟩:=by
 obtain⟨v,j,hv,hj,e⟩:=Ve fu d hb hi 5 (by omega);unfold Xh at e⊢;rw[eq_synopticfield_Codes_Frequency];replace e:cl fu (d+2) fn_synopticfield_Codes_Next [V.ptr 1000000 0,I 5] _=_:=e;have hdr: ∃n:Nat,(n=1\/n=2)/\ ∃r,List.drop v [C.v (.int .i64 1),C.v (.int .i64 1),C.v (.int .i64 1),C.v (.int .i64 1),C.v (.int .i64 2)]=C.v (.int .i64 (n:Int))::r:=by
  rcases(show v=0\/v=1\/v=2\/v=3\/v=4 by omega)with rfl|rfl|rfl|rfl|rfl
  ·exact⟨1, .inl rfl,_,rfl⟩
  ·exact⟨1, .inl rfl,_,rfl⟩
  ·exact⟨1, .inl rfl,_,rfl⟩
  ·exact⟨1, .inl rfl,_,rfl⟩
  ·exact⟨2, .inr rfl,_,rfl⟩
 obtain⟨n,hn,r,hdr⟩:=hdr;refine⟨n,j,hn,hj, ?_⟩;simp(disch:=omega)only[Zc,QM,QD,e,Zs4,Zs8,Zs3,Nat.reduceAdd,Zs5,Ztc,hdr]
theorem Zkt {bs:List Int} (hb:bytes bs) {i:Nat} (hi:i<=1000):
  ∃a b c j:Nat,(1<=a/\a<=4)/\(1<=b/\b<=4)/\(1<=c/\c<=4)/\j<=1000/\cl fu (d+3) fn_synopticfield_Codes_Scheme [V.ptr 1000000 0] [Xh bs i]=some ⟨V.agg [C.v (.int .i64 (a:Int)),C.v (.int .i64 (b:Int)),C.v (.int .i64 (c:Int))],[Xh bs j],none⟩:=by
 obtain⟨v1,j1,hv1,hj1,e1⟩:=Ve fu d hb hi 4 (by omega);obtain⟨v2,j2,hv2,hj2,e2⟩:=Ve fu d hb hj1 4 (by omega);obtain⟨v3,j3,hv3,hj3,e3⟩:=Ve fu d hb hj2 4 (by omega);unfold Xh at e1 e2 e3⊢;replace e1:cl fu (d+2) fn_synopticfield_Codes_Next [V.ptr 1000000 0,I 4] _=_:=e1;replace e2:cl fu (d+2) fn_synopticfield_Codes_Next [V.ptr 1000000 0,I 4] _=_:=e2;replace e3:cl fu (d+2) fn_synopticfield_Codes_Next [V.ptr 1000000 0,I 4] _=_:=e3;refine⟨1+v1,1+v2,1+v3,j3,by omega,by omega,by omega,hj3, ?_⟩;rw[eq_synopticfield_Codes_Scheme];simp(disch:=omega)only[Zc,QM,QD,e1,e2,e3,Zs4,Zs8,Zs3,Nat.reduceAdd,Zt2,Zuq]
theorem La {bs:List Int} (hb:bytes bs) {i:Nat} (hi:i<=1000) (most:Nat) (hm:most<=10000000000000):
  ∃(v:Int) (j:Nat),(-(most:Int)<=v/\v<=most)/\j<=1000/\cl fu (d+3) fn_synopticfield_Codes_Signed [V.ptr 1000000 0,I most] [Xh bs i]=some ⟨I v,[Xh bs j],none⟩:=by
 obtain⟨v1,j1,hv1,hj1,e1⟩:=Ve fu d hb hi 256 (by omega);obtain⟨v2,j2,hv2,hj2,e2⟩:=Ve fu d hb hj1 256 (by omega);obtain⟨v3,j3,hv3,hj3,e3⟩:=Ve fu d hb hj2 256 (by omega);obtain⟨v4,j4,hv4,hj4,e4⟩:=Ve fu d hb hj3 2 (by omega);unfold Xh at e1 e2 e3 e4⊢;replace e1:cl fu (d+2) fn_synopticfield_Codes_Next [V.ptr 1000000 0,I 256] _=_:=e1;replace e2:cl fu (d+2) fn_synopticfield_Codes_Next [V.ptr 1000000 0,I 256] _=_:=e2;replace e3:cl fu (d+2) fn_synopticfield_Codes_Next [V.ptr 1000000 0,I 256] _=_:=e3;replace e4:cl fu (d+2) fn_synopticfield_Codes_Next [V.ptr 1000000 0,I 2] _=_:=e4;have w1:(v1:Int)*2^16=((v1*65536:Nat):Int):=by omega
 have w2:(v2:Int)*2^8=((v2*256:Nat):Int):=by omega
 obtain⟨z,hz,o1⟩:=or24 (x:=v1*65536) (y:=v2*256) (by omega) (by omega);obtain⟨y,hy,o2⟩:=or24 (x:=z) (y:=v3) hz (by omega);have t1:Int.tmod (y:Int) ((most:Int)+1)=((y%(most+1):Nat):Int):=by
  rw[IntWalk.rem_in _ _ (by omega),Int.natCast_emod,Zt2];rfl
 have hq:y%(most+1)<=most:=by have:=Nat.mod_lt y (show 0<most+1 by omega);omega
 rw[eq_synopticfield_Codes_Signed];simp(disch:=omega)only[Zc,QM,QD,e1,e2,w1,w2,o1,e3,o2,t1,Zs4,Zs8,Zs3,Nat.reduceAdd];generalize y%(most+1)=q at*
 by_cases h4:v4=1
 ·refine⟨0-(q:Int),j4,by omega,hj4, ?_⟩;simp(disch:=omega)only[Zc,QM,QD,e4,Zs4,Zs8,Zs3,Nat.reduceAdd]
 ·refine⟨(q:Int),j4,by omega,hj4, ?_⟩;simp(disch:=omega)only[Zc,QM,QD,e4,Zs4,Zs8,Zs3,Nat.reduceAdd]
theorem Zqc (bs:List Int) (k:Nat):cl fu (d+1) fn_synopticfield_New [V.c (C.sl bs.length (ik .u8 bs)),I (k:Int)] []=some ⟨V.ptr 1000000 0,[Xh (bs.take k) 0],none⟩:=by
 rw[eq_synopticfield_New];unfold Xh;by_cases h:k<bs.length
 ·have e1:(ik .u8 bs).take k=ik .u8 (bs.take k):=Zxo.symm;simp(disch:=omega)only[Zc,QM,QD,Zs5,Ztc,e1,Ztx,Zuf];rfl
 ·rw[show bs.take k=bs from Ztd (by omega)];simp(disch:=omega)only[Zc,QM,QD];rfl
end
end Go.Proofs.YtjmempcalaliiaaGreatDoor
/- Vectors and states that are made from codes. -/
namespace Go.Proofs.YtjmempcalaliiaaGreatDoor
open Go Go.PM Go.Grid
attribute [local congr] Zu Zv Zw Yd Zx Zy Ye Yf Yg Yh Zz Z0 Yi Yx Yy Yz Y1 Y2 Y5 Y6 Y7 Y8 Y4 Z2 Z3 Y9 Z4 Z5 Zk Z6 Z1
abbrev stC (n:Nat) (dp fw:List Int):List C:=[C.v (.int .i64 (n:Int)),C.sl dp.length (ints dp),C.sl fw.length (ints fw)]
structure StOk (n:Nat) (dp fw:List Int):Prop where
 dl:dp.length=(Zg n).length
 fl:fw.length=(edg n).length
 dw:wid 0 16777216 dp
 fw:wid (-1000000) 1000000 fw
theorem J8 {n:Nat} (h:n=1\/n=2):Yc n:=by unfold Yc;omega
section
variable (fu d:Nat) (hf:18446744073709551616<=fu)
include hf
set_option maxHeartbeats 4000000 in
theorem Lb {bs:List Int} (hb:bytes bs) {i:Nat} (hi:i<=1000) (n most:Nat) (hn:n<=1000000) (hm:most<=10000000000000) (top:Int) (ht:(most:Int)<=top/\9<=top):
  ∃(l:List Int) (j:Nat),l.length=n/\wid (-top) top l/\j<=1000/\cl fu (d+4) fn_synopticfield_Codes_Vector [V.ptr 1000000 0,I n,I most] [Xh bs i]=some ⟨V.c (C.sl l.length (ints l)),[Xh bs j],none⟩:=by
 obtain⟨v1,j1,hv1,hj1,e1⟩:=La fu d hb hi most (by omega);obtain⟨v2,j2,hv2,hj2,e2⟩:=La fu d hb hj1 most (by omega);obtain⟨v3,j3,hv3,hj3,e3⟩:=La fu d hb hj2 most (by omega);obtain⟨v4,j4,hv4,hj4,e4⟩:=La fu d hb hj3 9 (by omega);have hN:=λ(i:Nat) (hi:i<=1000)=>Ve fu (d+1) hb hi 7 (by omega);replace e4:cl fu (d+3) fn_synopticfield_Codes_Signed [V.ptr 1000000 0,I 9] _=_:=e4;unfold Xh at*
 rw[eq_synopticfield_Codes_Vector];simp(disch:=omega)only[Zc,QM,QD,e1,e2,e3,e4,Zs4,Zs8,Zs3,Nat.reduceAdd];refine Uw (A:=List C×Int×(C×Int×Unit)×Unit) (B:=Out) (fu:=fu) (λo=> ∃(l:List Int) (j:Nat),l.length=n/\wid (-top) top l/\j<=1000/\o=some ⟨V.c (C.sl l.length (ints l)),[Xh bs j],none⟩)
  (λy=> ∃(l:List Int) (j:Nat),l.length<=n/\wid (-top) top l/\j<=1000/\y=(ints l,((l.length:Nat):Int),(C.sl bs.length (ik .u8 bs),(j:Int),()),())) (λy=>(n:Int).toNat-y.2.1.toNat)
  (λe y=>e=0/\ ∃(l:List Int) (j:Nat),l.length=n/\wid (-top) top l/\j<=1000/\y=(ints l,((l.length:Nat):Int),(C.sl bs.length (ik .u8 bs),(j:Int),()),())) ?_ ?_ ?_ ?_
 ·exact⟨[],j4,by simp,(by intro v hv;cases hv),hj4,rfl⟩
 ·show(n:Int).toNat-(0:Int).toNat<fu;omega
 ·rintro y ⟨l,j,hl,hw,hj,rfl⟩
  by_cases hlt:l.length<n
  ·obtain⟨v,k,hv,hk,e5⟩:=hN j hj;replace e5:cl fu (d+3) fn_synopticfield_Codes_Next [V.ptr 1000000 0,I 7] _=_:=e5;have w0:IntKind.i64.wrap (0-(most:Int))=0-(most:Int):=Xj (by omega) (by omega);obtain⟨x,r,hx,hdr⟩: ∃(x:Int) (r:List C),(-top<=x/\x<=top)/\List.drop v [C.v (.int .i64 v1),C.v (.int .i64 v2),C.v (.int .i64 v3),C.v (.int .i64 v4),C.v (.int .i64 0),C.v (.int .i64 (most:Int)),C.v (.int .i64 (0-(most:Int)))]=C.v (.int .i64 x)::r:=by
    rcases(show v=0\/v=1\/v=2\/v=3\/v=4\/v=5\/v=6 by omega)with rfl|rfl|rfl|rfl|rfl|rfl|rfl
    ·exact⟨v1,_,by omega,rfl⟩
    ·exact⟨v2,_,by omega,rfl⟩
    ·exact⟨v3,_,by omega,rfl⟩
    ·exact⟨v4,_,by omega,rfl⟩
    ·exact⟨0,_,by omega,rfl⟩
    ·exact⟨(most:Int),_,by omega,rfl⟩
    ·exact⟨0-(most:Int),_,by omega,rfl⟩
   refine .inl ⟨(ints (l++[x]),(((l++[x]).length:Nat):Int),(C.sl bs.length (ik .u8 bs),(k:Int),()),()), ?_,⟨l++[x],k,by simp;omega,Zn2 hw hx,hk,rfl⟩, ?_⟩
   ·simp(disch:=omega)only[Zc,QM,QD,e5,Zs4,Zs8,Zs3,Nat.reduceAdd,w0,Zs5,Ztc,hdr,Ze,Ztl,Xx,Ztb,Zt2,Zuq]
   ·show(n:Int).toNat-(((l++[x]).length:Nat):Int).toNat<(n:Int).toNat-((l.length:Nat):Int).toNat;rw[Ztb,Zvw];omega
  ·refine .inr ⟨0,(ints l,((l.length:Nat):Int),(C.sl bs.length (ik .u8 bs),(j:Int),()),()), ?_,rfl,l,j,by omega,hw,hj,rfl⟩;simp(disch:=omega)only[Zc,QM,QD,Ze,Ztl,Ztc]
 ·rintro e z ⟨rfl,l,j,hl,hw,hj,rfl⟩
  refine⟨l,j,hl,hw,hj, ?_⟩;have htk:List.take l.length (ints l)=ints l:=Ztd (by rw[Ze];exact Ztg _);simp(disch:=omega)only[Zc,QM,QD,Ze,Ztl,Ztc,Zs3,htk]
omit hf in
theorem Zqd (x:Int): ∃v,(0<=v/\v<=16777216)/\cl fu (d+1) fn_synopticref28_Clip [I x,I 0,I 16777216] []=OK (I v):=by
 rw[eq_synopticref28_Clip];exact⟨_,by constructor<;>(repeat' split)<;>omega,rfl⟩
omit hf in
theorem Bc (n:Nat) (h:Yc n):cl fu (d+1) fn_synopticref22_Nodes [I n] []=OK (I ((Zg n).length:Int)):=by
 rw[Qa h,eq_synopticref22_Nodes];rcases Qu h with rfl|rfl|rfl|rfl|rfl|rfl|rfl|rfl<;>(show @Eq (Option Out) _ _;kernel_rfl)
set_option maxHeartbeats 4000000 in
theorem Zn3 {bs:List Int} (hb:bytes bs) {i:Nat} (hi:i<=1000) (n:Nat) (h:Yc n):
  ∃(dp fw:List Int) (j:Nat),StOk n dp fw/\j<=1000/\cl fu (d+10) fn_synopticfield_Codes_State [V.ptr 1000000 0,I n] [Xh bs i]=some ⟨V.agg (stC n dp fw),[Xh bs j],none⟩:=by
 have hE:=J7 fu d hf n h;have heL:=Qc h;have hNl:=Yw h;have hN22:=Bc fu (d+8) n h;obtain⟨v1,j1,hv1,hj1,e1⟩:=Ve fu (d+7) hb hi 4 (by omega);replace e1:cl fu (d+9) fn_synopticfield_Codes_Next [V.ptr 1000000 0,I 4] _=_:=e1;obtain⟨m1,r1,hm1,hd1⟩: ∃(m:Nat) (r:List C),m<=1000000/\List.drop v1 [C.v (.int .i64 0),C.v (.int .i64 30),C.v (.int .i64 5000),C.v (.int .i64 1000000)]=C.v (.int .i64 (m:Int))::r:=by
  rcases(show v1=0\/v1=1\/v1=2\/v1=3 by omega)with rfl|rfl|rfl|rfl
  ·exact⟨0,_,by omega,rfl⟩
  ·exact⟨30,_,by omega,rfl⟩
  ·exact⟨5000,_,by omega,rfl⟩
  ·exact⟨1000000,_,by omega,rfl⟩
 obtain⟨fw,j2,hl2,hw2,hj2,e2⟩:=Lb fu (d+5) hf hb hj1 (edg n).length m1 (by omega) (by omega) 1000000 (by omega);obtain⟨v3,j3,hv3,hj3,e3⟩:=Ve fu (d+7) hb hj2 4 (by omega);replace e3:cl fu (d+9) fn_synopticfield_Codes_Next [V.ptr 1000000 0,I 4] _=_:=e3;obtain⟨m3,r3,hm3,hd3⟩: ∃(m:Nat) (r:List C),m<=2500000/\List.drop v3 [C.v (.int .i64 0),C.v (.int .i64 40),C.v (.int .i64 100000),C.v (.int .i64 2500000)]=C.v (.int .i64 (m:Int))::r:=by
  rcases(show v3=0\/v3=1\/v3=2\/v3=3 by omega)with rfl|rfl|rfl|rfl
  ·exact⟨0,_,by omega,rfl⟩
  ·exact⟨40,_,by omega,rfl⟩
  ·exact⟨100000,_,by omega,rfl⟩
  ·exact⟨2500000,_,by omega,rfl⟩
 obtain⟨v4,j4,hv4,hj4,e4⟩:=Ve fu (d+7) hb hj3 3 (by omega);replace e4:cl fu (d+9) fn_synopticfield_Codes_Next [V.ptr 1000000 0,I 3] _=_:=e4;obtain⟨m4,r4,hm4,hd4⟩: ∃(m:Nat) (r:List C),m<=90000/\List.drop v4 [C.v (.int .i64 0),C.v (.int .i64 30),C.v (.int .i64 90000)]=C.v (.int .i64 (m:Int))::r:=by
  rcases(show v4=0\/v4=1\/v4=2 by omega)with rfl|rfl|rfl
  ·exact⟨0,_,by omega,rfl⟩
  ·exact⟨30,_,by omega,rfl⟩
  ·exact⟨90000,_,by omega,rfl⟩
 obtain⟨l5,j5,hl5,hw5,hj5,e5⟩:=Lb fu (d+5) hf hb hj4 (Zg n).length m4 (by omega) (by omega) 90000 (by omega);obtain⟨cp,hcp⟩: ∃cp:Int->Int,∀x,(0<=cp x/\cp x<=16777216)/\cl fu (d+9) fn_synopticref28_Clip [I x,I 0,I 16777216] []=OK (I (cp x)):=Classical.axiomOfChoice (r:=λx v=>(0<=v/\v<=16777216)/\cl fu (d+9) fn_synopticref28_Clip [I x,I 0,I 16777216] []=OK (I v)) λx=>Zqd fu (d+8) x;have hcl:=λx=>(hcp x).2;refine⟨l5.map λx=>cp ((m3:Int)+x),fw,j5,⟨by rw[Zte,hl5],hl2,λv hv=> ?_,hw2⟩,hj5, ?_⟩
 ·obtain⟨x,_,rfl⟩:=Zu5.1 hv;exact(hcp _).1
 unfold Xh at*
 generalize edg n=E at*
 generalize (Zg n).length=N at*
 rw[eq_synopticfield_Codes_State,hE];simp(disch:=omega)only[Zc,QM,QD,e1,Zs4,Zs8,Zs3,Nat.reduceAdd,Zs5,Ztc,hd1,e2,e3,hd3,e4,hd4,hN22,e5];rw[Zs (λj:Nat=>((j:Int),((0:Int),C.nl,C.nl,()),((n:Int),ints ((l5.take j).map λx=>cp ((m3:Int)+x)),C.sl fw.length (ints fw),()),(C.sl bs.length (ik .u8 bs),(j5:Int),()),())) 0 (((l5.length:Nat):Int),((0:Int),C.nl,C.nl,()),((n:Int),ints (l5.map λx=>cp ((m3:Int)+x)),C.sl fw.length (ints fw),()),(C.sl bs.length (ik .u8 bs),(j5:Int),()),()) l5.length ?_ ?_ ?_ (by omega)]
 ·have htk:List.take l5.length (ints (l5.map λx=>cp ((m3:Int)+x)))=ints (l5.map λx=>cp ((m3:Int)+x)):=Ztd (by rw[Ze,Zte];exact Ztg _);simp(disch:=omega)only[Zc,QM,QD,Ze,Ztl,Ztc,Zs3,Zte,htk];unfold stC;rw[Zte]
 ·rfl
 ·intro j hj;have hia:=ints_at l5 hj;have hx:=Zg1 hw5 hj;have hsn:ints ((l5.take j).map λx=>cp ((m3:Int)+x))++[C.v (.int .i64 (cp ((m3:Int)+l5[j])))]=ints ((l5.take (j+1)).map λx=>cp ((m3:Int)+x)):=by
   rw[Zty hj,Zup,Xx];rfl
  generalize l5[j]=x at*
  simp(disch:=omega)only[Zc,QM,QD,Zs5,Ztc,hia,hcl,Ze,Ztl,Zte,Ztx,Zuf,hsn];rfl
 ·rw[Zud];simp(disch:=omega)only[Zc,QM,QD,Ze,Ztl,Ztc,Zte]
end
end Go.Proofs.YtjmempcalaliiaaGreatDoor
/- Edges as the program hands them out, checks of states, degrees. -/
namespace Go.Proofs.YtjmempcalaliiaaGreatDoor
open Go Go.PM Go.Grid
attribute [local congr] Zu Zv Zw Yd Zx Zy Ye Yf Yg Yh Zz Z0 Yi Yx Yy Yz Y1 Y2 Y5 Y6 Y7 Y8 Y4 Z2 Z3 Y9 Z4 Z5 Zk Z6 Z1
def at0 (l:List Int) (i:Nat):Int:=l.getD i 0
theorem Ry {l:List Int} {i:Nat} (h:i<l.length):at0 l i=l[i]:=by
 unfold at0;rw[Ztj,Zta h];rfl
theorem Zt (l:List Int) {i:Nat} (h:i<l.length):(ints l).drop i=C.v (.int .i64 (at0 l i))::ints (l.drop (i+1)):=by
 rw[ints_at l h,Ry h]
theorem Pw (l:List Int) {i:Nat} (h:i<l.length) (v:Int):putAt (ints l) i [C.v (.int .i64 v)]=ints (l.set i v):=by
 unfold putAt;rw[Zwp,if_pos h,Gd,Gc];simp[ik]
def Qg (l:List Int) (i:Nat) (v:Int):List Int:=l.set i (at0 l i+v)
theorem X4 (l:List Int) (i:Nat) (v:Int):(Qg l i v).length=l.length:=by simp[Qg]
theorem Mx (l:List Int) (i:Nat) (v:Int) (k:Nat):at0 (Qg l i v) k=at0 l k+if k=i/\i<l.length then v else 0:=by
 unfold Qg at0;rw[Ztj,Zws];by_cases h:i=k
 ·subst h;by_cases hl:i<l.length
  ·simp[hl,Ztj]
  ·rw[if_pos rfl,if_neg hl,if_neg (λe=>hl e.2),Ztj,Zvg (by omega)];rfl
 ·rw[if_neg h,if_neg (λe=>h e.1.symm),Ztj];simp
theorem Su (l:List Int) {i:Nat} (h:i<l.length) (v:Int):putAt (ints l) i [C.v (.int .i64 (at0 l i+v))]=ints (Qg l i v):=Pw l h _
def Vr (lo hi:Int) (l:List Int):Bool:=l.any λv=> !(decide (lo<=v)&&decide (v<=hi))
theorem Qo {lo hi:Int} {l:List Int}:Vr lo hi l=false↔wid lo hi l:=by
 unfold Vr wid;rw[Zu9];simp
theorem Va (n:Nat):(edgesL n).length=(edg n).length:=by simp[edgesL]
theorem Zg2 (n:Nat) {j:Nat} (h':j<(edg n).length):(edgesL n)[j]? =some [I ((j:Nat):Int),V.agg [C.v (.int .i64 (edg n)[j].1),C.v (.int .i64 (edg n)[j].2)]]:=by
 unfold edgesL;rw[Ztk,List.getElem?_zipIdx,Zta h'];simp
theorem Lc (n:Nat) {j:Nat} (h:j<(edgesL n).length) (h':j<(edg n).length):(edgesL n)[j]=[I ((j:Nat):Int),V.agg [C.v (.int .i64 (edg n)[j].1),C.v (.int .i64 (edg n)[j].2)]]:=by
 have:=Zg2 n h';rw[Zta h]at this;exact Option.some.inj this
theorem Zey (n:Nat) {j:Nat} (h:j<(edg n).length):(edgesL n).drop j=[I ((j:Nat):Int),V.agg [C.v (.int .i64 (edg n)[j].1),C.v (.int .i64 (edg n)[j].2)]]::(edgesL n).drop (j+1):=by
 rw[Zt4 (by rw[Va];exact h),Lc n _ h]
section
variable (fu d:Nat) (hf:18446744073709551616<=fu)
theorem Wz (v lo hi:Int):cl fu (d+1) fn_flux_within [I v,I lo,I hi] []=OK (B (decide (lo<=v)&&decide (v<=hi))):=by
 rw[eq_flux_within];by_cases h:lo<=v
 ·simp(disch:=omega)only[Zc,QM,QD]
 ·simp(disch:=omega)only[Zc,QM,QD]
theorem Zb9 (v lo hi:Int):cl fu (d+2) fn_flux_outside_1 [I v,V.c (C.cp [C.v (.int .i64 lo)]),V.c (C.cp [C.v (.int .i64 hi)])] []=OK (B (!(decide (lo<=v)&&decide (v<=hi)))):=by
 have e:=Wz fu d v lo hi;generalize (decide (lo<=v)&&decide (v<=hi))=b at*
 rw[eq_flux_outside_1];simp only[Zc,QM,e]
include hf
theorem Rf (l:List Int) (hl:l.length<=1000000) (lo hi:Int):cl fu (d+5) fn_flux_outside [V.c (C.sl l.length (ints l)),I lo,I hi] []=OK (B (Vr lo hi l)):=by
 have h1:=λv=>Zb9 fu d v lo hi;rw[eq_flux_outside,eq2_slices_ContainsFunc_sint_int,eq2_slices_IndexFunc_sint_int];rcases R6 (λj=> ∃h:j<l.length,(!(decide (lo<=l[j])&&decide (l[j]<=hi)))=true) l.length with hn|⟨k,hk,⟨hk2,hb⟩,hn⟩
 ·have hall:Vr lo hi l=false:=by
   unfold Vr;rw[Zu9];intro v hv;obtain⟨j,hj,rfl⟩:=Zxc hv;exact λe=>hn j hj ⟨hj,e⟩
  rw[hall,Zs (λj:Nat=>((0:Int),(j:Int),())) 0 ((0:Int),((l.length:Nat):Int),()) l.length ?_ ?_ ?_ (by omega)]
  ·simp(disch:=omega)only[Zc,QM,QD]
  ·rfl
  ·intro j hj;have hia:=ints_at l hj;have hv:=hn j hj;have hv:(!(decide (lo<=l[j])&&decide (l[j]<=hi)))=false:=by
    cases e:(!(decide (lo<=l[j])&&decide (l[j]<=hi)))
    ·rfl
    ·exact absurd ⟨hj,e⟩ hv
   have h1:=h1 l[j];rw[hv]at h1;simp(disch:=omega)only[Zc,QM,QD,Zs5,Ztc,hia,h1];rfl
  ·simp(disch:=omega)only[Zc,QM,QD]
 ·have hall:Vr lo hi l=true:=by
   unfold Vr;rw[Zw2];exact⟨l[k],Zt0 hk2,hb⟩
  rw[hall,Zs (λj:Nat=>((0:Int),(j:Int),())) 1 ((k:Int),(k:Int),()) k ?_ ?_ ?_ (by omega)]
  ·simp(disch:=omega)only[Zc,QM,QD]
  ·rfl
  ·intro j hj;have hjl:j<l.length:=by omega
   have hia:=ints_at l hjl;have hv:=hn j hj;have hv:(!(decide (lo<=l[j])&&decide (l[j]<=hi)))=false:=by
    cases e:(!(decide (lo<=l[j])&&decide (l[j]<=hi)))
    ·rfl
    ·exact absurd ⟨hjl,e⟩ hv
   have h1:=h1 l[j];rw[hv]at h1;simp(disch:=omega)only[Zc,QM,QD,Zs5,Ztc,hia,h1];rfl
  ·have hia:=ints_at l hk2;have h1:=h1 l[k];rw[hb]at h1;simp(disch:=omega)only[Zc,QM,QD,Zs5,Ztc,hia,h1]
omit hf in
theorem Zif (n:Nat) (h:Yc n):cl fu (d+1) fn_mesh_Frequency [I n] []=OK (B true):=by
 unfold Yc at h;rw[eq_mesh_Frequency];simp(disch:=omega)only[Zc,QM,QD]
omit hf in
theorem Tr (n:Nat) (h:Yc n):cl fu (d+2) fn_grid_Count [I n] []=OK (I ((Zg n).length:Int)):=by
 rw[Qa h,eq_grid_Count,Zif fu d n h];simp only[Zc,QM];rcases Qu h with rfl|rfl|rfl|rfl|rfl|rfl|rfl|rfl<;>(show @Eq (Option Out) _ _;kernel_rfl)
theorem Uj (n:Nat) (h:Yc n):cl fu (d+9) fn_grid_Edges [I n] []=OK (V.tup [V.c (C.sl (edg n).length (fl edC (edg n))),I 0]):=by
 obtain⟨c,e⟩:=Znz fu d hf n h;have e0:=Zif fu (d+7) n h;generalize edg n=E at*
 generalize (Zg n).length=N at*
 generalize fl plc (Zg n)=nc at*
 generalize esn 0 (Zg n)=es at*
 generalize nxt n=nx at*
 rw[eq_grid_Edges,e0];simp(disch:=omega)only[Zc,QM,QD,e,Zem,Kq,Zs4,Zs8,Zs3,Nat.reduceAdd]
theorem Gg (n:Nat) (h:Yc n) (dp fw:List Int) (h1:dp.length=(Zg n).length) (h2:fw.length=(edg n).length) (h3:wid 0 16777216 dp) (h4:wid (-16777216) 16777216 fw):
  cl fu (d+10) fn_flux_Check [V.agg (stC n dp fw)] []=OK (I 0):=by
 have hNl:=Yw h;have heL:=Qc h;have e1:=Uj fu d hf n h;have e2:=Tr fu (d+7) n h;have e3:=Rf fu (d+4) hf dp (by omega) 0 16777216;have e4:=Rf fu (d+4) hf fw (by omega) (-16777216) 16777216;rw[Qo.2 h3]at e3;rw[Qo.2 h4]at e4;generalize edg n=E at*
 generalize (Zg n).length=N at*
 unfold stC;rw[eq_flux_Check];simp(disch:=omega)only[Zc,QM,QD,e1,e2,e3,e4]
theorem Zn4 (n:Nat) (h:Yc n) (l:Nat) (go:Nat->Bool) (r:List C): ∃out lg,cl fu (d+10) fn_flux_edges_1 [V.c (C.yl l go (edgesL n)),V.c (C.cp (C.v (.int .i64 (n:Int))::r))] []=some out/\out.log=some lg/\(lg.st=true\/lg.rest=[]):=by
 have e1:=Uj fu d hf n h;have heL:=Qc h;have hed:=λ{j:Nat} (hj:j<(edg n).length)=>Zey n hj;have hell:=Va n;rw[eq_flux_edges_1];simp(disch:=omega)only[Zc,QM,QD,e1];generalize edgesL n=EL at*
 generalize edg n=E at*
 refine Uw (A:=Int×Log×Unit) (B:=Out) (fu:=fu) (λo=> ∃out lg,o=some out/\out.log=some lg/\(lg.st=true\/lg.rest=[]))
  (λs=> ∃i:Nat,i<=E.length/\s=((i:Int),⟨l,go,i,EL.drop i,false⟩,())) (λs=>E.length-s.1.toNat) (λ_ z=>z.2.1.st=true\/z.2.1.rest=[]) ⟨0,by omega,rfl⟩ ?_ ?_ ?_
 ·show E.length-(0:Int).toNat<fu;omega
 ·rintro y ⟨i,hi,rfl⟩
  by_cases hlt:i<E.length
  ·have hd:=hed hlt;have hat:=Lw Xf hlt;cases hg:go i with
   |true=>
    refine .inl ⟨(((i+1:Nat):Int),⟨l,go,i+1,EL.drop (i+1),false⟩,()), ?_,⟨i+1,by omega,rfl⟩, ?_⟩
    ·simp(disch:=omega)only[Zc,QM,QD,Zs5,hat,edC,Zt1,Zt3,hd,Js,Jt,hg,Zt2,Zuq]
    ·show E.length-((i+1:Nat):Int).toNat<E.length-(i:Int).toNat;omega
   |false=>
    refine .inr ⟨1,((i:Int),⟨l,go,i+1,EL.drop (i+1),true⟩,()), ?_, .inl rfl⟩;simp(disch:=omega)only[Zc,QM,QD,Zs5,hat,edC,Zt1,Zt3,hd,Js,Jt,hg]
  ·refine .inr ⟨0,((i:Int),⟨l,go,i,EL.drop i,false⟩,()), ?_, .inr ?_⟩
   ·simp(disch:=omega)only[Zc,QM,QD]
   ·show EL.drop i=[];rw[Zw7];omega
 ·rintro e z hz
  refine⟨⟨V.tup [],[],some z.2.1⟩,z.2.1, ?_,rfl,hz⟩;cases e<;>rfl
omit hf in
theorem Kv (n:Nat) (h:Yc n):prim.iter (d+10) fn_flux_edges_1 [C.cp [C.v (.int .i64 (n:Int))]]=some (edgesL n):=by
 show(bif Nat.ble 10 (d+10)then iterC fn_flux_edges_1 [C.cp [C.v (.int .i64 (n:Int))]]else none)=_;unfold Yc at h;rw[show Nat.ble 10 (d+10)=true from Zux (by omega)];show need (decide (1<=(n:Int))&&decide ((n:Int)<=8)) (some (edgesL (n:Int).toNat))=_;rw[decide_eq_true (show 1<=(n:Int) by omega),decide_eq_true (show(n:Int)<=8 by omega),Zs5];rfl
end
end Go.Proofs.YtjmempcalaliiaaGreatDoor
/- Degrees, amounts, moves. -/
namespace Go.Proofs.YtjmempcalaliiaaGreatDoor
open Go Go.PM Go.Grid
attribute [local congr] Zu Zv Zw Yd Zx Zy Ye Yf Yg Yh Zz Z0 Yi Yx Yy Yz Y1 Y2 Y5 Y6 Y7 Y8 Y4 Z2 Z3 Y9 Z4 Z5 Zk Z6 Z1
def mv1 (l:List Int) (e:Int×Int) (u v:Int):List Int:=Qg (Qg l e.1.toNat u) e.2.toNat v
def Yo (N:Nat) (E:List (Int×Int)):List Int:=E.foldl (λl e=>mv1 l e 1 1) (List.replicate N 0)
def Qh (l:List Int) (P:List ((Int×Int)×Int)):List Int:=P.foldl (λl p=>mv1 l p.1 (-p.2) p.2) l
theorem Rh (l:List Int) (e:Int×Int) (u v:Int):(mv1 l e u v).length=l.length:=by unfold mv1;rw[X4,X4]
theorem Zku (N:Nat) (E:List (Int×Int)) (e:Int×Int):Yo N (E++[e])=mv1 (Yo N E) e 1 1:=by simp[Yo]
theorem W0 (l:List Int) (P:List ((Int×Int)×Int)) (p:(Int×Int)×Int):Qh l (P++[p])=mv1 (Qh l P) p.1 (-p.2) p.2:=by simp[Qh]
theorem T7 (P:List ((Int×Int)×Int)): ∀l,(Qh l P).length=l.length:=by
 induction P with
 |nil=>intro l;rfl
 |cons p P ih=>intro l;show(Qh (mv1 l p.1 (-p.2) p.2) P).length=_;rw[ih,Rh]
theorem Zca (l:List Int) (e:Int×Int) (u v:Int) (k:Nat):at0 (mv1 l e u v) k=at0 l k+(if k=e.1.toNat/\k<l.length then u else 0)+if k=e.2.toNat/\k<l.length then v else 0:=by
 unfold mv1;rw[Mx,Mx,X4]
 congr 1
 ·congr 1
  by_cases h:k=e.1.toNat
  ·subst h;rfl
  ·rw[if_neg (λq=>h q.1),if_neg (λq=>h q.1)]
 ·by_cases h:k=e.2.toNat
  ·subst h;rfl
  ·rw[if_neg (λq=>h q.1),if_neg (λq=>h q.1)]
theorem Zcb (N:Nat) (i:Nat):at0 (List.replicate N 0) i=0:=by
 unfold at0;rw[Ztj,Zwo];split<;>rfl
theorem T8 (N:Nat) (E:List (Int×Int)):(Yo N E).length=N:=by
 have key: ∀(E:List (Int×Int)) (l:List Int),(E.foldl (λl e=>mv1 l e 1 1) l).length=l.length:=by
  intro E
  induction E with
  |nil=>intro l;rfl
  |cons e E ih=>intro l;rw[Zu1,ih,Rh]
 unfold Yo;rw[key];simp
theorem Zez (E:List (Int×Int)): ∀(l:List Int) (k:Nat),at0 l k<=at0 (E.foldl (λl e=>mv1 l e 1 1) l) k/\at0 (E.foldl (λl e=>mv1 l e 1 1) l) k<=at0 l k+2*E.length/\((∃e∈E,k=e.1.toNat\/k=e.2.toNat)->k<l.length->at0 l k+1<=at0 (E.foldl (λl e=>mv1 l e 1 1) l) k):=by
 induction E with
 |nil=>intro l k;exact⟨Int.le_refl _,by simp,λ⟨e,he,_⟩=>by cases he⟩
 |cons e E ih=>
  intro l k;rw[Zu1];obtain⟨h1,h2,h3⟩:=ih (mv1 l e 1 1) k;have hm:=Zca l e 1 1 k;rw[Zs4];refine⟨?_, ?_, ?_⟩
  ·split at hm<;>split at hm<;>omega
  ·split at hm<;>split at hm<;>omega
  ·rintro ⟨e',he,hk⟩ hlt
   rcases Zto.1 he with rfl|he
   ·rcases hk with hk|hk
    ·rw[if_pos ⟨hk,hlt⟩]at hm;split at hm<;>omega
    ·rw[if_pos (c:=k=e'.2.toNat/\k<l.length) ⟨hk,hlt⟩]at hm;split at hm<;>omega
   ·have:=h3 ⟨e',he,hk⟩ (by rw[Rh];exact hlt);split at hm<;>split at hm<;>omega
theorem Zig (N:Nat) (E:List (Int×Int)) (k:Nat):0<=at0 (Yo N E) k/\at0 (Yo N E) k<=2*E.length:=by
 obtain⟨h1,h2,_⟩:=Zez E (List.replicate N 0) k;rw[Zcb]at h1 h2;exact⟨h1,by unfold Yo;omega⟩
theorem J9 {N:Nat} {E:List (Int×Int)} {k:Nat} (h: ∃e∈E,k=e.1.toNat\/k=e.2.toNat) (hk:k<N):1<=at0 (Yo N E) k:=by
 obtain⟨_,_,h3⟩:=Zez E (List.replicate N 0) k;have:=h3 h (by simpa using hk);rw[Zcb]at this;unfold Yo;omega
theorem Zqe {m:Int} (hm:0<=m) (P:List ((Int×Int)×Int)): ∀(l:List Int) (b:Int),(∀k,-b<=at0 l k/\at0 l k<=b)->(∀p∈P,-m<=p.2/\p.2<=m)-> ∀k,-(b+2*m*P.length)<=at0 (Qh l P) k/\at0 (Qh l P) k<=b+2*m*P.length:=by
 induction P with
 |nil=>intro l b h _ k;have:=h k;simp only[Qh,Zxh,Zs8];simpa using this
 |cons p P ih=>
  intro l b h hp k;have h2:=ih (mv1 l p.1 (-p.2) p.2) (b+2*m) (λk=>by
   have:=h k;have hp:=hp p (Zub ..);rw[Zca];split<;>split<;>omega) (λq hq=>hp q (Ztq _ hq)) k
  have e:b+2*m+2*m*(P.length:Int)=b+2*m*((p::P).length:Int):=by
   rw[Zs4,Zt2,Zw8];omega
  rw[e]at h2;exact h2
section
variable (fu d:Nat) (hf:18446744073709551616<=fu)
theorem Kw (n:Nat) (h:Yc n):cl fu (d+11) fn_flux_Degrees [I n] []=OK (V.tup [V.c (C.sl (Zg n).length (ints (Yo (Zg n).length (edg n)))),I 0]):=by
 have hn:=h;unfold Yc at hn;have hNl:=Yw h;have heL:=Qc h;have e1:=Wz fu (d+9) (n:Int) 1 8;rw[decide_eq_true (show 1<=(n:Int) by omega),decide_eq_true (show(n:Int)<=8 by omega)]at e1;have e2:=Tr fu (d+8) n h;have e3:=Kv d n h;have e4:=eq_flux_edges fu (d+9) (n:Int);have hel:=Va n;have hea:=λ{j:Nat} (h1:j<(edgesL n).length) (h2:j<(edg n).length)=>Lc n h1 h2;have hin:=Re h;generalize edgesL n=EL at*
 generalize edg n=E at*
 generalize (Zg n).length=N at*
 have hr0:reps N [C.v (.int .i64 0)]=ints (Yo N []):=by
  unfold Yo reps;simp[ik]
 have hdl:=T8 N;rw[eq_flux_Degrees];simp(disch:=omega)only[Zc,QM,QD,e1,e2,e4,Zs5,Ztc,hr0,Ze,hdl];rw[show prim.iter (d+10) fn_flux_edges_1 [C.cp [C.v (.int .i64 (n:Int))]]=some EL from e3];simp(disch:=omega)only[Zc,QM,QD,Zs5,Ztc,hr0,Ze,hdl];have hov:=Wj (body:=(λit (y:(List C×Unit)×Unit)=>
    uncV it λx r=>
    rC x λc3=>
    asI .i64 c3 λi1=>
    uncV r λx1 r1=>
    rA x1 λcs1=>
    need (Nat.beq cs1.length 2)<|
    unc cs1 λc4 r2=>
    asI .i64 c4 λi2=>
    unc r2 λc5 _=>
    asI .i64 c5 λi3=>
    nilV r1<|
    need (inR i2 (y.1.1.length/1))<|
    unc (List.drop (0+(i2.toNat*1)) y.1.1) λc6 _=>
    asI .i64 c6 λi4=>
    need (inR i2 (y.1.1.length/1))<|
    need (((Nat.ble 0 (0+(i2.toNat*1)))&&(Nat.ble ((0+(i2.toNat*1))+1) y.1.1.length))&&true)<|
    need (inR i3 (y.1.1.length/1))<|
    unc (List.drop (0+(i3.toNat*1)) (putAt y.1.1 (0+(i2.toNat*1)) ([C.v (.int .i64 (IntKind.i64.wrap (i4+1)))]))) λc7 _=>
    asI .i64 c7 λi5=>
    need (inR i3 (y.1.1.length/1))<|
    need (((Nat.ble 0 (0+(i3.toNat*1)))&&(Nat.ble ((0+(i3.toNat*1))+1) ((putAt y.1.1 (0+(i2.toNat*1)) ([C.v (.int .i64 (IntKind.i64.wrap (i4+1)))])).length)))&&true)<|
    bd (putAt (putAt y.1.1 (0+(i2.toNat*1)) ([C.v (.int .i64 (IntKind.i64.wrap (i4+1)))])) (0+(i3.toNat*1)) ([C.v (.int .i64 (IntKind.i64.wrap (i5+1)))])) λcs2=>
    need (((Nat.beq ((y.1.1.length/1)*1) cs2.length)&&true)&&true)<|
    some (0,((cs2,()),())))) EL (λj:Nat=>((ints (Yo N (E.take j)),()),())) (by
   intro j hj;have hj':j<E.length:=by omega
   have hia:=hea hj hj';have hin:=hin E[j] (Zt0 hj');have hst:Yo N (E.take (j+1))=mv1 (Yo N (E.take j)) E[j] 1 1:=by rw[Zty hj',Zku]
   have hbd:=Zig N (E.take j);have htl:(E.take j).length<=15000:=by rw[Ztx];omega
   have hD:=hdl (E.take j);rw[hia,hst];generalize Yo N (E.take j)=D at*
   generalize E[j]=e at*
   obtain⟨ea,eb⟩:=e;simp only at hin⊢;obtain⟨x,rfl⟩: ∃x:Nat,ea=x:=⟨ea.toNat,by omega⟩;obtain⟨y,rfl⟩: ∃y:Nat,eb=y:=⟨eb.toNat,by omega⟩;have d1:=Zt D (i:=x) (by omega);have b1:=hbd x;have p1:=Su D (i:=x) (by omega) 1;have hB:=X4 D x 1;have hBa:=Mx D x 1 y;have hm:mv1 D ((x:Int),(y:Int)) 1 1=Qg (Qg D x 1) y 1:=by unfold mv1;rw[Zs5,Zs5]
   rw[hm];have b2:0<=at0 (Qg D x 1) y/\at0 (Qg D x 1) y<=40000:=by
    have:=hbd y;split at hBa<;>omega
   generalize Qg D x 1=D1 at*
   have d2:=Zt D1 (i:=y) (by omega);have p2:=Su D1 (i:=y) (by omega) 1;have hB2:=X4 D1 y 1;generalize Qg D1 y 1=D2 at*
   simp(disch:=omega)only[Zc,QM,QD,Zs4,Zs8,Zs3,Nat.reduceAdd,Zs5,Ztc,Ztl,Ze,hD,d1,p1,hB,d2,p2,hB2])
 rw[hel,Zud]at hov;rw[show overK _ EL ((ints (Yo N []),()),())=_ from hov];have htk:List.take N (ints (Yo N E))=ints (Yo N E):=Ztd (by rw[Ze,hdl];exact Ztg _);simp(disch:=omega)only[Zc,QM,QD,Zs3,Ztc,Ztl,Ze,hdl,htk]
end
end Go.Proofs.YtjmempcalaliiaaGreatDoor
/- Amounts over edges, and what moving them comes to. -/
namespace Go.Proofs.YtjmempcalaliiaaGreatDoor
open Go Go.PM Go.Grid
attribute [local congr] Zu Zv Zw Yd Zx Zy Ye Yf Yg Yh Zz Z0 Yi Yx Yy Yz Y1 Y2 Y5 Y6 Y7 Y8 Y4 Z2 Z3 Y9 Z4 Z5 Zk Z6 Z1
theorem Bd {I' A:Type} {body:I' ->A->Option (Nat×A)} {xs:List I'} {x:A} (f:Nat->A) (z:A) (hx:x=f 0) (h: ∀j (h:j<xs.length),body xs[j] (f j)=some (0,f (j+1))) (hz:f xs.length=z):overK body xs x=some (0,z):=by
 rw[hx,<-hz];exact Wj xs f h
def lim (dp dg:List Int) (k:Int):Int:=Int.tdiv (at0 dp k.toNat) (at0 dg k.toNat)
def shr (w:Int) (s:Nat):Int:=Int.fdiv w (2^s)
def amt (w p q:Int):Int:=if w>p then p else if w< -q then -q else w
def brn (w p q:Int):Int:=if w>p then 1 else if w< -q then -1 else 0
def amE (dp dg fw:List Int) (s:Nat) (E:List (Int×Int)) (j:Nat):Int:=amt (shr (at0 fw j) s) (lim dp dg (E.getD j (0,0)).1) (lim dp dg (E.getD j (0,0)).2)
def brE (dp dg fw:List Int) (s:Nat) (E:List (Int×Int)) (j:Nat):Int:=brn (shr (at0 fw j) s) (lim dp dg (E.getD j (0,0)).1) (lim dp dg (E.getD j (0,0)).2)
def amL (dp dg fw:List Int) (s:Nat) (E:List (Int×Int)) (k:Nat):List Int:=(List.range k).map (amE dp dg fw s E)
def brL (dp dg fw:List Int) (s:Nat) (E:List (Int×Int)) (k:Nat):List Int:=(List.range k).map (brE dp dg fw s E)
theorem Be (dp dg fw:List Int) (s:Nat) (E:List (Int×Int)) (k:Nat):(amL dp dg fw s E k).length=k:=by simp[amL]
theorem Bf (dp dg fw:List Int) (s:Nat) (E:List (Int×Int)) (k:Nat):(brL dp dg fw s E k).length=k:=by simp[brL]
theorem Zn5 (dp dg fw:List Int) (s:Nat) (E:List (Int×Int)) (k:Nat):amL dp dg fw s E (k+1)=amL dp dg fw s E k++[amE dp dg fw s E k]:=by simp[amL,Zun]
theorem Zn6 (dp dg fw:List Int) (s:Nat) (E:List (Int×Int)) (k:Nat):brL dp dg fw s E (k+1)=brL dp dg fw s E k++[brE dp dg fw s E k]:=by simp[brL,Zun]
theorem Qi (E:List (Int×Int)) {j:Nat} (h:j<E.length):E.getD j (0,0)=E[j]:=by
 rw[Ztj,Zta h];rfl
theorem Zcc {dp dg:List Int} {k:Int} {m:Int} (h:0<=at0 dp k.toNat/\at0 dp k.toNat<=m) (hd:1<=at0 dg k.toNat):0<=lim dp dg k/\lim dp dg k<=at0 dp k.toNat:=by
 unfold lim;generalize at0 dp k.toNat=a at*
 generalize at0 dg k.toNat=b at*
 rw[Zwc h.1];exact⟨Int.ediv_nonneg h.1 (by omega),Zxr _ h.1⟩
theorem Ug {lo hi:Int} {l:List Int} (h:wid lo hi l) (h0:lo<=0/\0<=hi) (k:Nat):lo<=at0 l k/\at0 l k<=hi:=by
 by_cases hk:k<l.length
 ·rw[Ry hk];exact Zg1 h hk
 ·unfold at0;rw[Ztj,Zvg (by omega)];exact h0
theorem Zsl {w p q:Int} (hp:0<=p) (hq:0<=q): -q<=amt w p q/\amt w p q<=p:=by
 unfold amt;split
 ·omega
 ·split<;>omega
section
variable (fu d:Nat) (hf:18446744073709551616<=fu)
include hf
theorem Ri (a b c:Nat) (ha:1<=a/\a<=4) (hb:1<=b/\b<=4) (hc:1<=c/\c<=4):cl fu (d+6) fn_flux_CheckScheme [V.agg [C.v (.int .i64 (a:Int)),C.v (.int .i64 (b:Int)),C.v (.int .i64 (c:Int))]] []=OK (I 0):=by
 have e:=Rf fu d hf [(a:Int),(b:Int),(c:Int)] (by simp) 1 4;rw[Qo.2 (by intro v hv;simp only[Zto,Zv3,or_false]at hv;omega)]at e;replace e:cl fu (d+5) fn_flux_outside [V.c (C.sl 3 [C.v (.int .i64 (a:Int)),C.v (.int .i64 (b:Int)),C.v (.int .i64 (c:Int))]),I 1,I 4] []=OK (B false):=e;rw[eq_flux_CheckScheme];simp only[Zc,QM,e]
set_option maxHeartbeats 4000000 in
theorem Zg3 (n:Nat) (h:Yc n) (dp fw:List Int) (h1:dp.length=(Zg n).length) (h2:fw.length=(edg n).length) (h3:wid 0 16777216 dp) (h4:wid (-16777216) 16777216 fw)
  (a b c:Nat) (ha:1<=a/\a<=4) (hb:1<=b/\b<=4) (hc:1<=c/\c<=4):
  cl fu (d+12) fn_flux_Amounts [V.agg [C.v (.int .i64 (a:Int)),C.v (.int .i64 (b:Int)),C.v (.int .i64 (c:Int))],V.agg (stC n dp fw)] []=OK (V.tup [V.c (C.sl (edg n).length (ints (amL dp (Yo (Zg n).length (edg n)) fw c (edg n) (edg n).length))),V.c (C.sl (edg n).length (ints (brL dp (Yo (Zg n).length (edg n)) fw c (edg n) (edg n).length))),I 0]):=by
 have hNl:=Yw h;have heL:=Qc h;have e1:=Ri fu (d+5) hf a b c ha hb hc;have e2:=Gg fu (d+1) hf n h dp fw h1 h2 h3 h4;have e3:=Kw fu d n h;have e4:=eq_flux_edges fu (d+10) (n:Int);have e5:prim.iter (d+11) fn_flux_edges_1 [C.cp [C.v (.int .i64 (n:Int))]]=some (edgesL n):=Kv (d+1) n h;have hel:=Va n;have hea:=λ{j:Nat} (h1:j<(edgesL n).length) (h2:j<(edg n).length)=>Lc n h1 h2;have hin:=Re h;have hdl:=T8 (Zg n).length (edg n);have hdp: ∀e∈edg n,1<=at0 (Yo (Zg n).length (edg n)) e.1.toNat/\1<=at0 (Yo (Zg n).length (edg n)) e.2.toNat:=λe he=>⟨J9 ⟨e,he, .inl rfl⟩ (by have:=hin e he;omega),J9 ⟨e,he, .inr rfl⟩ (by have:=hin e he;omega)⟩;have hdb:=λk=>Zig (Zg n).length (edg n) k;unfold stC at*
 generalize Yo (Zg n).length (edg n)=dg at*
 generalize edgesL n=EL at*
 generalize edg n=E at*
 generalize (Zg n).length=N at*
 have hml:=λk=>Be dp dg fw c E k;have hbl:=λk=>Bf dp dg fw c E k;have hsh:min c (IntKind.bits .i64)=c:=by show min c 64=c;omega
 rw[eq_flux_Amounts];simp(disch:=omega)only[Zc,QM,QD,e1,e2,e3,e4];rw[e5];simp only[Zc,QM];rw[Bd (λj:Nat=>((ints (amL dp dg fw c E j),()),(ints (brL dp dg fw c E j),()),())) ((ints (amL dp dg fw c E E.length),()),(ints (brL dp dg fw c E E.length),()),()) ?_ ?_ ?_]
 ·have htk: ∀l:List Int,l.length=E.length->List.take E.length (ints l)=ints l:=λl hl=>Ztd (by rw[Ze];omega);simp(disch:=omega)only[Zc,QM,QD,Zs3,Ztc,Ztl,Ze,hml,hbl,htk _ (hml E.length),htk _ (hbl E.length)]
 ·rfl
 ·intro j hj;have hj':j<E.length:=by omega
  have hia:=hea hj hj';have hin:=hin E[j] (Zt0 hj');have hdp:=hdp E[j] (Zt0 hj');have hfj:j<fw.length:=by omega
  have hfi:=Zt fw hfj;have hwA:=Ug h3 (by omega) E[j].1.toNat;have hwB:=Ug h3 (by omega) E[j].2.toNat;have lA:=Zcc (k:=E[j].1) hwA hdp.1;have lB:=Zcc (k:=E[j].2) hwB hdp.2;have hst:=Zn5 dp dg fw c E j;have hsb:=Zn6 dp dg fw c E j;unfold amE at hst;unfold brE at hsb;rw[Qi E hj']at hst hsb;rw[hia,hst,hsb];have hml:=hml j;have hbl:=hbl j;generalize amL dp dg fw c E j=A at*
  generalize brL dp dg fw c E j=B at*
  generalize E[j]=e at*
  obtain⟨ea,eb⟩:=e;simp only at hin hdp lA lB⊢;obtain⟨x,rfl⟩: ∃x:Nat,ea=x:=⟨ea.toNat,by omega⟩;obtain⟨y,rfl⟩: ∃y:Nat,eb=y:=⟨eb.toNat,by omega⟩;simp only[Zs5]at hdp hwA hwB lA lB;have d1:=Zt dp (i:=x) (by omega);have d2:=Zt dp (i:=y) (by omega);have g1:=Zt dg (i:=x) (by omega);have g2:=Zt dg (i:=y) (by omega);have lA':lim dp dg (x:Int)=Int.tdiv (at0 dp x) (at0 dg x):=by unfold lim;rw[Zs5]
  have lB':lim dp dg (y:Int)=Int.tdiv (at0 dp y) (at0 dg y):=by unfold lim;rw[Zs5]
  have sh':shr (at0 fw j) c=Int.fdiv (at0 fw j) (2^c):=rfl;generalize lim dp dg (x:Int)=p at*
  generalize lim dp dg (y:Int)=q at*
  generalize shr (at0 fw j) c=w at*
  by_cases c1:w>p
  ·rw[show amt w p q=p from if_pos c1,show brn w p q=1 from if_pos c1];simp(disch:=omega)only[Zc,QM,QD,Zs4,Zs8,Zs3,Nat.reduceAdd,Zs5,Ztc,Ztl,d1,d2,g1,g2,hfi,<-lA',<-lB',hsh,<-sh',Ze,hml,hbl,Xx,Ztb]
  ·by_cases c2:w< -q
   ·rw[show amt w p q= -q from by unfold amt;rw[if_neg c1,if_pos c2],show brn w p q= -1 from by unfold brn;rw[if_neg c1,if_pos c2]];have e0:(0:Int)-q= -q:=by omega
    simp(disch:=omega)only[Zc,QM,QD,Zs4,Zs8,Zs3,Nat.reduceAdd,Zs5,Ztc,Ztl,d1,d2,g1,g2,hfi,<-lA',<-lB',hsh,<-sh',e0,Ze,hml,hbl,Xx,Ztb]
   ·rw[show amt w p q=w from by unfold amt;rw[if_neg c1,if_neg c2],show brn w p q=0 from by unfold brn;rw[if_neg c1,if_neg c2]];have e0:(0:Int)-q= -q:=by omega
    simp(disch:=omega)only[Zc,QM,QD,Zs4,Zs8,Zs3,Nat.reduceAdd,Zs5,Ztc,Ztl,d1,d2,g1,g2,hfi,<-lA',<-lB',hsh,<-sh',e0,Ze,hml,hbl,Xx,Ztb]
 ·rw[hel]
omit hf in
theorem Ha (l:List Int) (h0:0<l.length) (hl:l.length<=1000000):cl fu (d+1) fn_slices_Clone_sint_int [V.c (C.sl l.length (ints l))] []=some ⟨V.own 1000000 0 l.length,[.sb ty_int 0 (ints l)],none⟩:=by
 have hb:Nat.beq l.length 0=false:=by
  cases e:Nat.beq l.length 0
  ·rfl
  ·have:=Zs1 e;omega
 have htk:List.take l.length (ints l)=ints l:=Ztd (by rw[Ze];exact Ztg _);rw[eq_slices_Clone_sint_int,hb];simp(disch:=omega)only[Zc,QM,QD,Ze,Ztc,Zs3,htk]
theorem Zqf (n:Nat) (h:Yc n) (dp fw:List Int) (h1:dp.length=(Zg n).length) (h2:fw.length=(edg n).length) (h3:wid 0 16777216 dp) (h4:wid (-16777216) 16777216 fw)
  (am:List Int) (h5:am.length=(edg n).length) (h6:wid (-16777216) 16777216 am):
  cl fu (d+12) fn_flux_Move [V.agg (stC n dp fw),V.c (C.sl am.length (ints am))] []=bif Vr 0 16777216 (Qh dp ((edg n).zip am))then OK (V.tup [V.agg [C.v (.int .i64 0),C.nl,C.nl],I 7])else OK (V.tup [V.agg (stC n (Qh dp ((edg n).zip am)) fw),I 0]):=by
 have hNl:=Yw h;have heL:=Qc h;have hN0:0<(Zg n).length:=by rw[Qa h];omega
 have hE0:0<(edg n).length:=by
  have:(Zg n).length≠0:=by omega
  have hm:tc n (pt n 0 1 0) (pt n 0 0 1) (pt n 0 0 0)∈tri n:=by
   have hn:=h;unfold Yc at hn;unfold tri Jy rowC X2;simp only[Zu7,Zus];exact⟨0,by omega,0,by omega,0,by omega,Zub ..⟩
  have:=(Zie n _).2 ((Zew n _).2 ⟨_,hm,Zub ..⟩);exact List.length_pos_of_mem this
 have e2:=Gg fu (d+1) hf n h dp fw h1 h2 h3 h4;have e3:=Rf fu (d+6) hf am (by omega) (-16777216) 16777216;rw[Qo.2 h6]at e3;have k1:=Ha fu (d+10) dp (by omega) (by omega);have k2:=Ha fu (d+10) fw (by omega) (by omega);have e4:=eq_flux_edges fu (d+10) (n:Int);have e5:prim.iter (d+11) fn_flux_edges_1 [C.cp [C.v (.int .i64 (n:Int))]]=some (edgesL n):=Kv (d+1) n h;have hel:=Va n;have hea:=λ{j:Nat} (h1:j<(edgesL n).length) (h2:j<(edg n).length)=>Lc n h1 h2;have hin:=Re h;have hML:=λP=>T7 P dp;have e6:=Rf fu (d+6) hf (Qh dp ((edg n).zip am)) (by rw[hML];omega) 0 16777216;rw[hML]at e6;have hbd:=λ(k:Nat) (i:Nat)=>Zqe (m:=16777216) (by omega) (((edg n).zip am).take k) dp 16777216 (λi=>by have:=Ug h3 (by omega) i;omega) (λp hp=>h6 p.2 (by
  have:=Zvm hp;exact(List.of_mem_zip this).2)) i
 unfold stC at*
 generalize edgesL n=EL at*
 generalize edg n=E at*
 generalize (Zg n).length=N at*
 rw[eq_flux_Move];simp(disch:=omega)only[Zc,QM,QD,e2,e3,k1,k2,e4,Zem,Ze,Ztc];rw[e5];simp(disch:=omega)only[Zc,QM,QD,Ze,Ztc];rw[Bd (λj:Nat=>(((0:Int),C.nl,C.nl,()),((n:Int),ints (Qh dp ((E.zip am).take j)),ints fw,()),())) (((0:Int),C.nl,C.nl,()),((n:Int),ints (Qh dp (E.zip am)),ints fw,()),()) ?_ ?_ ?_]
 ·have htk1:List.take dp.length (ints (Qh dp (E.zip am)))=ints (Qh dp (E.zip am)):=Ztd (by rw[Ze,hML];exact Ztg _);have htk2:List.take fw.length (ints fw)=ints fw:=Ztd (by rw[Ze];exact Ztg _);have hML:=hML (E.zip am);cases hb:Vr 0 16777216 (Qh dp (E.zip am))with
  |true=>
   rw[hb]at e6;simp(disch:=omega)only[Zc,QM,QD,Ze,Ztc,Ztl,Zs3,hML,htk1,e6]
  |false=>
   rw[hb]at e6;simp(disch:=omega)only[Zc,QM,QD,Ze,Ztc,Ztl,Zs3,hML,htk1,htk2,e6]
 ·rfl
 ·intro j hj;have hj':j<E.length:=by omega
  have hz:j<(E.zip am).length:=by rw[Zv8];omega
  have hja:j<am.length:=by omega
  have hia:=hea hj hj';have hin:=hin E[j] (Zt0 hj');have hai:=ints_at am hja;have haw:=Zg1 h6 hja;have hst:Qh dp ((E.zip am).take (j+1))=mv1 (Qh dp ((E.zip am).take j)) E[j] (-am[j]) am[j]:=by rw[Zty hz,W0,Zw1]
  have hbd:=hbd j;have htl:((E.zip am).take j).length<=15000:=by rw[Ztx];omega
  have hD:=hML ((E.zip am).take j);rw[hia,hst];generalize Qh dp ((E.zip am).take j)=D at*
  generalize E[j]=e at*
  generalize am[j]=v at*
  obtain⟨ea,eb⟩:=e;simp only at hin⊢;obtain⟨x,rfl⟩: ∃x:Nat,ea=x:=⟨ea.toNat,by omega⟩;obtain⟨y,rfl⟩: ∃y:Nat,eb=y:=⟨eb.toNat,by omega⟩;have d1:=Zt D (i:=x) (by omega);have b1:=hbd x;have p1:=Su D (i:=x) (by omega) (-v);have hB:=X4 D x (-v);have hBa:=Mx D x (-v) y;have hm:mv1 D ((x:Int),(y:Int)) (-v) v=Qg (Qg D x (-v)) y v:=by unfold mv1;rw[Zs5,Zs5]
  rw[hm];have b2:=hbd y;have b3: -1000000000000<=at0 (Qg D x (-v)) y/\at0 (Qg D x (-v)) y<=1000000000000:=by
   split at hBa<;>omega
  generalize Qg D x (-v)=D1 at*
  have d2:=Zt D1 (i:=y) (by omega);have p2:=Su D1 (i:=y) (by omega) v;have hB2:=X4 D1 y v;generalize Qg D1 y v=D2 at*
  have e0:at0 D x-v=at0 D x+ -v:=by omega
  simp(disch:=omega)only[Zc,QM,QD,Zs4,Zs8,Zs3,Nat.reduceAdd,Zs5,Ztc,Ztl,Ze,hD,d1,hai,e0,p1,hB,d2,p2,hB2]
 ·show(((0:Int),C.nl,C.nl,()),((n:Int),ints (Qh dp ((E.zip am).take EL.length)),ints fw,()),())=_;rw[hel,Ztd (by rw[Zv8];omega)]
end
end Go.Proofs.YtjmempcalaliiaaGreatDoor
/- What is moved and moved back; masses; lists that are compared. -/
namespace Go.Proofs.YtjmempcalaliiaaGreatDoor
open Go Go.PM Go.Grid
attribute [local congr] Zu Zv Zw Yd Zx Zy Ye Yf Yg Yh Zz Z0 Yi Yx Yy Yz Y1 Y2 Y5 Y6 Y7 Y8 Y4 Z2 Z3 Y9 Z4 Z5 Zk Z6 Z1
def net (P:List ((Int×Int)×Int)) (k:Nat):Int:=(P.map λp=>(if k=p.1.1.toNat then -p.2 else 0)+(if k=p.1.2.toNat then p.2 else 0)).sum
theorem Ze0 (p:(Int×Int)×Int) (P:List ((Int×Int)×Int)) (k:Nat):net (p::P) k=(if k=p.1.1.toNat then -p.2 else 0)+(if k=p.1.2.toNat then p.2 else 0)+net P k:=by unfold net;rw[Zt7,Zw4]
theorem Zkv (l:List Int) (p:(Int×Int)×Int) (P:List ((Int×Int)×Int)):Qh l (p::P)=Qh (mv1 l p.1 (-p.2) p.2) P:=rfl
theorem Zcd: ∀(P:List ((Int×Int)×Int)) (l:List Int) (k:Nat),k<l.length->at0 (Qh l P) k=at0 l k+net P k
 | [],l,k,_=>by simp[Qh,net]
 |p::P,l,k,h=>by
  rw[Zkv,Zcd P _ k (by rw[Rh];exact h),Zca,Ze0];by_cases h1:k=p.1.1.toNat<;>by_cases h2:k=p.1.2.toNat<;>simp only[h,h1,h2,and_true,if_true,if_false,false_and,true_and]<;>omega
def isL (c:C) (l:List Int):Prop:=nrm c=C.sl l.length (ints l)/\ ∀{R:Type} (k:Nat->List C->Option R),asSl c k=k l.length (ints l)
theorem Zn7 (l:List Int):isL (C.sl l.length (ints l)) l:=⟨by rw[Zmx],λk=>by rw[Zh4]⟩
section
variable (fu d:Nat) (hf:18446744073709551616<=fu)
include hf
end
end Go.Proofs.YtjmempcalaliiaaGreatDoor
/- Amounts, neighbours: what laws of several chapters lean on. -/
namespace Go.Proofs.YtjmempcalaliiaaGreatDoor
open Go Go.PM Go.Grid
attribute [local congr] Zu Zv Zw Yd Zx Zy Ye Yf Yg Yh Zz Z0 Yi Yx Yy Yz Y1 Y2 Y5 Y6 Y7 Y8 Y4 Z2 Z3 Y9 Z4 Z5 Zk Z6 Z1
theorem Zg4 {l:List Int} (h: ∀x∈l,0<=x/\x<=255) {k:Nat} (hk:k<=1000):bytes (l.take k):=⟨λx hx=>h x (Zvm hx),by rw[Ztx];omega⟩
def rs (dp:List Int) (r:List Int):Int:=(r.map λk=>at0 dp k.toNat).sum
theorem Zkw {E:List (Int×Int)} {am:List Int} (h:am.length=E.length):E.zip am=(List.range E.length).map λj=>(E.getD j (0,0),at0 am j):=by
 refine Zwg (by rw[Zv8,Zte,List.length_range];omega) λj h1 h2=> ?_;rw[Zv8]at h1;rw[Zw1,Zvj,Zwm,Qi E (by omega),Ry (by omega)]
theorem Zqg {E:List (Int×Int)} {dp fw:List Int} {dg:List Int} (c:Nat) (hw:wid 0 16777216 dp) (hd: ∀e∈E,1<=at0 dg e.1.toNat/\1<=at0 dg e.2.toNat):wid (-16777216) 16777216 (amL dp dg fw c E E.length):=by
 intro v hv;unfold amL at hv;obtain⟨j,hj,rfl⟩:=Zu5.1 hv;have hj:=Zus.1 hj;have hd:=hd (E.getD j (0,0)) (by rw[Qi E hj];exact Zt0 hj);unfold amE;generalize E.getD j (0,0)=e at*
 have L1:=Zcc (dp:=dp) (dg:=dg) (k:=e.1) (m:=16777216) (Ug hw (by omega) _) hd.1;have L2:=Zcc (dp:=dp) (dg:=dg) (k:=e.2) (m:=16777216) (Ug hw (by omega) _) hd.2;have L3:=Zsl (w:=shr (at0 fw j) c) L1.1 L2.1;have:=Ug hw (by omega) e.1.toNat;have:=Ug hw (by omega) e.2.toNat;omega
structure Vst (n:Nat) (dp fw:List Int):Prop where
 dl:dp.length=(Zg n).length
 fl:fw.length=(edg n).length
 dw:wid 0 16777216 dp
 fw:wid (-16777216) 16777216 fw
theorem StOk.vst {n:Nat} {dp fw:List Int} (h:StOk n dp fw):Vst n dp fw:=⟨h.dl,h.fl,h.dw,V6 h.fw (by omega) (by omega)⟩
theorem Zce {n:Nat} (h:Yc n): ∀e∈edg n,1<=at0 (Yo (Zg n).length (edg n)) e.1.toNat/\1<=at0 (Yo (Zg n).length (edg n)) e.2.toNat:=λe he=>by
 have:=Re h e he;exact⟨J9 ⟨e,he, .inl rfl⟩ (by omega),J9 ⟨e,he, .inr rfl⟩ (by omega)⟩
theorem Eo {lo hi:Int} {l:List Int} (h: ∀k,k<l.length->lo<=at0 l k/\at0 l k<=hi):wid lo hi l:=λv hv=>by
 obtain⟨k,hk,rfl⟩:=Zt8.1 hv;rw[<-Ry hk];exact h k hk
theorem Zg5 {n:Nat} (h:Yc n):0<(Zg n).length:=by rw[Qa h];omega
section
variable (fu d:Nat) (hf:18446744073709551616<=fu)
end
end Go.Proofs.YtjmempcalaliiaaGreatDoor
/- Slopes, accelerated flows, steps. -/
namespace Go.Proofs.YtjmempcalaliiaaGreatDoor
open Go Go.PM Go.Grid
attribute [local congr] Zu Zv Zw Yd Zx Zy Ye Yf Yg Yh Zz Z0 Yi Yx Yy Yz Y1 Y2 Y5 Y6 Y7 Y8 Y4 Z2 Z3 Y9 Z4 Z5 Zk Z6 Z1
def clp (x:Int):Int:=if 16777216<(if -16777216>x then -16777216 else x)then 16777216 else if -16777216>x then -16777216 else x
theorem Zsm (x:Int): -16777216<=clp x/\clp x<=16777216:=by
 unfold clp
 repeat' split
 all_goals omega
def slE (dp:List Int) (E:List (Int×Int)) (j:Nat):Int:=at0 dp (E.getD j (0,0)).1.toNat-at0 dp (E.getD j (0,0)).2.toNat
def slp (dp:List Int) (E:List (Int×Int)) (k:Nat):List Int:=(List.range k).map (slE dp E)
def acc1 (a b:Nat) (f s:Int):Int:=clp (f+(shr s b-shr f a))
def accE (a b:Nat) (dp fw:List Int) (E:List (Int×Int)) (j:Nat):Int:=acc1 a b (at0 fw j) (slE dp E j)
def F3 (a b:Nat) (dp fw:List Int) (E:List (Int×Int)) (k:Nat):List Int:=(List.range k).map (accE a b dp fw E)
theorem Bg (dp:List Int) (E:List (Int×Int)) (k:Nat):(slp dp E k).length=k:=by simp[slp]
theorem Fs (a b:Nat) (dp fw:List Int) (E:List (Int×Int)) (k:Nat):(F3 a b dp fw E k).length=k:=by simp[F3]
theorem Zn8 (dp:List Int) (E:List (Int×Int)) (k:Nat):slp dp E (k+1)=slp dp E k++[slE dp E k]:=by simp[slp,Zun]
theorem Zkx (a b:Nat) (dp fw:List Int) (E:List (Int×Int)) (k:Nat):F3 a b dp fw E (k+1)=F3 a b dp fw E k++[accE a b dp fw E k]:=by simp[F3,Zun]
theorem Qd (f:Nat->Int) (n:Nat) {j:Nat} (h:j<n):at0 ((List.range n).map f) j=f j:=by
 unfold at0;rw[Ztj,Ztk,List.getElem?_range h];rfl
theorem Zn9 {dp:List Int} (h:wid 0 16777216 dp) (E:List (Int×Int)) (j:Nat): -16777216<=slE dp E j/\slE dp E j<=16777216:=by
 unfold slE;have h1:=Ug h (by omega) (E.getD j (0,0)).1.toNat;have h2:=Ug h (by omega) (E.getD j (0,0)).2.toNat;omega
theorem Ze1 (a b:Nat) (dp fw:List Int) (E:List (Int×Int)) (k:Nat):wid (-16777216) 16777216 (F3 a b dp fw E k):=λv hv=>by
 unfold F3 at hv;obtain⟨j,_,rfl⟩:=Zu5.1 hv;exact Zsm _
theorem Zg6 {w:Int} (s:Nat) {m:Int} (hm:0<=m) (h: -m<=w/\w<=m): -m-1<=shr w s/\shr w s<=m:=by
 unfold shr;have hp:(1:Int)<=2^s:=by
  have:0<2^s:=Zxy (by omega);have e:((2^s:Nat):Int)=(2:Int)^s:=by push_cast;rfl
  omega
 generalize (2:Int)^s=q at*
 rw[Zwd _ (by omega)];constructor
 ·refine Int.le_ediv_of_mul_le (by omega) ?_;have:(-m-1)*q<=(-m-1)*1:=Zw9 (by omega) hp;omega
 ·have h1:w/q<=m/q:=Int.ediv_le_ediv (by omega) h.2;have h2:m/q<=m:=Zxr _ hm;omega
section
variable (fu d:Nat) (hf:18446744073709551616<=fu)
include hf
set_option maxHeartbeats 4000000 in
theorem Zky (n:Nat) (h:Yc n) (dp fw:List Int) (h1:dp.length=(Zg n).length) (h2:fw.length=(edg n).length) (h3:wid 0 16777216 dp) (h4:wid (-16777216) 16777216 fw):
  cl fu (d+11) fn_model_Slopes [V.agg (stC n dp fw)] []=OK (V.tup [V.c (C.sl (edg n).length (ints (slp dp (edg n) (edg n).length))),I 0]):=by
 have hNl:=Yw h;have heL:=Qc h;have e1:=Gg fu d hf n h dp fw h1 h2 h3 h4;have e2:=Uj fu (d+1) hf n h;have hin:=Re h;have hsl:=λk=>Bg dp (edg n) k;have hbd:=λj=>Zn9 h3 (edg n) j;have hls:=λk=>Zn8 dp (edg n) k;unfold stC at*
 generalize hE:edg n=E at*
 generalize (Zg n).length=N at*
 rw[eq_model_Slopes];simp(disch:=omega)only[Zc,QM,QD,e1,e2];rw[Zs (λj:Nat=>(ints (slp dp E j),((j:Nat):Int),())) 0 (ints (slp dp E E.length),((E.length:Nat):Int),()) E.length ?_ ?_ ?_ (by omega)]
 ·have htk:List.take E.length (ints (slp dp E E.length))=ints (slp dp E E.length):=Ztd (by rw[Ze,hsl];exact Ztg _);simp(disch:=omega)only[Zc,QM,QD,Ze,hsl,Ztl,Ztc,Zs3,htk]
 ·rfl
 ·intro j hj;have hea:=Lw Xf hj;have hin:=hin E[j] (Zt0 hj);have hgd:=Qi E hj;have hsE:slE dp E j=at0 dp E[j].1.toNat-at0 dp E[j].2.toNat:=by unfold slE;rw[hgd]
  have hbd:=hbd j;have hls:=hls j;have hslj:=hsl j;generalize slE dp E j=z at*
  generalize E[j]=e at*
  obtain⟨ea,eb⟩:=e;simp only at hin hsE;obtain⟨x,rfl⟩: ∃x:Nat,ea=x:=⟨ea.toNat,by omega⟩;obtain⟨y,rfl⟩: ∃y:Nat,eb=y:=⟨eb.toNat,by omega⟩;rw[Zs5,Zs5]at hsE;have g1:=Zt dp (i:=x) (by omega);have g2:=Zt dp (i:=y) (by omega);have b1:=Ug h3 (by omega) x;have b2:=Ug h3 (by omega) y;have edx:edC ((x:Int),(y:Int))=[C.v (.int .i64 (x:Int)),C.v (.int .i64 (y:Int))]:=rfl;rw[edx]at hea;rw[hls];simp(disch:=omega)only[Zc,QM,QD,Zt1,Zt3,Zs5,Ztc,Ztl,hea,g1,g2,<-hsE,Ze,hslj,Ztb,Zs4,Zs8,Zs3,Xx];rfl
 ·simp(disch:=omega)only[Zc,QM,QD,Ze,hsl,Ztl,Ztc]
end
end Go.Proofs.YtjmempcalaliiaaGreatDoor
/- Steps of the model, one after the other. -/
namespace Go.Proofs.YtjmempcalaliiaaGreatDoor
open Go Go.PM Go.Grid
attribute [local congr] Zu Zv Zw Yd Zx Zy Ye Yf Yg Yh Zz Z0 Yi Yx Yy Yz Y1 Y2 Y5 Y6 Y7 Y8 Y4 Z2 Z3 Y9 Z4 Z5 Zk Z6 Z1
def stF (n a b:Nat) (dp fw:List Int):List Int:=F3 a b dp fw (edg n) (edg n).length
def stA (n a b c:Nat) (dp fw:List Int):List Int:=amL dp (Yo (Zg n).length (edg n)) (stF n a b dp fw) c (edg n) (edg n).length
def stD (n a b c:Nat) (dp fw:List Int):List Int:=Qh dp ((edg n).zip (stA n a b c dp fw))
def stB (n a b c:Nat) (dp fw:List Int):List Int:=brL dp (Yo (Zg n).length (edg n)) (stF n a b dp fw) c (edg n) (edg n).length
def Zih (n a b c:Nat) (dp fw:List Int):Bool:=Vr 0 16777216 (stD n a b c dp fw)
theorem Bh (n a b:Nat) (dp fw:List Int):(stF n a b dp fw).length=(edg n).length:=Fs ..
theorem Bi (n a b c:Nat) (dp fw:List Int):(stA n a b c dp fw).length=(edg n).length:=Be ..
theorem Kx (n a b c:Nat) (dp fw:List Int):(stB n a b c dp fw).length=(edg n).length:=Bf ..
theorem Zg7 (n a b c:Nat) (dp fw:List Int):(stD n a b c dp fw).length=dp.length:=T7 ..
theorem Vst.acc {n:Nat} {dp fw:List Int} (h:Vst n dp fw) (a b:Nat):Vst n dp (stF n a b dp fw):=⟨h.dl,Bh ..,h.dw,Ze1 _ _ _ _ _ _⟩
theorem Vst.step {n:Nat} {dp fw:List Int} (h:Vst n dp fw) {a b c:Nat} (ho:Zih n a b c dp fw=false):Vst n (stD n a b c dp fw) (stF n a b dp fw):=⟨by rw[Zg7];exact h.dl,Bh ..,Qo.1 ho,Ze1 _ _ _ _ _ _⟩
theorem Zqh {n:Nat} (hn:Yc n) {dp fw:List Int} (h:Vst n dp fw) (a b c:Nat):wid (-16777216) 16777216 (stA n a b c dp fw):=Zqg c h.dw (Zce hn)
theorem Zsn (n a b c:Nat) (dp fw:List Int) {j:Nat} (h:j<(edg n).length):at0 (stB n a b c dp fw) j=brE dp (Yo (Zg n).length (edg n)) (stF n a b dp fw) c (edg n) j:=Qd _ _ h
def stpO (n a b c:Nat) (dp fw:List Int):Option Out:=bif Zih n a b c dp fw then OK (V.tup [V.agg [C.v (.int .i64 0),C.nl,C.nl],V.c C.nl,I 7])else OK (V.tup [V.agg (stC n (stD n a b c dp fw) (stF n a b dp fw)),V.c (C.sl (stB n a b c dp fw).length (ints (stB n a b c dp fw))),I 0])
section
variable (fu d:Nat) (hf:18446744073709551616<=fu)
include hf
set_option maxHeartbeats 4000000 in
theorem Af (n:Nat) (h:Yc n) (dp fw:List Int) (hv:Vst n dp fw) (a b c:Nat) (ha:1<=a/\a<=4) (hb:1<=b/\b<=4) (hc:1<=c/\c<=4):
  cl fu (d+12) fn_model_Accelerate [V.agg [C.v (.int .i64 (a:Int)),C.v (.int .i64 (b:Int)),C.v (.int .i64 (c:Int))],V.agg (stC n dp fw)] []=OK (V.tup [V.agg (stC n dp (stF n a b dp fw)),I 0]):=by
 have hNl:=Yw h;have heL:=Qc h;have hN0:0<(Zg n).length:=by rw[Qa h];omega
 have h1:=hv.dl;have h2:=hv.fl;have h3:=hv.dw;have e1:=Ri fu (d+5) hf a b c ha hb hc;have e2:=Zky fu d hf n h dp fw h1 h2 h3 hv.fw;have k1:=Ha fu (d+10) dp (by omega) (by omega);have hal:=λk=>Fs a b dp fw (edg n) k;have has:=λk=>Zkx a b dp fw (edg n) k;have hsl:=Bg dp (edg n) (edg n).length;have hsa: ∀{j:Nat},j<(edg n).length->at0 (slp dp (edg n) (edg n).length) j=slE dp (edg n) j:=λhj=>Qd _ _ hj;have hbd:=λj=>Zn9 h3 (edg n) j;have ma:min a (IntKind.bits .i64)=a:=by show min a 64=a;omega
 have mb:min b (IntKind.bits .i64)=b:=by show min b 64=b;omega
 unfold stF;unfold stC at*
 rw[hal];have hac: ∀j,accE a b dp fw (edg n) j=clp (at0 fw j+(shr (slE dp (edg n) j) b-shr (at0 fw j) a)):=λj=>rfl;generalize slp dp (edg n) (edg n).length=sl at*
 generalize hE:edg n=E at*
 generalize (Zg n).length=N at*
 rw[eq_model_Accelerate];simp(disch:=omega)only[Zc,QM,QD,e1,e2,k1,Zem,Kq,Ze,Ztc];rw[Zs (λj:Nat=>(((j:Nat):Int),((0:Int),C.nl,C.nl,()),((n:Int),ints dp,ints (F3 a b dp fw E j),()),())) 0 (((fw.length:Nat):Int),((0:Int),C.nl,C.nl,()),((n:Int),ints dp,ints (F3 a b dp fw E E.length),()),()) fw.length ?_ ?_ ?_ (by omega)]
 ·have htk1:List.take dp.length (ints dp)=ints dp:=Ztd (by rw[Ze];exact Ztg _);have htk2:List.take E.length (ints (F3 a b dp fw E E.length))=ints (F3 a b dp fw E E.length):=Ztd (by rw[Ze,hal];exact Ztg _);simp(disch:=omega)only[Zc,QM,QD,Ze,hal,Ztl,Ztc,Zs3,htk1,htk2]
 ·rfl
 ·intro j hj;have hjE:j<E.length:=by omega
  have i1:=Zt fw hj;have i2:=Zt sl (i:=j) (by omega);have b1:=Ug hv.fw (by omega) j;have b2:=hbd j;have hac:=hac j;have has:=has j;have halj:=hal j;rw[hsa hjE]at i2;rw[has];have q1:=Zg6 b (by omega:(0:Int)<=16777216) b2;have q2:=Zg6 a (by omega:(0:Int)<=16777216) b1;have f1:Int.fdiv (slE dp E j) (2^b)=shr (slE dp E j) b:=rfl;have f2:Int.fdiv (at0 fw j) (2^a)=shr (at0 fw j) a:=rfl;generalize accE a b dp fw E j=z at*
  generalize shr (slE dp E j) b=p at*
  generalize shr (at0 fw j) a=q at*
  generalize slE dp E j=s at*
  generalize at0 fw j=f at*
  have hz:(if 16777216<(if -16777216>f+(p-q)then -16777216 else f+(p-q))then 16777216 else if -16777216>f+(p-q)then -16777216 else f+(p-q))=z:=hac.symm;simp(disch:=omega)only[Zc,QM,QD,Zs5,Ztc,Ztl,i1,i2,ma,mb,f1,f2,hz,Ze,halj,Ztb,Zs4,Zs8,Zs3,Xx];rfl
 ·have e0:fw.length=E.length:=h2;rw[e0];simp(disch:=omega)only[Zc,QM,QD,Ze,hal,Ztl,Ztc]
theorem Zqi (n:Nat) (h:Yc n) (dp fw:List Int) (hv:Vst n dp fw) (a b c:Nat) (ha:1<=a/\a<=4) (hb:1<=b/\b<=4) (hc:1<=c/\c<=4):
  cl fu (d+15) fn_model_Step [V.agg [C.v (.int .i64 (a:Int)),C.v (.int .i64 (b:Int)),C.v (.int .i64 (c:Int))],V.agg (stC n dp fw)] []=stpO n a b c dp fw:=by
 have e1:=Af fu d hf n h dp fw hv a b c ha hb hc;have v2:=hv.acc a b;have e2:=Zg3 fu d hf n h dp (stF n a b dp fw) v2.dl v2.fl v2.dw v2.fw a b c ha hb hc;have e3:=Zqf fu d hf n h dp (stF n a b dp fw) v2.dl v2.fl v2.dw v2.fw (stA n a b c dp fw) (Bi ..) (Zqh h hv a b c);have hlA:=Bi n a b c dp fw;have hlB:=Kx n a b c dp fw;have hA:amL dp (Yo (Zg n).length (edg n)) (stF n a b dp fw) c (edg n) (edg n).length=stA n a b c dp fw:=rfl;have hB:brL dp (Yo (Zg n).length (edg n)) (stF n a b dp fw) c (edg n) (edg n).length=stB n a b c dp fw:=rfl;have hD:Qh dp ((edg n).zip (stA n a b c dp fw))=stD n a b c dp fw:=rfl;rw[hA,hB]at e2;rw[hD,hlA]at e3;unfold stpO Zih;rw[hlB];unfold stC at*
 generalize stA n a b c dp fw=am at*
 generalize stB n a b c dp fw=br at*
 generalize stD n a b c dp fw=D at*
 generalize stF n a b dp fw=F at*
 rw[eq_model_Step];have f1:=eq_model_accelerate fu (d+13) (a:Int) (b:Int) (c:Int);have f2:=eq_model_move fu (d+13) (a:Int) (b:Int) (c:Int);have g1:=eq_model_accelerate_1 fu (d+12) (n:Int) (C.sl dp.length (ints dp)) (C.sl fw.length (ints fw)) C.nl [C.v (.int .i64 (a:Int)),C.v (.int .i64 (b:Int)),C.v (.int .i64 (c:Int))];have g2:=eq_model_move_1 fu (d+12) (n:Int) (C.sl dp.length (ints dp)) (C.sl F.length (ints F)) C.nl [C.v (.int .i64 (a:Int)),C.v (.int .i64 (b:Int)),C.v (.int .i64 (c:Int))];simp(disch:=omega)only[Zc,QM,QD,e1,Zs4,Zs8,Zs3,Nat.reduceAdd]at g1;cases ho:Vr 0 16777216 D with
 |true=>
  rw[ho]at e3;simp(disch:=omega)only[Zc,QM,QD,e2,e3,Zs4,Zs8,Zs3,Nat.reduceAdd]at g2;simp(disch:=omega)only[Zc,QM,QD,f1,f2];rw[eq_model_chain_model_progress_do];simp(disch:=omega)only[Zc,QM,QD,g1,g2,Zs4,Zs8,Zs3,Nat.reduceAdd]
 |false=>
  rw[ho]at e3;simp(disch:=omega)only[Zc,QM,QD,e2,e3,Zs4,Zs8,Zs3,Nat.reduceAdd]at g2;simp(disch:=omega)only[Zc,QM,QD,f1,f2];rw[eq_model_chain_model_progress_do];simp(disch:=omega)only[Zc,QM,QD,g1,g2,Zs4,Zs8,Zs3,Nat.reduceAdd]
end
end Go.Proofs.YtjmempcalaliiaaGreatDoor
/- The linearised step: plain laws. -/
namespace Go.Proofs.YtjmempcalaliiaaGreatDoor
open Go Go.PM Go.Grid
def sc (a b c:Nat):Nat:=30*2^(max a b+c)
def scA (a b c:Nat):Nat:=30*2^(max a b+c-a)
def scB (a b c:Nat):Nat:=30*2^(max a b+c-b)
def tp (a b:Nat):Nat:=30*2^max a b-30*2^(max a b-a)
def tr (a b:Nat):Nat:=30*2^(max a b-b)
theorem pw (m k s:Nat) (h:s<=m) (e:k=m-s):30*2^m=30*2^k*2^s:=by
 rw[Nat.mul_assoc,<-Nat.pow_add,e,Nat.sub_add_cancel h]
theorem sc_a (a b c:Nat):sc a b c=scA a b c*2^a:=pw _ _ _ (by omega) rfl
theorem sc_b (a b c:Nat):sc a b c=scB a b c*2^b:=pw _ _ _ (by omega) rfl
theorem Zri (a b c:Nat):scB a b c=tr a b*2^c:=pw _ _ _ (by omega) (by omega)
theorem Bj (a b c:Nat):scA a b c<=sc a b c:=by
 unfold scA sc;exact Zxb _ (Zwb (by omega) (by omega))
theorem Zcf (a b c:Nat):scB a b c<=sc a b c:=by
 unfold scB sc;exact Zxb _ (Zwb (by omega) (by omega))
theorem Zrj (a b c:Nat):sc a b c-scA a b c=tp a b*2^c:=by
 have h1:sc a b c=30*2^max a b*2^c:=pw _ _ _ (by omega) (by omega);have h2:scA a b c=30*2^(max a b-a)*2^c:=pw _ _ _ (by omega) (by omega);rw[h1,h2,tp,Nat.sub_mul]
theorem Ny {a b c:Nat} (ha:a<=4) (hb:b<=4) (hc:c<=4):sc a b c<=7680:=by
 have h:2^(max a b+c)<=2^8:=Zwb (by omega) (by omega);unfold sc;omega
theorem Zqj (x q:Int) (s:Nat):shr (x+q*2^s) s=shr x s+q:=by
 unfold shr;have hp:(0:Int)<2^s:=Int.pow_pos (by omega);rw[Zwd _ (by omega),Zwd _ (by omega),Int.add_mul_ediv_right _ _ (by omega)]
theorem Ld (q:Int) (s:Nat):shr (q*2^s) s=q:=by
 have:=Zqj 0 q s;rw[Zwh]at this;rw[this];unfold shr;rw[Int.zero_fdiv];omega
theorem Le (s:Nat):((2^s:Nat):Int)=2^s:=by simp
theorem sc_aI (a b c:Nat):((sc a b c:Nat):Int)=(scA a b c:Int)*2^a:=by rw[sc_a,Zve,Le]
theorem Zrk (a b c:Nat):((sc a b c:Nat):Int)=(scB a b c:Int)*2^b:=by rw[sc_b,Zve,Le]
theorem Zoa (a b c:Nat):((scB a b c:Nat):Int)=(tr a b:Int)*2^c:=by rw[Zri,Zve,Le]
theorem Zob (a b c:Nat):((sc a b c:Nat):Int)-(scA a b c:Int)=(tp a b:Int)*2^c:=by
 have h1:=Bj a b c;have h2:=congrArg (λn:Nat=>(n:Int)) (Zrj a b c);simp only[Zve,Le]at h2;omega
def tF (a b c:Nat) (hd hf:List Int) (E:List (Int×Int)) (j:Nat):Int:=((sc a b c:Int)-scA a b c)*at0 hf j+(scB a b c:Int)*(at0 hd (E.getD j (0,0)).1.toNat-at0 hd (E.getD j (0,0)).2.toNat)
def tG (a b:Nat) (hd hf:List Int) (E:List (Int×Int)) (j:Nat):Int:=(tp a b:Int)*at0 hf j+(tr a b:Int)*(at0 hd (E.getD j (0,0)).1.toNat-at0 hd (E.getD j (0,0)).2.toNat)
theorem Zoc (a b c:Nat) (hd hf:List Int) (E:List (Int×Int)) (j:Nat):tF a b c hd hf E j=tG a b hd hf E j*2^c:=by
 unfold tF tG;rw[Zob,Zoa,Int.add_mul]
 congr 1
 ·rw[Zwk,Zwe (2^c),<-Zwk]
 ·rw[Zwk,Zwe (2^c),<-Zwk]
def tAm (a b c:Nat) (dg br hd hf:List Int) (E:List (Int×Int)) (j:Nat):Int:=
 if at0 br j=1 then Int.tdiv (sc a b c) (at0 dg (E.getD j (0,0)).1.toNat)*at0 hd (E.getD j (0,0)).1.toNat
 else if at0 br j= -1 then -(Int.tdiv (sc a b c) (at0 dg (E.getD j (0,0)).2.toNat)*at0 hd (E.getD j (0,0)).2.toNat)
 else tG a b hd hf E j
def tFL (a b c:Nat) (hd hf:List Int) (E:List (Int×Int)) (k:Nat):List Int:=(List.range k).map (tF a b c hd hf E)
def tAL (a b c:Nat) (dg br hd hf:List Int) (E:List (Int×Int)) (k:Nat):List Int:=(List.range k).map (tAm a b c dg br hd hf E)
def tDL (a b c:Nat) (dg br hd hf:List Int) (E:List (Int×Int)):List Int:=Qh (hd.map λx=>(sc a b c:Int)*x) (E.zip (tAL a b c dg br hd hf E E.length))
theorem Ky (a b c:Nat) (hd hf:List Int) (E:List (Int×Int)) (k:Nat):(tFL a b c hd hf E k).length=k:=by simp[tFL]
theorem Bl (a b c:Nat) (dg br hd hf:List Int) (E:List (Int×Int)) (k:Nat):(tAL a b c dg br hd hf E k).length=k:=by simp[tAL]
theorem Kz (a b c:Nat) (dg br hd hf:List Int) (E:List (Int×Int)):(tDL a b c dg br hd hf E).length=hd.length:=by unfold tDL;rw[T7,Zte]
theorem Zcg (f:Int->Int) (h0:f 0=0) (l:List Int) (k:Nat):at0 (l.map f) k=f (at0 l k):=by
 unfold at0;rw[Ztj,Ztk,Ztj];cases l[k]? with
 |none=>exact h0.symm
 |some v=>rfl
theorem Zqk {E:List (Int×Int)} (f:Nat->Int) (i:Nat):net (E.zip ((List.range E.length).map f)) i=((List.range E.length).map λj=>(if i=(E.getD j (0,0)).1.toNat then -(f j)else 0)+(if i=(E.getD j (0,0)).2.toNat then f j else 0)).sum:=by
 rw[Zkw (by simp)];unfold net;rw[Zwt];refine congrArg List.sum (Zvc λj hj=> ?_);have hj:=Zus.1 hj;show(if i=(E.getD j (0,0)).1.toNat then -(at0 ((List.range E.length).map f) j)else 0)+(if i=(E.getD j (0,0)).2.toNat then at0 ((List.range E.length).map f) j else 0)=_;rw[Qd f _ hj]
theorem Nn (f g:Nat->Int): ∀n,((List.range n).map λj=>f j+g j).sum=((List.range n).map f).sum+((List.range n).map g).sum
 |0=>rfl
 |n+1=>by
  simp only[Zun,Zup,Zxt,Nn f g n,Zt7,Zwf,Zw4,List.sum_nil];omega
theorem Zso (a b c:Nat) (dg br hd hf:List Int) (E:List (Int×Int)) {i:Nat} (hi:i<hd.length):at0 (tDL a b c dg br hd hf E) i=(sc a b c:Int)*at0 hd i+net (E.zip (tAL a b c dg br hd hf E E.length)) i:=by
 unfold tDL;rw[Zcd _ _ _ (by rw[Zte];exact hi),Zcg (λx=>(sc a b c:Int)*x) (Zvt _)]
end Go.Proofs.YtjmempcalaliiaaGreatDoor
/- Changes, branches, the linearised step's function. -/
namespace Go.Proofs.YtjmempcalaliiaaGreatDoor
open Go Go.PM Go.Grid
attribute [local congr] Zu Zv Zw Yd Zx Zy Ye Yf Yg Yh Zz Z0 Yi Yx Yy Yz Y1 Y2 Y5 Y6 Y7 Y8 Y4 Z2 Z3 Y9 Z4 Z5 Zk Z6 Z1
def Hc (E:List (Int×Int)) (k:Nat):Int:=(E.map λe=>(if k=e.1.toNat then(1:Int)else 0)+(if k=e.2.toNat then 1 else 0)).sum
theorem Px (e:Int×Int) (E:List (Int×Int)) (k:Nat):Hc (e::E) k=(if k=e.1.toNat then(1:Int)else 0)+(if k=e.2.toNat then 1 else 0)+Hc E k:=by unfold Hc;rw[Zt7,Zw4]
theorem Zch (k:Nat): ∀E,0<=Hc E k
 | []=>by simp[Hc]
 |e::E=>by
  rw[Px];have:=Zch k E
  repeat' split
  all_goals omega
theorem W3 (k:Nat): ∀(E:List (Int×Int)) (j:Nat),Hc (E.take j) k<=Hc E k
 | [],j=>by simp
 |e::E,0=>by rw[Zuz];exact Zch k _
 |e::E,j+1=>by
  rw[Zvp,Px,Px];have:=W3 k E j;omega
theorem Zod (k:Nat): ∀(E:List (Int×Int)) (l:List Int),k<l.length->at0 (E.foldl (λl e=>mv1 l e 1 1) l) k=at0 l k+Hc E k
 | [],l,_=>by simp[Hc]
 |e::E,l,h=>by
  rw[Zu1,Zod k E _ (by rw[Rh];exact h),Zca,Px];by_cases h1:k=e.1.toNat<;>by_cases h2:k=e.2.toNat<;>simp only[h,h1,h2,and_true,if_true,if_false,false_and,true_and]<;>omega
theorem Zoe {N:Nat} (E:List (Int×Int)) {k:Nat} (hk:k<N):at0 (Yo N E) k=Hc E k:=by
 unfold Yo;rw[Zod k E _ (by rw[Zww];exact hk),Zcb];omega
theorem Zii {m:Int} (hm:0<=m) (k:Nat): ∀P:List ((Int×Int)×Int),(∀p∈P,-m<=p.2/\p.2<=m)-> -(m*Hc (P.map (·.1)) k)<=net P k/\net P k<=m*Hc (P.map (·.1)) k
 | [],_=>by simp[net,Hc]
 |p::P,h=>by
  have h1:=h p (Zub ..);have h2:=Zii hm k P λq hq=>h q (Ztq _ hq);rw[Zt7,Px,Ze0,Zw8,Zw8];by_cases q1:k=p.1.1.toNat<;>by_cases q2:k=p.1.2.toNat
  ·rw[if_pos q1,if_pos q2,if_pos q1,if_pos q2,Int.mul_one];omega
  ·rw[if_pos q1,if_neg q2,if_pos q1,if_neg q2,Int.mul_one,Zvt];omega
  ·rw[if_neg q1,if_pos q2,if_neg q1,if_pos q2,Int.mul_one,Zvt];omega
  ·rw[if_neg q1,if_neg q2,if_neg q1,if_neg q2,Zvt];omega
theorem Zci (E:List (Int×Int)) (am:List Int) (h:am.length=E.length) (j:Nat):((E.zip am).take j).map (·.1)=E.take j:=by
 rw[Zxo,List.map_fst_zip (by omega)]
theorem Zsp {n:Nat} (hn:n=1\/n=2): ∀v∈Yo (Zg n).length (edg n),v=5\/v=6:=by
 have h:((Yo (Zg n).length (edg n)).all λv=>decide (v=5\/v=6))=true:=by rcases hn with rfl|rfl<;>kernel_rfl
 intro v hv;exact of_decide_eq_true (Ztm.1 h v hv)
theorem Hd {n:Nat} (hn:n=1\/n=2) {k:Nat} (hk:k<(Zg n).length):at0 (Yo (Zg n).length (edg n)) k=5\/at0 (Yo (Zg n).length (edg n)) k=6:=by
 rw[Ry (by rw[T8];exact hk)];exact Zsp hn _ (Zt0 _)
theorem Zg8 (a b c:Nat) {v:Int} (h:v=5\/v=6):(sc a b c:Int)=Int.tdiv (sc a b c) v*v/\0<=Int.tdiv (sc a b c) v/\Int.tdiv (sc a b c) v<=sc a b c:=by
 unfold sc;generalize 2^(max a b+c)=x;rw[Zwc (by omega)];rcases h with rfl|rfl<;>omega
theorem Rj {p x m:Int} {P:Int} (hp:0<=p/\p<=P) (hx: -m<=x/\x<=m) (hm:0<=m): -(P*m)<=p*x/\p*x<=P*m:=by
 have h1:p*x<=p*m:=Zv5 hx.2 hp.1;have h2:p* -m<=p*x:=Zv5 hx.1 hp.1;have h3:p*m<=P*m:=Int.mul_le_mul_of_nonneg_right hp.2 hm;rw[Int.mul_neg]at h2;omega
theorem Zof {a b c:Nat} (ha:a<=4) (hb:b<=4) (hc:c<=4) {hd hf:List Int} {E:List (Int×Int)} {m:Int} (hm:0<=m) (h1: ∀i,-m<=at0 hd i/\at0 hd i<=m) (h2: ∀i,-m<=at0 hf i/\at0 hf i<=m) (j:Nat): -(23040*m)<=tF a b c hd hf E j/\tF a b c hd hf E j<=23040*m:=by
 unfold tF;have s1:=Ny ha hb hc;have s2:=Bj a b c;have s3:=Zcf a b c;have x1:=h1 (E.getD j (0,0)).1.toNat;have x2:=h1 (E.getD j (0,0)).2.toNat;have m1:=Rj (p:=(sc a b c:Int)-scA a b c) (P:=7680) (by omega) (h2 j) hm;have m2:=Rj (p:=(scB a b c:Int)) (P:=7680) (x:=at0 hd (E.getD j (0,0)).1.toNat-at0 hd (E.getD j (0,0)).2.toNat) (m:=2*m) (by omega) (by omega) (by omega);omega
theorem Zog {a b c:Nat} (ha:a<=4) (hb:b<=4) (hc:c<=4) {n:Nat} (hn:n=1\/n=2) {br hd hf:List Int} {m:Int} (hm:0<=m) (h1: ∀i,-m<=at0 hd i/\at0 hd i<=m) (h2: ∀i,-m<=at0 hf i/\at0 hf i<=m) {j:Nat} (hj:j<(edg n).length):
  -(23040*m)<=tAm a b c (Yo (Zg n).length (edg n)) br hd hf (edg n) j/\tAm a b c (Yo (Zg n).length (edg n)) br hd hf (edg n) j<=23040*m:=by
 have hin:=Re (J8 hn) _ (Zt0 hj);have s1:=Ny ha hb hc;have q1:=Zg8 a b c (Hd hn (k:=(edg n)[j].1.toNat) (by omega));have q2:=Zg8 a b c (Hd hn (k:=(edg n)[j].2.toNat) (by omega));have m1:=Rj (P:=7680) ⟨q1.2.1,by omega⟩ (h1 (edg n)[j].1.toNat) hm;have m2:=Rj (P:=7680) ⟨q2.2.1,by omega⟩ (h1 (edg n)[j].2.toNat) hm;have m3:=Zof ha hb hc (E:=edg n) hm h1 h2 j;have e3:tG a b hd hf (edg n) j=shr (tF a b c hd hf (edg n) j) c:=by rw[Zoc,Ld]
 have m4:=Zg6 c (m:=23040*m) (by omega) m3;have m5: -(23040*m)<=tG a b hd hf (edg n) j:=by
  have h0:tG a b hd hf (edg n) j*2^c=tF a b c hd hf (edg n) j:=(Zoc ..).symm;have hp:(1:Int)<=2^c:=by
   have:=Zxy (n:=c) (show 0<2 by omega);have e:=Le c;omega
  by_cases hneg:tG a b hd hf (edg n) j<0
  ·have:tG a b hd hf (edg n) j*2^c<=tG a b hd hf (edg n) j*1:=Zw9 (by omega) hp;omega
  ·omega
 unfold tAm;rw[Qi _ hj];split
 ·omega
 ·split
  ·omega
  ·rw[e3]at m5⊢;omega
section
variable (fu d:Nat) (hf:18446744073709551616<=fu)
theorem Zg9 (v lo hi:Int):cl fu (d+1) fn_tangent_within [I v,I lo,I hi] []=OK (B (decide (lo<=v)&&decide (v<=hi))):=by
 rw[eq_tangent_within];by_cases h:lo<=v
 ·simp(disch:=omega)only[Zc,QM,QD]
 ·simp(disch:=omega)only[Zc,QM,QD]
theorem Ag (v:Int) (m:Nat) (hm:m<=1000000000000000000):cl fu (d+2) fn_tangent_outside_1 [I v,V.c (C.cp [C.v (.int .i64 (m:Int))])] []=OK (B (!(decide (-(m:Int)<=v)&&decide (v<=(m:Int))))):=by
 have e:=Zg9 fu d v (-(m:Int)) m;have w0:IntKind.i64.wrap (0-(m:Int))= -(m:Int):=by rw[Xj (by omega) (by omega)];omega
 generalize (decide (-(m:Int)<=v)&&decide (v<=(m:Int)))=b at*
 rw[eq_tangent_outside_1];simp only[Zc,QM,w0,e]
include hf
theorem Vp (l:List Int) (hl:l.length<=1000000) (m:Nat) (hm:m<=1000000000000000000):cl fu (d+5) fn_tangent_outside [V.c (C.sl l.length (ints l)),I (m:Int)] []=OK (B (Vr (-(m:Int)) m l)):=by
 have h1:=λv=>Ag fu d v m hm;rw[eq_tangent_outside,eq1_slices_ContainsFunc_sint_int,eq1_slices_IndexFunc_sint_int];rcases R6 (λj=> ∃h:j<l.length,(!(decide (-(m:Int)<=l[j])&&decide (l[j]<=(m:Int))))=true) l.length with hn|⟨k,hk,⟨hk2,hb⟩,hn⟩
 ·have hall:Vr (-(m:Int)) m l=false:=by
   unfold Vr;rw[Zu9];intro v hv;obtain⟨j,hj,rfl⟩:=Zxc hv;exact λe=>hn j hj ⟨hj,e⟩
  rw[hall,Zs (λj:Nat=>((0:Int),(j:Int),())) 0 ((0:Int),((l.length:Nat):Int),()) l.length ?_ ?_ ?_ (by omega)]
  ·simp(disch:=omega)only[Zc,QM,QD]
  ·rfl
  ·intro j hj;have hia:=ints_at l hj;have hv:=hn j hj;have hv:(!(decide (-(m:Int)<=l[j])&&decide (l[j]<=(m:Int))))=false:=by
    cases e:(!(decide (-(m:Int)<=l[j])&&decide (l[j]<=(m:Int))))
    ·rfl
    ·exact absurd ⟨hj,e⟩ hv
   have h1:=h1 l[j];rw[hv]at h1;simp(disch:=omega)only[Zc,QM,QD,Zs5,Ztc,hia,h1];rfl
  ·simp(disch:=omega)only[Zc,QM,QD]
 ·have hall:Vr (-(m:Int)) m l=true:=by
   unfold Vr;rw[Zw2];exact⟨l[k],Zt0 hk2,hb⟩
  rw[hall,Zs (λj:Nat=>((0:Int),(j:Int),())) 1 ((k:Int),(k:Int),()) k ?_ ?_ ?_ (by omega)]
  ·simp(disch:=omega)only[Zc,QM,QD]
  ·rfl
  ·intro j hj;have hjl:j<l.length:=by omega
   have hia:=ints_at l hjl;have hv:=hn j hj;have hv:(!(decide (-(m:Int)<=l[j])&&decide (l[j]<=(m:Int))))=false:=by
    cases e:(!(decide (-(m:Int)<=l[j])&&decide (l[j]<=(m:Int))))
    ·rfl
    ·exact absurd ⟨hjl,e⟩ hv
   have h1:=h1 l[j];rw[hv]at h1;simp(disch:=omega)only[Zc,QM,QD,Zs5,Ztc,hia,h1];rfl
  ·have hia:=ints_at l hk2;have h1:=h1 l[k];rw[hb]at h1;simp(disch:=omega)only[Zc,QM,QD,Zs5,Ztc,hia,h1]
theorem W4 {bs:List Int} (hb:bytes bs) {i:Nat} (hi:i<=1000) (n:Nat) (h:Yc n) (most:Nat) (hm:most<=10000000000000) (top:Int) (ht:(most:Int)<=top/\9<=top):
  ∃(hd hf:List Int) (j:Nat),hd.length=(Zg n).length/\hf.length=(edg n).length/\wid (-top) top hd/\wid (-top) top hf/\j<=1000/\cl fu (d+10) fn_synopticfield_Codes_Change [V.ptr 1000000 0,I n,I most] [Xh bs i]=some ⟨V.agg [C.sl hd.length (ints hd),C.sl hf.length (ints hf)],[Xh bs j],none⟩:=by
 have hE:=J7 fu d hf n h;have heL:=Qc h;have hNl:=Yw h;have hN22:=Bc fu (d+8) n h;obtain⟨l1,j1,hl1,hw1,hj1,e1⟩:=Lb fu (d+5) hf hb hi (Zg n).length most (by omega) hm top ht;obtain⟨l2,j2,hl2,hw2,hj2,e2⟩:=Lb fu (d+5) hf hb hj1 (edg n).length most (by omega) hm top ht;refine⟨l1,l2,j2,hl1,hl2,hw1,hw2,hj2, ?_⟩;unfold Xh at*
 generalize edg n=E at*
 generalize (Zg n).length=N at*
 rw[eq_synopticfield_Codes_Change,hE];simp(disch:=omega)only[Zc,QM,QD,hN22,e1,e2,Zs4,Zs8,Zs3,Nat.reduceAdd]
theorem Bm (a b c:Nat) (ha:1<=a/\a<=4) (hb:1<=b/\b<=4) (hc:1<=c/\c<=4):cl fu (d+7) fn_tangent_Scale [V.agg [C.v (.int .i64 (a:Int)),C.v (.int .i64 (b:Int)),C.v (.int .i64 (c:Int))]] []=OK (V.tup [I (sc a b c:Int),I 0]):=by
 have e1:=Ri fu d hf a b c ha hb hc;have hs:=Ny ha.2 hb.2 hc.2;have em:(if(b:Int)>(a:Int)then(b:Int)else(a:Int))=((max a b:Nat):Int):=by split<;>omega
 have hw:IntKind.i64.wrap (((max a b:Nat):Int)+(c:Int))=((max a b+c:Nat):Int):=by rw[Xj (by omega) (by omega)];rfl
 have hmin:min (max a b+c) (IntKind.bits .i64)=max a b+c:=by show min _ 64=_;omega
 have hsc:(30:Int)*2^(max a b+c)=(sc a b c:Int):=by unfold sc;rw[Zve,Le];rfl
 rw[eq_tangent_Scale];simp(disch:=omega)only[Zc,QM,QD,e1,em,hw,Zs5,hmin,hsc]
theorem W5 (n:Nat) (h:Yc n) (br hd hfl:List Int) (l1:br.length=(edg n).length) (l2:hd.length=(Zg n).length) (l3:hfl.length=(edg n).length) (w1:wid (-1) 1 br) (w2:wid (-1099511627776) 1099511627776 hd) (w3:wid (-1099511627776) 1099511627776 hfl):
  cl fu (d+10) fn_tangent_Check [I n,V.c (C.sl br.length (ints br)),V.agg [C.sl hd.length (ints hd),C.sl hfl.length (ints hfl)]] []=OK (I 0):=by
 have hNl:=Yw h;have heL:=Qc h;have e1:=Uj fu d hf n h;have e2:=Tr fu (d+7) n h;have e3:=Vp fu (d+4) hf br (by omega) 1 (by omega);have e4:=Vp fu (d+4) hf hd (by omega) 1099511627776 (by omega);have e5:=Vp fu (d+4) hf hfl (by omega) 1099511627776 (by omega);replace e3:cl fu (d+9) fn_tangent_outside [V.c (C.sl br.length (ints br)),I 1] []=OK (B (Vr (-1) 1 br)):=e3;replace e4:cl fu (d+9) fn_tangent_outside [V.c (C.sl hd.length (ints hd)),I 1099511627776] []=OK (B (Vr (-1099511627776) 1099511627776 hd)):=e4;replace e5:cl fu (d+9) fn_tangent_outside [V.c (C.sl hfl.length (ints hfl)),I 1099511627776] []=OK (B (Vr (-1099511627776) 1099511627776 hfl)):=e5;rw[Qo.2 w1]at e3;rw[Qo.2 w2]at e4;rw[Qo.2 w3]at e5;generalize edg n=E at*
 generalize (Zg n).length=N at*
 rw[eq_tangent_Check];simp(disch:=omega)only[Zc,QM,QD,e1,e2,e3,e4,e5]
end
end Go.Proofs.YtjmempcalaliiaaGreatDoor
/- The linearised step: what Apply comes to. -/
namespace Go.Proofs.YtjmempcalaliiaaGreatDoor
open Go Go.PM Go.Grid
attribute [local congr] Zu Zv Zw Yd Zx Zy Ye Yf Yg Yh Zz Z0 Yi Yx Yy Yz Y1 Y2 Y5 Y6 Y7 Y8 Y4 Z2 Z3 Y9 Z4 Z5 Zk Z6 Z1
theorem Zsq (a b c:Nat) (dg br hd hf:List Int) (E:List (Int×Int)) {j:Nat} (h:j<E.length):at0 (tAL a b c dg br hd hf E E.length) j=tAm a b c dg br hd hf E j:=Qd _ _ h
theorem Zoh (a b c:Nat) (hd hf:List Int) (E:List (Int×Int)) (k:Nat):tFL a b c hd hf E (k+1)=tFL a b c hd hf E k++[tF a b c hd hf E k]:=by simp[tFL,Zun]
theorem Rz {m:Int} {l:List Int} (h:wid (-m) m l) (hm:0<=m) (i:Nat): -m<=at0 l i/\at0 l i<=m:=Ug h (by omega) i
theorem Zrl (a b c:Nat):Int.fdiv (sc a b c:Int) (2^a)=scA a b c:=by rw[sc_aI];exact Ld _ _
theorem Zrm (a b c:Nat):Int.fdiv (sc a b c:Int) (2^b)=scB a b c:=by rw[Zrk];exact Ld _ _
theorem fdivC (a b c:Nat) (hd hf:List Int) (E:List (Int×Int)) (j:Nat):Int.fdiv (tF a b c hd hf E j) (2^c)=tG a b hd hf E j:=by rw[Zoc];exact Ld _ _
theorem Zoi {a b c:Nat} (ha:a<=4) (hb:b<=4) (hc:c<=4) {n:Nat} (hn:n=1\/n=2) {br hd hf:List Int} {m:Int} (hm:0<=m) (h0:hd.length=(Zg n).length) (h1: ∀i,-m<=at0 hd i/\at0 hd i<=m) (h2: ∀i,-m<=at0 hf i/\at0 hf i<=m) (j k:Nat):
  -(145920*m)<=at0 (Qh (hd.map λx=>(sc a b c:Int)*x) (((edg n).zip (tAL a b c (Yo (Zg n).length (edg n)) br hd hf (edg n) (edg n).length)).take j)) k/\at0 (Qh (hd.map λx=>(sc a b c:Int)*x) (((edg n).zip (tAL a b c (Yo (Zg n).length (edg n)) br hd hf (edg n) (edg n).length)).take j)) k<=145920*m:=by
 have s1:=Ny ha hb hc;by_cases hk:k<(Zg n).length
 ·have e:=Zcd (((edg n).zip (tAL a b c (Yo (Zg n).length (edg n)) br hd hf (edg n) (edg n).length)).take j) (hd.map λx=>(sc a b c:Int)*x) k (by rw[Zte,h0];exact hk);have m0:=Zcg (λx=>(sc a b c:Int)*x) (Zvt _) hd k;have m1:=Rj (p:=(sc a b c:Int)) (P:=7680) (by omega) (h1 k) hm;have m2:=Zii (m:=23040*m) (by omega) k (((edg n).zip (tAL a b c (Yo (Zg n).length (edg n)) br hd hf (edg n) (edg n).length)).take j) (λp hp=>by
   have hp:=Zvm hp;have hp2:=(List.of_mem_zip hp).2;unfold tAL at hp2;obtain⟨i,hi,hq⟩:=Zu5.1 hp2;rw[<-hq];exact Zog ha hb hc hn hm h1 h2 (Zus.1 hi))
  rw[Zci _ _ (Bl ..)]at m2;have m3:=W3 k (edg n) j;have m4:=Zch k ((edg n).take j);have m5:=Zoe (edg n) hk;have m6:=Hd hn hk;have m7:23040*m*Hc ((edg n).take j) k<=23040*m*6:=Zv5 (by omega) (by omega);rw[e,m0];omega
 ·have:at0 (Qh (hd.map λx=>(sc a b c:Int)*x) (((edg n).zip (tAL a b c (Yo (Zg n).length (edg n)) br hd hf (edg n) (edg n).length)).take j)) k=0:=by
   unfold at0;rw[Ztj,Zvg (by rw[T7,Zte,h0];omega)];rfl
  rw[this];omega
section
variable (fu d:Nat) (hfu:18446744073709551616<=fu)
include hfu
set_option maxHeartbeats 16000000 in
theorem Zkz (n:Nat) (hn:n=1\/n=2) (a b c:Nat) (ha:1<=a/\a<=4) (hb:1<=b/\b<=4) (hc:1<=c/\c<=4) (br hd hf:List Int) (l1:br.length=(edg n).length) (l2:hd.length=(Zg n).length) (l3:hf.length=(edg n).length) (w1:wid (-1) 1 br) (M:Int) (hM:0<=M/\M<=1099511627776) (w2:wid (-M) M hd) (w3:wid (-M) M hf):
  cl fu (d+12) fn_tangent_Apply [V.agg [C.v (.int .i64 (a:Int)),C.v (.int .i64 (b:Int)),C.v (.int .i64 (c:Int))],I n,V.c (C.sl br.length (ints br)),V.agg [C.sl hd.length (ints hd),C.sl hf.length (ints hf)]] []=OK (V.tup [V.agg [C.sl hd.length (ints (tDL a b c (Yo (Zg n).length (edg n)) br hd hf (edg n))),C.sl (edg n).length (ints (tFL a b c hd hf (edg n) (edg n).length))],I 0]):=by
 have h:=J8 hn;have hNl:=Yw h;have heL:=Qc h;have e1:=Bm fu (d+4) hfu a b c ha hb hc;have e2:=W5 fu (d+1) hfu n h br hd hf l1 l2 l3 w1 (V6 w2 (by omega) (by omega)) (V6 w3 (by omega) (by omega));have e3:=Kw fu d n h;have e4:=Uj fu (d+2) hfu n h;have hin:=Re h;have h1:=Rz w2 hM.1;have h2:=Rz w3 hM.1;have hway:=λj k=>Zoi (br:=br) ha.2 hb.2 hc.2 hn hM.1 l2 h1 h2 j k;have hAb:=λ{j:Nat} (hj:j<(edg n).length)=>Zog (br:=br) ha.2 hb.2 hc.2 hn hM.1 h1 h2 hj;have hFb:=λj=>Zof ha.2 hb.2 hc.2 (E:=edg n) hM.1 h1 h2 j;have hd56:=λ{k:Nat} (hk:k<(Zg n).length)=>Hd hn hk;have hs1:=Ny ha.2 hb.2 hc.2;have hs2:=Bj a b c;have hs3:=Zcf a b c;have hAL:=λ{j:Nat} (hj:j<(edg n).length)=>Zsq a b c (Yo (Zg n).length (edg n)) br hd hf (edg n) hj;have hAl:=Bl a b c (Yo (Zg n).length (edg n)) br hd hf (edg n) (edg n).length;have hdl:=T8 (Zg n).length (edg n);have hdiv:=λ{v:Int} (hv:v=5\/v=6)=>Zg8 a b c hv;have fA:=Zrl a b c;have fB:=Zrm a b c;have fC:=λj=>fdivC a b c hd hf (edg n) j;have ma:min a (IntKind.bits .i64)=a:=by show min a 64=a;omega
 have mb:min b (IntKind.bits .i64)=b:=by show min b 64=b;omega
 have mc:min c (IntKind.bits .i64)=c:=by show min c 64=c;omega
 have hFl:=λk=>Ky a b c hd hf (edg n) k;have hFs:=λk=>Zoh a b c hd hf (edg n) k;have hDl:(tDL a b c (Yo (Zg n).length (edg n)) br hd hf (edg n)).length=hd.length:=Kz ..;have hDD:tDL a b c (Yo (Zg n).length (edg n)) br hd hf (edg n)=Qh (hd.map λx=>(sc a b c:Int)*x) ((edg n).zip (tAL a b c (Yo (Zg n).length (edg n)) br hd hf (edg n) (edg n).length)):=rfl;have htF: ∀j,tF a b c hd hf (edg n) j=((sc a b c:Int)-scA a b c)*at0 hf j+(scB a b c:Int)*(at0 hd ((edg n).getD j (0,0)).1.toNat-at0 hd ((edg n).getD j (0,0)).2.toNat):=λj=>rfl;have htA: ∀j,tAm a b c (Yo (Zg n).length (edg n)) br hd hf (edg n) j=if at0 br j=1 then Int.tdiv (sc a b c) (at0 (Yo (Zg n).length (edg n)) ((edg n).getD j (0,0)).1.toNat)*at0 hd ((edg n).getD j (0,0)).1.toNat else if at0 br j= -1 then -(Int.tdiv (sc a b c) (at0 (Yo (Zg n).length (edg n)) ((edg n).getD j (0,0)).2.toNat)*at0 hd ((edg n).getD j (0,0)).2.toNat)else tG a b hd hf (edg n) j:=λj=>rfl
 rw[hDD];rw[hDD]at hDl;clear hDD;generalize tAL a b c (Yo (Zg n).length (edg n)) br hd hf (edg n) (edg n).length=AL at*
 generalize hdg:Yo (Zg n).length (edg n)=dg at*
 generalize hE:edg n=E at*
 generalize (Zg n).length=N at*
 have hML:=λP=>T7 P (hd.map λx=>(sc a b c:Int)*x);rw[eq_tangent_Apply];simp(disch:=omega)only[Zc,QM,QD,e1,e2,e3,e4];rw[Zs (λj:Nat=>(((j:Nat):Int),(C.nl,C.nl,()),(ints ((hd.take j).map λx=>(sc a b c:Int)*x),[],()),())) 0 (((hd.length:Nat):Int),(C.nl,C.nl,()),(ints (hd.map λx=>(sc a b c:Int)*x),[],()),()) hd.length ?_ ?_ ?_ (by omega)]
 rotate_left
 ·rfl
 ·intro j hj;have i1:=Zt hd hj;have b1:=Rj (p:=(sc a b c:Int)) (P:=7680) (by omega) (h1 j) hM.1;have hsn:ints ((hd.take j).map λx=>(sc a b c:Int)*x)++[C.v (.int .i64 ((sc a b c:Int)*at0 hd j))]=ints ((hd.take (j+1)).map λx=>(sc a b c:Int)*x):=by
   rw[Zty hj,Zup,Xx,Ry hj];rfl
  generalize hz:(sc a b c:Int)*at0 hd j=z at*
  have hlt:((hd.take j).map λx=>(sc a b c:Int)*x).length=j:=by rw[Zte,Ztx];omega
  have hlt1:((hd.take (j+1)).map λx=>(sc a b c:Int)*x).length=j+1:=by rw[Zte,Ztx];omega
  simp(disch:=omega)only[Zc,QM,QD,Zs5,Ztc,i1];rw[hz];simp(disch:=omega)only[Zc,QM,QD,Ze,hlt,hlt1,Ztl,Ztc,hsn,Ztb,Zs4,Zs8,Zs3];rfl
 ·rw[Zud];simp(disch:=omega)only[Zc,QM,QD,Ze,Zte,Ztl,Ztc,Zs8]
 have hl0:(hd.map λx=>(sc a b c:Int)*x).length=hd.length:=Zte ..;simp(disch:=omega)only[Zc,QM,QD,Ze,hl0,Ztl,Ztc,Zs8];rw[Zs (λj:Nat=>(((j:Nat):Int),(C.nl,C.nl,()),(ints (Qh (hd.map λx=>(sc a b c:Int)*x) ((E.zip AL).take j)),ints (tFL a b c hd hf E j),()),())) 0 (((E.length:Nat):Int),(C.nl,C.nl,()),(ints (Qh (hd.map λx=>(sc a b c:Int)*x) (E.zip AL)),ints (tFL a b c hd hf E E.length),()),()) E.length ?_ ?_ ?_ (by omega)]
 ·have htk1:List.take hd.length (ints (Qh (hd.map λx=>(sc a b c:Int)*x) (E.zip AL)))=ints (Qh (hd.map λx=>(sc a b c:Int)*x) (E.zip AL)):=Ztd (by rw[Ze,hDl];exact Ztg _);have htk2:List.take E.length (ints (tFL a b c hd hf E E.length))=ints (tFL a b c hd hf E E.length):=Ztd (by rw[Ze,hFl];exact Ztg _);simp(disch:=omega)only[Zc,QM,QD,Ze,hDl,hFl,Ztl,Ztc,Zs3,htk1,htk2]
 ·rfl
 ·intro j hj;have hz:j<(E.zip AL).length:=by rw[Zv8];omega
  have hin:=hin E[j] (Zt0 hj);have hjf:j<hf.length:=by omega
  have hjb:j<br.length:=by omega
  have i3:=Zt hf hjf;have i4:=Zt br hjb;have bj:=Ug w1 (by omega) j;have hst:Qh (hd.map λx=>(sc a b c:Int)*x) ((E.zip AL).take (j+1))=mv1 (Qh (hd.map λx=>(sc a b c:Int)*x) ((E.zip AL).take j)) E[j] (-(AL[j]'(by omega))) (AL[j]'(by omega)):=by rw[Zty hz,W0,Zw1]
  have hALj:=hAL hj;rw[Ry (by omega:j<AL.length)]at hALj;rw[hALj]at hst;have hAb:=hAb hj;have hFb:=hFb j;have htF:=htF j;have htA:=htA j;have hFs:=hFs j;have hFlj:=hFl j;have fC:=fC j;rw[Qi E hj]at htF htA;have hway:=hway j;have hD:=hML ((E.zip AL).take j);rw[hst,hFs];generalize tFL a b c hd hf E j=FL at*
  generalize Qh (hd.map λx=>(sc a b c:Int)*x) ((E.zip AL).take j)=D at*
  generalize hee:E[j]=e at*
  obtain⟨ea,eb⟩:=e;simp only at hin htF htA;obtain⟨x,rfl⟩: ∃x:Nat,ea=x:=⟨ea.toNat,by omega⟩;obtain⟨y,rfl⟩: ∃y:Nat,eb=y:=⟨eb.toNat,by omega⟩;rw[Zs5,Zs5]at htF htA;have hea:=Lw Xf hj;rw[hee,show edC ((x:Int),(y:Int))=[C.v (.int .i64 (x:Int)),C.v (.int .i64 (y:Int))] from rfl]at hea;have i5:=Zt hd (i:=x) (by omega);have i6:=Zt hd (i:=y) (by omega);have i7:=Zt dg (i:=x) (by omega);have i8:=Zt dg (i:=y) (by omega);have bx:=h1 x;have by':=h1 y;have bf:=h2 j;have dx:=hd56 (k:=x) (by omega);have dy:=hd56 (k:=y) (by omega);have qx:=hdiv dx;have qy:=hdiv dy;have p1:=Rj (p:=(sc a b c:Int)-scA a b c) (P:=7680) (by omega) bf hM.1;have p2:=Rj (p:=(scB a b c:Int)) (P:=7680) (x:=at0 hd x-at0 hd y) (m:=2*M) (by omega) (by omega) (by omega);have p3:=Rj (P:=7680) ⟨qx.2.1,by omega⟩ bx hM.1;have p4:=Rj (P:=7680) ⟨qy.2.1,by omega⟩ by' hM.1;have d1:=Zt D (i:=x) (by omega);have hm:mv1 D ((x:Int),(y:Int)) (-(tAm a b c dg br hd hf E j)) (tAm a b c dg br hd hf E j)=Qg (Qg D x (-(tAm a b c dg br hd hf E j))) y (tAm a b c dg br hd hf E j):=by unfold mv1;rw[Zs5,Zs5]
  rw[hm];generalize tAm a b c dg br hd hf E j=A at*
  generalize tF a b c hd hf E j=F at*
  generalize tG a b hd hf E j=G at*
  have b1:=hway x;have b2:=hway y;have pb1:=Su D (i:=x) (by omega) (-A);have hB:=X4 D x (-A);have hBa:=Mx D x (-A) y;have b3: -(145920*M)-23040*M<=at0 (Qg D x (-A)) y/\at0 (Qg D x (-A)) y<=145920*M+23040*M:=by
   split at hBa<;>omega
  generalize Qg D x (-A)=D1 at*
  have d2:=Zt D1 (i:=y) (by omega);have pb2:=Su D1 (i:=y) (by omega) A;have hB2:=X4 D1 y A;generalize Qg D1 y A=D2 at*
  have e0:at0 D x-A=at0 D x+ -A:=by omega
  generalize hP1:((sc a b c:Int)-scA a b c)*at0 hf j=P1 at*
  generalize hP2:(scB a b c:Int)*(at0 hd x-at0 hd y)=P2 at*
  generalize hQx:Int.tdiv (sc a b c:Int) (at0 dg x)*at0 hd x=Qx at*
  generalize hQy:Int.tdiv (sc a b c:Int) (at0 dg y)*at0 hd y=Qy at*
  rcases(show at0 br j=1\/at0 br j= -1\/at0 br j=0 by omega)with q|q|q
  ·rw[q]at htA i4;rw[if_pos rfl]at htA;subst htA;simp(disch:=omega)only[Zc,QM,QD,Zt1,Zt3,Zs5,Ztc,Ztl,Zs3,hea,i3,i5,i6,fA,fB,ma,mb,mc,hP1,hP2,<-htF,i4,i7,i8,hQx,hQy,fC,Ze,hD,hl0,hFlj,d1,e0,pb1,hB,d2,pb2,hB2,Xx,Ztb,Zs4,Zs8];rfl
  ·rw[q]at htA i4;rw[if_neg (by decide),if_pos rfl]at htA;have n0:0-Qy=A:=by omega
   simp(disch:=omega)only[Zc,QM,QD,Zt1,Zt3,Zs5,Ztc,Ztl,Zs3,hea,i3,i5,i6,fA,fB,ma,mb,mc,hP1,hP2,<-htF,i4,i7,i8,hQx,hQy,fC,Ze,hD,hl0,hFlj,d1,e0,pb1,hB,d2,pb2,hB2,Xx,Ztb,Zs4,Zs8,n0];rfl
  ·rw[q]at htA i4;rw[if_neg (by decide),if_neg (by decide)]at htA;subst htA;simp(disch:=omega)only[Zc,QM,QD,Zt1,Zt3,Zs5,Ztc,Ztl,Zs3,hea,i3,i5,i6,fA,fB,ma,mb,mc,hP1,hP2,<-htF,i4,i7,i8,hQx,hQy,fC,Ze,hD,hl0,hFlj,d1,e0,pb1,hB,d2,pb2,hB2,Xx,Ztb,Zs4,Zs8];rfl
 ·rw[Ztd (l:=E.zip AL) (by rw[Zv8];omega)];simp(disch:=omega)only[Zc,QM,QD,Ze,hDl,hFl,Ztl,Ztc]
end
end Go.Proofs.YtjmempcalaliiaaGreatDoor
/- TangentLinear answers true. -/
namespace Go.Proofs.YtjmempcalaliiaaGreatDoor
open Go Go.PM Go.Grid
attribute [local congr] Zu Zv Zw Yd Zx Zy Ye Yf Yg Yh Zz Z0 Yi Yx Yy Yz Y1 Y2 Y5 Y6 Y7 Y8 Y4 Z2 Z3 Y9 Z4 Z5 Zk Z6 Z1
theorem Zql {a b c:Nat} (ha:a<=4) (hb:b<=4) (hc:c<=4) {n:Nat} (hn:n=1\/n=2) {br hd hf:List Int} {m:Int} (hm:0<=m) (h0:hd.length=(Zg n).length) (h1: ∀i,-m<=at0 hd i/\at0 hd i<=m) (h2: ∀i,-m<=at0 hf i/\at0 hf i<=m):wid (-(145920*m)) (145920*m) (tDL a b c (Yo (Zg n).length (edg n)) br hd hf (edg n)):=Eo λk _=>by
 have:=Zoi (br:=br) ha hb hc hn hm h0 h1 h2 ((edg n).zip (tAL a b c (Yo (Zg n).length (edg n)) br hd hf (edg n) (edg n).length)).length k;rw[Zud]at this;exact this
theorem Zqm {a b c:Nat} (ha:a<=4) (hb:b<=4) (hc:c<=4) {hd hf:List Int} {E:List (Int×Int)} {m:Int} (hm:0<=m) (h1: ∀i,-m<=at0 hd i/\at0 hd i<=m) (h2: ∀i,-m<=at0 hf i/\at0 hf i<=m) (k:Nat):wid (-(23040*m)) (23040*m) (tFL a b c hd hf E k):=λv hv=>by
 unfold tFL at hv;obtain⟨j,_,rfl⟩:=Zu5.1 hv;exact Zof ha hb hc hm h1 h2 j
section
variable (fu d:Nat) (hfu:18446744073709551616<=fu)
include hfu
end
end Go.Proofs.YtjmempcalaliiaaGreatDoor
/- Both programs' checks, at any numbers. -/
namespace Go.Proofs.YtjmempcalaliiaaGreatDoor
open Go Go.PM Go.Grid
attribute [local congr] Zu Zv Zw Yd Zx Zy Ye Yf Yg Yh Zz Z0 Yi Yx Yy Yz Y1 Y2 Y5 Y6 Y7 Y8 Y4 Z2 Z3 Y9 Z4 Z5 Zk Z6 Z1
section
variable (fu d:Nat) (hf:18446744073709551616<=fu)
include hf
omit hf in
theorem Ze2 (n:Int) (h:n<1\/8<n):cl fu (d+1) fn_mesh_Frequency [I n] []=OK (B false):=by
 rw[eq_mesh_Frequency];rcases h with h|h
 ·simp(disch:=omega)only[Zc,QM,QD]
 ·simp(disch:=omega)only[Zc,QM,QD]
omit hf in
theorem He (n:Int) (h:n<1\/8<n):cl fu (d+2) fn_grid_Edges [I n] []=OK (V.tup [V.c C.nl,I 1]):=by
 have e:=Ze2 fu d n h;rw[eq_grid_Edges,e];simp(disch:=omega)only[Zc,QM,QD]
end
end Go.Proofs.YtjmempcalaliiaaGreatDoor
/- Shifted states, clipped flows, and the step of a changed state. -/
namespace Go.Proofs.YtjmempcalaliiaaGreatDoor
open Go Go.PM Go.Grid
attribute [local congr] Zu Zv Zw Yd Zx Zy Ye Yf Yg Yh Zz Z0 Yi Yx Yy Yz Y1 Y2 Y5 Y6 Y7 Y8 Y4 Z2 Z3 Y9 Z4 Z5 Zk Z6 Z1
section
variable (fu d:Nat) (hfu:18446744073709551616<=fu)
include hfu
end
end Go.Proofs.YtjmempcalaliiaaGreatDoor
/- The scale and the check of linearised steps, at any numbers, in both programs. -/
namespace Go.Proofs.YtjmempcalaliiaaGreatDoor
open Go Go.PM Go.Grid
attribute [local congr] Zu Zv Zw Yd Zx Zy Ye Yf Yg Yh Zz Z0 Yi Yx Yy Yz Y1 Y2 Y5 Y6 Y7 Y8 Y4 Z2 Z3 Y9 Z4 Z5 Zk Z6 Z1
def isCh (n:Int) (br hd hf:List Int):Prop:= ∃m:Nat,n=m/\Yc m/\hd.length=(Zg m).length/\hf.length=(edg m).length/\br.length=(edg m).length/\wid (-1) 1 br/\wid (-1099511627776) 1099511627776 hd/\wid (-1099511627776) 1099511627776 hf
section
variable (fu d:Nat) (hf:18446744073709551616<=fu)
include hf
set_option maxHeartbeats 1000000 in
theorem Zha (n:Int) (br:List Int) {c1 c2:C} {dp fw:List Int} (h1:isL c1 dp) (h2:isL c2 fw) (l0:br.length<=1000000) (l1:dp.length<=1000000) (l2:fw.length<=1000000):
  (isCh n br dp fw->cl fu (d+10) fn_tangent_Check [I n,V.c (C.sl br.length (ints br)),V.agg [c1,c2]] []=OK (I 0))/\(¬isCh n br dp fw->cl fu (d+10) fn_tangent_Check [I n,V.c (C.sl br.length (ints br)),V.agg [c1,c2]] []=OK (I 1)):=by
 have o0:=Vp fu (d+4) hf br l0 1 (by omega);have o1:=Vp fu (d+4) hf dp l1 1099511627776 (by omega);have o2:=Vp fu (d+4) hf fw l2 1099511627776 (by omega);replace o0:cl fu (d+9) fn_tangent_outside [V.c (C.sl br.length (ints br)),I 1] []=OK (B (Vr (-1) 1 br)):=o0;replace o1:cl fu (d+9) fn_tangent_outside [V.c (C.sl dp.length (ints dp)),I 1099511627776] []=OK (B (Vr (-1099511627776) 1099511627776 dp)):=o1;replace o2:cl fu (d+9) fn_tangent_outside [V.c (C.sl fw.length (ints fw)),I 1099511627776] []=OK (B (Vr (-1099511627776) 1099511627776 fw)):=o2;by_cases hn:1<=n/\n<=8
 ·obtain⟨m,rfl⟩: ∃m:Nat,n=m:=⟨n.toNat,by omega⟩;have h:Yc m:=by unfold Yc;omega
  have heL:=Qc h;have hNl:=Yw h;have e1:=Uj fu d hf m h;have e2:=Tr fu (d+7) m h;have key:cl fu (d+10) fn_tangent_Check [I m,V.c (C.sl br.length (ints br)),V.agg [c1,c2]] []=OK (I (if dp.length=(Zg m).length/\fw.length=(edg m).length/\br.length=(edg m).length/\Vr (-1) 1 br=false/\Vr (-1099511627776) 1099511627776 dp=false/\Vr (-1099511627776) 1099511627776 fw=false then 0 else 1)):=by
   generalize edg m=E at*
   generalize (Zg m).length=N at*
   rw[eq_tangent_Check];have n1:=h1.1;have n2:=h2.1;have s1:=λ{R:Type} (k:Nat->List C->Option R)=>h1.2 k;have s2:=λ{R:Type} (k:Nat->List C->Option R)=>h2.2 k;simp(disch:=omega)only[Zc,QM,QD,e1];rw[s1];simp(disch:=omega)only[Zc,QM,QD,e2];by_cases q1:dp.length=N
   ·simp(disch:=omega)only[Zc,QM,QD];rw[s2];simp(disch:=omega)only[Zc,QM,QD];by_cases q2:fw.length=E.length
    ·simp(disch:=omega)only[Zc,QM,QD];by_cases q5:br.length=E.length
     ·simp(disch:=omega)only[Zc,QM,QD,o0];cases q6:Vr (-1) 1 br with
      |true=>
       rw[if_neg (λq=>by cases q.2.2.2.1)];simp(disch:=omega)only[Zc,QM,QD]
      |false=>
       simp(disch:=omega)only[Zc,QM,QD,n1,o1];cases q3:Vr (-1099511627776) 1099511627776 dp with
       |true=>
        rw[if_neg (λq=>by cases q.2.2.2.2.1)];simp(disch:=omega)only[Zc,QM,QD]
       |false=>
        simp(disch:=omega)only[Zc,QM,QD,n2,o2];cases q4:Vr (-1099511627776) 1099511627776 fw with
        |true=>
         rw[if_neg (λq=>by cases q.2.2.2.2.2)];simp(disch:=omega)only[Zc,QM,QD]
        |false=>
         rw[if_pos ⟨q1,q2,q5,by simp,by simp,by simp⟩];simp(disch:=omega)only[Zc,QM,QD]
     ·rw[if_neg (λq=>q5 q.2.2.1)];simp(disch:=omega)only[Zc,QM,QD]
    ·rw[if_neg (λq=>q2 q.2.1)];simp(disch:=omega)only[Zc,QM,QD]
   ·rw[if_neg (λq=>q1 q.1)];simp(disch:=omega)only[Zc,QM,QD]
  constructor
  ·rintro ⟨k,hk,hfk,v1,v2,v3,v4,v5,v6⟩
   obtain rfl:m=k:=by omega
   rw[key,if_pos ⟨v1,v2,v3,Qo.2 v4,Qo.2 v5,Qo.2 v6⟩]
  ·intro hb;rw[key,if_neg (λq=>hb ⟨m,rfl,h,q.1,q.2.1,q.2.2.1,Qo.1 q.2.2.2.1,Qo.1 q.2.2.2.2.1,Qo.1 q.2.2.2.2.2⟩)]
 ·have e1:=He fu (d+7) n (by omega);refine⟨λ⟨m,hm,hfm,_⟩=>absurd (by unfold Yc at hfm;omega) hn,λ_=> ?_⟩;rw[eq_tangent_Check];simp(disch:=omega)only[Zc,QM,QD,e1]
end
end Go.Proofs.YtjmempcalaliiaaGreatDoor
/- The transposed step, in both programs. -/
namespace Go.Proofs.YtjmempcalaliiaaGreatDoor
open Go Go.PM Go.Grid
attribute [local congr] Zu Zv Zw Yd Zx Zy Ye Yf Yg Yh Zz Z0 Yi Yx Yy Yz Y1 Y2 Y5 Y6 Y7 Y8 Y4 Z2 Z3 Y9 Z4 Z5 Zk Z6 Z1
def aFl (a b c:Nat) (br m f:Int):Int:=if br=0 then IntKind.i64.wrap (IntKind.i64.wrap (((sc a b c:Int)-scA a b c)*f)+IntKind.i64.wrap (Int.fdiv ((sc a b c:Int)-scA a b c) (2^c)*m))else IntKind.i64.wrap (((sc a b c:Int)-scA a b c)*f)
def aZ (a b c:Nat) (br m f:Int):Int:=if br=0 then IntKind.i64.wrap (IntKind.i64.wrap ((scB a b c:Int)*f)+IntKind.i64.wrap ((tr a b:Int)*m))else IntKind.i64.wrap ((scB a b c:Int)*f)
def aD1 (s:Int) (dg:List Int) (br m:Int) (x y:Nat) (D:List Int):List Int:=if br=1 then D.set x (IntKind.i64.wrap (at0 D x+IntKind.i64.wrap (Int.tdiv s (at0 dg x)*m)))else if br= -1 then D.set y (IntKind.i64.wrap (at0 D y-IntKind.i64.wrap (Int.tdiv s (at0 dg y)*m)))else D
def aD2 (z:Int) (x y:Nat) (D:List Int):List Int:=(D.set x (IntKind.i64.wrap (at0 D x+z))).set y (IntKind.i64.wrap (at0 (D.set x (IntKind.i64.wrap (at0 D x+z))) y-z))
theorem Bn (s:Int) (dg:List Int) (br m:Int) (x y:Nat) (D:List Int):(aD1 s dg br m x y D).length=D.length:=by
 unfold aD1
 repeat' split
 all_goals simp only[Zvf]
theorem Zhb (z:Int) (x y:Nat) (D:List Int):(aD2 z x y D).length=D.length:=by
 unfold aD2;simp only[Zvf]
theorem Zsr (a b c:Nat):Int.fdiv (sc a b c:Int) (2^(b+c))=tr a b:=by
 rw[Zrk,Zoa,Zwk,show((2:Int)^c*2^b)=2^(b+c) by rw[Zwe,<-Int.pow_add]];exact Ld _ _
theorem Ep {s v:Int} (hs:0<=s) (hv:1<=v):0<=Int.tdiv s v/\Int.tdiv s v<=s:=by
 rw[Zwc hs];exact⟨Int.ediv_nonneg hs (by omega),Zxr _ hs⟩
abbrev lkC (x y:Nat) (a b c:Nat) (br:Int) (dg:List Int):List C:=[C.v (.int .i64 (x:Int)),C.v (.int .i64 (y:Int)),C.v (.int .i64 (a:Int)),C.v (.int .i64 (b:Int)),C.v (.int .i64 (c:Int)),C.v (.int .i64 (sc a b c:Int)),C.v (.int .i64 br),C.sl dg.length (ints dg)]
section
variable (fu d:Nat)
theorem Zhc (x y a b c:Nat) (br:Int) (dg:List Int) (ha:1<=a/\a<=4) (hb:1<=b/\b<=4) (hc:1<=c/\c<=4):cl fu (d+1) fn_adjoint_link_through [V.agg (lkC x y a b c br dg)] []=OK (I ((sc a b c:Int)-scA a b c)):=by
 have hs1:=Ny ha.2 hb.2 hc.2;have hs2:=Bj a b c;have fA:=Zrl a b c;have ma:min a (IntKind.bits .i64)=a:=by show min a 64=a;omega
 unfold lkC;rw[eq_adjoint_link_through];simp(disch:=omega)only[Zc,QM,QD,Zs5,fA,ma]
theorem W6 (x y a b c:Nat) (br:Int) (dg hd hf:List Int) (hx:x<hd.length) (hy:y<hd.length):cl fu (d+1) fn_adjoint_link_amount [V.agg (lkC x y a b c br dg),V.agg [C.sl hd.length (ints hd),C.sl hf.length (ints hf)]] []=OK (I (IntKind.i64.wrap (at0 hd y-at0 hd x))):=by
 have i1:=Zt hd hx;have i2:=Zt hd hy;unfold lkC;rw[eq_adjoint_link_amount];simp(disch:=omega)only[Zc,QM,QD,Zs5,Ztc,i1,i2]
theorem Zqn (x y a b c j:Nat) (br:Int) (dg hd hf:List Int) (hx:x<hd.length) (hy:y<hd.length) (hj:j<hf.length) (ha:1<=a/\a<=4) (hb:1<=b/\b<=4) (hc:1<=c/\c<=4):cl fu (d+2) fn_adjoint_link_flow [V.agg (lkC x y a b c br dg),V.agg [C.sl hd.length (ints hd),C.sl hf.length (ints hf)],I j] []=OK (I (aFl a b c br (IntKind.i64.wrap (at0 hd y-at0 hd x)) (at0 hf j))):=by
 have e1:=Zhc fu d x y a b c br dg ha hb hc;have e2:=W6 fu d x y a b c br dg hd hf hx hy;have i1:=Zt hf hj;have mc:min c (IntKind.bits .i64)=c:=by show min c 64=c;omega
 generalize IntKind.i64.wrap (at0 hd y-at0 hd x)=m at*
 generalize at0 hf j=f at*
 unfold lkC at*
 unfold aFl;rw[eq_adjoint_link_flow];generalize (sc a b c:Int)-scA a b c=T at*
 by_cases q:br=0
 ·subst q;rw[if_pos rfl];simp(disch:=omega)only[Zc,QM,QD,e1,e2,Zs5,Ztc,i1,mc]
 ·rw[if_neg q];simp(disch:=omega)only[Zc,QM,QD,e1,Zs5,Ztc,i1]
set_option maxHeartbeats 1000000 in
theorem Zoj (x y a b c j:Nat) (br:Int) (dg hd hf D:List Int) (hl:hd.length<=1000000) (hx:x<hd.length) (hy:y<hd.length) (hj:j<hf.length) (hD:D.length=hd.length) (hdg:dg.length=hd.length) (dx:1<=at0 dg x) (dy:1<=at0 dg y) (hbr: -1<=br/\br<=1) (ha:1<=a/\a<=4) (hb:1<=b/\b<=4) (hc:1<=c/\c<=4):
  cl fu (d+2) fn_adjoint_link_depth [V.agg (lkC x y a b c br dg),V.own 1000000 0 D.length,V.agg [C.sl hd.length (ints hd),C.sl hf.length (ints hf)],I j] [.sb ty_int 0 (ints D)]=some ⟨V.tup [],[.sb ty_int 0 (ints (aD2 (aZ a b c br (IntKind.i64.wrap (at0 hd y-at0 hd x)) (at0 hf j)) x y (aD1 (sc a b c) dg br (IntKind.i64.wrap (at0 hd y-at0 hd x)) x y D)))],none⟩:=by
 have e2:=W6 fu d x y a b c br dg hd hf hx hy;have i1:=Zt hf hj;have hs1:=Ny ha.2 hb.2 hc.2;have fB:=Zrm a b c;have fBC:=Zsr a b c;have mb:min b (IntKind.bits .i64)=b:=by show min b 64=b;omega
 have mbc:min (b+c) (IntKind.bits .i64)=b+c:=by show min (b+c) 64=b+c;omega
 have hbc:IntKind.i64.wrap ((b:Int)+(c:Int))=((b+c:Nat):Int):=by rw[Xj (by omega) (by omega)];rfl
 have g1:=Zt dg (i:=x) (by omega);have g2:=Zt dg (i:=y) (by omega);have t1:=Ep (s:=(sc a b c:Int)) (by omega) dx;have t2:=Ep (s:=(sc a b c:Int)) (by omega) dy;have r1:=Zt D (i:=x) (by omega);have r2:=Zt D (i:=y) (by omega);generalize IntKind.i64.wrap (at0 hd y-at0 hd x)=m at*
 generalize hf':at0 hf j=f at*
 have hz: ∀z,aZ a b c br m f=z->aZ a b c br m f=z:=λz h=>h;have hA:(aD1 (sc a b c) dg br m x y D).length=D.length:=Bn ..;have s1:=Zt (aD1 (sc a b c) dg br m x y D) (i:=x) (by omega);have p1:=Pw (aD1 (sc a b c) dg br m x y D) (i:=x) (by omega) (IntKind.i64.wrap (at0 (aD1 (sc a b c) dg br m x y D) x+aZ a b c br m f));have hS:((aD1 (sc a b c) dg br m x y D).set x (IntKind.i64.wrap (at0 (aD1 (sc a b c) dg br m x y D) x+aZ a b c br m f))).length=D.length:=by rw[Zvf];exact hA
 have s2:=Zt ((aD1 (sc a b c) dg br m x y D).set x (IntKind.i64.wrap (at0 (aD1 (sc a b c) dg br m x y D) x+aZ a b c br m f))) (i:=y) (by omega);have p2:=Pw ((aD1 (sc a b c) dg br m x y D).set x (IntKind.i64.wrap (at0 (aD1 (sc a b c) dg br m x y D) x+aZ a b c br m f))) (i:=y) (by omega) (IntKind.i64.wrap (at0 ((aD1 (sc a b c) dg br m x y D).set x (IntKind.i64.wrap (at0 (aD1 (sc a b c) dg br m x y D) x+aZ a b c br m f))) y-aZ a b c br m f));unfold lkC at*
 unfold aD2;rw[eq_adjoint_link_depth];rcases(show br=1\/br= -1\/br=0 by omega)with rfl|rfl|rfl
 ·have hz1:aZ a b c 1 m f=IntKind.i64.wrap ((scB a b c:Int)*f):=if_neg (by decide);have w1:aD1 (sc a b c) dg 1 m x y D=D.set x (IntKind.i64.wrap (at0 D x+IntKind.i64.wrap (Int.tdiv (sc a b c) (at0 dg x)*m))):=if_pos rfl;have p0:=Pw D (i:=x) (by omega) (IntKind.i64.wrap (at0 D x+IntKind.i64.wrap (Int.tdiv (sc a b c) (at0 dg x)*m)));rw[<-w1]at p0;rw[hz1]at p1 hS s2 p2⊢;generalize aD1 (sc a b c) dg 1 m x y D=D1 at*
  simp(disch:=omega)only[Zc,QM,QD,e2,Zs5,Ztc,Zs3,Ztl,i1,fB,mb,g1,r1,Ze,p0,s1,p1,s2,p2,hA,hS]
 ·have hz1:aZ a b c (-1) m f=IntKind.i64.wrap ((scB a b c:Int)*f):=if_neg (by decide);have w1:aD1 (sc a b c) dg (-1) m x y D=D.set y (IntKind.i64.wrap (at0 D y-IntKind.i64.wrap (Int.tdiv (sc a b c) (at0 dg y)*m))):=by unfold aD1;rw[if_neg (by decide),if_pos rfl]
  have p0:=Pw D (i:=y) (by omega) (IntKind.i64.wrap (at0 D y-IntKind.i64.wrap (Int.tdiv (sc a b c) (at0 dg y)*m)));rw[<-w1]at p0;rw[hz1]at p1 hS s2 p2⊢;generalize aD1 (sc a b c) dg (-1) m x y D=D1 at*
  simp(disch:=omega)only[Zc,QM,QD,e2,Zs5,Ztc,Zs3,Ztl,i1,fB,mb,g2,r2,Ze,p0,s1,p1,s2,p2,hA,hS]
 ·have hz1:aZ a b c 0 m f=IntKind.i64.wrap (IntKind.i64.wrap ((scB a b c:Int)*f)+IntKind.i64.wrap ((tr a b:Int)*m)):=if_pos rfl;have w1:aD1 (sc a b c) dg 0 m x y D=D:=by unfold aD1;rw[if_neg (by decide),if_neg (by decide)]
  rw[w1]at s1 p1 hA hS s2 p2⊢;rw[hz1]at p1 hS s2 p2⊢;simp(disch:=omega)only[Zc,QM,QD,e2,Zs5,Ztc,Zs3,Ztl,i1,fB,mb,hbc,mbc,fBC,Ze,s1,p1,s2,p2,hA,hS]
end
end Go.Proofs.YtjmempcalaliiaaGreatDoor
/- The reference's Degrees: the same as the program's. -/
namespace Go.Proofs.YtjmempcalaliiaaGreatDoor
open Go Go.PM Go.Grid
attribute [local congr] Zu Zv Zw Yd Zx Zy Ye Yf Yg Yh Zz Z0 Yi Yx Yy Yz Y1 Y2 Y5 Y6 Y7 Y8 Y4 Z2 Z3 Y9 Z4 Z5 Zk Z6 Z1
section
variable (fu d:Nat) (hf:18446744073709551616<=fu)
include hf
end
end Go.Proofs.YtjmempcalaliiaaGreatDoor
/- Both programs' Apply of the transposed step. -/
namespace Go.Proofs.YtjmempcalaliiaaGreatDoor
open Go Go.PM Go.Grid
attribute [local congr] Zu Zv Zw Yd Zx Zy Ye Yf Yg Yh Zz Z0 Yi Yx Yy Yz Y1 Y2 Y5 Y6 Y7 Y8 Y4 Z2 Z3 Y9 Z4 Z5 Zk Z6 Z1
def am (hd:List Int) (E:List (Int×Int)) (j:Nat):Int:=IntKind.i64.wrap (at0 hd (E.getD j (0,0)).2.toNat-at0 hd (E.getD j (0,0)).1.toNat)
def W7 (a b c:Nat) (dg br hd hf:List Int) (E:List (Int×Int)) (D:List Int) (j:Nat):List Int:=
 aD2 (aZ a b c (at0 br j) (am hd E j) (at0 hf j)) (E.getD j (0,0)).1.toNat (E.getD j (0,0)).2.toNat (aD1 (sc a b c) dg (at0 br j) (am hd E j) (E.getD j (0,0)).1.toNat (E.getD j (0,0)).2.toNat D)
def aDS (a b c:Nat) (dg br hd hf:List Int) (E:List (Int×Int)) (k:Nat):List Int:=(List.range k).foldl (W7 a b c dg br hd hf E) (hd.map λx=>IntKind.i64.wrap ((sc a b c:Int)*x))
def aFS (a b c:Nat) (br hd hf:List Int) (E:List (Int×Int)) (k:Nat):List Int:=(List.range k).map λj=>aFl a b c (at0 br j) (am hd E j) (at0 hf j)
theorem Hf (a b c:Nat) (dg br hd hf:List Int) (E:List (Int×Int)) (D:List Int) (j:Nat):(W7 a b c dg br hd hf E D j).length=D.length:=by
 unfold W7;rw[Zhb,Bn]
theorem Bo (a b c:Nat) (dg br hd hf:List Int) (E:List (Int×Int)) (k:Nat):aDS a b c dg br hd hf E (k+1)=W7 a b c dg br hd hf E (aDS a b c dg br hd hf E k) k:=by
 unfold aDS;rw[Zun,List.foldl_append];rfl
theorem Rl (a b c:Nat) (dg br hd hf:List Int) (E:List (Int×Int)) (k:Nat):(aDS a b c dg br hd hf E k).length=hd.length:=by
 induction k with
 |zero=>exact Zte ..
 |succ k ih=>rw[Bo,Hf,ih]
theorem Zok (a b c:Nat) (br hd hf:List Int) (E:List (Int×Int)) (k:Nat):aFS a b c br hd hf E (k+1)=aFS a b c br hd hf E k++[aFl a b c (at0 br k) (am hd E k) (at0 hf k)]:=by simp[aFS,Zun]
theorem Np (a b c:Nat) (br hd hf:List Int) (E:List (Int×Int)) (k:Nat):(aFS a b c br hd hf E k).length=k:=by simp[aFS]
section
variable (fu d:Nat) (hfu:18446744073709551616<=fu)
include hfu
set_option maxHeartbeats 2000000 in
theorem W8 (n:Nat) (h:Yc n) (a b c:Nat) (ha:1<=a/\a<=4) (hb:1<=b/\b<=4) (hc:1<=c/\c<=4) (br hd hf:List Int) (l1:br.length=(edg n).length) (l2:hd.length=(Zg n).length) (l3:hf.length=(edg n).length) (w1:wid (-1) 1 br) (w2:wid (-1099511627776) 1099511627776 hd) (w3:wid (-1099511627776) 1099511627776 hf):
  cl fu (d+12) fn_adjoint_Apply [V.agg [C.v (.int .i64 (a:Int)),C.v (.int .i64 (b:Int)),C.v (.int .i64 (c:Int))],I n,V.c (C.sl br.length (ints br)),V.agg [C.sl hd.length (ints hd),C.sl hf.length (ints hf)]] []=OK (V.tup [V.agg [C.sl hd.length (ints (aDS a b c (Yo (Zg n).length (edg n)) br hd hf (edg n) (edg n).length)),C.sl (edg n).length (ints (aFS a b c br hd hf (edg n) (edg n).length))],I 0]):=by
 have hNl:=Yw h;have heL:=Qc h;have e1:=Bm fu (d+4) hfu a b c ha hb hc;have e2:=W5 fu (d+1) hfu n h br hd hf l1 l2 l3 w1 w2 w3;have e3:=Kw fu d n h;have e4:=Uj fu (d+2) hfu n h;have hin:=Re h;have hdp:=Zce h;have hdl:=T8 (Zg n).length (edg n);have hFl:=λk=>Np a b c br hd hf (edg n) k;have hFs:=λk=>Zok a b c br hd hf (edg n) k;have hDl:=λk=>Rl a b c (Yo (Zg n).length (edg n)) br hd hf (edg n) k;have hDs:=λk=>Bo a b c (Yo (Zg n).length (edg n)) br hd hf (edg n) k;have hSl:=λD j=>Hf a b c (Yo (Zg n).length (edg n)) br hd hf (edg n) D j;generalize hdg:Yo (Zg n).length (edg n)=dg at*
 generalize hE:edg n=E at*
 generalize (Zg n).length=N at*
 rw[eq_adjoint_Apply];simp(disch:=omega)only[Zc,QM,QD,e1,e2,e3,e4];rw[Zs (λj:Nat=>(((j:Nat):Int),(C.nl,C.nl,()),(ints ((hd.take j).map λx=>IntKind.i64.wrap ((sc a b c:Int)*x)),[],()),())) 0 (((hd.length:Nat):Int),(C.nl,C.nl,()),(ints (aDS a b c dg br hd hf E 0),[],()),()) hd.length ?_ ?_ ?_ (by omega)]
 rotate_left
 ·rfl
 ·intro j hj;have i1:=Zt hd hj;have hsn:ints ((hd.take j).map λx=>IntKind.i64.wrap ((sc a b c:Int)*x))++[C.v (.int .i64 (IntKind.i64.wrap ((sc a b c:Int)*at0 hd j)))]=ints ((hd.take (j+1)).map λx=>IntKind.i64.wrap ((sc a b c:Int)*x)):=by
   rw[Zty hj,Zup,Xx,Ry hj];rfl
  have hlt:((hd.take j).map λx=>IntKind.i64.wrap ((sc a b c:Int)*x)).length=j:=by rw[Zte,Ztx];omega
  have hlt1:((hd.take (j+1)).map λx=>IntKind.i64.wrap ((sc a b c:Int)*x)).length=j+1:=by rw[Zte,Ztx];omega
  simp(disch:=omega)only[Zc,QM,QD,Zs5,Ztc,i1];simp(disch:=omega)only[Zc,QM,QD,Ze,hlt,hlt1,Ztl,Ztc,hsn,Ztb,Zs4,Zs8,Zs3];rfl
 ·rw[Zud];have hl0:(hd.map λx=>IntKind.i64.wrap ((sc a b c:Int)*x)).length=hd.length:=Zte ..;simp(disch:=omega)only[Zc,QM,QD,Ze,hl0,Ztl,Ztc,Zs8];rfl
 simp(disch:=omega)only[Zc,QM,QD,Ze,hDl,Ztl,Ztc,Zs8];rw[Zs (λj:Nat=>(((j:Nat):Int),(C.nl,C.nl,()),(ints (aDS a b c dg br hd hf E j),ints (aFS a b c br hd hf E j),()),())) 0 (((E.length:Nat):Int),(C.nl,C.nl,()),(ints (aDS a b c dg br hd hf E E.length),ints (aFS a b c br hd hf E E.length),()),()) E.length ?_ ?_ ?_ (by omega)]
 ·have htk1:List.take hd.length (ints (aDS a b c dg br hd hf E E.length))=ints (aDS a b c dg br hd hf E E.length):=Ztd (by rw[Ze,hDl];exact Ztg _);have htk2:List.take E.length (ints (aFS a b c br hd hf E E.length))=ints (aFS a b c br hd hf E E.length):=Ztd (by rw[Ze,hFl];exact Ztg _);simp(disch:=omega)only[Zc,QM,QD,Ze,hDl,hFl,Ztl,Ztc,Zs3,htk1,htk2]
 ·rfl
 ·intro j hj;have hinj:=hin E[j] (Zt0 hj);have hdpj:=hdp E[j] (Zt0 hj);have i4:=Zt br (i:=j) (by omega);have bj:=Ug w1 (by omega) j;have hD:=hDl j;have hst:=hDs j;have hft:=hFs j;have hFlj:=hFl j;have hsl:=hSl (aDS a b c dg br hd hf E j) j;unfold W7 am at hst hsl;unfold am at hft;rw[Qi E hj]at hst hsl hft;rw[hst,hft];generalize aFS a b c br hd hf E j=FL at*
  generalize aDS a b c dg br hd hf E j=D at*
  generalize hee:E[j]=e at*
  obtain⟨ea,eb⟩:=e;simp only at hinj hdpj hsl⊢;obtain⟨x,rfl⟩: ∃x:Nat,ea=x:=⟨ea.toNat,by omega⟩;obtain⟨y,rfl⟩: ∃y:Nat,eb=y:=⟨eb.toNat,by omega⟩;rw[Zs5,Zs5]at hdpj hsl⊢;have hea:=Lw Xf hj;rw[hee,show edC ((x:Int),(y:Int))=[C.v (.int .i64 (x:Int)),C.v (.int .i64 (y:Int))] from rfl]at hea;have q1:=Zqn fu (d+9) x y a b c j (at0 br j) dg hd hf (by omega) (by omega) (by omega) ha hb hc;have q2:=Zoj fu (d+9) x y a b c j (at0 br j) dg hd hf D (by omega) (by omega) (by omega) (by omega) (by omega) (by omega) hdpj.1 hdpj.2 bj ha hb hc;unfold lkC at q1 q2;rw[show dg.length=N by omega]at q1 q2;rw[hD]at q2 hsl;generalize at0 br j=v at*
  simp(disch:=omega)only[Zc,QM,QD,Zt1,Zt3,Zs5,Ztc,Ztl,Zs3,hea,i4,Ze,hD,hFlj,q1,q2,hsl,Xx,Ztb,Zs4,Zs8];rfl
 ·simp(disch:=omega)only[Zc,QM,QD,Ze,hDl,hFl,Ztl,Ztc]
end
end Go.Proofs.YtjmempcalaliiaaGreatDoor
