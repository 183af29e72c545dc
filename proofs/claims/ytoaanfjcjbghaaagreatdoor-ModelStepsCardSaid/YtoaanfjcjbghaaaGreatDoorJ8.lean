/- Parts put together: W, Gc, Gd, Ge, Ea, H, Eb, Ec, Ed, Ee, Ef, Eg, Eh, Ei, Ej, Ek, El, Fa, Fb, Fc, Fd, Fe, Ff, Fp, Nb, Nc, Na, Fq, Nd, Fi, Fs, Fj, Fu. -/
import Derived.Test.YtoaanfjcjbghaaaGreatDoorJ5
import Derived.Test.YtoaanfjcjbghaaaGreatDoorEq
import Derived.Test.YtoaanfjcjbghaaaGreatDoorJ6
set_option linter.defProp false
set_option linter.unusedSimpArgs false
set_option linter.unusedVariables false
/- Rules whose conditions simp can have shown by omega; lists of records as cells. -/
namespace Go.PM
open Go
theorem Q1 {x:Int} (h1: -9223372036854775808<=x) (h2:x<=9223372036854775807):IntKind.i64.wrap x=x:=IntWalk.i64_in x ⟨by omega,by omega⟩
theorem Zpv {a b:Int} (h:a<b):decide (a<b)=true:=decide_eq_true h
theorem Zpw {a b:Int} (h:b<=a):decide (a<b)=false:=decide_eq_false (by omega)
theorem dle_t {a b:Int} (h:a<=b):decide (a<=b)=true:=decide_eq_true h
theorem dle_f {a b:Int} (h:b<a):decide (a<=b)=false:=decide_eq_false (by omega)
theorem dgt_t {a b:Int} (h:b<a):decide (a>b)=true:=decide_eq_true h
theorem dgt_f {a b:Int} (h:a<=b):decide (a>b)=false:=decide_eq_false (by omega)
theorem dge_t {a b:Int} (h:b<=a):decide (a≥b)=true:=decide_eq_true h
theorem dge_f {a b:Int} (h:a<b):decide (a≥b)=false:=decide_eq_false (by omega)
theorem Zmp {a b:Int} (h:a=b):(a==b)=true:=beq_iff_eq.2 h
theorem Hq {a b:Int} (h:a≠b):(a==b)=false:=beq_eq_false_iff_ne.2 h
theorem Zqn {a b:Int} (h:a≠b):(a !=b)=true:=bne_iff_ne.2 h
theorem Zmq {a b:Int} (h:a=b):(a !=b)=false:=by subst h;simp
def fl {A:Type} (e:A->List C) (l:List A):List C:=l.flatMap e
section
variable {A:Type} {e:A->List C} {m:Nat}
@[simp] theorem fl_nil:fl e []=[]:=rfl
theorem Rv (x:A) (l:List A):fl e (x::l)=e x++fl e l:=by simp[fl]
theorem Hr (l l':List A):fl e (l++l')=fl e l++fl e l':=by simp[fl]
theorem Js (l:List A) (x:A):fl e l++e x=fl e (l++[x]):=by simp[fl]
theorem Zh (h: ∀x,(e x).length=m): ∀l:List A,(fl e l).length=l.length*m
 | []=>by simp[fl]
 |x::l=>by rw[Rv,Zre,h,Zh h l,Zq6,Zsb];omega
theorem F6 (h: ∀x,(e x).length=m): ∀(k:Nat) (l:List A),(fl e l).drop (k*m)=fl e (l.drop k)
 |0,l=>by simp
 |k+1,[]=>by simp[fl]
 |k+1,x::l=>by
  rw[Rv,Zsb,Ztt,List.drop_append];rw[show(e x).drop (m+k*m)=[] from Ztm (by rw[h];omega),h,Nat.add_sub_cancel_left,Zr6,F6 h k l];rfl
theorem Zbe (h: ∀x,(e x).length=m): ∀(k:Nat) (l:List A),(fl e l).take (k*m)=fl e (l.take k)
 |0,l=>by simp
 |k+1,[]=>by simp[fl]
 |k+1,x::l=>by
  rw[Rv,Zsb,Ztt,List.take_append];rw[Zrc (by rw[h];omega),h,Nat.add_sub_cancel_left,Zbe h k l,List.take_succ_cons,Rv]
theorem Jt (h: ∀x,(e x).length=m) {k:Nat} {l:List A} (hk:k<l.length):(fl e l).drop (k*m)=e l[k]++fl e (l.drop (k+1)):=by
 rw[F6 h,Zsf hk,Rv]
end
theorem Qm (P:Nat->Prop) [DecidablePred P] (n:Nat):(∀j,j<n-> ¬P j)\/ ∃k,k<n/\P k/\ ∀j,j<k-> ¬P j:=by
 induction n with
 |zero=>left;intro j hj;omega
 |succ n ih=>
  rcases ih with ih|⟨k,h1,h2,h3⟩
  ·by_cases h:P n
   ·exact .inr ⟨n,by omega,h,ih⟩
   ·left;intro j hj;by_cases e:j=n
    ·subst e;exact h
    ·exact ih j (by omega)
  ·exact .inr ⟨k,by omega,h2,h3⟩
theorem Zk {A:Type} {body:A->Option (Nat×A)} {x:A} {fu:Nat} (f:Nat->A) (e:Nat) (z:A) (k:Nat) (hx:x=f 0) (h: ∀j,j<k->body (f j)=some (0,f (j+1))) (he:body (f k)=some (e+1,z)) (hf:k<fu):iter body fu x=some (e,z):=by
 rw[hx];exact Jo f e z k 0 fu (λj _ hj=>h j (by omega)) (by rw[Zq4];exact he) hf
theorem Cl {A:Type} {body:A->Option (Nat×A)} {x:A} {fu:Nat} (J:A->Prop) (m:A->Nat) (e:Nat) (z:A) (hx:J x) (hm:m x<fu) (h: ∀y,J y->(∃y',body y=some (0,y')/\J y'/\m y'<m y)\/body y=some (e+1,z)):iter body fu x=some (e,z):=by
 obtain⟨e',z',h1,h2,h3⟩:=Hp (body:=body) J m (λe' z'=>e'=e/\z'=z) (λy hy=>(h y hy).imp id λhh=>⟨e,z,hh,rfl,rfl⟩) fu x hx hm;rw[h1,h2,h3]
theorem Ra {A:Type} (body:A->Option (Nat×A)) (n:Nat) (x:A):iter body (n+1) x=(body x).bind λp=>natD p.1 (iter body n p.2) λm=>some (m,p.2):=by
 simp only[iter]
 congr 1
def QM:=And.intro @obs (And.intro @rC_c (And.intro @Zqf (And.intro @Zqg (And.intro @Mm (And.intro @Zqh (And.intro @rS_sb (And.intro @rF_sb (And.intro @Zji (And.intro @Zjj (And.intro @Zl9 (And.intro @rO_ob (And.intro @Zpt (And.intro @Zma (And.intro @asI_int (And.intro @asB_bool (And.intro @Zf9 (And.intro @Zhr (And.intro @Zhs (And.intro @Zoi (And.intro @Zqi (And.intro @Zmb (And.intro @Zmc (And.intro @Au (And.intro @ct (And.intro @cf (And.intro @bd_eq (And.intro @Zjk (And.intro @Zjl (And.intro @Zmd (And.intro @Zqj (And.intro @Zoj (And.intro @Zok (And.intro @Zol (And.intro @Zom (And.intro @Bool.and_true (And.intro @Bool.true_and (And.intro @Bool.and_self (And.intro @Zjm (And.intro @Bool.not_true (And.intro @Bool.not_false (And.intro @Bool.and_false (And.intro @Bool.false_and (And.intro @Bool.or_false (And.intro @Bool.false_or (And.intro @Bool.or_true @Bool.true_or)))))))))))))))))))))))))))))))))))))))))))))
def QD:=And.intro @Q1 (And.intro @Zpv (And.intro @Zpw (And.intro @dle_t (And.intro @dle_f (And.intro @dgt_t (And.intro @dgt_f (And.intro @dge_t (And.intro @dge_f (And.intro @Zmp (And.intro @Hq (And.intro @Zqn (And.intro @Zmq (And.intro @Zop (And.intro @Zon @Zoo))))))))))))))
end Go.PM
/- Places: what the functions of the program and of the reference come to. -/
namespace Go.Proofs.YtoaanfjcjbghaaaGreatDoor
open Go Go.PM Go.Grid
def plc (p:Pl):List C:=[.v (.int .i64 p.f), .v (.int .i64 p.a), .v (.int .i64 p.b), .v (.int .i64 p.c)]
theorem Zp (p:Pl):(plc p).length=4:=rfl
def wcs (w:Nat->Nat):List C:=(List.range 12).map λv=> .v (.int .i64 (w v))
abbrev OK (r:V):Option Out:=some ⟨r,[],none⟩
def X6 (f a b c:Int):Bool:=decide (0<=f/\f<20/\0<=a/\a<=840/\0<=b/\b<=840/\0<=c/\c<=840/\a+b+c=840)
theorem A9 {p:Pl} (h:p.ok):X6 p.f p.a p.b p.c=true:=by
 obtain⟨h1,h2⟩:=h;exact decide_eq_true (by omega)
theorem Zbf (fu d:Nat) (f a b c:Int):cl fu (d+1) fn_synopticref02_Valid [V.agg [.v (.int .i64 f), .v (.int .i64 a), .v (.int .i64 b), .v (.int .i64 c)]] []=OK (B (X6 f a b c)):=by
 rw[eq_synopticref02_Valid];by_cases h1:0<=f
 case neg=>rw[show X6 f a b c=false from decide_eq_false (by omega)];simp(disch:=omega)only[QM,QD]
 by_cases h2:f<20
 case neg=>rw[show X6 f a b c=false from decide_eq_false (by omega)];simp(disch:=omega)only[QM,QD]
 by_cases h3:0<=a
 case neg=>rw[show X6 f a b c=false from decide_eq_false (by omega)];simp(disch:=omega)only[QM,QD]
 by_cases h4:a<=840
 case neg=>rw[show X6 f a b c=false from decide_eq_false (by omega)];simp(disch:=omega)only[QM,QD]
 by_cases h5:0<=b
 case neg=>rw[show X6 f a b c=false from decide_eq_false (by omega)];simp(disch:=omega)only[QM,QD]
 by_cases h6:b<=840
 case neg=>rw[show X6 f a b c=false from decide_eq_false (by omega)];simp(disch:=omega)only[QM,QD]
 by_cases h7:0<=c
 case neg=>rw[show X6 f a b c=false from decide_eq_false (by omega)];simp(disch:=omega)only[QM,QD]
 by_cases h8:c<=840
 case neg=>rw[show X6 f a b c=false from decide_eq_false (by omega)];simp(disch:=omega)only[QM,QD]
 by_cases h9:a+b+c=840
 ·rw[show X6 f a b c=true from decide_eq_true (by omega)];simp(disch:=omega)only[QM,QD]
 ·rw[show X6 f a b c=false from decide_eq_false (by omega)];simp(disch:=omega)only[QM,QD]
theorem twenty {f:Nat} (h:f<20):f=0\/f=1\/f=2\/f=3\/f=4\/f=5\/f=6\/f=7\/f=8\/f=9\/f=10\/f=11\/f=12\/f=13\/f=14\/f=15\/f=16\/f=17\/f=18\/f=19:=by omega
theorem Mp (fu d f:Nat) (h:f<20):cl fu (d+1) fn_synopticref02_Corners [I f] []=OK (V.tup [V.agg [.v (.int .i64 (crn f).1), .v (.int .i64 (crn f).2.1), .v (.int .i64 (crn f).2.2)],I 0]):=by
 rw[eq_synopticref02_Corners];rcases twenty h with rfl|rfl|rfl|rfl|rfl|rfl|rfl|rfl|rfl|rfl|rfl|rfl|rfl|rfl|rfl|rfl|rfl|rfl|rfl|rfl<;>(show @Eq (Option Out) _ _;kernel_rfl)
theorem Cm (fu d:Nat) (p:Pl) (h:p.ok):cl fu (d+2) fn_synopticref02_Weights [V.agg (plc p)] []=OK (V.agg (wcs (wt p))):=by
 obtain⟨f,a,b,c⟩:=p;unfold plc;rw[eq_synopticref02_Weights];simp only;rw[Mp fu d f h.1];have hf:f<20:=h.1;rcases twenty hf with rfl|rfl|rfl|rfl|rfl|rfl|rfl|rfl|rfl|rfl|rfl|rfl|rfl|rfl|rfl|rfl|rfl|rfl|rfl|rfl<;>(show @Eq (Option Out) _ _;kernel_rfl)
theorem Zju (fu d:Nat) (w:Nat->Nat) (hw: ∀v,w v<=840) (f:Nat) (h:f<20):cl fu (d+2) fn_synopticref02_On [I f,V.agg (wcs w)] []=OK (V.tup [V.agg (plc (onW w f)),B (onW w f).full]):=by
 have e:cl fu (d+2) fn_synopticref02_On [I f,V.agg (wcs w)] []=OK (V.tup [V.agg (plc (onW w f)),B (IntKind.i64.wrap (IntKind.i64.wrap ((w (crn f).1:Int)+(w (crn f).2.1:Int))+(w (crn f).2.2:Int))==840)]):=by
  rw[eq_synopticref02_On,Mp fu d f h];rcases twenty h with rfl|rfl|rfl|rfl|rfl|rfl|rfl|rfl|rfl|rfl|rfl|rfl|rfl|rfl|rfl|rfl|rfl|rfl|rfl|rfl<;>(show @Eq (Option Out) _ _;kernel_rfl)
 rw[e];have h1:=hw (crn f).1;have h2:=hw (crn f).2.1;have h3:=hw (crn f).2.2;simp(disch:=omega)only[Q1];have e2:((w (crn f).1:Int)+(w (crn f).2.1:Int)+(w (crn f).2.2:Int)==840)=(onW w f).full:=by
  rw[Zs1,Mo,beq_iff_eq];show _↔w (crn f).1+w (crn f).2.1+w (crn f).2.2=840;omega
 rw[e2]
def V3 (w:Nat->Nat) (j:Nat):List Pl:=((List.range j).map (onW w)).filter Pl.full
theorem Sn (w:Nat->Nat) (j:Nat):V3 w (j+1)=if(onW w j).full then V3 w j++[onW w j]else V3 w j:=by
 unfold V3;rw[Ztd,Zts,List.filter_append];simp only[Zst,List.map_nil,List.filter_cons,List.filter_nil];split<;>simp
theorem Cn (w:Nat->Nat) (j:Nat):(V3 w j).length<=j:=by
 unfold V3;refine Zrs (List.length_filter_le _ _) ?_;simp
theorem Zmr {p:Pl} (h:p.ok) (v:Nat):wt p v<=840:=by
 have h2:=h.2;unfold wt wt3
 (repeat' split)<;>omega
theorem Zos (l:List Pl) (q:Pl):fl plc l++[.v (.int .i64 q.f), .v (.int .i64 q.a), .v (.int .i64 q.b), .v (.int .i64 q.c)]=fl plc (l++[q]):=Js l q
theorem Xr (l:List Pl):l.length*4/4=l.length:=Ztf _ (by omega)
theorem Zhv (w:Nat->Nat):putAt [C.v (.int .i64 0),C.v (.int .i64 0),C.v (.int .i64 0),C.v (.int .i64 0),C.v (.int .i64 0),C.v (.int .i64 0),C.v (.int .i64 0),C.v (.int .i64 0),C.v (.int .i64 0),C.v (.int .i64 0),C.v (.int .i64 0),C.v (.int .i64 0)] 0 (wcs w)=wcs w:=id rfl
theorem Zd5 (w:Nat->Nat):List.take 12 (wcs w)=wcs w:=id rfl
theorem Co (w:Nat->Nat):(wcs w).length=12:=id rfl
theorem Hs (fu d:Nat) (hf:18446744073709551616<=fu) (p:Pl) (h:p.ok):
  cl fu (d+3) fn_synopticref02_Addresses [V.agg (plc p)] []=OK (V.tup [V.c (C.sl (S6 p).length (fl plc (S6 p))),I 0]):=by
 have e1:=Cm fu d p h;have hv:=A9 h;unfold plc at e1⊢;rw[eq_synopticref02_Addresses,Zbf,hv,e1];simp only[QM,Zhv,Zd5,Co,Zq4,show Nat.ble 12 12=true from rfl];rw[show(([]:List C),(0:Int),())=(λj:Nat=>(fl plc (V3 (wt p) j),(j:Int),())) 0 from rfl,Jo (λj:Nat=>(fl plc (V3 (wt p) j),(j:Int),())) 0 (fl plc (V3 (wt p) 20),(20:Int),()) 20 0 fu ?_ ?_ (by omega)]
 ·simp(disch:=omega)only[QM,QD,Zh Zp,Xr,Zq4];rw[Zrc (by rw[Zh Zp];omega)];rfl
 ·intro j _ hj;have hl:=Cn (wt p) j;rw[Sn];have e2:=Zju fu d (wt p) (Zmr h) j (by omega);unfold plc at e2;simp(disch:=omega)only[QM,QD,e2,Zh Zp,Xr,Zq6,Zq8,Zq4,Nat.reduceAdd];cases hfull:(onW (wt p) j).full with
  |true=>
   simp(disch:=omega)only[QM,QD,Zos,Zh Zp,Zre,Zq6,Zq8,Zq4,if_true,Zr3,Zso]
  |false=>
   simp(disch:=omega)only[QM,QD,Zs0,if_false,Zr3,Zso]
 ·simp(disch:=omega)only[QM,QD,Zh Zp,Xr,Zq4];rfl
end Go.Proofs.YtoaanfjcjbghaaaGreatDoor
/- Places, continued: the normal place; the program's functions. -/
namespace Go.Proofs.YtoaanfjcjbghaaaGreatDoor
open Go Go.PM Go.Grid
theorem Lv (fu d:Nat) (hf:18446744073709551616<=fu) (p:Pl) (h:p.ok):cl fu (d+4) fn_synopticref02_Normal [V.agg (plc p)] []=OK (V.tup [V.agg (plc (norm p)),I 0]):=by
 have e1:=Hs fu d hf p h;obtain⟨r,hr⟩:=M6 h;rw[hr]at e1;unfold plc at e1⊢;rw[eq_synopticref02_Normal,e1];simp(disch:=omega)only[QM,QD,Rv,plc,Zr8,Zr6,Zq6]
theorem Zbg (p q:Pl):((p.f:Int)==q.f&&((p.a:Int)==q.a&&((p.b:Int)==q.b&&(p.c:Int)==q.c)))=decide (p=q):=by
 obtain⟨f,a,b,c⟩:=p;obtain⟨f',a',b',c'⟩:=q;rw[Zs1];simp only[Zq3,beq_iff_eq,decide_eq_true_eq,Pl.mk.injEq];omega
theorem Fo (fu d:Nat) (hf:18446744073709551616<=fu) (p:Pl) (h:p.ok):cl fu (d+5) fn_synopticref02_IsNormal [V.agg (plc p)] []=OK (B (isN p)):=by
 have e1:=Lv fu d hf p h;unfold plc at e1⊢;rw[eq_synopticref02_IsNormal,e1];simp(disch:=omega)only[QM,QD,Zq6,Zq8,Zbg,Nat.reduceAdd];unfold isN;rw[show decide (p=norm p)=decide (norm p=p) from by rw[Zs1];simp[eq_comm]]
theorem Zot (fu d:Nat) (f:Int):cl fu (d+1) fn_place_face [I f] []=OK (B (decide (0<=f/\f<20))):=by
 rw[eq_place_face];by_cases h1:0<=f
 ·simp(disch:=omega)only[QM,QD];by_cases h2:f<20
  ·rw[Zpv h2,decide_eq_true ⟨h1,h2⟩]
  ·rw[Zpw (by omega),decide_eq_false (by omega)]
 ·rw[decide_eq_false (by omega: ¬(0<=f/\f<20))];simp(disch:=omega)only[QM,QD]
theorem Zd6 (fu d:Nat) (hf:18446744073709551616<=fu) (f a b c:Int):cl fu (d+2) fn_place_Valid [V.agg [.v (.int .i64 f), .v (.int .i64 a), .v (.int .i64 b), .v (.int .i64 c)]] []=OK (B (X6 f a b c)):=by
 rw[eq_place_Valid,Zot];obtain⟨fu',rfl⟩: ∃n,fu=n+4:=⟨fu-4,by omega⟩;by_cases h3:0<=a
 case neg=>rw[show X6 f a b c=false from decide_eq_false (by omega)];rw[Ra];simp(disch:=omega)only[QM,QD,Zta,Zsc,Zsw]
 by_cases h4:a<=840
 case neg=>rw[show X6 f a b c=false from decide_eq_false (by omega)];rw[Ra];simp(disch:=omega)only[QM,QD,Zta,Zsc,Zsw]
 by_cases h5:0<=b
 case neg=>rw[show X6 f a b c=false from decide_eq_false (by omega)];rw[Ra];simp(disch:=omega)only[QM,QD,Zta,Zsc,Zsw,Int.zero_add,Ra,Int.toNat_one,Nat.one_mul,Zsy]
 by_cases h6:b<=840
 case neg=>rw[show X6 f a b c=false from decide_eq_false (by omega)];rw[Ra];simp(disch:=omega)only[QM,QD,Zta,Zsc,Zsw,Int.zero_add,Ra,Int.toNat_one,Nat.one_mul,Zsy]
 by_cases h7:0<=c
 case neg=>rw[show X6 f a b c=false from decide_eq_false (by omega)];rw[Ra];simp(disch:=omega)only[QM,QD,Zta,Zsc,Zsw,Int.zero_add,Ra,Int.toNat_one,Nat.one_mul,Zsy,Int.reduceAdd,Int.reduceToNat]
 by_cases h8:c<=840
 case neg=>rw[show X6 f a b c=false from decide_eq_false (by omega)];rw[Ra];simp(disch:=omega)only[QM,QD,Zta,Zsc,Zsw,Int.zero_add,Ra,Int.toNat_one,Nat.one_mul,Zsy,Int.reduceAdd,Int.reduceToNat]
 simp(disch:=omega)only[QM,QD,Zta,Zsc,Zsw,Int.zero_add,Ra,Int.toNat_one,Nat.one_mul,Zsy,Int.reduceAdd,Int.reduceToNat];by_cases h1:0<=f/\f<20
 ·rw[decide_eq_true h1];by_cases h9:a+b+c=840
  ·rw[show X6 f a b c=true from decide_eq_true (by omega)];simp(disch:=omega)only[QM,QD]
  ·rw[show X6 f a b c=false from decide_eq_false (by omega)];simp(disch:=omega)only[QM,QD]
 ·rw[decide_eq_false h1,show X6 f a b c=false from decide_eq_false (by omega)];simp(disch:=omega)only[QM,QD]
theorem sp_of (fu d:Nat) (p:Pl) (h:p.ok):cl fu (d+1) fn_place_of [V.agg (plc p)] []=OK (V.agg (wcs (wt p))):=by
 obtain⟨f,a,b,c⟩:=p;unfold plc;rw[eq_place_of];have hf:f<20:=h.1;rcases twenty hf with rfl|rfl|rfl|rfl|rfl|rfl|rfl|rfl|rfl|rfl|rfl|rfl|rfl|rfl|rfl|rfl|rfl|rfl|rfl|rfl<;>(show @Eq (Option Out) _ _;kernel_rfl)
theorem Zgn {w:Nat->Nat} (hw: ∀v,w v<=840) {f:Nat} (h:f<20):X6 (onW w f).f (onW w f).a (onW w f).b (onW w f).c=(onW w f).full:=by
 have h1:=hw (crn f).1;have h2:=hw (crn f).2.1;have h3:=hw (crn f).2.2;rw[Zs1,Mo];unfold X6;rw[decide_eq_true_eq];show(0:Int)<=(f:Nat)/\((f:Nat):Int)<20/\(0:Int)<=((w (crn f).1:Nat):Int)/\((w (crn f).1:Nat):Int)<=840/\(0:Int)<=((w (crn f).2.1:Nat):Int)/\((w (crn f).2.1:Nat):Int)<=840/\(0:Int)<=((w (crn f).2.2:Nat):Int)/\((w (crn f).2.2:Nat):Int)<=840/\((w (crn f).1:Nat):Int)+((w (crn f).2.1:Nat):Int)+((w (crn f).2.2:Nat):Int)=840↔w (crn f).1+w (crn f).2.1+w (crn f).2.2=840;omega
theorem Zpx (fu d:Nat) (hf:18446744073709551616<=fu) (w:Nat->Nat) (hw: ∀v,w v<=840) (f:Nat) (h:f<20):cl fu (d+3) fn_place_on [I f,V.agg (wcs w)] []=OK (V.tup [V.agg (plc (onW w f)),B (onW w f).full]):=by
 have e:cl fu (d+3) fn_place_on [I f,V.agg (wcs w)] []=((cl fu (d+2) fn_place_Valid [V.agg (plc (onW w f))] []).bind λout=>rC out.r λc6=>asB c6 λb=>OK (V.tup [V.agg (plc (onW w f)),B b])):=by
  rw[eq_place_on];rcases twenty h with rfl|rfl|rfl|rfl|rfl|rfl|rfl|rfl|rfl|rfl|rfl|rfl|rfl|rfl|rfl|rfl|rfl|rfl|rfl|rfl<;>(show @Eq (Option Out) _ _;kernel_rfl)
 rw[e];unfold plc;rw[Zd6 fu d hf,Zgn hw h];simp only[QM]
theorem Ju {w:Nat->Nat}: ∀{k:Nat},(∀j,j<k->(onW w j).full=false)->V3 w k=[]
 |0,_=>rfl
 |k+1,h=>by rw[Sn,h k (by omega),Ju (λj hj=>h j (by omega))];rfl
theorem Lw {w:Nat->Nat} {k:Nat} (hk:(onW w k).full=true) (h: ∀j,j<k->(onW w j).full=false): ∀n,k<n-> ∃r,V3 w n=onW w k::r
 |0,hn=>by omega
 |n+1,hn=>by
  by_cases e:k=n
  ·subst e;exact⟨[],by rw[Sn,hk,Ju h];rfl⟩
  ·obtain⟨r,hr⟩:=Lw hk h n (by omega);rw[Sn,hr];split
   ·exact⟨r++[onW w n],rfl⟩
   ·exact⟨r,rfl⟩
theorem Wa (fu d:Nat) (hf:18446744073709551616<=fu) (p:Pl) (h:p.ok):cl fu (d+4) fn_place_Normal [V.agg (plc p)] []=OK (V.tup [V.agg (plc (norm p)),I 0]):=by
 have e1:=sp_of fu (d+2) p h;have hv:=A9 h;unfold plc at e1⊢;rw[eq_place_Normal,Zd6 fu (d+1) hf,hv,e1];simp only[QM,Zhv,Zd5,Co,Zq4,show Nat.ble 12 12=true from rfl];obtain⟨r,hr⟩:=M6 h;have hm:=Jr h;obtain⟨k,hk,hke,hkl⟩: ∃k,k<20/\onW (wt p) k=norm p/\ ∀j,j<k->(onW (wt p) j).full=false:=by
  rcases Qm (λj=>(onW (wt p) j).full=true) 20 with h0|⟨k,h1,h2,h3⟩
  ·exfalso;obtain⟨g,g1,g2,g3⟩:=M5.1 hm;exact h0 g g1 (by rw[g2];exact Mo.2 g3)
  ·refine⟨k,h1, ?_,λj hj=>by simpa using h3 j hj⟩;obtain⟨r',this⟩:=Lw h2 (λj hj=>by simpa using h3 j hj) 20 h1;have this:S6 p=onW (wt p) k::r':=this;rw[hr]at this;exact(List.cons.inj this).1.symm
 rw[show((0:Int),(0:Int),((0:Int),(0:Int),(0:Int),(0:Int),()),())=(λj:Nat=>((0:Int),(j:Int),((0:Int),(0:Int),(0:Int),(0:Int),()),())) 0 from rfl,Jo (λj:Nat=>((0:Int),(j:Int),((0:Int),(0:Int),(0:Int),(0:Int),()),())) 1 (0,(k:Int),((norm p).f,(norm p).a,(norm p).b,(norm p).c,()),()) k 0 fu ?_ ?_ (by omega)]
 ·simp only[QM]
 ·intro j _ hj;have e2:=Zpx fu d hf (wt p) (Zmr h) j (by omega);rw[hkl j (by omega)]at e2;unfold plc at e2;simp(disch:=omega)only[QM,QD,e2,Zq6,Zq8,Zq4,Nat.reduceAdd,Zr3,Zso]
 ·have e2:=Zpx fu d hf (wt p) (Zmr h) k hk;rw[hke,Mo.2 (F2 h).2]at e2;unfold plc at e2;simp(disch:=omega)only[QM,QD,e2,Zq6,Zq8,Zq4,Nat.reduceAdd]
end Go.Proofs.YtoaanfjcjbghaaaGreatDoor
/- The nodes of the grids as they are collected; a map from the nodes to their numbers: plain laws. -/
namespace Go.Grid
def pre (n f i j:Nat):List Pl:=(List.range f).flatMap (face n)++((List.range i).flatMap (row n f)++(List.range j).map (pt n f i))
def Ub (n f i j:Nat):List Pl:=(pre n f i j).filter isN
theorem pre_j (n f i j:Nat):pre n f i (j+1)=pre n f i j++[pt n f i j]:=by
 unfold pre;rw[List.range_succ,List.map_append];simp[List.append_assoc]
theorem Zpy (n f i:Nat):pre n f i (n+1-i)=pre n f (i+1) 0:=by
 unfold pre;rw[List.range_succ,List.flatMap_append];simp[row]
theorem Zpz (n f:Nat):pre n f (n+1) 0=pre n (f+1) 0 0:=by
 unfold pre;rw[List.range_succ (n:=f),List.flatMap_append];simp[face]
theorem Zou (n:Nat):pre n 20 0 0=pts n:=by unfold pre pts;simp
theorem Zms (n f i j:Nat):Ub n f i (j+1)=if norm (pt n f i j)=pt n f i j then Ub n f i j++[pt n f i j]else Ub n f i j:=by
 unfold Ub;rw[pre_j,List.filter_append];simp only[List.filter_cons,List.filter_nil,isN,decide_eq_true_eq];split<;>simp
theorem Zqo {n f i j:Nat} (h:Zu n) {q:Pl} (hq:q∈pre n f i j):plt q (pt n f i j):=by
 have hst:=Vb h;have hmul: ∀{i j:Nat},i<j->i*(840/n)<j*(840/n):=λhij=>Nat.mul_lt_mul_of_pos_right hij (by omega);simp only[pre,List.mem_append,List.mem_flatMap,List.mem_range,List.mem_map,face,row]at hq;rcases hq with⟨f',h1,i',_,j',_,rfl⟩|⟨i',h1,j',_,rfl⟩|⟨j',h1,rfl⟩
 ·exact .inl h1
 ·exact .inr ⟨rfl, .inl (hmul h1)⟩
 ·exact .inr ⟨rfl, .inr ⟨rfl,hmul h1⟩⟩
theorem Zmt {n f i j:Nat} (h:Zu n):pt n f i j∉Ub n f i j:=λhm=>Kq _ (Zqo h (List.mem_filter.1 hm).1)
theorem Qe {B:Type} {g:Nat->List B} {m:Nat} (h: ∀x,(g x).length<=m): ∀k,((List.range k).flatMap g).length<=k*m
 |0=>by simp
 |k+1=>by
  rw[List.range_succ,List.flatMap_append,List.length_append,Nat.succ_mul];have:=Qe h k;have:=h k;simp only[List.flatMap_cons,List.flatMap_nil,List.append_nil];omega
theorem Zmu (n f i:Nat) (h:n<=8):(row n f i).length<=9:=by unfold row;simp;omega
theorem Zov (n f:Nat) (h:n<=8):(face n f).length<=81:=by
 unfold face;have:=Qe (g:=row n f) (λi=>Zmu n f i h) (n+1);omega
theorem Ur {n f i j:Nat} (h:Zu n) (hf:f<=20) (hi:i<=9) (hj:j<=9):(Ub n f i j).length<=2000:=by
 refine Nat.le_trans (List.length_filter_le _ _) ?_;unfold pre;rw[List.length_append,List.length_append,List.length_map,List.length_range];have h1:=Qe (g:=face n) (λf=>Zov n f h.2) f;have h2:=Qe (g:=row n f) (λi=>Zmu n f i h.2) i;omega
theorem Zd7 (n:Nat):Ub n 20 0 0=Zg n:=by unfold Ub;rw[Zou];rfl
theorem Zjv {p:Pl} (h:p.ok) (ha:0<p.a) (hb:0<p.b) (hc:0<p.c):isN p=true:=decide_eq_true (Zgg h ha hb hc)
end Go.Grid
/- The nodes of a grid where the net is handed out as a new object. -/
namespace Go.Proofs.YtoaanfjcjbghaaaGreatDoor
open Go Go.PM Go.Grid
theorem Wb (p q:Pl):eqT Tryz.prog 20 ty_api_Place (plc p) (plc q)=some (decide (p=q)):=by
 have:eqT Tryz.prog 20 ty_api_Place (plc p) (plc q)=some ((p.f:Int)==q.f&&((p.a:Int)==q.a&&((p.b:Int)==q.b&&((p.c:Int)==q.c&&true)))):=by kernel_rfl
 rw[this,Bool.and_true,Zbg]
def esn:Nat->List Pl->List (List C×List C)
 |_,[]=>[]
 |k,p::r=>(plc p,[.v (.int .i64 k)])::esn (k+1) r
theorem Zd8 (p:Pl): ∀(l:List Pl) (k:Nat),esn k l++[(plc p,[.v (.int .i64 ((k+l.length:Nat):Int))])]=esn k (l++[p])
 | [],k=>by simp[esn]
 |q::l,k=>by
  simp only[esn,Zr8,Zq6];rw[<-Zd8 p l (k+1),show k+(l.length+1)=k+1+l.length by omega]
theorem Zmv (p:Pl):Ze2 (plc p) (plc p)=true:=by simp[plc,Ze2,ceq]
theorem Zhw {p:Pl}: ∀(l:List Pl) (k i:Nat),p∉l->mfind Tryz.prog ty_api_Place (plc p) (esn k l) i=some none
 | [],k,i,_=>by simp[esn,mfind]
 |q::l,k,i,h=>by
  simp only[esn,mfind,Wb];rw[decide_eq_false (λe=>h (by simp[e]))];simp only[cf];exact Zhw l (k+1) (i+1) (λe=>h (by simp[e]))
theorem Zhx {p:Pl}: ∀(l:List Pl) (k i:Nat),p∈l->mfind Tryz.prog ty_api_Place (plc p) (esn k l) i=some (some (i+l.idxOf p,[.v (.int .i64 ((k+l.idxOf p:Nat):Int))]))
 | [],k,i,h=>by cases h
 |q::l,k,i,h=>by
  simp only[esn,mfind,Wb];by_cases e:p=q
  ·subst e;rw[decide_eq_true rfl];simp[Zmv,need]
  ·rw[decide_eq_false e];simp only[cf];have hm:p∈l:=by rcases Zrl.1 h with h|h;exact absurd h e;exact h
   rw[Zhx l (k+1) (i+1) hm,List.idxOf_cons];have:(q==p)=false:=by simpa using Ne.symm e
   rw[this];simp only[cond_false];rw[show i+1+l.idxOf p=i+(l.idxOf p+1) by omega,show k+1+l.idxOf p=k+(l.idxOf p+1) by omega]
theorem Zjw (es:List (List C×List C)) (k v:List C):mput es none k v=es++[(k,v)]:=id rfl
abbrev netC (n:Nat) (l:List Pl):List C:=[.v (.int .i64 n), .v (.int .i64 ((840/n:Nat):Int)),C.sl l.length (fl plc l),C.mp ty_api_Place ty_int (some 4) none (esn 0 l),C.nl,C.nl,C.nl]
abbrev Zjx (n:Nat) (l:List Pl):Int×Int×List C×List (List C×List C)×C×C×C×Unit:=((n:Int),((840/n:Nat):Int),fl plc l,esn 0 l,C.nl,C.nl,C.nl,())
theorem Cp {n:Nat} (h:Zu n):IntKind.i64.wrap (Int.tdiv 840 n)=((840/n:Nat):Int):=by
 rcases Qd h with rfl|rfl|rfl|rfl|rfl|rfl|rfl|rfl<;>rfl
theorem Mq {n i:Nat} (h:Zu n) (hi:i<=n):i*(840/n)<=840:=by
 have:=Zsq (840/n) hi;rw[S7 h]at this;exact this
theorem Pm {n i:Nat} (h:Zu n) (hi:i<=n):IntKind.i64.wrap ((i:Int)*((840/n:Nat):Int))=((i*(840/n):Nat):Int):=by
 have:=Mq h hi;rw[show((i:Int)*((840/n:Nat):Int))=((i*(840/n):Nat):Int) from(Int.natCast_mul _ _).symm];exact Q1 (Int.le_trans (by decide) (Int.natCast_nonneg _)) (Int.le_trans (Int.ofNat_le.2 this) (by decide))
theorem Mr (l:List Pl) (f a b c:Nat):fl plc l++[.v (.int .i64 f), .v (.int .i64 a), .v (.int .i64 b), .v (.int .i64 c)]=fl plc (l++[⟨f,a,b,c⟩]):=Js l ⟨f,a,b,c⟩
theorem Zjy (l:List Pl) (f a b c:Nat):esn 0 l++[([.v (.int .i64 f), .v (.int .i64 a), .v (.int .i64 b), .v (.int .i64 c)],[.v (.int .i64 (l.length:Int))])]=esn 0 (l++[⟨f,a,b,c⟩]):=by
 have:=Zd8 ⟨f,a,b,c⟩ l 0;rw[Zq4]at this;exact this
theorem Zgo (fu d:Nat) (hf:18446744073709551616<=fu) (n:Nat) (h:Zu n):cl fu (d+5) fn_mesh_Points [I n] []=some ⟨V.ptr 1000000 0,[.ob ty_mesh_Net 0 (netC n (Zg n))],none⟩:=by
 have hn:=h;unfold Zu at hn;rw[eq_mesh_Points,Cp h,show(!((n:Int)==0))=true from by rw[Hq (by omega)];rfl,Au];rw[Zk (λf:Nat=>((f:Int),Zjx n (Ub n f 0 0),())) 0 ((20:Int),Zjx n (Ub n 20 0 0),()) 20 ?_ ?_ ?_ (by omega)]
 ·rw[Zd7];simp(disch:=omega)only[QM,QD,Zh Zp,Xr,Zq4];rw[Zrc (by rw[Zh Zp];omega)]
 ·rfl
 ·intro f hf';have hl:(Ub n f 0 0).length<=2000:=Ur h (by omega) (by omega) (by omega);simp(disch:=omega)only[QM,QD,Zh Zp,Xr];rw[Zk (λi:Nat=>((i:Int),Zjx n (Ub n f i 0),())) 0 (((n+1:Nat):Int),Zjx n (Ub n f (n+1) 0),()) (n+1) ?_ ?_ ?_ (by omega)]
  ·have hl:(Ub n f (n+1) 0).length<=2000:=Ur h (by omega) (by omega) (by omega);simp(disch:=omega)only[QM,QD,Zh Zp,Xr,Zr3,Zso];unfold Ub;rw[Zpz]
  ·rfl
  ·intro i hi;have hl:(Ub n f i 0).length<=2000:=Ur h (by omega) (by omega) (by omega);simp(disch:=omega)only[QM,QD,Zh Zp,Xr];rw[Zk (λj:Nat=>((j:Int),Zjx n (Ub n f i j),())) 0 (((n+1-i:Nat):Int),Zjx n (Ub n f i (n+1-i)),()) (n+1-i) ?_ ?_ ?_ (by omega)]
   ·have hl:(Ub n f i (n+1-i)).length<=2000:=Ur h (by omega) (by omega) (by omega);simp(disch:=omega)only[QM,QD,Zh Zp,Xr,Zr3,Zso];unfold Ub;rw[Zpy]
   ·rfl
   ·intro j hj;have hl:(Ub n f i j).length<=2000:=Ur h (by omega) (by omega) (by omega);have hnot:=Zmt (f:=f) (i:=i) (j:=j) h;have hc:IntKind.i64.wrap (((n:Int)-(i:Int)-(j:Int))*((840/n:Nat):Int))=(((n-i-j)*(840/n):Nat):Int):=by
     rw[show(n:Int)-i-j=((n-i-j:Nat):Int) by omega,Pm h (by omega)]
    have e2:=Wa fu d hf (pt n f i j) (Zmo h hf' (by omega));have e3:=Zhw (Ub n f i j) 0 0 hnot;have e4:=Zbg (norm (pt n f i j)) (pt n f i j);have e5:=Zms n f i j;generalize hz:decide (norm (pt n f i j)=pt n f i j)=z at e4;replace e5:Ub n f i (j+1)=bif z then Ub n f i j++[pt n f i j]else Ub n f i j:=by
     cases z with
     |true=>rw[e5,if_pos (of_decide_eq_true hz)];rfl
     |false=>rw[e5,if_neg (of_decide_eq_false hz)];rfl
    clear hz;simp only[plc]at e2 e3;generalize norm (pt n f i j)=q at e2 e4 e5;simp only[pt]at e2 e3 e4 e5;simp(disch:=omega)only[QM,QD,hc,Pm h (show i<=n by omega),Pm h (show j<=n by omega),e2,e4,Zq6,Zq8,Zq4,Nat.reduceAdd,Zh Zp,Xr];rw[e5];cases z with
    |true=>
     simp(disch:=omega)only[QM,QD,mfd,e3,Zjw,Mr,Zjy,Zh Zp,Xr,Zre,Zq6,Zq8,Zq4,Zr3,Zso]
    |false=>
     simp(disch:=omega)only[QM,QD,Zr3,Zso]
   ·have hl:(Ub n f i (n+1-i)).length<=2000:=Ur h (by omega) (by omega) (by omega);simp(disch:=omega)only[QM,QD,Zh Zp,Xr]
  ·have hl:(Ub n f (n+1) 0).length<=2000:=Ur h (by omega) (by omega) (by omega);simp(disch:=omega)only[QM,QD,Zh Zp,Xr]
 ·have hl:(Ub n 20 0 0).length<=2000:=Ur h (by omega) (by omega) (by omega);simp(disch:=omega)only[QM,QD,Zh Zp,Xr];rfl
end Go.Proofs.YtoaanfjcjbghaaaGreatDoor
/- Rules that keep simp at what comes first: nothing behind it is looked at (attribute [local congr] in the texts that use them). -/
namespace Go.PM
open Go
def hdt {A:Type} (x:A):A:=x
theorem Zb {A:Type} (x:A):hdt x=x:=id rfl
theorem Zd9:Nat.beq 1000000 (OUT+0)=true:=id rfl
theorem out1:Nat.beq 1000001 (OUT+1)=true:=id rfl
theorem out2:Nat.beq 1000002 (OUT+2)=true:=id rfl
section
variable {R A B':Type}
theorem Z1 {x x':Option A} {k:A->Option B'} (h:hdt x=x'):x.bind k=x'.bind k:=by rw[<-h];rfl
theorem Z2 {b b':Bool} {k:Option R} (h:hdt b=b'):need b k=need b' k:=by rw[<-h];rfl
theorem Z3 {b b':Bool} {x y:R} (h:hdt b=b'):(bif b then x else y)=(bif b' then x else y):=by rw[<-h];rfl
theorem Yp {c c':List C} {k:C->List C->Option R} (h:hdt c=c'):unc c k=unc c' k:=by rw[<-h];rfl
theorem Z4 {c c':List V} {k:V->List V->Option R} (h:hdt c=c'):uncV c k=uncV c' k:=by rw[<-h];rfl
theorem Z5 {c c':List PM.Obj} {k:PM.Obj->List PM.Obj->Option R} (h:hdt c=c'):uncO c k=uncO c' k:=by rw[<-h];rfl
theorem Yq {c c':List (List V)} {k:List V->List (List V)->Option R} (h:hdt c=c'):unI c k=unI c' k:=by rw[<-h];rfl
theorem Yr {kd:IntKind} {c c':C} {k:Int->Option R} (h:hdt c=c'):asI kd c k=asI kd c' k:=by rw[<-h];rfl
theorem Ys {c c':C} {k:Bool->Option R} (h:hdt c=c'):asB c k=asB c' k:=by rw[<-h];rfl
theorem Yt {c c':C} {k:ByteArray->Option R} (h:hdt c=c'):asS c k=asS c' k:=by rw[<-h];rfl
theorem Z6 {c c':C} {k:Nat->List C->Option R} (h:hdt c=c'):asSl c k=asSl c' k:=by rw[<-h];rfl
theorem Z7 {c c':C} {k:FuncId->List C->Option R} (h:hdt c=c'):asFn c k=asFn c' k:=by rw[<-h];rfl
theorem Yu {c c':C} {k:List C->Option R} (h:hdt c=c'):asP c k=asP c' k:=by rw[<-h];rfl
theorem Z8 {c c':C} {ky:Nat->Option R} {k:FuncId->List C->Option R} (h:hdt c=c'):Ws c ky k=Ws c' ky k:=by rw[<-h];rfl
theorem Xt {x x':V} {k:C->Option R} (h:hdt x=x'):rC x k=rC x' k:=by rw[<-h];rfl
theorem Xu {x x':V} {k:List C->Option R} (h:hdt x=x'):rA x k=rA x' k:=by rw[<-h];rfl
theorem Xv {x x':V} {k:List V->Option R} (h:hdt x=x'):rT x k=rT x' k:=by rw[<-h];rfl
theorem Xw {x x':V} {k:List V->Option R} (h:hdt x=x'):rG x k=rG x' k:=by rw[<-h];rfl
theorem Xx {x x':V} {m:Nat} {k:Option R} (h:hdt x=x'):rP x m k=rP x' m k:=by rw[<-h];rfl
theorem Xy {x x':V} {m:Nat} {k:Nat->Option R} (h:hdt x=x'):rW x m k=rW x' m k:=by rw[<-h];rfl
theorem Xz {o o':PM.Obj} {t fz:Nat} {k:List C->Option R} (h:hdt o=o'):rO o t fz k=rO o' t fz k:=by rw[<-h];rfl
theorem X0 {o o':PM.Obj} {t n:Nat} {k:List C->Option R} (h:hdt o=o'):rN o t n k=rN o' t n k:=by rw[<-h];rfl
theorem X1 {o o':PM.Obj} {t:Nat} {k:Nat->List C->Option R} (h:hdt o=o'):rF o t k=rF o' t k:=by rw[<-h];rfl
theorem X2 {o o':PM.Obj} {t fz:Nat} {k:List C->Option R} (h:hdt o=o'):rS o t fz k=rS o' t fz k:=by rw[<-h];rfl
theorem Z9 {x x':List V} {k:Option R} (h:hdt x=x'):nilV x k=nilV x' k:=by rw[<-h];rfl
theorem Ya {n n':Nat} {a:Option R} {b:Nat->Option R} (h:hdt n=n'):natD n a b=natD n' a b:=by rw[<-h];rfl
theorem X3 {x x':A} {k:A->Option R} (h:hdt x=x'):bd x k=bd x' k:=by rw[<-h];rfl
theorem Yb {body:A->Option (Nat×A)} {fu:Nat} {x x':A} (h:hdt x=x'):iter body fu x=iter body fu x':=by rw[<-h];rfl
theorem Yc {I:Type} {body:I->A->Option (Nat×A)} {l l':List I} {x x':A} (h1:hdt l=l') (h:hdt x=x'):overK body l x=overK body l' x':=by rw[<-h,<-h1];rfl
theorem Zt {sz:Nat} {lo lo' hi hi':Option V} {c c':C} {k:C->Option R} (h1:hdt lo=lo') (h2:hdt hi=hi') (h:hdt c=c'):sliceC sz lo hi c k=sliceC sz lo' hi' c' k:=by rw[<-h,<-h1,<-h2];rfl
theorem Yd {c c':C} {kt et:TypeId} {ka va:Option Nat} {k:List (List C×List C)->Option R} (h:hdt c=c'):Zcb c kt et ka va k=Zcb c' kt et ka va k:=by rw[<-h];rfl
end
end Go.PM
/- A grid's cells: what the functions that add them come to. -/
namespace Go.PM
open Go
theorem Zqp {R:Type} (g t:Nat) (ps:List PC) (k:List PC->Option R):rPk (.pk g t (.ps ps) none) t k=k ps:=by
 show need (Nat.beq t t) (k ps)=_;rw[show Nat.beq t t=true from Zsp t];rfl
theorem Zjz {R:Type} (p:PC) (ps:List PC) (k:PC->List PC->Option R):uncP (p::ps) k=k p ps:=id rfl
theorem Zqq {R:Type} (c:C) (k:C->Option R):asPc (.c c) k=k c:=id rfl
theorem Zqr {R:Type} (te:TypeId) (row:List C) (k:List C->Option R):asRw te (.r te row) k=k row:=by
 show need (Nat.beq te te) (k row)=_;rw[show Nat.beq te te=true from Zsp te];rfl
theorem Zow {R:Type} (te:TypeId) (row:List C) (k:List C->Option R):asRow te (.r te row) k=k row:=by
 show need (Nat.beq te te) (k row)=_;rw[show Nat.beq te te=true from Zsp te];rfl
theorem Zmw {R:Type} (te:TypeId) (k:List C->Option R):asRow te (.c .nl) k=k []:=id rfl
theorem Zmx {R:Type} (k:Option R):nilP [] k=k:=id rfl
theorem Ht {R:Type} (te:TypeId) (row cs:List C) (k:List C->Option R) (h:cs.length=row.length):rowBack te row false [.sb te 0 cs] k=k cs:=by
 show need (Nat.beq te te&&Nat.beq cs.length row.length&&Nat.beq 0 0) (k cs)=_;rw[show Nat.beq te te=true from Zsp te,h,show Nat.beq row.length row.length=true from Zsp _];rfl
theorem Zj0 {R:Type} (te:TypeId) (row cs:List C) (k:List C->Option R) (h:cs.length=row.length):rowBack te row true [.sb te row.length cs] k=k cs:=by
 show need (Nat.beq te te&&Nat.beq cs.length row.length&&Nat.beq row.length cs.length) (k cs)=_;rw[show Nat.beq te te=true from Zsp te,h,show Nat.beq row.length row.length=true from Zsp _];rfl
set_option linter.defProp false in
def QE:=And.intro @Zqp (And.intro @Zjz (And.intro @Zqq (And.intro @Zqr (And.intro @Zow (And.intro @Zmw @Zmx)))))
end Go.PM
namespace Go.Proofs.YtoaanfjcjbghaaaGreatDoor
open Go Go.PM Go.Grid
attribute [local congr] Z1 Z2 Z3 Yp Z4 Z5 Yq Yr Ys Yt Z6 Z7 Yu Xt Xu Xv Xw Xx Xz X0 X1 X2 Xy Z9 Ya X3 Yb Yc Zt Yd Z8
abbrev Zmy (n:Nat) (cs:List C):List PC:=[PC.c (C.v (.int .i64 n)),PC.c (C.v (.int .i64 ((840/n:Nat):Int))),PC.c (C.sl (Zg n).length (fl plc (Zg n))),PC.c (C.mp ty_api_Place ty_int (some 4) none (esn 0 (Zg n))),PC.r ty_api_Cell cs,PC.c .nl,PC.c .nl]
abbrev Li (g n:Nat) (cs:List C):PM.Obj:= .pk g ty_mesh_Net (.ps (Zmy n cs)) none
theorem Ye {n:Nat} (h:Zu n):(Zg n).length<=700:=by
 rw[Y4 h];rcases Qd h with rfl|rfl|rfl|rfl|rfl|rfl|rfl|rfl<;>decide
section
variable (fu d:Nat) (hf:18446744073709551616<=fu)
theorem Rb (f a b c:Nat) (x y z:Int) (h:a<=10000/\b<=10000/\c<=10000) (hx: -10000<=x/\x<=10000) (hy: -10000<=y/\y<=10000) (hz: -10000<=z/\z<=10000):
  cl fu (d+1) fn_mesh_moved [V.agg (plc ⟨f,a,b,c⟩),I x,I y,I z] []=OK (V.agg [C.v (.int .i64 f),C.v (.int .i64 (a+x)),C.v (.int .i64 (b+y)),C.v (.int .i64 (c+z))]):=by
 simp only[plc];rw[eq_mesh_moved,Q1 (by omega) (by omega),Q1 (by omega) (by omega),Q1 (by omega) (by omega)]
include hf
theorem Zgp (g n:Nat) (h:Zu n) (p:Pl) (hp:p∈pts n) (cs:List C):
  cl fu (d+5) fn_mesh_Net_at [V.ptr 1000000 0,V.agg (plc p)] [Li g n cs]=some ⟨I (idx n p),[Li g n cs],none⟩:=by
 have hok:=Ci h hp;have e1:=Wa fu d hf p hok;have e2:=Zhx (Zg n) 0 0 (Zd4 h hp);simp only[plc]at e1 e2⊢;rw[eqp_mesh_Net_at];simp(disch:=omega)only[Zb,QM,QD,e1,mfd,e2,orZ,Zq6,Zq8,Zq4,Nat.reduceAdd];rfl
omit hf in
theorem Jv {α:Type} {le:α->α->Prop} (anti: ∀a b,le a b->le b a->a=b): ∀{p q:List α},p.Perm q->p.Pairwise le->q.Pairwise le->p=q
 | [],q,h,_,_=>(List.nil_perm.1 h).symm
 |a::p,[],h,_,_=>by have:=h.length_eq;simp at this
 |a::p,b::q,h,hp,hq=>by
  rw[Zsg]at hp hq;have e:a=b:=by
   have h1:a∈b::q:=h.mem_iff.1 (Zsd ..);have h2:b∈a::p:=h.mem_iff.2 (Zsd ..);rcases Zrl.1 h1 with h1|h1
   ·exact h1
   ·rcases Zrl.1 h2 with h2|h2
    ·exact h2.symm
    ·exact anti a b (hp.1 b h2) (hq.1 a h1)
  subst e;rw[Jv anti h.cons_inv hp.2 hq.2]
omit hf in
theorem Zgq (l:List Int):(Va l).Perm l:=List.mergeSort_perm ..
omit hf in
theorem Zj1 (l:List Int):(Va l).Pairwise (λa b=>a<=b):=by
 have:=List.pairwise_mergeSort (le:=λx y:Int=>decide (x<=y)) (λa b c h1 h2=>by simp at*;omega) (λa b=>by simp;omega) l;exact this.imp λh=>by simpa using h
omit hf in
theorem Zmz {l m:List Int} (hp:m.Perm l) (hs:m.Pairwise (λa b=>a<=b)):Va l=m:=
 Jv (λa b h1 h2=>Int.le_antisymm h1 h2) ((Zgq l).trans hp.symm) (Zj1 l) hs
omit hf in
theorem Zox (i j k:Nat):Va [(i:Int),j,k]=[((Xe i j k).1:Int),((Xe i j k).2.1:Int),((Xe i j k).2.2:Int)]:=by
 unfold Xe;split<;>split<;>try split
 all_goals
  refine Zmz ?_ (by simp;omega);first
  |exact .refl _
  |exact .swap _ _ _
  |exact(List.Perm.swap _ _ _).cons _
  |exact(List.Perm.swap _ _ _).trans ((List.Perm.swap _ _ _).cons _)
  |exact((List.Perm.swap _ _ _).cons _).trans (.swap _ _ _)
  |exact((List.Perm.swap _ _ _).trans ((List.Perm.swap _ _ _).cons _)).trans (.swap _ _ _)
end
end Go.Proofs.YtoaanfjcjbghaaaGreatDoor
/- A grid's cells, one place after the other. -/
namespace Go.Proofs.YtoaanfjcjbghaaaGreatDoor
open Go Go.PM Go.Grid
attribute [local congr] Z1 Z2 Z3 Yp Z4 Z5 Yq Yr Ys Yt Z6 Z7 Yu Xt Xu Xv Xw Xx Xz X0 X1 X2 Xy Z9 Ya X3 Yb Yc Zt Yd Z8
abbrev pl3 (p q r:Pl):List C:=[.v (.int .i64 p.f), .v (.int .i64 p.a), .v (.int .i64 p.b), .v (.int .i64 p.c), .v (.int .i64 q.f), .v (.int .i64 q.a), .v (.int .i64 q.b), .v (.int .i64 q.c), .v (.int .i64 r.f), .v (.int .i64 r.a), .v (.int .i64 r.b), .v (.int .i64 r.c)]
def trC (t:Nat×Nat×Nat):List C:=[.v (.int .i64 t.1), .v (.int .i64 t.2.1), .v (.int .i64 t.2.2)]
theorem Yg (t:Nat×Nat×Nat):(trC t).length=3:=rfl
section
variable (fu d:Nat) (hf:18446744073709551616<=fu)
theorem Zj2 (g n f a b c:Nat) (h:Zu n) (hb:a<=840/\b<=840/\c<=840) (cs:List C):
  cl fu (d+2) fn_mesh_Net_upward [V.ptr 1000000 0,V.agg (plc ⟨f,a,b,c⟩)] [Li g n cs]=some ⟨V.agg (pl3 ⟨f,a+840/n,b,c⟩ ⟨f,a,b+840/n,c⟩ ⟨f,a,b,c+840/n⟩),[Li g n cs],none⟩:=by
 have hs:=Vb h;have m1:=Rb fu d f a b c ((840/n:Nat):Int) 0 0 (by omega) (by omega) (by omega) (by omega);have m2:=Rb fu d f a b c 0 ((840/n:Nat):Int) 0 (by omega) (by omega) (by omega) (by omega);have m3:=Rb fu d f a b c 0 0 ((840/n:Nat):Int) (by omega) (by omega) (by omega) (by omega);simp only[plc]at m1 m2 m3⊢;rw[eqp_mesh_Net_upward];simp(disch:=omega)only[Zb,QM,QD,m1,m2,m3,Zq6,Zq8,Zq4,Nat.reduceAdd,Int.add_zero];rfl
theorem Zea (g n f a b c:Nat) (h:Zu n) (hb:a<=840/\b<=840/\c<=840) (cs:List C):
  cl fu (d+2) fn_mesh_Net_downward [V.ptr 1000000 0,V.agg (plc ⟨f,a,b,c⟩)] [Li g n cs]=some ⟨V.agg (pl3 ⟨f,a,b+840/n,c+840/n⟩ ⟨f,a+840/n,b,c+840/n⟩ ⟨f,a+840/n,b+840/n,c⟩),[Li g n cs],none⟩:=by
 have hs:=Vb h;have m1:=Rb fu d f a b c 0 ((840/n:Nat):Int) ((840/n:Nat):Int) (by omega) (by omega) (by omega) (by omega);have m2:=Rb fu d f a b c ((840/n:Nat):Int) 0 ((840/n:Nat):Int) (by omega) (by omega) (by omega) (by omega);have m3:=Rb fu d f a b c ((840/n:Nat):Int) ((840/n:Nat):Int) 0 (by omega) (by omega) (by omega) (by omega);simp only[plc]at m1 m2 m3⊢;rw[eqp_mesh_Net_downward];simp(disch:=omega)only[Zb,QM,QD,m1,m2,m3,Zq6,Zq8,Zq4,Nat.reduceAdd,Int.add_zero];rfl
theorem Zm0 (i j k:Nat):cl fu (d+1) fn_slices_Sort_sint_int [V.ws 1000000 3] [.ob ty_3_int 0 [.v (.int .i64 i), .v (.int .i64 j), .v (.int .i64 k)]]=some ⟨.tup [],[.ob ty_3_int 0 (trC (Xe i j k))],none⟩:=by
 have e:cl fu (d+1) fn_slices_Sort_sint_int [V.ws 1000000 3] [.ob ty_3_int 0 [.v (.int .i64 i), .v (.int .i64 j), .v (.int .i64 k)]]=some ⟨.tup [],[.ob ty_3_int 0 (ints (Va [(i:Int),j,k]))],none⟩:=by kernel_rfl
 rw[e,Zox];rfl
include hf
theorem Zhy (g n:Nat) (h:Zu n) (p q r:Pl) (hp:p∈pts n) (hq:q∈pts n) (hr:r∈pts n) (L:List (Nat×Nat×Nat)) (hL:L.length<=100000):
  cl fu (d+6) fn_mesh_Net_cell [V.ptr 1000000 0,V.agg (pl3 p q r)] [Li g n (fl trC L)]=some ⟨V.tup [],[Li 1 n (fl trC (L++[tc n p q r]))],none⟩:=by
 have hfl:=Zh Yg L;have hdv:L.length*3/3=L.length:=by omega
 have a1:=Zgp fu d hf 0 n h p hp (fl trC L);have a2:=Zgp fu d hf 0 n h q hq (fl trC L);have a3:=Zgp fu d hf 0 n h r hr (fl trC L);have hsn:fl trC L++[.v (.int .i64 (tc n p q r).1), .v (.int .i64 (tc n p q r).2.1), .v (.int .i64 (tc n p q r).2.2)]=fl trC (L++[tc n p q r]):=Js L _;have hfl2:(fl trC (L++[tc n p q r])).length=(L.length+1)*3:=by rw[Zh Yg,Zre];rfl
 have hs:=Zm0 fu (d+4) (idx n p) (idx n q) (idx n r);generalize hi:idx n p=ip at*
 generalize hj:idx n q=iq at*
 generalize hk:idx n r=ir at*
 unfold tc at hsn hfl2⊢;rw[hi,hj,hk]at hsn hfl2⊢;simp only[plc]at a1 a2 a3;unfold Li Zmy at a1 a2 a3⊢;rw[eqp_mesh_Net_cell];generalize (Zg n).length=nl at*
 generalize fl plc (Zg n)=nc at*
 generalize esn 0 (Zg n)=es at*
 simp(disch:=omega)only[Zb,QM,QD,Zq6,Zq8,Zq4,Nat.reduceAdd];rw[Zk (λj:Nat=>(((j:Nat):Int),(match j with|0=>[C.v (.int .i64 0),C.v (.int .i64 0),C.v (.int .i64 0)]|1=>[C.v (.int .i64 ip),C.v (.int .i64 0),C.v (.int .i64 0)]|2=>[C.v (.int .i64 ip),C.v (.int .i64 iq),C.v (.int .i64 0)]|_=>[C.v (.int .i64 ip),C.v (.int .i64 iq),C.v (.int .i64 ir)]),((n:Int),(((840/n:Nat):Int)),C.sl nl nc,C.mp ty_api_Place ty_int (some 4) none es,fl trC L,C.nl,C.nl,()),())) 0
  ((3:Int),[C.v (.int .i64 ip),C.v (.int .i64 iq),C.v (.int .i64 ir)],((n:Int),(((840/n:Nat):Int)),C.sl nl nc,C.mp ty_api_Place ty_int (some 4) none es,fl trC L,C.nl,C.nl,()),()) 3 ?_ ?_ ?_ (by omega)]
 ·simp(disch:=omega)only[Zb,QM,QD,hs,trC,Zq6,Zq8,Zq4,Nat.reduceAdd,hfl,hdv,Zsy,Zsw,hsn,hfl2]
 ·rfl
 ·intro j hj;rcases(show j=0\/j=1\/j=2 by omega)with rfl|rfl|rfl
  ·simp(disch:=omega)only[Zb,QM,QD,QE,a1,Nat.reduceMul,Zq5,Int.ofNat_zero,Zta,show Int.toNat 1=1 from rfl,show Int.toNat 2=2 from rfl,show((1:Nat):Int)=1 from rfl,show((2:Nat):Int)=2 from rfl,Zsc,Nat.one_mul,List.take_succ_cons,Zs5,Zsw,Zsy,Zq6,Zq8,Zq4,Nat.reduceAdd];rfl
  ·simp(disch:=omega)only[Zb,QM,QD,QE,a2,Nat.reduceMul,Zq5,Int.ofNat_zero,Zta,show Int.toNat 1=1 from rfl,show Int.toNat 2=2 from rfl,show((1:Nat):Int)=1 from rfl,show((2:Nat):Int)=2 from rfl,Zsc,Nat.one_mul,List.take_succ_cons,Zs5,Zsw,Zsy,Zq6,Zq8,Zq4,Nat.reduceAdd];rfl
  ·simp(disch:=omega)only[Zb,QM,QD,QE,a3,Nat.reduceMul,Zq5,Int.ofNat_zero,Zta,show Int.toNat 1=1 from rfl,show Int.toNat 2=2 from rfl,show((1:Nat):Int)=1 from rfl,show((2:Nat):Int)=2 from rfl,Zsc,Nat.one_mul,List.take_succ_cons,Zs5,Zsw,Zsy,Zq6,Zq8,Zq4,Nat.reduceAdd];rfl
 ·rfl
end
end Go.Proofs.YtoaanfjcjbghaaaGreatDoor
/- All of a grid's cells. -/
namespace Go.Proofs.YtoaanfjcjbghaaaGreatDoor
open Go Go.PM Go.Grid
attribute [local congr] Z1 Z2 Z3 Yp Z4 Z5 Yq Yr Ys Yt Z6 Z7 Yu Xt Xu Xv Xw Xx Xz X0 X1 X2 Xy Z9 Ya X3 Yb Yc Zt Yd Z8
def Uo (n f a b:Nat):List (Nat×Nat×Nat):=(List.range f).flatMap (Lu n)++((List.range a).flatMap (rowC n f)++(List.range b).flatMap (Xn n f a))
theorem Zgr (n f a b:Nat):Uo n f a b++Xn n f a b=Uo n f a (b+1):=by
 unfold Uo;rw[Ztd,Ztb];simp[Zr4]
theorem Zm1 (n f a:Nat):Uo n f a (n-a)=Uo n f (a+1) 0:=by
 unfold Uo;rw[Ztd (n:=a),Ztb];simp[rowC]
theorem Zm2 (n f:Nat):Uo n f n 0=Uo n (f+1) 0 0:=by
 unfold Uo;rw[Ztd (n:=f),Ztb];simp[Lu]
theorem Cq (n:Nat):Uo n 20 0 0=tri n:=by unfold Uo tri;simp
theorem Cr (n f a b:Nat):(Xn n f a b).length<=2:=by unfold Xn;split<;>simp
theorem Zhz (n f a:Nat) (h:n<=8):(rowC n f a).length<=16:=by
 have:=Qe (g:=Xn n f a) (λb=>Cr n f a b) (n-a);unfold rowC;omega
theorem Zm3 (n f:Nat) (h:n<=8):(Lu n f).length<=128:=by
 have:=Qe (g:=rowC n f) (λa=>Zhz n f a h) n;unfold Lu;omega
theorem Zbh {n f a b:Nat} (h:n<=8) (hf:f<=20) (ha:a<=9) (hb:b<=9):(Uo n f a b).length<=5000:=by
 have h1:=Qe (g:=Lu n) (λa=>Zm3 n a h) f;have h2:=Qe (g:=rowC n f) (λa=>Zhz n f a h) a;have h3:=Qe (g:=Xn n f a) (λb=>Cr n f a b) b;unfold Uo;rw[Zre,Zre];omega
theorem Jw {n f i j:Nat} (hf:f<20) (h:i+j<=n):pt n f i j∈pts n:=F4.2 ⟨f,i,j,hf,h,rfl⟩
section
variable (fu d:Nat) (hf:18446744073709551616<=fu)
include hf
theorem Zm4 (g n:Nat) (h:Zu n) (f a b:Nat) (hf':f<20) (hab:a+b<n) (L:List (Nat×Nat×Nat)) (hL:L.length<=50000):
  ∃g',cl fu (d+7) fn_mesh_Net_cells [V.ptr 1000000 0,V.agg [.v (.int .i64 f), .v (.int .i64 ((a*(840/n):Nat):Int)), .v (.int .i64 ((b*(840/n):Nat):Int)), .v (.int .i64 (((n-1-a-b)*(840/n):Nat):Int))]] [Li g n (fl trC L)]=some ⟨V.tup [],[Li g' n (fl trC (L++Xn n f a b))],none⟩:=by
 have hs:=Vb h;have hn:=h;unfold Zu at hn;have ha:a*(840/n)<=840:=Mq h (by omega);have hb:b*(840/n)<=840:=Mq h (by omega);have hc:(n-1-a-b)*(840/n)<=840:=Mq h (by omega);have u1:=Zj2 fu (d+4) g n f (a*(840/n)) (b*(840/n)) ((n-1-a-b)*(840/n)) h ⟨ha,hb,hc⟩ (fl trC L);have e1:(⟨f,a*(840/n)+840/n,b*(840/n),(n-1-a-b)*(840/n)⟩:Pl)=pt n f (a+1) b:=by
  unfold pt;rw[Zsb,show n-1-a-b=n-(a+1)-b by omega]
 have e2:(⟨f,a*(840/n),b*(840/n)+840/n,(n-1-a-b)*(840/n)⟩:Pl)=pt n f a (b+1):=by
  unfold pt;rw[Zsb,show n-1-a-b=n-a-(b+1) by omega]
 have e3:(⟨f,a*(840/n),b*(840/n),(n-1-a-b)*(840/n)+840/n⟩:Pl)=pt n f a b:=by
  unfold pt;rw[<-Zsb,show(n-1-a-b).succ=n-a-b by omega]
 rw[e1,e2,e3]at u1;have p1:=Jw (n:=n) (i:=a+1) (j:=b) hf' (by omega);have p2:=Jw (n:=n) (i:=a) (j:=b+1) hf' (by omega);have p3:=Jw (n:=n) (i:=a) (j:=b) hf' (by omega);have c1:=Zhy fu d hf (Nat.succ g) n h _ _ _ p1 p2 p3 L (by omega);by_cases hd:a+b+1<n
 ·have e4:((n-1-a-b)*(840/n))=(n-2-a-b)*(840/n)+840/n:=by rw[<-Zsb,show(n-2-a-b).succ=n-1-a-b by omega]
  have hc2:(n-2-a-b)*(840/n)<=840:=by omega
  have m1:=Rb fu (d+5) f (a*(840/n)) (b*(840/n)) ((n-1-a-b)*(840/n)) 0 0 (0-((840/n:Nat):Int)) (by omega) (by omega) (by omega) (by omega);have e5:((((n-1-a-b)*(840/n):Nat):Int)+(0-((840/n:Nat):Int)))=(((n-2-a-b)*(840/n):Nat):Int):=by omega
  rw[e5]at m1;have u2:=Zea fu (d+4) (Nat.succ (Nat.succ g)) n f (a*(840/n)) (b*(840/n)) ((n-2-a-b)*(840/n)) h ⟨ha,hb,hc2⟩ (fl trC (L++[tc n (pt n f (a+1) b) (pt n f a (b+1)) (pt n f a b)]));have e6:(⟨f,a*(840/n),b*(840/n)+840/n,(n-2-a-b)*(840/n)+840/n⟩:Pl)=pt n f a (b+1):=by rw[<-e4];exact e2
  have e7:(⟨f,a*(840/n)+840/n,b*(840/n),(n-2-a-b)*(840/n)+840/n⟩:Pl)=pt n f (a+1) b:=by rw[<-e4];exact e1
  have e8:(⟨f,a*(840/n)+840/n,b*(840/n)+840/n,(n-2-a-b)*(840/n)⟩:Pl)=pt n f (a+1) (b+1):=by
   unfold pt;rw[Zsb,Zsb,show n-2-a-b=n-(a+1)-(b+1) by omega]
  rw[e6,e7,e8]at u2;have p4:=Jw (n:=n) (i:=a+1) (j:=b+1) hf' (by omega);have c2:=Zhy fu d hf (Nat.succ (Nat.succ (Nat.succ g))) n h _ _ _ p2 p1 p4 (L++[tc n (pt n f (a+1) b) (pt n f a (b+1)) (pt n f a b)]) (by simp;omega);have hge:((840/n:Nat):Int)<=(((n-1-a-b)*(840/n):Nat):Int):=by omega
  have hL2:L++Xn n f a b=(L++[tc n (pt n f (a+1) b) (pt n f a (b+1)) (pt n f a b)])++[tc n (pt n f a (b+1)) (pt n f (a+1) b) (pt n f (a+1) (b+1))]:=by
   unfold Xn;rw[if_pos hd];simp
  rw[hL2];generalize tc n (pt n f (a+1) b) (pt n f a (b+1)) (pt n f a b)=t1 at*
  generalize tc n (pt n f a (b+1)) (pt n f (a+1) b) (pt n f (a+1) (b+1))=t2 at*
  simp only[plc,Int.add_zero]at u1 u2 m1;generalize pt n f (a+1) b=q1 at*
  generalize pt n f a (b+1)=q2 at*
  generalize pt n f a b=q3 at*
  generalize pt n f (a+1) (b+1)=q4 at*
  unfold Li Zmy at u1 u2 c1 c2⊢;refine⟨Nat.succ (Nat.succ (Nat.succ (Nat.succ g))), ?_⟩;rw[eqp_mesh_Net_cells];generalize (Zg n).length=nl at*
  generalize fl plc (Zg n)=nc at*
  generalize esn 0 (Zg n)=es at*
  generalize a*(840/n)=x at*
  generalize b*(840/n)=y at*
  generalize (n-1-a-b)*(840/n)=z at*
  generalize (n-2-a-b)*(840/n)=z2 at*
  simp(disch:=omega)only[Zb,QM,QD,QE,u1,c1,m1,u2,c2,Zq6,Zq8,Zq4,Nat.reduceAdd]
 ·have hz:n-1-a-b=0:=by omega
  have hlt:(((n-1-a-b)*(840/n):Nat):Int)<((840/n:Nat):Int):=by rw[hz,Zsc];omega
  have hL2:L++Xn n f a b=L++[tc n (pt n f (a+1) b) (pt n f a (b+1)) (pt n f a b)]:=by
   unfold Xn;rw[if_neg hd]
  rw[hL2];generalize tc n (pt n f (a+1) b) (pt n f a (b+1)) (pt n f a b)=t1 at*
  simp only[plc]at u1;generalize pt n f (a+1) b=q1 at*
  generalize pt n f a (b+1)=q2 at*
  generalize pt n f a b=q3 at*
  unfold Li Zmy at u1 c1⊢;refine⟨Nat.succ (Nat.succ g), ?_⟩;rw[eqp_mesh_Net_cells];generalize (Zg n).length=nl at*
  generalize fl plc (Zg n)=nc at*
  generalize esn 0 (Zg n)=es at*
  generalize a*(840/n)=x at*
  generalize b*(840/n)=y at*
  generalize (n-1-a-b)*(840/n)=z at*
  simp(disch:=omega)only[Zb,QM,QD,QE,u1,c1,Zq6,Zq8,Zq4,Nat.reduceAdd]
end
end Go.Proofs.YtoaanfjcjbghaaaGreatDoor
/- A grid's cells and edges, sorted; equal edges once. -/
namespace Go.Proofs.YtoaanfjcjbghaaaGreatDoor
open Go Go.PM Go.Grid
attribute [local congr] Z1 Z2 Z3 Yp Z4 Z5 Yq Yr Ys Yt Z6 Z7 Yu Xt Xu Xv Xw Xx Xz X0 X1 X2 Xy Z9 Ya X3 Yb Yc Zt Yd Z8
section
variable {α:Type} (le:α->α->Bool)
theorem Hu (x:α): ∀l,(Zgm le x l).Perm (x::l)
 | []=> .refl _
 |y::l=>by
  unfold Zgm;split
  ·exact .refl _
  ·exact((Hu x l).cons y).trans (.swap x y l)
theorem Xb: ∀l,(S9 le l).Perm l
 | []=> .refl _
 |x::l=>(Hu le x (S9 le l)).trans ((Xb l).cons x)
variable {le} (ht: ∀a b,le a b=true\/le b a=true) (htr: ∀a b c,le a b=true->le b c=true->le a c=true)
include ht htr
theorem Zeb (x:α): ∀{l:List α},l.Pairwise (λa b=>le a b=true)->(Zgm le x l).Pairwise (λa b=>le a b=true)
 | [],_=>by simp[Zgm]
 |y::l,h=>by
  unfold Zgm;rw[Zsg]at h;split
  ·rename_i hxy;rw[Zsg,Zsg];exact⟨λz hz=>(Zrl.1 hz).elim (λe=>e▸hxy) λhz=>htr _ _ _ hxy (h.1 z hz),h⟩
  ·rename_i hxy;rw[Zsg];refine⟨λz hz=> ?_,Zeb x h.2⟩;rcases Zrl.1 ((Hu le x l).mem_iff.1 hz)with rfl|hz
   ·exact(ht _ _).resolve_left hxy
   ·exact h.1 z hz
theorem M7: ∀l,(S9 le l).Pairwise (λa b=>le a b=true)
 | []=> .nil
 |x::l=>Zeb ht htr x (M7 l)
end
theorem Jx {a b:Nat×Nat×Nat}:leT a b=true↔a.1<b.1\/a.1=b.1/\(a.2.1<b.2.1\/a.2.1=b.2.1/\a.2.2<=b.2.2):=by simp[leT]
theorem Tw {a b:Ed}:leZ a b=true↔a.1<b.1\/a.1=b.1/\a.2<=b.2:=by simp[leZ]
def trI (t:Nat×Nat×Nat):List Int:=[(t.1:Int),(t.2.1:Int),(t.2.2:Int)]
def edI (e:Ed):List Int:=[e.1,e.2]
def edC (e:Ed):List C:=[.v (.int .i64 e.1), .v (.int .i64 e.2)]
theorem Xc (e:Ed):(edC e).length=2:=rfl
theorem Zbi (L:List (Nat×Nat×Nat)):fl trC L=ints (L.flatMap trI):=by
 induction L with
 |nil=>rfl
 |cons x L ih=>rw[Rv,ih,Zsr];rfl
theorem Jy (L:List Ed):fl edC L=ints (Un L):=by
 induction L with
 |nil=>rfl
 |cons x L ih=>rw[Rv,ih,Na];rfl
theorem Zoy (a b:Nat×Nat×Nat):(¬lexZ [0,1,2] (trI b) (trI a)<0)↔leT a b=true:=by
 rw[Jx,Sa,Sa,Sa];simp only[trI,lexZ,List.getD_cons_zero,List.getD_cons_succ];omega
theorem Zoz (a b:Ed):(¬lexZ [0,1] (edI b) (edI a)<0)↔leZ a b=true:=by
 rw[Tw,Sa,Sa];simp only[edI,lexZ,List.getD_cons_zero,List.getD_cons_succ];omega
theorem Zm5 (a b:Nat×Nat×Nat) (h:leT a b=true) (h':leT b a=true):a=b:=by
 rw[Jx]at h h';obtain⟨a1,a2,a3⟩:=a;obtain⟨b1,b2,b3⟩:=b;simp only at h h';have e1:a1=b1:=by omega
 have e2:a2=b2:=by omega
 have e3:a3=b3:=by omega
 rw[e1,e2,e3]
theorem Zec (a b:Ed) (h:leZ a b=true) (h':leZ b a=true):a=b:=by
 rw[Tw]at h h';obtain⟨a1,a2⟩:=a;obtain⟨b1,b2⟩:=b;simp only at h h';have e1:a1=b1:=by omega
 have e2:a2=b2:=by omega
 rw[e1,e2]
section
variable (fu d:Nat)
theorem Zm6 (L:List (Nat×Nat×Nat)) (hl:L.length<=1000000):cl fu (d+1) fn_slices_SortFunc_sapi_Cell_api_Cell [V.own 1000000 0 L.length,V.c (C.fn fn_mesh_Build_1 [])] [.sb ty_api_Cell 0 (fl trC L)]=
  some ⟨.tup [],[.sb ty_api_Cell 0 (fl trC (S9 leT L))],none⟩:=by
 have e:cl fu (d+1) fn_slices_SortFunc_sapi_Cell_api_Cell [V.own 1000000 0 L.length,V.c (C.fn fn_mesh_Build_1 [])] [.sb ty_api_Cell 0 (fl trC L)]=(Tn (fl trC L)).bind λzs=>need (Nat.beq 1000000 OUT&&Nat.beq 0 0&&Nat.beq fn_mesh_Build_1 fn_mesh_Build_1&&Nat.beq ty_api_Cell ty_api_Cell&&Nat.beq 0 0&&Nat.beq zs.length (L.length*3)&&Nat.ble L.length 4611686018427387903) (some ⟨.tup [],[.sb ty_api_Cell 0 (ints (Ru 3 (Ns 3 (lexZ [0,1,2]) L.length zs)))],none⟩):=by kernel_rfl
 have hlen:(L.flatMap trI).length=L.length*3:=by
  have:=Zh Yg L;rw[Zbi]at this;simpa using this
 have e1:Nat.beq 1000000 OUT=true:=rfl;obtain⟨l',h1,h2,h3⟩:=Ce (k:=3) (g:=trI) (λ_=>rfl) (lexZ_swo [0,1,2]) L;have h4:l'=S9 leT L:=Jv Zm5 (h1.trans (Xb leT L).symm) (h2.imp λ{a b} h=>(Zoy a b).1 h) (M7 (λa b=>by rw[Jx,Jx];omega) (λa b c h h'=>by rw[Jx]at h h'⊢;omega) L);rw[e,Zbi,Rt];simp(disch:=omega)only[Zb,QM,QD,hlen,e1];rw[h3,h4,Zbi]
theorem Zm7 (L:List Ed) (hl:L.length<=1000000):cl fu (d+1) fn_slices_SortFunc_sapi_Edge_api_Edge [V.own 1000000 0 L.length,V.c (C.fn fn_mesh_Build_2 [])] [.sb ty_api_Edge 0 (fl edC L)]=
  some ⟨.tup [],[.sb ty_api_Edge 0 (fl edC (S9 leZ L))],none⟩:=by
 have e:cl fu (d+1) fn_slices_SortFunc_sapi_Edge_api_Edge [V.own 1000000 0 L.length,V.c (C.fn fn_mesh_Build_2 [])] [.sb ty_api_Edge 0 (fl edC L)]=(Tn (fl edC L)).bind λzs=>need (Nat.beq 1000000 OUT&&Nat.beq 0 0&&Nat.beq fn_mesh_Build_2 fn_mesh_Build_2&&Nat.beq ty_api_Edge ty_api_Edge&&Nat.beq 0 0&&Nat.beq zs.length (L.length*2)&&Nat.ble L.length 4611686018427387903) (some ⟨.tup [],[.sb ty_api_Edge 0 (ints (Ru 2 (Ns 2 (lexZ [0,1]) L.length zs)))],none⟩):=by kernel_rfl
 have hlen:(Un L).length=L.length*2:=Qz L;have e1:Nat.beq 1000000 OUT=true:=rfl;obtain⟨l',h1,h2,h3⟩:=Ce (k:=2) (g:=edI) (λ_=>rfl) (lexZ_swo [0,1]) L;have h4:l'=S9 leZ L:=Jv Zec (h1.trans (Xb leZ L).symm) (h2.imp λ{a b} h=>(Zoz a b).1 h) (M7 (λa b=>by rw[Tw,Tw];omega) (λa b c h h'=>by rw[Tw]at h h'⊢;omega) L);have h5: ∀l:List Ed,l.flatMap edI=Un l:=λl=>rfl;rw[e,Jy,Rt];simp(disch:=omega)only[Zb,QM,QD,hlen,e1];rw[h5,h5]at h3;rw[h3,h4,Jy]
theorem Cs {α:Type} [Inhabited α] [DecidableEq α] (l:List α):(Lib.compact l).length<=l.length:=by
 unfold Lib.compact Lib.compactUpTo;rw[Zrt];exact Zrs (List.length_filter_le ..) (by simp)
theorem G4 {α:Type} [Inhabited α] [DecidableEq α] {l:List α} {x:α} (h:x∈Lib.compact l):x∈l:=by
 unfold Lib.compact Lib.compactUpTo at h;obtain⟨j,hj,rfl⟩:=Zti.1 h;have:=Zsv.1 (List.mem_filter.1 hj).1;rw[getElem!_pos l.toArray j (by simpa using this)];simp
theorem Zgs (L:List Ed) (hl:L.length<=1000000): ∃pad:List Ed,pad.length=L.length/\cl fu (d+1) fn_slices_Compact_sapi_Edge_api_Edge [V.own 1000000 0 L.length] [.sb ty_api_Edge 0 (fl edC L)]=
  some ⟨V.c (C.sl (Lib.compact L).length (fl edC (Lib.compact L))),[.sb ty_api_Edge (fl edC L).length (fl edC pad)],none⟩:=by
 have e:cl fu (d+1) fn_slices_Compact_sapi_Edge_api_Edge [V.own 1000000 0 L.length] [.sb ty_api_Edge 0 (fl edC L)]=(Tn (fl edC L)).bind λzs=>(Mn zs).bind λl=>need (Nat.beq 1000000 OUT&&Nat.beq 0 0&&Nat.beq ty_api_Edge ty_api_Edge&&Nat.beq 0 0&&Nat.beq l.length L.length&&Nat.ble L.length 4611686018427387903&&Nat.ble (Lib.compact l).length L.length)
   (some ⟨.c (.sl (Lib.compact l).length (ints (Un (Lib.compact l)))),[.sb ty_api_Edge (fl edC L).length (ints (Un (Zd0 l L.length)))],none⟩):=by kernel_rfl
 have e1:Nat.beq 1000000 OUT=true:=rfl;have hle:=Cs L;refine⟨Zd0 L L.length,G2 hle, ?_⟩;rw[e,Jy,Rt,Jy,Jy];show(Mn (Un L)).bind _=_;rw[Zgb];simp(disch:=omega)only[Zb,QM,QD,e1]
end
end Go.Proofs.YtoaanfjcjbghaaaGreatDoor
/- A grid: what mesh.Build comes to. -/
namespace Go.Proofs.YtoaanfjcjbghaaaGreatDoor
open Go Go.PM Go.Grid
attribute [local congr] Z1 Z2 Z3 Yp Z4 Z5 Yq Yr Ys Yt Z6 Z7 Yu Xt Xu Xv Xw Xx Xz X0 X1 X2 Xy Z9 Ya X3 Yb Yc Zt Yd Z8
theorem Zp0 {a b:Nat} (h:a<b):Nat.blt a b=true:=Zte h
def Pn (R:List (List Int)) (i:Nat) (z:Int):List (List Int):=R.set i (R.getD i []++[z])
def Ct (R:List (List Int)) (e:Ed):List (List Int):=Pn (Pn R e.1.toNat e.2) e.2.toNat e.1
def V4 (N:Nat) (E:List Ed):List (List Int):=E.foldl Ct (List.replicate N [])
noncomputable def nxt (n:Nat):List (List Int):=(V4 (Zg n).length (edg n)).map Va
theorem Wc (P:Nat->Prop) {i j k:Nat} (h1:P i) (h2:P j) (h3:P k):P (Xe i j k).1/\P (Xe i j k).2.1/\P (Xe i j k).2.2:=by
 unfold Xe;split<;>split<;>try split
 all_goals exact⟨by assumption,by assumption,by assumption⟩
theorem Zbj {n:Nat} (h:Zu n): ∀t∈tri n,t.1<(Zg n).length/\t.2.1<(Zg n).length/\t.2.2<(Zg n).length:=by
 intro t ht;unfold tri Lu rowC at ht;simp only[Zs2,Zsv]at ht;obtain⟨f,hf,a,ha,b,hb,ht⟩:=ht;have hp: ∀i j,i+j<=n->idx n (pt n f i j)<(Zg n).length:=λi j hij=>Cj h (Jw hf hij);unfold Xn at ht;rcases Zrl.1 ht with rfl|ht
 ·exact Wc (λx=>x<(Zg n).length) (hp _ _ (by omega)) (hp _ _ (by omega)) (hp _ _ (by omega))
 ·split at ht
  ·rename_i hd;obtain rfl:=List.mem_singleton.1 ht;exact Wc (λx=>x<(Zg n).length) (hp _ _ (by omega)) (hp _ _ (by omega)) (hp _ _ (by omega))
  ·cases ht
theorem Zo0 {n:Nat} (h:Zu n): ∀e∈Ck n,(0<=e.1/\e.1<((Zg n).length:Nat))/\(0<=e.2/\e.2<((Zg n).length:Nat)):=by
 intro e he;obtain⟨t,ht,he⟩:=Zs2.1 he;obtain⟨h1,h2,h3⟩:=Zbj h t ((Xb leT _).mem_iff.1 ht);simp only[Kr,Zrl,Ztn,or_false]at he;rcases he with rfl|rfl|rfl<;>(simp only;omega)
theorem Rc {n:Nat} (h:Zu n): ∀e∈edg n,(0<=e.1/\e.1<((Zg n).length:Nat))/\(0<=e.2/\e.2<((Zg n).length:Nat)):=
 λe he=>Zo0 h e ((Xb leZ _).mem_iff.1 (G4 he))
theorem Cu {n:Nat} (h:Zu n):(tri n).length<=5000:=by
 unfold Zu at h;rw[<-Cq];exact Zbh (by omega) (by omega) (by omega) (by omega)
theorem Ks (L:List (Nat×Nat×Nat)):(L.flatMap Kr).length=L.length*3:=by
 induction L with
 |nil=>rfl
 |cons x L ih=>rw[Zsr,Zre,ih,Zq6];simp only[Kr,Zq6,Zq8];omega
theorem Zh0 {n:Nat} (h:Zu n):(Ck n).length<=15000:=by
 unfold Ck;rw[Ks,(Xb leT _).length_eq];have:=Cu h;omega
theorem Xd {n:Nat} (h:Zu n):(edg n).length<=15000:=
 Zrs (Cs _) (by rw[(Xb leZ _).length_eq];exact Zh0 h)
theorem So (R:List (List Int)) (i:Nat) (z:Int):(Pn R i z).length=R.length:=by simp[Pn]
theorem Zbk {R:List (List Int)} {m:Nat} (h: ∀r∈R,r.length<=m) (i:Nat):(R.getD i []).length<=m:=by
 rw[Zrm];cases hi:R[i]? with
 |none=>simp
 |some r=>exact h r (Zrg hi)
theorem Cv {R:List (List Int)} {m:Nat} (h: ∀r∈R,r.length<=m) (i:Nat) (z:Int): ∀r∈Pn R i z,r.length<=m+1:=by
 intro r hr;rcases List.mem_or_eq_of_mem_set hr with hr|rfl
 ·have:=h r hr;omega
 ·have:=Zbk h i;rw[Zre,Zq6,Zq8];omega
theorem Zed (R:List (List Int)) (i:Nat) (r:List Int):(R.map ints).set i (ints r)=(R.set i r).map ints:=List.map_set.symm
theorem Wd (R:List (List Int)) (i:Nat):(R.map ints).getD i []=ints (R.getD i []):=by
 rw[Zrm,Zrm,Zrj];cases R[i]? <;>rfl
theorem Xo (r:List Int) (z:Int):ints r++[C.v (.int .i64 z)]=ints (r++[z]):=by simp[ik]
theorem Zee (N:Nat) (E:List Ed) (e:Ed):V4 N (E++[e])=Ct (V4 N E) e:=by simp[V4]
theorem Lx (N:Nat) (E:List Ed):(V4 N E).length=N:=by
 have key: ∀(E:List Ed) (R:List (List Int)),(E.foldl Ct R).length=R.length:=by
  intro E
  induction E with
  |nil=>intro R;rfl
  |cons e E ih=>intro R;rw[Zs7,ih];unfold Ct;rw[So,So]
 unfold V4;rw[key];simp
theorem We (N:Nat) (E:List Ed): ∀r∈V4 N E,r.length<=2*E.length:=by
 have key: ∀(E:List Ed) (R:List (List Int)) (m:Nat),(∀r∈R,r.length<=m)-> ∀r∈E.foldl Ct R,r.length<=m+2*E.length:=by
  intro E
  induction E with
  |nil=>intro R m h r hr;have:=h r hr;simp;omega
  |cons e E ih=>
   intro R m h r hr;rw[Zs7]at hr;have:=ih _ (m+1+1) (Cv (Cv h _ _) _ _) r hr;rw[Zq6];omega
 intro r hr;have:=key E _ 0 (λr hr=>by rw[List.eq_of_mem_replicate hr];simp) r hr;omega
theorem Zqs (t:Nat×Nat×Nat):fl edC (Kr t)=[C.v (.int .i64 t.1),C.v (.int .i64 t.2.1),C.v (.int .i64 t.1),C.v (.int .i64 t.2.2),C.v (.int .i64 t.2.1),C.v (.int .i64 t.2.2)]:=rfl
def Fp (R:List (List Int)) (j:Nat):List (List Int):=(R.take j).map Va++R.drop j
theorem G5 (R:List (List Int)) (j:Nat):(Fp R j).length=R.length:=by
 unfold Fp;rw[Zre,Zrt,<-Zre,List.take_append_drop]
theorem Zm8 {R:List (List Int)} {j:Nat} (hj:j<R.length):(Fp R j).getD j []=R[j]:=by
 unfold Fp;rw[Zrm,Zsm (by simp;omega)];simp[Zse (Nat.le_of_lt hj),hj]
theorem Zm9 {R:List (List Int)} {j:Nat} (hj:j<R.length):(Fp R j).set j (Va R[j])=Fp R (j+1):=by
 unfold Fp;have h1:((R.take j).map Va).length=j:=by simp;omega
 rw[List.set_append_right _ _ (by omega),h1,Nat.sub_self,Zsf hj,List.set_cons_zero,Zr1 hj,Zts,Zr4];rfl
theorem Zj3 (R:List (List Int)):Fp R 0=R:=by simp[Fp]
theorem Zna (R:List (List Int)):Fp R R.length=R.map Va:=by simp[Fp]
section
variable (fu d:Nat)
theorem Znb (r:List Int) (h:r.length<=1000000):cl fu (d+1) fn_slices_Sort_sint_int [V.own 1000000 0 r.length] [.sb ty_int 0 (ints r)]=some ⟨.tup [],[.sb ty_int 0 (ints (Va r))],none⟩:=by
 have e:cl fu (d+1) fn_slices_Sort_sint_int [V.own 1000000 0 r.length] [.sb ty_int 0 (ints r)]=orP (sortP ty_int) (sortWsP ty_3_int) [.own 1000000 0 r.length] [.sb ty_int 0 (ints r)]:=by kernel_rfl
 have hw:=Zjo (t:=ty_int) (l:=r) (by omega);have hs:sortP ty_int [.own 1000000 0 r.length] [.sb ty_int 0 (ints r)]=some ⟨.tup [],[.sb ty_int 0 (ints (Va r))],none⟩:=by
  rw[sortP,hw];exact Ztr ..
 rw[e,orP,hs]
variable (hf:18446744073709551616<=fu)
include hf
theorem Zj4 (n:Nat) (h:Zu n) (f a b:Nat) (hf':f<20) (hab:a+b<n): ∃g',cl fu (d+7) fn_mesh_Net_cells [V.ptr 1000000 0,V.agg [.v (.int .i64 f), .v (.int .i64 ((a*(840/n):Nat):Int)), .v (.int .i64 ((b*(840/n):Nat):Int)), .v (.int .i64 (((n-1-a-b)*(840/n):Nat):Int))]] [Li 0 n (fl trC (Uo n f a b))]=some ⟨V.tup [],[Li g' n (fl trC (Uo n f a (b+1)))],none⟩:=by
 have hn:=h;unfold Zu at hn;have h5:(Uo n f a b).length<=5000:=Zbh hn.2 (Nat.le_of_lt hf') (show a<=9 by omega) (show b<=9 by omega);have h6:=Zm4 fu d hf 0 n h f a b hf' hab (Uo n f a b) (Zrs h5 (Zq7 rfl));rw[Zgr]at h6;exact h6
set_option maxHeartbeats 8000000 in
set_option maxRecDepth 4000 in
theorem Znc (n:Nat) (h:Zu n): ∃c:C,cl fu (d+8) fn_mesh_Build [I n] []=some ⟨V.ptr 1000000 0,[.ob ty_mesh_Net 0 [C.v (.int .i64 n),C.v (.int .i64 ((840/n:Nat):Int)),C.sl (Zg n).length (fl plc (Zg n)),C.mp ty_api_Place ty_int (some 4) none (esn 0 (Zg n)),c,C.sl (edg n).length (fl edC (edg n)),C.sl (nxt n).length ((nxt n).map λr=>C.sl r.length (ints r))]],none⟩:=by
 have hn:=h;unfold Zu at hn;have hs:=Vb h;have hP:=Zgo fu (d+2) hf n h;have hC:=Zj4 fu d hf n h;have hNl:=Ye h;have hlT:=Cu h;unfold Li Zmy at hC;unfold netC at hP;have heI:=Rc h;have heL:=Xd h;have hrL:=Zh0 h;unfold nxt;generalize hE:edg n=E at*
 generalize hNl2:(Zg n).length=N at*
 generalize fl plc (Zg n)=nc at*
 generalize esn 0 (Zg n)=es at*
 have eO0:Nat.beq 1000000 (OUT+0)=true:=rfl;refine⟨C.sl (S9 leT (tri n)).length (fl trC (S9 leT (tri n))), ?_⟩;rw[eq_mesh_Build,hP];simp(disch:=omega)only[Zb,QM,QD,QE,eO0,Zq6,Zq8,Zq4,Nat.reduceAdd];rw[Zk (λf:Nat=>(((f:Nat):Int),((n:Int),(((840/n:Nat):Int)),C.sl N nc,C.mp ty_api_Place ty_int (some 4) none es,fl trC (Uo n f 0 0),C.nl,C.nl,()),())) 0
  ((20:Int),((n:Int),(((840/n:Nat):Int)),C.sl N nc,C.mp ty_api_Place ty_int (some 4) none es,fl trC (tri n),C.nl,C.nl,()),()) 20 ?_ ?_ ?_ (by omega)]
 ·generalize hT0:tri n=T0 at*
  generalize hT:S9 leT T0=T at*
  have hTl:T.length=T0.length:=by rw[<-hT];exact(Xb leT T0).length_eq
  have hfl0:=Zh Yg T0;have hflT:=Zh Yg T;have hdv0:T0.length*3/3=T0.length:=by omega
  have hdvT:T.length*3/3=T.length:=by omega
  have s1:=Zm6 fu (d+6) T0 (by omega);rw[hT]at s1;have b1: ∀{R:Type} (k:List C->Option R),rowBack ty_api_Cell (fl trC T0) false [.sb ty_api_Cell 0 (fl trC T)] k=k (fl trC T):=λk=>Ht _ _ _ k (by omega);simp(disch:=omega)only[Zb,QM,QD,QE,hfl0,hdv0,s1,b1,hflT,hdvT];rw[Zk (λj:Nat=>(((j:Nat):Int),((n:Int),(((840/n:Nat):Int)),C.sl N nc,C.mp ty_api_Place ty_int (some 4) none es,C.sl T.length (fl trC T),fl edC ((T.take j).flatMap Kr),C.nl,()),())) 0
   (((T.length:Nat):Int),((n:Int),(((840/n:Nat):Int)),C.sl N nc,C.mp ty_api_Place ty_int (some 4) none es,C.sl T.length (fl trC T),fl edC (T.flatMap Kr),C.nl,()),()) T.length ?_ ?_ ?_ (by omega)]
  rotate_left
  ·rfl
  ·intro j hj;have hat:=Jt Yg hj;have hln:(fl edC ((T.take j).flatMap Kr)).length=(j*3)*2:=by rw[Zh Xc,Ks,Zrz,Zse (by omega)]
   have hdl:(j*3)*2/2=j*3:=by omega
   have happ:fl edC ((T.take j).flatMap Kr)++[C.v (.int .i64 T[j].1),C.v (.int .i64 T[j].2.1),C.v (.int .i64 T[j].1),C.v (.int .i64 T[j].2.2),C.v (.int .i64 T[j].2.1),C.v (.int .i64 T[j].2.2)]=fl edC ((T.take (j+1)).flatMap Kr):=by
    rw[<-Zqs,<-Hr,Zr1 hj,Ztb];simp
   have hln2:(fl edC ((T.take (j+1)).flatMap Kr)).length=(j*3+3)*2:=by rw[Zh Xc,Ks,Zrz,Zse (by omega)];omega
   simp(disch:=omega)only[Zb,QM,QD,Zq5,hat,trC,Zr8,Zr6,hln,hdl,happ,hln2];rfl
  ·rw[Zsn];simp(disch:=omega)only[Zb,QM,QD]
  have hraw:T.flatMap Kr=Ck n:=by unfold Ck;rw[hT0,hT]
  rw[hraw];have hEd:Lib.compact (S9 leZ (Ck n))=E:=hE;generalize Ck n=W at*
  have hflW:=Zh Xc W;have hdvW:W.length*2/2=W.length:=by omega
  have s2:=Zm7 fu (d+6) W (by omega);have hZl:(S9 leZ W).length=W.length:=(Xb leZ W).length_eq;generalize S9 leZ W=Z at*
  have hflZ:=Zh Xc Z;have hdvZ:Z.length*2/2=Z.length:=by omega
  have b2: ∀{R:Type} (k:List C->Option R),rowBack ty_api_Edge (fl edC W) false [.sb ty_api_Edge 0 (fl edC Z)] k=k (fl edC Z):=λk=>Ht _ _ _ k (by omega);obtain⟨pad,hpad,s3⟩:=Zgs fu (d+6) Z (by omega);rw[hEd]at s3;have hflP:=Zh Xc pad;have b3: ∀{R:Type} (k:List C->Option R),rowBack ty_api_Edge (fl edC Z) true [.sb ty_api_Edge (Z.length*2) (fl edC pad)] k=k (fl edC pad):=λk=>by rw[<-hflZ];exact Zj0 _ _ _ k (by omega)
  have hflE:=Zh Xc E;simp(disch:=omega)only[Zb,QM,QD,QE,hflW,hdvW,s2,b2,hflZ,hdvZ,s3,b3,Zq5,Zrp,decide_true];rw[Zk (λj:Nat=>(((j:Nat):Int),((n:Int),(((840/n:Nat):Int)),C.sl N nc,C.mp ty_api_Place ty_int (some 4) none es,C.sl T.length (fl trC T),C.sl E.length (fl edC E),(V4 N (E.take j)).map ints,()),())) 0
   (((E.length:Nat):Int),((n:Int),(((840/n:Nat):Int)),C.sl N nc,C.mp ty_api_Place ty_int (some 4) none es,C.sl T.length (fl trC T),C.sl E.length (fl edC E),(V4 N E).map ints,()),()) E.length ?_ ?_ ?_ (by omega)]
  rotate_left
  ·show _=(((0:Nat):Int),_,());simp only[Zs5,V4,List.foldl_nil,List.map_replicate];rfl
  ·intro j hj;have hat:=Jt Xc hj;have hin:=heI E[j] (Zr2 hj);have hps:V4 N (E.take (j+1))=Ct (V4 N (E.take j)) E[j]:=by rw[Zr1 hj,Zee]
   have hRl:=Lx N (E.take j);have hRb:=We N (E.take j);rw[Zrz,Zse (by omega)]at hRb;rw[hps];generalize V4 N (E.take j)=R at*
   generalize E[j]=e at*
   obtain⟨ea,eb⟩:=e
   dsimp only at hin
   obtain⟨x,rfl⟩: ∃x:Nat,ea=x:=⟨ea.toNat,by omega⟩;obtain⟨y,rfl⟩: ∃y:Nat,eb=y:=⟨eb.toNat,by omega⟩;have hg1:=Zbk hRb x;have hg2:=Zbk (Cv hRb x (y:Int)) y;have hl1:=So R x (y:Int);have hpe:Ct R ((x:Int),(y:Int))=Pn (Pn R x (y:Int)) y (x:Int):=rfl;have hp1: ∀i z,R.set i (R.getD i []++[z])=Pn R i z:=λi z=>rfl;have hp2: ∀i z,(Pn R x (y:Int)).set i ((Pn R x (y:Int)).getD i []++[z])=Pn (Pn R x (y:Int)) i z:=λi z=>rfl;have hl2:=So (Pn R x (y:Int)) y (x:Int);rw[hpe];simp(disch:=omega)only[Zb,QM,QD,Zp0,Ze,hat,edC,Zr8,Zr6,Zq5,Zrd,Zro,Zrt,Wd,Xo,Zed,hp1,hp2,hRl,hl1,hl2,Zre,Zq6,Zq8,Zq4];rfl
  ·rw[Zsn];simp(disch:=omega)only[Zb,QM,QD]
  have hRl:=Lx N E;have hRb:=We N E;generalize V4 N E=R at*
  simp(disch:=omega)only[Zb,QM,QD,Zrt];rw[Zk (λj:Nat=>(((j:Nat):Int),((n:Int),(((840/n:Nat):Int)),C.sl N nc,C.mp ty_api_Place ty_int (some 4) none es,C.sl T.length (fl trC T),C.sl E.length (fl edC E),(Fp R j).map ints,()),())) 0
   (((R.length:Nat):Int),((n:Int),(((840/n:Nat):Int)),C.sl N nc,C.mp ty_api_Place ty_int (some 4) none es,C.sl T.length (fl trC T),C.sl E.length (fl edC E),(R.map Va).map ints,()),()) R.length ?_ ?_ ?_ (by omega)]
  rotate_left
  ·rw[Zj3];rfl
  ·intro j hj;have hml:=G5 R j;have hgt:=Zm8 hj;have hst:=Zm9 hj;have hml2:=G5 R (j+1);have hrl:=hRb R[j] (Zr2 hj);have s4:=Znb fu (d+6) R[j] (by omega);have hsl:=Za5 R[j];generalize R[j]=r at*
   have b4: ∀{R:Type} (k:List C->Option R),rowBack ty_int (ints r) false [.sb ty_int 0 (ints (Va r))] k=k (ints (Va r)):=λk=>Ht _ _ _ k (by rw[Ze,Ze];exact hsl);simp(disch:=omega)only[Zb,QM,QD,Zp0,Zq5,Zrd,Zro,Zrt,Wd,hgt,Ze,s4,b4,Zed,hst,hml,hml2];rfl
  ·rw[Zna];simp(disch:=omega)only[Zb,QM,QD,Zrt]
  have hmm:List.map (λ(r:List C)=>C.sl (r.length/1) r) ((R.map Va).map ints)=(R.map Va).map λr=>C.sl r.length (ints r):=by
   rw[List.map_map];apply List.map_congr_left;intro r _;show C.sl ((ints r).length/1) (ints r)=_;rw[Ze,Zro]
  simp(disch:=omega)only[Zb,QM,QD,Zrt,hmm]
 ·rfl
 ·intro f hf';simp(disch:=omega)only[Zb,QM,QD];rw[Zk (λa:Nat=>(((a:Nat):Int),((n:Int),(((840/n:Nat):Int)),C.sl N nc,C.mp ty_api_Place ty_int (some 4) none es,fl trC (Uo n f a 0),C.nl,C.nl,()),())) 0
   ((n:Int),((n:Int),(((840/n:Nat):Int)),C.sl N nc,C.mp ty_api_Place ty_int (some 4) none es,fl trC (Uo n f n 0),C.nl,C.nl,()),()) n ?_ ?_ ?_ (by omega)]
  ·simp(disch:=omega)only[Zb,QM,QD];rw[Zm2];rfl
  ·rfl
  ·intro a ha;simp(disch:=omega)only[Zb,QM,QD];rw[Zk (λb:Nat=>(((b:Nat):Int),((n:Int),(((840/n:Nat):Int)),C.sl N nc,C.mp ty_api_Place ty_int (some 4) none es,fl trC (Uo n f a b),C.nl,C.nl,()),())) 0
    (((n-a:Nat):Int),((n:Int),(((840/n:Nat):Int)),C.sl N nc,C.mp ty_api_Place ty_int (some 4) none es,fl trC (Uo n f a (n-a)),C.nl,C.nl,()),()) (n-a) ?_ ?_ ?_ (by omega)]
   ·simp(disch:=omega)only[Zb,QM,QD];rw[Zm1];rfl
   ·rfl
   ·intro b hb;obtain⟨g',hC⟩:=hC f a b hf' (by omega);have w1:IntKind.i64.wrap ((a:Int)*((840/n:Nat):Int))=((a*(840/n):Nat):Int):=Pm h (by omega);have w2:IntKind.i64.wrap ((b:Int)*((840/n:Nat):Int))=((b*(840/n):Nat):Int):=Pm h (by omega);have w3:IntKind.i64.wrap (((n:Int)-1-(a:Int)-(b:Int))*((840/n:Nat):Int))=(((n-1-a-b)*(840/n):Nat):Int):=by
     rw[show(n:Int)-1-(a:Int)-(b:Int)=((n-1-a-b:Nat):Int) by omega];exact Pm h (by omega)
    simp(disch:=omega)only[Zb,QM,QD,QE,w1,w2,w3,hC];rfl
   ·simp(disch:=omega)only[Zb,QM,QD]
  ·simp(disch:=omega)only[Zb,QM,QD]
 ·rw[Cq];simp(disch:=omega)only[Zb,QM,QD];rfl
end
end Go.Proofs.YtoaanfjcjbghaaaGreatDoor
/- The reference's nodes and the index of a place. -/
namespace Go.Proofs.YtoaanfjcjbghaaaGreatDoor
open Go Go.PM Go.Grid
theorem Nb (fu d n:Nat) (h:Zu n):cl fu (d+1) fn_synopticref03_Count [I n] []=OK (I ((10*n*n+2:Nat):Int)):=by
 rw[eq_synopticref03_Count];rcases Qd h with rfl|rfl|rfl|rfl|rfl|rfl|rfl|rfl<;>(show @Eq (Option Out) _ _;kernel_rfl)
theorem Zo1 (n f i j:Nat):Ub n f i (j+1)=bif isN (pt n f i j)then Ub n f i j++[pt n f i j]else Ub n f i j:=by
 rw[Zms];unfold isN;by_cases h:norm (pt n f i j)=pt n f i j
 ·rw[if_pos h,decide_eq_true h];rfl
 ·rw[if_neg h,decide_eq_false h];rfl
theorem Zef {n:Nat}:((10*n*n+2:Nat):Int)≠0:=by omega
theorem Zbl (fu d:Nat) (hf:18446744073709551616<=fu) (n:Nat) (h:Zu n):cl fu (d+6) fn_synopticref03_Nodes [I n] []=OK (V.tup [V.c (C.sl (Zg n).length (fl plc (Zg n))),I 0]):=by
 have hn:=h;unfold Zu at hn;have hst:=Vb h;rw[eq_synopticref03_Nodes,Nb fu (d+4) n h,Cp h];simp only[QM];rw[Hq Zef,Hq (show(n:Int)≠0 by omega)];simp only[QM];rw[Zk (λf:Nat=>(fl plc (Ub n f 0 0),(f:Int),())) 0 (fl plc (Ub n 20 0 0),(20:Int),()) 20 ?_ ?_ ?_ (by omega)]
 ·rw[Zd7];simp(disch:=omega)only[QM,QD,Zh Zp,Xr,Zq4];rw[Zrc (by rw[Zh Zp];omega)]
 ·rfl
 ·intro f hf';have hl:(Ub n f 0 0).length<=2000:=Ur h (by omega) (by omega) (by omega);simp(disch:=omega)only[QM,QD,Zh Zp,Xr];rw[Zk (λi:Nat=>(fl plc (Ub n f i 0),((i*(840/n):Nat):Int),())) 0 (fl plc (Ub n f (n+1) 0),(((n+1)*(840/n):Nat):Int),()) (n+1) ?_ ?_ ?_ (by omega)]
  ·have hl:(Ub n f (n+1) 0).length<=2000:=Ur h (by omega) (by omega) (by omega);simp(disch:=omega)only[QM,QD,Zh Zp,Xr,Zr3,Zso];unfold Ub;rw[Zpz]
  ·simp only[Zsc];rfl
  ·intro i hi;have hl:(Ub n f i 0).length<=2000:=Ur h (by omega) (by omega) (by omega);have hA:=Mq h (show i<=n by omega);have hA1:(i+1)*(840/n)=i*(840/n)+840/n:=Zsb _ _;rw[hA1];generalize hAe:i*(840/n)=A at hA⊢;simp(disch:=omega)only[QM,QD,Zh Zp,Xr];rw[Zk (λj:Nat=>(fl plc (Ub n f i j),((j*(840/n):Nat):Int),())) 0 (fl plc (Ub n f i (n+1-i)),(((n+1-i)*(840/n):Nat):Int),()) (n+1-i) ?_ ?_ ?_ (by omega)]
   ·have hl:(Ub n f i (n+1-i)).length<=2000:=Ur h (by omega) (by omega) (by omega);generalize hst':840/n=s at*
    simp(disch:=omega)only[QM,QD,Zh Zp,Xr,Zr3];unfold Ub;rw[Zpy]
   ·simp only[Zsc];rfl
   ·intro j hj;have hl:(Ub n f i j).length<=2000:=Ur h (by omega) (by omega) (by omega);have hs:=Zgh (n:=n) (i:=i) (j:=j) h (by omega);have hB1:(j+1)*(840/n)=j*(840/n)+840/n:=Zsb _ _;have hok:=Zmo (f:=f) h hf' (show i+j<=n by omega);have hN:=Fo fu d hf (pt n f i j) hok;have hin:0<A->0<j*(840/n)->0<(n-i-j)*(840/n)->isN (pt n f i j)=true:=λh1 h2 h3=>Zjv hok (by show 0<i*(840/n);omega) h2 h3;have hup:=Zo1 n f i j;rw[hB1];simp only[plc]at hN;generalize isN (pt n f i j)=z at hN hin hup;simp only[pt]at hN hup;rw[hAe]at hs hN hup;generalize j*(840/n)=B at*
    generalize (n-i-j)*(840/n)=D at*
    generalize 840/n=s at*
    have hD:(840:Int)-A-B=(D:Int):=by omega
    rw[hup];by_cases c1:0<A
    ·by_cases c2:0<B
     ·by_cases c3:0<D
      ·rw[hin c1 c2 c3];simp(disch:=omega)only[QM,QD,hD,Mr,Zh Zp,Xr,Zre,Zq6,Zq8,Zq4,Zr3]
      ·cases z<;>simp(disch:=omega)only[QM,QD,hD,hN,Mr,Zh Zp,Xr,Zre,Zq6,Zq8,Zq4,Zr3]
     ·cases z<;>simp(disch:=omega)only[QM,QD,hD,hN,Mr,Zh Zp,Xr,Zre,Zq6,Zq8,Zq4,Zr3]
    ·cases z<;>simp(disch:=omega)only[QM,QD,hD,hN,Mr,Zh Zp,Xr,Zre,Zq6,Zq8,Zq4,Zr3]
   ·have hl:(Ub n f i (n+1-i)).length<=2000:=Ur h (by omega) (by omega) (by omega);have hs:=Zgh (n:=n) (i:=i) (j:=n-i) h (by omega);have h1:(n+1-i)*(840/n)=(n-i)*(840/n)+840/n:=by rw[show n+1-i=n-i+1 by omega,Zsb]
    rw[hAe,show n-i-(n-i)=0 by omega]at hs;rw[h1];generalize (n-i)*(840/n)=B at*
    generalize 840/n=s at*
    simp(disch:=omega)only[QM,QD,Zh Zp,Xr,Zr3]
  ·have hl:(Ub n f (n+1) 0).length<=2000:=Ur h (by omega) (by omega) (by omega);have h1:(n+1)*(840/n)=840+840/n:=by rw[Zsb,S7 h]
   rw[h1];generalize 840/n=s at*
   simp(disch:=omega)only[QM,QD,Zh Zp,Xr,Zr3]
 ·have hl:(Ub n 20 0 0).length<=2000:=Ur h (by omega) (by omega) (by omega);simp(disch:=omega)only[QM,QD,Zh Zp,Xr];rfl
theorem Zo2 (fu d:Nat) (p q:Pl):cl fu (d+1) fn_synopticref03_less [V.agg (plc p),V.agg (plc q)] []=OK (B (decide (plt p q))):=by
 unfold plc;rw[eq_synopticref03_less];by_cases h1:p.f=q.f
 ·by_cases h2:p.a=q.a
  ·by_cases h3:p.b<q.b
   ·rw[decide_eq_true (show plt p q from .inr ⟨h1, .inr ⟨h2,h3⟩⟩)];simp(disch:=omega)only[QM,QD]
   ·rw[decide_eq_false (show ¬plt p q from by unfold plt;omega)];simp(disch:=omega)only[QM,QD]
  ·by_cases h3:p.a<q.a
   ·rw[decide_eq_true (show plt p q from .inr ⟨h1, .inl h3⟩)];simp(disch:=omega)only[QM,QD]
   ·rw[decide_eq_false (show ¬plt p q from by unfold plt;omega)];simp(disch:=omega)only[QM,QD]
 ·by_cases h3:p.f<q.f
  ·rw[decide_eq_true (show plt p q from .inl h3)];simp(disch:=omega)only[QM,QD]
  ·rw[decide_eq_false (show ¬plt p q from by unfold plt;omega)];simp(disch:=omega)only[QM,QD]
theorem Jz {l:List Pl} (h:l.Pairwise plt) {i j:Nat} (hi:i<l.length) (hj:j<l.length) (hij:i<j):plt l[i] l[j]:=List.pairwise_iff_getElem.1 h i j hi hj hij
theorem Zo3 (fu d:Nat) (hf:18446744073709551616<=fu) (l:List Pl) (hl:l.length<=1000000) (hs:l.Pairwise plt) (k:Nat) (hk:k<l.length):
  cl fu (d+2) fn_synopticref03_find [V.c (C.sl l.length (fl plc l)),V.agg (plc l[k])] []=OK (I k):=by
 have hq:plc l[k]=[.v (.int .i64 l[k].f), .v (.int .i64 l[k].a), .v (.int .i64 l[k].b), .v (.int .i64 l[k].c)]:=rfl;rw[hq,eq_synopticref03_find];rw[Cl (λy:Int×Int×Unit=> ∃lo hi:Nat,y=((lo:Int),(hi:Int),())/\lo<=k/\k<=hi/\hi<=l.length) (λy=>(y.2.1-y.1).toNat) 0 ((k:Int),(k:Int),()) ?_ ?_ ?_]
 ·have hd:=Jt Zp hk;simp(disch:=omega)only[QM,QD,Zq5,hd,plc,Zr8,Zr6,Zmp]
 ·exact⟨0,l.length,rfl,Zr7 _,by omega,Zrf _⟩
 ·simp only[];omega
 ·rintro _ ⟨lo,hi,rfl,g1,g2,g3⟩
  by_cases hlt:lo<hi
  ·left;have hm:Int.tdiv ((lo:Int)+(hi:Int)) 2=(((lo+hi)/2:Nat):Int):=by
    rw[show((lo:Int)+(hi:Int))=((lo+hi:Nat):Int) from by omega];rfl
   have hml:(lo+hi)/2<l.length:=by omega
   have hd:=Jt Zp hml;have hless:=Zo2 fu d l[(lo+hi)/2] l[k];simp only[plc]at hless;by_cases hmk:(lo+hi)/2<k
   ·rw[decide_eq_true (Jz hs hml hk hmk)]at hless;refine⟨((((lo+hi)/2+1:Nat):Int),(hi:Int),()), ?_,⟨(lo+hi)/2+1,hi,rfl,by omega,g2,g3⟩, ?_⟩
    ·simp(disch:=omega)only[QM,QD,hm,Zq5,hd,plc,Zr8,Zr6,hless,Zr3,Zso]
    ·simp only[];omega
   ·have hn: ¬plt l[(lo+hi)/2] l[k]:=by
     rcases Nat.lt_or_ge k ((lo+hi)/2)with h|h
     ·exact λh'=>Kq _ (Zjt h' (Jz hs hk hml h))
     ·have:(lo+hi)/2=k:=by omega
      simp only[this];exact Kq _
    rw[decide_eq_false hn]at hless;refine⟨((lo:Int),(((lo+hi)/2:Nat):Int),()), ?_,⟨lo,(lo+hi)/2,rfl,g1,by omega,by omega⟩, ?_⟩
    ·simp(disch:=omega)only[QM,QD,hm,Zq5,hd,plc,Zr8,Zr6,hless]
    ·simp only[];omega
  ·right;have e1:lo=k:=by omega
   have e2:hi=k:=by omega
   subst e1 e2;simp(disch:=omega)only[QM,QD]
theorem Zj5 (fu d:Nat) (hf:18446744073709551616<=fu) (n:Nat) (h:Zu n) (p:Pl) (hp:p∈pts n):
  cl fu (d+5) fn_synopticref03_at [V.c (C.sl (Zg n).length (fl plc (Zg n))),I p.f,I p.a,I p.b] []=OK (I (idx n p)):=by
 have hok:=Ci h hp;have hs:=hok.2;have e1:=Lv fu d hf p hok;have e2:=Zo3 fu (d+2) hf (Zg n) (by have:=Ye h;omega) (Zbc h) (idx n p) (Cj h hp);rw[Zgl h hp]at e2;have hc:(840:Int)-p.a-p.b=p.c:=by omega
 simp only[plc]at e1 e2;rw[eq_synopticref03_at];simp(disch:=omega)only[QM,QD,hc,e1,e2,Zq6,Zq8,Zq4,Nat.reduceAdd]
end Go.Proofs.YtoaanfjcjbghaaaGreatDoor
/- The reference's cells: what they come to. -/
namespace Go.Proofs.YtoaanfjcjbghaaaGreatDoor
open Go Go.PM Go.Grid
attribute [local congr] Z1 Z2 Z3 Yp Z4 Z5 Yq Yr Ys Yt Z6 Z7 Yu Xt Xu Xv Xw Xx Xz X0 X1 X2 Xy Z9 Ya X3 Yb Yc Zt Yd Z8
theorem Qt {A B:Type} {body:A->Option (Nat×A)} {fu:Nat} {x:A} {K:Nat×A->Option B} (R:Option B->Prop) (J:A->Prop) (m:A->Nat) (Q:Nat->A->Prop) (hx:J x) (hm:m x<fu)
  (h: ∀y,J y->(∃y',body y=some (0,y')/\J y'/\m y'<m y)\/ ∃e z,body y=some (e+1,z)/\Q e z) (hK: ∀e z,Q e z->R (K (e,z))):R ((iter body fu x).bind K):=by
 obtain⟨e,z,h1,h2⟩:=Hp (body:=body) J m Q h fu x hx hm;rw[h1];exact hK e z h2
theorem Zj6 (i j k:Nat):(Xe i j k).1+(Xe i j k).2.1+(Xe i j k).2.2=i+j+k:=by
 unfold Xe;split<;>split<;>try split
 all_goals first|rfl|(simp only;omega)|omega
theorem Zj7 (i j k:Nat):(if(k:Int)<(if(j:Int)<i then(j:Int)else i)then(k:Int)else(if(j:Int)<i then(j:Int)else i))=((Xe i j k).1:Int):=by
 unfold Xe
 repeat' split
 all_goals first|(simp only at*;done)|(simp only at*;omega)|omega
theorem Zj8 (i j k:Nat):(if(k:Int)>(if(j:Int)>i then(j:Int)else i)then(k:Int)else(if(j:Int)>i then(j:Int)else i))=((Xe i j k).2.2:Int):=by
 unfold Xe
 repeat' split
 all_goals first|(simp only at*;done)|(simp only at*;omega)|omega
theorem Zbm {A:Type} {e:A->List C} {m:Nat} (hm: ∀x,(e x).length=m) (L B:List A) (i:Nat):putAt (fl e L) (i*m) (fl e B)=fl e (L.take i++B++L.drop (i+B.length)):=by
 unfold putAt;rw[Zbe hm,Zh hm,<-Nat.add_mul,F6 hm,Hr,Hr]
section
variable (fu d:Nat) (hf:18446744073709551616<=fu)
theorem Zeg (i j k:Nat) (hi:i<=1000000) (hj:j<=1000000) (hk:k<=1000000):cl fu (d+1) fn_synopticref03_cell [I i,I j,I k] []=OK (V.agg (trC (Xe i j k))):=by
 have h1:=Zj7 i j k;have h2:=Zj8 i j k;have h3:=Zj6 i j k;have e1:IntKind.i64.wrap (IntKind.i64.wrap ((i:Int)+j)+k)=(i:Int)+j+k:=by rw[Q1 (x:=(i:Int)+j) (by omega) (by omega),Q1 (by omega) (by omega)]
 have e2:(i:Int)+j+k-((Xe i j k).1:Int)-((Xe i j k).2.2:Int)=((Xe i j k).2.1:Int):=by omega
 rw[eq_synopticref03_cell,h1,h2,e1];simp(disch:=omega)only[Zb,QM,QD,e2];rfl
include hf
theorem Zj9 (L:List (Nat×Nat×Nat)) (hL:L.length<=100000) (x:Nat×Nat×Nat): ∃k,k<=L.length/\
  cl fu (d+1) fn_synopticref03_insert [V.own 1000000 0 L.length,V.agg (trC x)] [.sb ty_api_Cell 0 (fl trC L)]=some ⟨V.own 1000001 0 (L.length+1),[.dead, .sb ty_api_Cell 0 (fl trC (L.take k++x::L.drop k))],none⟩:=by
 have hfl:=Zh Yg L;have hz:fl trC L++[C.v (.int .i64 0),C.v (.int .i64 0),C.v (.int .i64 0)]=fl trC (L++[(0,0,0)]):=Js L (0,0,0);have hflz:(fl trC (L++[(0,0,0)])).length=(L.length+1)*3:=by rw[Zh Yg,Zre];rfl
 unfold trC;rw[eq_synopticref03_insert];refine Qt (A:=(Nat×List C)×Int×Unit) (B:=Out) (fu:=fu) (λo=> ∃k,k<=L.length/\o=some ⟨V.own 1000001 0 (L.length+1),[.dead, .sb ty_api_Cell 0 (fl trC (L.take k++x::L.drop k))],none⟩)
  (λy=> ∃k:Nat,k<=L.length/\y=((L.length,fl trC L),(k:Int),())) (λy=>y.2.1.toNat) (λe y=>e=0/\ ∃k:Nat,k<=L.length/\y=((L.length,fl trC L),(k:Int),())) ?_ ?_ ?_ ?_
 ·exact⟨L.length,Zrf _,rfl⟩
 ·show((L.length:Nat):Int).toNat<fu;omega
 ·rintro y ⟨k,hk,rfl⟩
  cases k with
  |zero=>
   refine .inr ⟨0,_, ?_,rfl,0,hk,rfl⟩;simp(disch:=omega)only[Zb,QM,QD]
  |succ k=>
   have hat:=Jt Yg (l:=L) (k:=k) (by omega);have hk1:((k+1:Nat):Int)-1=(k:Int):=by omega
   have go: ∀{b:Option (Nat×((Nat×List C)×Int×Unit))},b=some (0,((L.length,fl trC L),(k:Int),()))\/b=some (1,((L.length,fl trC L),((k+1:Nat):Int),()))->
     (∃y',b=some (0,y')/\(∃k:Nat,k<=L.length/\y'=((L.length,fl trC L),(k:Int),()))/\y'.2.1.toNat<((k+1:Nat):Int).toNat)\/ ∃e z,b=some (e+1,z)/\e=0/\ ∃k:Nat,k<=L.length/\z=((L.length,fl trC L),(k:Int),()):=by
    intro b hb;rcases hb with rfl|rfl
    ·exact .inl ⟨_,rfl,⟨k,by omega,rfl⟩,by show(k:Int).toNat<_;omega⟩
    ·exact .inr ⟨0,_,rfl,rfl,k+1,hk,rfl⟩
   refine go ?_;have hat1:List.drop (k*3+1) (fl trC L)=C.v (.int .i64 L[k].2.1)::C.v (.int .i64 L[k].2.2)::fl trC (L.drop (k+1)):=by rw[<-List.drop_drop,hat];rfl
   have hat2:List.drop (k*3+2) (fl trC L)=C.v (.int .i64 L[k].2.2)::fl trC (L.drop (k+1)):=by rw[<-List.drop_drop,hat];rfl
   generalize L[k]=t at*
   obtain⟨t1,t2,t3⟩:=t;obtain⟨x1,x2,x3⟩:=x;simp only at hat hat1 hat2⊢;by_cases q1:x1<t1
   ·simp(disch:=omega)only[Zb,QM,QD,hk1,Zq4,Zq5,hat,hat1,hat2,trC,Zr8,Zr6];exact .inl trivial
   by_cases q2:x1=t1
   ·by_cases q3:x2<t2
    ·simp(disch:=omega)only[Zb,QM,QD,hk1,Zq4,Zq5,hat,hat1,hat2,trC,Zr8,Zr6];exact .inl trivial
    by_cases q4:x2=t2
    ·by_cases q5:x3<t3
     ·simp(disch:=omega)only[Zb,QM,QD,hk1,Zq4,Zq5,hat,hat1,hat2,trC,Zr8,Zr6];exact .inl trivial
     ·simp(disch:=omega)only[Zb,QM,QD,hk1,Zq4,Zq5,hat,hat1,hat2,trC,Zr8,Zr6];exact .inr trivial
    ·simp(disch:=omega)only[Zb,QM,QD,hk1,Zq4,Zq5,hat,hat1,hat2,trC,Zr8,Zr6];exact .inr trivial
   ·simp(disch:=omega)only[Zb,QM,QD,hk1,Zq4,Zq5,hat,hat1,hat2,trC,Zr8,Zr6];exact .inr trivial
 ·rintro e z ⟨rfl,k,hk,rfl⟩
  refine⟨k,hk, ?_⟩;have hx1:[C.v (.int .i64 x.1),C.v (.int .i64 x.2.1),C.v (.int .i64 x.2.2)]=fl trC [x]:=by simp[fl,trC]
  have hput:putAt (fl trC (L++[(0,0,0)])) (k*3) (fl trC [x])=fl trC ((L++[(0,0,0)]).take k++[x]++(L++[(0,0,0)]).drop (k+1)):=Zbm Yg _ [x] k;by_cases hkl:k=L.length
  ·subst hkl;have hres:(L++[(0,0,0)]).take L.length++[x]++(L++[(0,0,0)]).drop (L.length+1)=L.take L.length++x::L.drop L.length:=by simp
   rw[hres]at hput;have hfl2:(fl trC (L.take L.length++x::L.drop L.length)).length=(L.length+1)*3:=by rw[Zh Yg];simp
   have htk:List.take ((L.length+1)*3) (fl trC (L.take L.length++x::L.drop L.length))=fl trC (L.take L.length++x::L.drop L.length):=Zrc (by omega);have hmin:Nat.min (L.length+1-L.length) (L.length+1-(L.length+1))=0:=by simp
   have hc1:((L.length:Nat):Int)+1=((L.length+1:Nat):Int):=by omega
   simp(disch:=omega)only[Zb,QM,QD,hfl,hz,hflz,hc1,Zq5,hmin,Zq4,hx1,hput,hfl2,htk]
  ·have hcp:List.take ((L.length-k)*3) (List.drop (k*3) (fl trC (L++[(0,0,0)])))=fl trC (L.drop k):=by
    rw[F6 Yg,Zbe Yg]
    congr 1
    rw[List.drop_append_of_le_length hk,Zs4 (by simp),Zrc (by simp)]
   have hput1:putAt (fl trC (L++[(0,0,0)])) ((k+1)*3) (fl trC (L.drop k))=fl trC ((L++[(0,0,0)]).take (k+1)++L.drop k):=by
    rw[Zbm Yg,Zsx,show List.drop (k+1+(L.length-k)) (L++[((0,0,0):Nat×Nat×Nat)])=[] from Ztm (by rw[Zre,List.length_singleton];omega),Zs8]
   have hflc:(fl trC ((L++[(0,0,0)]).take (k+1)++L.drop k)).length=(L.length+1)*3:=by rw[Zh Yg];simp;omega
   have hput2:putAt (fl trC ((L++[(0,0,0)]).take (k+1)++L.drop k)) (k*3) (fl trC [x])=fl trC (L.take k++x::L.drop k):=by
    rw[Zbm Yg]
    congr 1
    have e1:((L++[(0,0,0)]).take (k+1)++L.drop k).take k=L.take k:=by
     rw[Zs4 (by simp;omega),List.take_take,Zse (by omega),Zs4 hk]
    have e2:((L++[(0,0,0)]).take (k+1)++L.drop k).drop (k+[x].length)=L.drop k:=by
     rw[List.drop_append,Ztm (by simp;omega)];simp[Zse (show k+1<=L.length+1 by omega)]
    rw[e1,e2];simp
   have hfl2:(fl trC (L.take k++x::L.drop k)).length=(L.length+1)*3:=by rw[Zh Yg];simp;omega
   have htk:List.take ((L.length+1)*3) (fl trC (L.take k++x::L.drop k))=fl trC (L.take k++x::L.drop k):=Zrc (by omega);obtain⟨q,hq⟩: ∃q,L.length-k=q+1:=⟨L.length-k-1,by omega⟩;have hmin:Nat.min (L.length+1-k) (L.length+1-(k+1))=q+1:=by
    show min _ _=_;omega
   have hc1:((k:Nat):Int)+1=((k+1:Nat):Int):=by omega
   rw[hq]at hcp;simp(disch:=omega)only[Zb,QM,QD,hfl,hz,hflz,hc1,Zq5,hmin,Zq4,hcp,hput1,hflc,hx1,hput2,hfl2,htk]
end
end Go.Proofs.YtoaanfjcjbghaaaGreatDoor
/- The reference's cells: the same as the grid's, in another order. -/
namespace Go.Proofs.YtoaanfjcjbghaaaGreatDoor
open Go Go.PM Go.Grid
attribute [local congr] Z1 Z2 Z3 Yp Z4 Z5 Yq Yr Ys Yt Z6 Z7 Yu Xt Xu Xv Xw Xx Xz X0 X1 X2 Xy Z9 Ya X3 Yb Yc Zt Yd Z8
abbrev T3:=Nat×Nat×Nat
def Lj (K:List T3×T3->Nat) (L:List T3) (x:T3):List T3:=L.take (K (L,x))++x::L.drop (K (L,x))
def Vl (K:List T3×T3->Nat) (l:List T3):List T3:=l.foldl (Lj K) []
theorem Hv (K:List T3×T3->Nat) (l:List T3) (x:T3):Vl K (l++[x])=Lj K (Vl K l) x:=by simp[Vl]
theorem Wg (K:List T3×T3->Nat) (L:List T3) (x:T3):(Lj K L x).Perm (x::L):=by
 unfold Lj;refine List.perm_middle.trans ?_;rw[List.take_append_drop]
theorem Wh (K:List T3×T3->Nat) (l:List T3):(Vl K l).Perm l:=by
 have key: ∀(l acc:List T3),(l.foldl (Lj K) acc).Perm (acc++l):=by
  intro l
  induction l with
  |nil=>intro acc;simp
  |cons x l ih=>
   intro acc;rw[Zs7];refine(ih _).trans (((Wg K acc x).append_right l).trans ?_);exact(List.perm_middle (l₁:=acc) (a:=x) (l₂:=l)).symm
 exact key l []
theorem G6 (K:List T3×T3->Nat) (l:List T3):(Vl K l).length=l.length:=(Wh K l).length_eq
section
variable (fu d:Nat) (hf:18446744073709551616<=fu)
include hf
theorem Zqt (n:Nat) (h:Zu n) (f i j:Nat) (hf':f<20) (hij:i+j<=n) (x y:Int) (hx:x=((i*(840/n):Nat):Int)) (hy:y=((j*(840/n):Nat):Int)):
  cl fu (d+5) fn_synopticref03_at [V.c (C.sl (Zg n).length (fl plc (Zg n))),I f,I x,I y] []=OK (I (idx n (pt n f i j))):=by
 subst hx hy;have:=Zj5 fu d hf n h (pt n f i j) (Jw hf' hij);generalize idx n (pt n f i j)=k at*
 simp only[pt]at this;exact this
set_option maxHeartbeats 8000000 in
theorem Zbn (n:Nat) (h:Zu n): ∃L:List T3,L.Perm (tri n)/\cl fu (d+7) fn_synopticref03_Cells [I n] []=OK (V.tup [V.c (C.sl L.length (fl trC L)),I 0]):=by
 have hn:=h;unfold Zu at hn;have hst:=Vb h;obtain⟨K,hK⟩: ∃K:List T3×T3->Nat,∀p:List T3×T3,p.1.length<=100000->cl fu (d+6) fn_synopticref03_insert [V.own 1000000 0 p.1.length,V.agg (trC p.2)] [.sb ty_api_Cell 0 (fl trC p.1)]=some ⟨V.own 1000001 0 (p.1.length+1),[.dead, .sb ty_api_Cell 0 (fl trC (p.1.take (K p)++p.2::p.1.drop (K p)))],none⟩:=by
  refine Classical.axiomOfChoice (r:=λ(p:List T3×T3) (k:Nat)=>p.1.length<=100000->cl fu (d+6) fn_synopticref03_insert [V.own 1000000 0 p.1.length,V.agg (trC p.2)] [.sb ty_api_Cell 0 (fl trC p.1)]=some ⟨V.own 1000001 0 (p.1.length+1),[.dead, .sb ty_api_Cell 0 (fl trC (p.1.take k++p.2::p.1.drop k))],none⟩) λp=> ?_;by_cases hp:p.1.length<=100000
  ·obtain⟨k,_,hk⟩:=Zj9 fu (d+5) hf p.1 hp p.2;exact⟨k,λ_=>hk⟩
  ·exact⟨0,λh=>absurd h hp⟩
 have hK: ∀L x,L.length<=100000->cl fu (d+6) fn_synopticref03_insert [V.own 1000000 0 L.length,V.agg (trC x)] [.sb ty_api_Cell 0 (fl trC L)]=some ⟨V.own 1000001 0 (L.length+1),[.dead, .sb ty_api_Cell 0 (fl trC (Lj K L x))],none⟩:=λL x hl=>hK (L,x) hl;have hpl: ∀L x,(Lj K L x).length=L.length+1:=λL x=>by rw[(Wg K L x).length_eq];rfl
 refine⟨Vl K (tri n),Wh K (tri n), ?_⟩;have hle: ∀{f a b:Nat},f<=20->a<=9->b<=9->(Vl K (Uo n f a b)).length<=5000:=λh1 h2 h3=>by rw[G6];exact Zbh hn.2 h1 h2 h3
 have hdv: ∀L:List T3,L.length*3/3=L.length:=λL=>by omega
 have hfl: ∀L:List T3,(fl trC L).length=L.length*3:=λL=>Zh Yg L;have hat:=λf i j hf' hij x y hx hy=>Zqt fu (d+1) hf n h f i j hf' hij x y hx hy;have hN:=Zbl fu d hf n h;have hNl:=Ye h;have hidx: ∀{f i j:Nat},f<20->i+j<=n->idx n (pt n f i j)<=1000000:=λh1 h2=>by have:=Cj h (Jw (n:=n) h1 h2);omega
 rw[eq_synopticref03_Cells,hN,Cp h];generalize (Zg n).length=N at*
 generalize fl plc (Zg n)=nc at*
 simp only[Zb,QM];rw[Zmq rfl,Hq (show(n:Int)≠0 by omega)];simp only[Zb,QM];rw[Zk (λf:Nat=>(fl trC (Vl K (Uo n f 0 0)),(f:Int),())) 0 (fl trC (Vl K (tri n)),(20:Int),()) 20 ?_ ?_ ?_ (by omega)]
 ·have h1:(Vl K (tri n)).length<=5000:=by rw[G6];exact Cu h
  have htk:List.take ((Vl K (tri n)).length*3) (fl trC (Vl K (tri n)))=fl trC (Vl K (tri n)):=Zrc (by rw[hfl];omega);simp(disch:=omega)only[Zb,QM,QD,hdv,hfl,Zq4,htk]
 ·rfl
 ·intro f hf';have h1:=hle (f:=f) (a:=0) (b:=0) (by omega) (by omega) (by omega);simp(disch:=omega)only[Zb,QM,QD,hdv,hfl];rw[Zk (λi:Nat=>(fl trC (Vl K (Uo n f i 0)),((i*(840/n):Nat):Int),())) 0 (fl trC (Vl K (Uo n f n 0)),((n*(840/n):Nat):Int),()) n ?_ ?_ ?_ (by omega)]
  ·simp(disch:=omega)only[Zb,QM,QD,hdv,hfl];rw[Zm2];rfl
  ·simp only[Zsc];rfl
  ·intro i hi;have h1:=hle (f:=f) (a:=i) (b:=0) (by omega) (by omega) (by omega);have hA:=Mq h (show i+1<=n by omega);have hA1:(i+1)*(840/n)=i*(840/n)+840/n:=Zsb _ _;rw[hA1]at hA⊢;simp(disch:=omega)only[Zb,QM,QD,hdv,hfl];rw[Zk (λj:Nat=>(fl trC (Vl K (Uo n f i j)),((j*(840/n):Nat):Int),())) 0 (fl trC (Vl K (Uo n f i (n-i))),(((n-i)*(840/n):Nat):Int),()) (n-i) ?_ ?_ ?_ (by omega)]
   ·simp(disch:=omega)only[Zb,QM,QD,hdv,hfl];rw[Zm1];simp only[Zr3]
   ·simp only[Zsc];rfl
   ·intro j hj;have h1:=hle (f:=f) (a:=i) (b:=j) (by omega) (by omega) (by omega);have hB1:(j+1)*(840/n)=j*(840/n)+840/n:=Zsb _ _;have hAB:=Mq h (show i+j+1<=n by omega);have hAB1:(i+j+1)*(840/n)=i*(840/n)+j*(840/n)+840/n:=by rw[Zsb,Nat.add_mul]
    rw[hAB1]at hAB;have a1:=hat f (i+1) j hf' (by omega) (((i*(840/n):Nat):Int)+((840/n:Nat):Int)) ((j*(840/n):Nat):Int) (by rw[hA1];omega) rfl;have a2:=hat f i (j+1) hf' (by omega) ((i*(840/n):Nat):Int) (((j*(840/n):Nat):Int)+((840/n:Nat):Int)) rfl (by rw[hB1];omega);have a3:=hat f i j hf' (by omega) ((i*(840/n):Nat):Int) ((j*(840/n):Nat):Int) rfl rfl;have i1:=hidx (f:=f) (i:=i+1) (j:=j) hf' (by omega);have i2:=hidx (f:=f) (i:=i) (j:=j+1) hf' (by omega);have i3:=hidx (f:=f) (i:=i) (j:=j) hf' (by omega);have c1:=Zeg fu (d+5) _ _ _ i1 i2 i3;have n1:=hK (Vl K (Uo n f i j)) (Xe (idx n (pt n f (i+1) j)) (idx n (pt n f i (j+1))) (idx n (pt n f i j))) (by omega);rw[hB1];by_cases hd:i+j+1<n
    ·have hAB2:=Mq h (show i+j+2<=n by omega);have hAB3:(i+j+2)*(840/n)=i*(840/n)+j*(840/n)+840/n+840/n:=by rw[Zsb,hAB1]
     rw[hAB3]at hAB2;have a4:=hat f (i+1) (j+1) hf' (by omega) (((i*(840/n):Nat):Int)+((840/n:Nat):Int)) (((j*(840/n):Nat):Int)+((840/n:Nat):Int)) (by rw[hA1];omega) (by rw[hB1];omega);have i4:=hidx (f:=f) (i:=i+1) (j:=j+1) hf' (by omega);have c2:=Zeg fu (d+5) _ _ _ i2 i1 i4;have n2:=hK (Lj K (Vl K (Uo n f i j)) (Xe (idx n (pt n f (i+1) j)) (idx n (pt n f i (j+1))) (idx n (pt n f i j)))) (Xe (idx n (pt n f i (j+1))) (idx n (pt n f (i+1) j)) (idx n (pt n f (i+1) (j+1)))) (by rw[hpl];omega);have hL:Vl K (Uo n f i (j+1))=Lj K (Lj K (Vl K (Uo n f i j)) (Xe (idx n (pt n f (i+1) j)) (idx n (pt n f i (j+1))) (idx n (pt n f i j)))) (Xe (idx n (pt n f i (j+1))) (idx n (pt n f (i+1) j)) (idx n (pt n f (i+1) (j+1)))):=by
      rw[<-Zgr,show Xn n f i j=[tc n (pt n f (i+1) j) (pt n f i (j+1)) (pt n f i j)]++[tc n (pt n f i (j+1)) (pt n f (i+1) j) (pt n f (i+1) (j+1))] by unfold Xn;rw[if_pos hd];rfl,<-Zr4,Hv,Hv];rfl
     rw[hL];generalize idx n (pt n f (i+1) j)=q1 at*
     generalize idx n (pt n f i (j+1))=q2 at*
     generalize idx n (pt n f i j)=q3 at*
     generalize idx n (pt n f (i+1) (j+1))=q4 at*
     generalize Xe q1 q2 q3=t1 at*
     generalize Xe q2 q1 q4=t2 at*
     have l1:=hpl (Vl K (Uo n f i j)) t1;rw[l1]at n2;have l2:=hpl (Lj K (Vl K (Uo n f i j)) t1) t2;generalize Lj K (Lj K (Vl K (Uo n f i j)) t1) t2=L2 at*
     generalize Lj K (Vl K (Uo n f i j)) t1=L1 at*
     generalize Vl K (Uo n f i j)=L0 at*
     generalize i*(840/n)=A at*
     generalize j*(840/n)=B at*
     generalize 840/n=s at*
     obtain⟨t11,t12,t13⟩:=t1;obtain⟨t21,t22,t23⟩:=t2;simp only[trC]at c1 n1 c2 n2;simp(disch:=omega)only[Zb,QM,QD,a1,a2,a3,a4,c1,n1,c2,n2,out1,hdv,hfl,l1,l2,Zq6,Zq8,Zq4,Nat.reduceAdd,Zr3]
    ·have hnn:i+j+1=n:=by omega
     have hL:Vl K (Uo n f i (j+1))=Lj K (Vl K (Uo n f i j)) (Xe (idx n (pt n f (i+1) j)) (idx n (pt n f i (j+1))) (idx n (pt n f i j))):=by
      rw[<-Zgr,show Xn n f i j=[tc n (pt n f (i+1) j) (pt n f i (j+1)) (pt n f i j)] by unfold Xn;rw[if_neg hd],Hv];rfl
     have hAB4:i*(840/n)+j*(840/n)+840/n=840:=by rw[<-hAB1,hnn];exact S7 h
     rw[hL];generalize idx n (pt n f (i+1) j)=q1 at*
     generalize idx n (pt n f i (j+1))=q2 at*
     generalize idx n (pt n f i j)=q3 at*
     generalize Xe q1 q2 q3=t1 at*
     have l1:=hpl (Vl K (Uo n f i j)) t1;generalize Lj K (Vl K (Uo n f i j)) t1=L1 at*
     generalize Vl K (Uo n f i j)=L0 at*
     generalize i*(840/n)=A at*
     generalize j*(840/n)=B at*
     generalize 840/n=s at*
     obtain⟨t11,t12,t13⟩:=t1;simp only[trC]at c1 n1;simp(disch:=omega)only[Zb,QM,QD,a1,a2,a3,c1,n1,out1,hdv,hfl,l1,Zq6,Zq8,Zq4,Nat.reduceAdd,Zr3]
   ·have hend:i*(840/n)+(n-i)*(840/n)=840:=by rw[<-Nat.add_mul,show i+(n-i)=n by omega];exact S7 h
    have h1:=hle (f:=f) (a:=i) (b:=n-i) (by omega) (by omega) (by omega);generalize (n-i)*(840/n)=B at*
    simp(disch:=omega)only[Zb,QM,QD,hdv,hfl]
  ·have h1:=hle (f:=f) (a:=n) (b:=0) (by omega) (by omega) (by omega);have hend:=S7 h;generalize n*(840/n)=B at*
   simp(disch:=omega)only[Zb,QM,QD,hdv,hfl]
 ·have h1:=hle (f:=20) (a:=0) (b:=0) (by omega) (by omega) (by omega);simp(disch:=omega)only[Zb,QM,QD,hdv,hfl];rw[Cq];rfl
end
end Go.Proofs.YtoaanfjcjbghaaaGreatDoor
/- The reference's neighbours. -/
namespace Go.Proofs.YtoaanfjcjbghaaaGreatDoor
open Go Go.PM Go.Grid
attribute [local congr] Z1 Z2 Z3 Yp Z4 Z5 Yq Yr Ys Yt Z6 Z7 Yu Xt Xu Xv Xw Xx Xz X0 X1 X2 Xy Z9 Ya X3 Yb Yc Zt Yd Z8
def Rj (z:Int):List Int->List Int
 | []=>[z]
 |y::l=>if y<z then y::Rj z l else if y=z then y::l else z::y::l
theorem Cw {z x:Int}: ∀{l:List Int},x∈Rj z l↔x=z\/x∈l
 | []=>by simp[Rj]
 |y::l=>by
  unfold Rj;split
  ·rw[Zrl,Cw,Zrl];exact⟨λh=>h.elim (λh=> .inr (.inl h)) λh=>h.elim .inl λh=> .inr (.inr h),λh=>h.elim (λh=> .inr (.inl h)) λh=>h.elim .inl λh=> .inr (.inr h)⟩
  ·split
   ·rename_i h1 h2;subst h2;simp
   ·simp
theorem Zeh {z:Int}: ∀{l:List Int},l.Pairwise (λa b=>a<b)->(Rj z l).Pairwise (λa b=>a<b)
 | [],h=>by simp[Rj]
 |y::l,h=>by
  rw[Zsg]at h;unfold Rj;split
  ·rename_i h1;rw[Zsg];refine⟨λx hx=> ?_,Zeh h.2⟩;rcases Cw.1 hx with rfl|hx
   ·exact h1
   ·exact h.1 x hx
  ·split
   ·rw[Zsg];exact h
   ·rename_i h1 h2;rw[Zsg,Zsg];refine⟨λx hx=> ?_,h⟩;rcases Zrl.1 hx with rfl|hx
    ·omega
    ·have:=h.1 x hx;omega
theorem G7 (z:Int): ∀l,(Rj z l).length<=l.length+1
 | []=>by simp[Rj]
 |y::l=>by
  unfold Rj;have:=G7 z l;split
  ·simp;omega
  ·split<;>simp
theorem Zh1 (z:Int): ∀l:List Int,∃k,k<=l.length/\(∀j (h:j<l.length),j<k->l[j]<z)/\(∀h:k<l.length,¬l[k]<z)/\((∀h:k<l.length,l[k]≠z)->Rj z l=l.take k++z::l.drop k)/\ ∀h:k<l.length,l[k]=z->Rj z l=l
 | []=>⟨0,by simp,by simp,by simp,by simp[Rj],by simp⟩
 |y::l=>by
  obtain⟨k,h1,h2,h3,h4,h5⟩:=Zh1 z l;by_cases hy:y<z
  ·refine⟨k+1,by simp;omega,λj hj hjk=> ?_,λh=>h3 (by simp at h;omega),λh=> ?_,λh e=> ?_⟩
   ·cases j with
    |zero=>exact hy
    |succ j=>exact h2 j (by simp at hj;omega) (by omega)
   ·unfold Rj;rw[if_pos hy,h4 λh'=>h (by simp;omega)];rfl
   ·unfold Rj;rw[if_pos hy,h5 (by simp at h;omega) e]
  ·refine⟨0,by simp,λj hj hjk=>by omega,λ_=>hy,λh=> ?_,λh e=> ?_⟩
   ·have:y≠z:=h (by simp);unfold Rj;rw[if_neg hy,if_neg this];rfl
   ·have e:y=z:=e;unfold Rj;rw[if_neg hy,if_pos e]
def rC1 (r:List Int):C:=match r with| []=> .nl|_::_=> .sl r.length (ints r)
theorem V5 {R:Type} (r:List Int) (k:Nat->List C->Option R):asSl (rC1 r) k=k r.length (ints r):=by cases r<;>rfl
theorem Zqu {r:List Int} (h:r≠[]):rC1 r= .sl r.length (ints r):=by cases r with|nil=>exact absurd rfl h|cons x r=>rfl
theorem Hw (r:List Int) (k:Nat):(ints r).drop k=ints (r.drop k):=(List.map_drop).symm
theorem Hx (r:List Int) (k:Nat):(ints r).take k=ints (r.take k):=(List.map_take).symm
theorem Zka (r:List Int) (k:Nat) (hk:k<=r.length): ∃c:C,(∀{R:Type} (k':C->Option R),sliceC 1 (some (I k)) none (rC1 r) k'=k' c)/\ ∀{R:Type} (k':Nat->List C->Option R),asSl c k'=k' (r.length-k) (ints (r.drop k)):=by
 cases r with
 |nil=>
  have:k=0:=by simpa using hk
  subst this;exact⟨.nl,λk'=>rfl,λk'=>rfl⟩
 |cons x r=>
  refine⟨.sl ((x::r).length-k) (ints ((x::r).drop k)),λk'=> ?_,λk'=>rfl⟩;have h1:decide ((0:Int)<=(k:Int))=true:=decide_eq_true (by omega);have h2:decide ((k:Int)<=(((x::r).length:Nat):Int))=true:=decide_eq_true (by omega);have h3:((k:Int)).toNat=k:=Zq5 k;show bound none (x::r).length (x::r).length (λh=>bound (some (I k)) 0 h λa=>k' (.sl (h-a) (((ints (x::r)).drop (a*1)).take ((h-a)*1))))=_;show need (decide ((0:Int)<=(k:Int))&&decide ((k:Int)<=(((x::r).length:Nat):Int))) (k' (.sl ((x::r).length-(k:Int).toNat) (((ints (x::r)).drop ((k:Int).toNat*1)).take (((x::r).length-(k:Int).toNat)*1))))=_;rw[h1,h2,h3,Zrd,Zrd,Hw,Zrc (by rw[Ze,Zsx];omega)];rfl
theorem Wi (R:List (List Int)) {i:Nat} (hi:i<R.length):(R.map rC1).drop i=rC1 (R.getD i [])::(R.map rC1).drop (i+1):=by
 rw[Zsf (by simpa using hi),List.getElem_map,Zrm,Zrb hi];rfl
theorem Znd (R:List (List Int)) {i:Nat} (hi:i<R.length) (r:List Int):putAt (R.map rC1) i [rC1 r]=(R.set i r).map rC1:=by
 unfold putAt;rw[List.map_set,List.set_eq_take_append_cons_drop,if_pos (by simpa using hi)];simp
theorem Zo4 (N:Nat):reps N [C.nl]=(List.replicate N ([]:List Int)).map rC1:=by
 induction N with
 |zero=>rfl
 |succ N ih=>rw[Zs3,Zst,<-ih];unfold reps;rw[Zs3,List.flatten_cons];rfl
def Nx (R:List (List Int)) (p:Nat×Nat):List (List Int):=R.set p.1 (Rj p.2 (R.getD p.1 []))
def prs (t:T3):List (Nat×Nat):=[(t.1,t.2.1),(t.1,t.2.2),(t.2.1,t.2.2),(t.2.1,t.1),(t.2.2,t.1),(t.2.2,t.2.1)]
theorem Ms (R:List (List Int)) (p:Nat×Nat):(Nx R p).length=R.length:=by simp[Nx]
theorem Bh (l:List (Nat×Nat)): ∀R,(l.foldl Nx R).length=R.length:=by
 induction l with
 |nil=>intro R;rfl
 |cons p l ih=>intro R;rw[Zs7,ih,Ms]
theorem Zkb (R:List (List Int)) (p:Nat×Nat) (i:Nat):(Nx R p).getD i []=if i=p.1/\i<R.length then Rj p.2 (R.getD i [])else R.getD i []:=by
 unfold Nx;rw[Zrm,List.getElem?_set];by_cases h:p.1=i
 ·subst h;by_cases hl:p.1<R.length
  ·simp[hl]
  ·rw[if_pos rfl,if_neg hl,if_neg (λe=>hl e.2),Zrm,Ztp (by omega)]
 ·rw[if_neg h,if_neg (λe=>h e.1.symm),Zrm]
theorem Zkc {R:List (List Int)} {p:Nat×Nat} (h:Rj p.2 (R.getD p.1 [])=R.getD p.1 []):Nx R p=R:=by
 unfold Nx;rw[h];by_cases hl:p.1<R.length
 ·rw[Zrm,Zrb hl];exact List.set_getElem_self hl
 ·exact List.set_eq_of_length_le (by omega)
theorem Zgt (l:List (Nat×Nat)): ∀(R:List (List Int)) (i:Nat),(∀r,R.getD i []=r->r.Pairwise (λa b=>a<b))->((l.foldl Nx R).getD i []).Pairwise (λa b=>a<b)/\(i<R.length-> ∀x,x∈(l.foldl Nx R).getD i []↔x∈R.getD i []\/ ∃k:Nat,x=k/\(i,k)∈l)/\((l.foldl Nx R).getD i []).length<=(R.getD i []).length+l.length:=by
 induction l with
 |nil=>intro R i h;exact⟨h _ rfl,λ_ x=>by simp,by simp⟩
 |cons p l ih=>
  intro R i h;rw[Zs7];have hg:=Zkb R p i;obtain⟨a1,a2,a3⟩:=ih (Nx R p) i (λr hr=>by
   subst hr;rw[hg];split
   ·exact Zeh (h _ rfl)
   ·exact h _ rfl)
  refine⟨a1,λhi x=> ?_, ?_⟩
  ·rw[a2 (by rw[Ms];exact hi),hg];by_cases hp:i=p.1
   ·subst hp;rw[if_pos ⟨rfl,hi⟩,Cw];constructor
    ·rintro ((rfl|h1)|⟨k,h1,h2⟩)
     ·exact .inr ⟨p.2,rfl,Zsd ..⟩
     ·exact .inl h1
     ·exact .inr ⟨k,h1,Zrr _ h2⟩
    ·rintro (h1|⟨k,h1,h2⟩)
     ·exact .inl (.inr h1)
     ·rcases Zrl.1 h2 with h2|h2
      ·have e:k=p.2:=congrArg Prod.snd h2;exact .inl (.inl (h1.trans (by rw[e])))
      ·exact .inr ⟨k,h1,h2⟩
   ·rw[if_neg (λe=>hp e.1)];constructor
    ·rintro (h1|⟨k,h1,h2⟩)
     ·exact .inl h1
     ·exact .inr ⟨k,h1,Zrr _ h2⟩
    ·rintro (h1|⟨k,h1,h2⟩)
     ·exact .inl h1
     ·rcases Zrl.1 h2 with h2|h2
      ·subst h2;exact absurd rfl hp
      ·exact .inr ⟨k,h1,h2⟩
  ·rw[hg]at a3;rw[Zq6];split at a3
   ·have:=G7 p.2 (R.getD i []);omega
   ·omega
theorem prs_length (L:List T3):(L.flatMap prs).length=L.length*6:=by
 induction L with
 |nil=>rfl
 |cons x L ih=>rw[Zsr,Zre,ih,Zq6];simp only[prs,Zq6,Zq8];omega
theorem Hy (N i:Nat):(List.replicate N ([]:List Int)).getD i []=[]:=by
 rw[Zrm,List.getElem?_replicate];split<;>rfl
theorem Po {N:Nat} {l:List (Nat×Nat)} (i:Nat):((l.foldl Nx (List.replicate N [])).getD i []).Pairwise (λa b=>a<b)/\(i<N-> ∀x,x∈(l.foldl Nx (List.replicate N [])).getD i []↔ ∃k:Nat,x=k/\(i,k)∈l)/\((l.foldl Nx (List.replicate N [])).getD i []).length<=l.length:=by
 obtain⟨h1,h2,h3⟩:=Zgt l (List.replicate N []) i (λr hr=>by rw[Hy]at hr;subst hr;exact .nil);refine⟨h1,λhi x=> ?_, ?_⟩
 ·rw[h2 (by simpa using hi),Hy];simp
 ·rw[Hy]at h3;simpa using h3
end Go.Proofs.YtoaanfjcjbghaaaGreatDoor
/- The reference's neighbours: what the function comes to. -/
namespace Go.Proofs.YtoaanfjcjbghaaaGreatDoor
open Go Go.PM Go.Grid
attribute [local congr] Z1 Z2 Z3 Yp Z4 Z5 Yq Yr Ys Yt Z6 Z7 Yu Xt Xu Xv Xw Xx Xz X0 X1 X2 Xy Z9 Ya X3 Yb Yc Zt Yd Z8
def R2 (N:Nat) (l:List (Nat×Nat)):List (List Int):=l.foldl Nx (List.replicate N [])
theorem Zkd (N:Nat) (l:List (Nat×Nat)) (p:Nat×Nat):R2 N (l++[p])=Nx (R2 N l) p:=by simp[R2]
theorem G8 (N:Nat) (l:List (Nat×Nat)):(R2 N l).length=N:=by unfold R2;rw[Bh];simp
theorem put2 (a b:C):putAt [C.v (.int .i64 0),C.v (.int .i64 0)] 0 [a,b]=[a,b]:=rfl
theorem ints_at (r:List Int) {m:Nat} (h:m<r.length):(ints r).drop m=C.v (.int .i64 r[m])::ints (r.drop (m+1)):=by
 rw[Hw,Zsf h];rfl
section
variable (fu d:Nat) (hf:18446744073709551616<=fu)
include hf
set_option maxHeartbeats 8000000 in
theorem Bi (n:Nat) (h:Zu n): ∃L:List T3,L.Perm (tri n)/\cl fu (d+8) fn_synopticref03_around [I n] []=OK (V.c (C.sl (Zg n).length ((R2 (Zg n).length (L.flatMap prs)).map rC1))):=by
 have hn:=h;unfold Zu at hn;obtain⟨L,hp,hC⟩:=Zbn fu d hf n h;have hN:=Y4 h;have hNl:=Ye h;have hcnt:=Nb fu (d+6) n h;rw[<-hN]at hcnt;have hin: ∀t∈L,t.1<(Zg n).length/\t.2.1<(Zg n).length/\t.2.2<(Zg n).length:=λt ht=>Zbj h t (hp.mem_iff.1 ht);have hLl:L.length<=5000:=by rw[hp.length_eq];exact Cu h
 refine⟨L,hp, ?_⟩;generalize (Zg n).length=N at*
 have hR0:(R2 N []).map rC1=reps N [C.nl]:=by rw[Zo4];rfl
 have hRl:=G8 N;have hrow: ∀l i,((R2 N l).getD i []).length<=l.length:=λl i=>(Po (N:=N) (l:=l) i).2.2;rw[eq_synopticref03_around,hC];simp(disch:=omega)only[Zb,QM,QD,hcnt,Zq5,Qr,Zq6,Zq8,Zq4,Zrd];rw[Zk (λj:Nat=>((R2 N ((L.take j).flatMap prs)).map rC1,(j:Int),())) 0 ((R2 N (L.flatMap prs)).map rC1,((L.length:Nat):Int),()) L.length ?_ ?_ ?_ (by omega)]
 ·have htk:List.take N ((R2 N (L.flatMap prs)).map rC1)=(R2 N (L.flatMap prs)).map rC1:=Zrc (by rw[Zrt,hRl];exact Zrf _);simp(disch:=omega)only[Zb,QM,QD,Zrt,hRl,Zro,Zrd,Zq4,htk]
 ·rw[<-hR0];rfl
 ·intro j hj;have hat:=Jt Yg hj;have hts:=hin L[j] (Zr2 hj);have hnx:(L.take (j+1)).flatMap prs=(L.take j).flatMap prs++prs L[j]:=by rw[Zr1 hj,Ztb];simp
  have hl0:((L.take j).flatMap prs).length=j*6:=by rw[prs_length,Zrz,Zse (by omega)]
  rw[hnx];generalize (L.take j).flatMap prs=l0 at*
  generalize L[j]=t at*
  obtain⟨x,y,z⟩:=t;simp only[trC]at hat hts;simp(disch:=omega)only[Zb,QM,QD,Zq5,hat,Zr8,Zr6,Zrt,hRl,Zro,Zrd];rw[Zk (λq:Nat=>((R2 N (l0++(prs (x,y,z)).take q)).map rC1,(q:Int),())) 0 ((R2 N (l0++prs (x,y,z))).map rC1,(6:Int),()) 6 ?_ ?_ ?_ (by omega)]
  ·simp(disch:=omega)only[Zb,QM,QD,Zrt,hRl,Zro,Zrd];rfl
  ·simp only[Zs5,Zs8];rfl
  ·intro q hq;have hpl:(prs (x,y,z)).length=6:=rfl;have hq':q<(prs (x,y,z)).length:=hq;have hnx2:l0++(prs (x,y,z)).take (q+1)=(l0++(prs (x,y,z)).take q)++[(prs (x,y,z))[q]]:=by rw[Zr1 hq',Zr4]
   have hl1:(l0++(prs (x,y,z)).take q).length<=30000:=by rw[Zre,Zrz,hl0];omega
   have h12:List.take 2 (List.drop (q*2) [C.v (.int .i64 (x:Int)),C.v (.int .i64 (y:Int)),C.v (.int .i64 (x:Int)),C.v (.int .i64 (z:Int)),C.v (.int .i64 (y:Int)),C.v (.int .i64 (z:Int)),C.v (.int .i64 (y:Int)),C.v (.int .i64 (x:Int)),C.v (.int .i64 (z:Int)),C.v (.int .i64 (x:Int)),C.v (.int .i64 (z:Int)),C.v (.int .i64 (y:Int))])=[C.v (.int .i64 ((prs (x,y,z))[q].1:Int)),C.v (.int .i64 ((prs (x,y,z))[q].2:Int))]:=by
    rcases(show q=0\/q=1\/q=2\/q=3\/q=4\/q=5 by omega)with rfl|rfl|rfl|rfl|rfl|rfl<;>rfl
   have hpin:(prs (x,y,z))[q].1<N:=by
    rcases(show q=0\/q=1\/q=2\/q=3\/q=4\/q=5 by omega)with rfl|rfl|rfl|rfl|rfl|rfl<;>(simp only[prs,List.getElem_cons_zero,List.getElem_cons_succ];omega)
   rw[hnx2,Zkd];generalize (prs (x,y,z))[q]=pr at*
   generalize l0++(prs (x,y,z)).take q=l1 at*
   obtain⟨a,b⟩:=pr;simp only at hpin h12;have hrl:=hrow l1 a;have hRN:=hRl l1;generalize R2 N l1=R at*
   have hdr:=Wi R (show a<R.length by omega);have hput:=Znd R (show a<R.length by omega);obtain⟨k,k1,k2,k3,k4,k5⟩:=Zh1 (b:Int) (R.getD a []);obtain⟨c,c1,c2⟩:=Zka (R.getD a []) k k1;have hadd:Nx R (a,b)=R.set a (Rj (b:Int) (R.getD a [])):=rfl;have hsame:=Zkc (R:=R) (p:=(a,b));simp only at hsame;have hal:=Ms R (a,b);generalize R.getD a []=row at*
   simp(disch:=omega)only[Zb,QM,QD,Zq5,Zsx,Zq6,Zq8,Zq4,Nat.reduceAdd,h12,Zrt,hRN,Zro,Zrd,put2];rw[Zk (λm:Nat=>(R.map rC1,(m:Int),[C.v (.int .i64 (a:Int)),C.v (.int .i64 (b:Int))],())) 0 (R.map rC1,(k:Int),[C.v (.int .i64 (a:Int)),C.v (.int .i64 (b:Int))],()) k ?_ ?_ ?_ (by omega)]
   ·have hnew:Rj (b:Int) row=row.take k++(b:Int)::row.drop k->putAt (R.map rC1) a [C.sl (k+(1+(row.length-k))) (ints (row.take k)++([C.v (.int .i64 (b:Int))]++ints (row.drop k)))]=(Nx R (a,b)).map rC1:=by
     intro e;have e1:(row.take k++(b:Int)::row.drop k).length=k+(1+(row.length-k)):=by rw[Zre,Zq6,Zsx,Zrz,Zse k1];omega
     have e2:ints (row.take k++(b:Int)::row.drop k)=ints (row.take k)++([C.v (.int .i64 (b:Int))]++ints (row.drop k)):=by simp[ik]
     rw[hadd,e,<-hput,Zqu (by simp),e1,e2]
    have e0:List.drop 1 [C.v (.int .i64 (a:Int)),C.v (.int .i64 (b:Int))]=[C.v (.int .i64 (b:Int))]:=rfl;by_cases hk:k<row.length
    ·have hia:=ints_at row hk;by_cases hb:row[k]=(b:Int)
     ·rw[hsame (k5 hk hb)];simp(disch:=omega)only[Zb,QM,QD,Zq4,Zrd,Zro,Zq5,hdr,V5,hia,e0,Zrt,hRN];rfl
     ·have hnew:=hnew (k4 λ_=>hb);have hnl:(putAt (R.map rC1) a [C.sl (k+(1+(row.length-k))) (ints (row.take k)++([C.v (.int .i64 (b:Int))]++ints (row.drop k)))]).length=N:=by rw[hnew,Zrt,hal,hRN]
      simp(disch:=omega)only[Zb,QM,QD,Zq4,Zrd,Zro,Zq5,hdr,V5,hia,e0,c1,c2,Zrt,hRN,Ze,Hx,Zre,Zq6,Zq8,Zsx,Zrz,Zse,hnl,decide_true];rw[hnew];rfl
    ·have hnew:=hnew (k4 λh=>absurd h hk);have hnl:(putAt (R.map rC1) a [C.sl (k+(1+(row.length-k))) (ints (row.take k)++([C.v (.int .i64 (b:Int))]++ints (row.drop k)))]).length=N:=by rw[hnew,Zrt,hal,hRN]
     simp(disch:=omega)only[Zb,QM,QD,Zq4,Zrd,Zro,Zq5,hdr,V5,e0,c1,c2,Zrt,hRN,Ze,Hx,Zre,Zq6,Zq8,Zsx,Zrz,Zse,hnl,decide_true];rw[hnew];rfl
   ·rfl
   ·intro m hm;have hml:m<row.length:=by omega
    have hlt:=k2 m hml hm;have hia:=ints_at row hml;have e0:List.drop 1 [C.v (.int .i64 (a:Int)),C.v (.int .i64 (b:Int))]=[C.v (.int .i64 (b:Int))]:=rfl;simp(disch:=omega)only[Zb,QM,QD,Zq4,Zrd,Zro,Zq5,hdr,V5,hia,e0,Zrt,hRN];rfl
   ·have e0:List.drop 1 [C.v (.int .i64 (a:Int)),C.v (.int .i64 (b:Int))]=[C.v (.int .i64 (b:Int))]:=rfl;by_cases hk:k<row.length
    ·have hge:=k3 hk;have hia:=ints_at row hk;simp(disch:=omega)only[Zb,QM,QD,Zq4,Zrd,Zro,Zq5,hdr,V5,hia,e0,Zrt,hRN]
    ·simp(disch:=omega)only[Zb,QM,QD,Zq4,Zrd,Zro,Zq5,hdr,V5,e0,Zrt,hRN]
  ·simp(disch:=omega)only[Zb,QM,QD,Zrt,hRl,Zro,Zrd];rfl
 ·rw[Zsn];simp(disch:=omega)only[Zb,QM,QD,Zrt,hRl,Zro,Zrd]
end
end Go.Proofs.YtoaanfjcjbghaaaGreatDoor
/- The reference's edges are the grid's. -/
namespace Go.Proofs.YtoaanfjcjbghaaaGreatDoor
open Go Go.PM Go.Grid
attribute [local congr] Z1 Z2 Z3 Yp Z4 Z5 Yq Yr Ys Yt Z6 Z7 Yu Xt Xu Xv Xw Xx Xz X0 X1 X2 Xy Z9 Ya X3 Yb Yc Zt Yd Z8
def ltE (a b:Ed):Prop:=a.1<b.1\/a.1=b.1/\a.2<b.2
theorem Cx (a:Ed): ¬ltE a a:=by unfold ltE;omega
theorem Zke {a b:Ed} (h:ltE a b): ¬ltE b a:=by unfold ltE at*;omega
theorem J0: ∀{p q:List Ed},p.Pairwise ltE->q.Pairwise ltE->(∀x,x∈p↔x∈q)->p=q
 | [],[],_,_,_=>rfl
 | [],b::q,_,_,h=>by have:=(h b).2 (Zsd ..);cases this
 |a::p,[],_,_,h=>by have:=(h a).1 (Zsd ..);cases this
 |a::p,b::q,hp,hq,h=>by
  rw[Zsg]at hp hq;have e:a=b:=by
   rcases Zrl.1 ((h a).1 (Zsd ..))with h1|h1
   ·exact h1
   ·rcases Zrl.1 ((h b).2 (Zsd ..))with h2|h2
    ·exact h2.symm
    ·exact absurd (hp.1 b h2) (Zke (hq.1 a h1))
  subst e;have:p=q:=J0 hp.2 hq.2 λx=>by
   constructor
   ·intro hx;rcases Zrl.1 ((h x).1 (Zrr _ hx))with h1|h1
    ·subst h1;exact absurd (hp.1 x hx) (Cx x)
    ·exact h1
   ·intro hx;rcases Zrl.1 ((h x).2 (Zrr _ hx))with h1|h1
    ·subst h1;exact absurd (hq.1 x hx) (Cx x)
    ·exact h1
  rw[this]
theorem Cy {α:Type} [Inhabited α] (l:List α) {j:Nat} (hj:j<l.length):l.toArray[j]! =l[j]:=by
 rw[getElem!_pos l.toArray j (by simpa using hj)];simp
theorem Hz {α:Type} [Inhabited α] [DecidableEq α] (l:List α) {j:Nat} (hj:j<l.length):Lib.keeps l.toArray j=true↔j=0\/ ∃h:0<j,l[j]≠l[j-1]:=by
 unfold Lib.keeps;rw[Cy l hj,Cy l (show j-1<l.length by omega)];simp;constructor
 ·rintro (h|h)
  ·exact .inl h
  ·by_cases h0:j=0
   ·exact .inl h0
   ·exact .inr ⟨by omega,h⟩
 ·rintro (h|⟨_,h⟩)
  ·exact .inl h
  ·exact .inr h
theorem compact_all {α:Type} [Inhabited α] [DecidableEq α] (l:List α): ∀(j:Nat) (hj:j<l.length),l[j]∈Lib.compact l:=by
 have key: ∀(j:Nat) (hj:j<l.length),Lib.keeps l.toArray j=true->l[j]∈Lib.compact l:=by
  intro j hj hk;unfold Lib.compact Lib.compactUpTo;rw[<-Cy l hj];exact List.mem_map_of_mem (List.mem_filter.2 ⟨Zsv.2 hj,hk⟩)
 intro j
 induction j with
 |zero=>intro hj;exact key 0 hj ((Hz l hj).2 (.inl rfl))
 |succ j ih=>
  intro hj;by_cases e:l[j+1]=l[j]
  ·rw[e];exact ih (by omega)
  ·exact key (j+1) hj ((Hz l hj).2 (.inr ⟨by omega,e⟩))
theorem Zei (l:List Ed) (h:l.Pairwise λa b=>leZ a b=true):(Lib.compact l).Pairwise ltE:=by
 unfold Lib.compact Lib.compactUpTo;rw[List.pairwise_map,List.pairwise_filter];refine(List.pairwise_lt_range (n:=l.length)).imp_of_mem λ{a b} ha hb hab ka kb=> ?_;have ha:=Zsv.1 ha;have hb:=Zsv.1 hb;rw[Cy l ha,Cy l hb];rcases(Hz l hb).1 kb with h0|⟨h0,hne⟩
 ·omega
 have g:=List.pairwise_iff_getElem.1 h;have h1:leZ l[a] l[b-1]=true:=by
  by_cases e:a=b-1
  ·subst e;rw[Tw];exact .inr ⟨rfl,by omega⟩
  ·exact g a (b-1) ha (by omega) (by omega)
 have h2:leZ l[b-1] l[b]=true:=g (b-1) b (by omega) hb (by omega);have h3:l[b]≠l[b-1]:=hne;generalize l[a]=u at*
 generalize l[b]=v at*
 generalize l[b-1]=w at*
 have h4: ¬leZ v w=true:=λe=>h3 (Zec _ _ e h2);rw[Tw]at h1 h2 h4;unfold ltE;omega
theorem Zo5 (n:Nat):(edg n).Pairwise ltE:=Zei _ (M7 (λa b=>by rw[Tw,Tw];omega) (λa b c h h'=>by rw[Tw]at h h'⊢;omega) _)
theorem Zbo (n:Nat) (e:Ed):e∈edg n↔e∈Ck n:=by
 constructor
 ·intro h;exact(Xb leZ _).mem_iff.1 (G4 h)
 ·intro h;have h:=(Xb leZ _).mem_iff.2 h;obtain⟨j,hj,rfl⟩:=List.getElem_of_mem h;exact compact_all _ j hj
theorem Cz (n:Nat) (e:Ed):e∈Ck n↔ ∃t∈tri n,e∈Kr t:=by
 unfold Ck;rw[Zs2];exact⟨λ⟨t,h,h'⟩=>⟨t,(Xb leT _).mem_iff.1 h,h'⟩,λ⟨t,h,h'⟩=>⟨t,(Xb leT _).mem_iff.2 h,h'⟩⟩
theorem Zej {i j k:Nat} (h1:i≠j) (h2:i≠k) (h3:j≠k):(Xe i j k).1<(Xe i j k).2.1/\(Xe i j k).2.1<(Xe i j k).2.2:=by
 unfold Xe;split<;>split<;>try split
 all_goals first|(simp only;omega)|omega
theorem pt_ne {n f a b a' b':Nat} (h:Zu n) (hne:a≠a'\/b≠b'):pt n f a b≠pt n f a' b':=by
 intro e;have hs:=Vb h;have e1:a*(840/n)=a'*(840/n):=congrArg Pl.a e;have e2:b*(840/n)=b'*(840/n):=congrArg Pl.b e;rcases hne with hne|hne
 ·exact hne (Nat.eq_of_mul_eq_mul_right (by omega) e1)
 ·exact hne (Nat.eq_of_mul_eq_mul_right (by omega) e2)
theorem Zne {n:Nat} (h:Zu n): ∀t∈tri n,t.1<t.2.1/\t.2.1<t.2.2:=by
 intro t ht;unfold tri Lu rowC at ht;simp only[Zs2,Zsv]at ht;obtain⟨f,hf,a,ha,b,hb,ht⟩:=ht;have hp: ∀i j i' j',i+j<=n->i'+j'<=n->(i≠i'\/j≠j')->idx n (pt n f i j)≠idx n (pt n f i' j'):=λi j i' j' h1 h2 h3 e=>pt_ne h h3 (Zor h (Jw hf h1) (Jw hf h2) rfl e);unfold Xn at ht;rcases Zrl.1 ht with rfl|ht
 ·exact Zej (hp _ _ _ _ (by omega) (by omega) (by omega)) (hp _ _ _ _ (by omega) (by omega) (by omega)) (hp _ _ _ _ (by omega) (by omega) (by omega))
 ·split at ht
  ·obtain rfl:=List.mem_singleton.1 ht;exact Zej (hp _ _ _ _ (by omega) (by omega) (by omega)) (hp _ _ _ _ (by omega) (by omega) (by omega)) (hp _ _ _ _ (by omega) (by omega) (by omega))
  ·cases ht
def rowE (i:Nat) (r:List Int):List Ed:=(r.filter λk=>decide ((i:Int)<k)).map λk=>((i:Int),k)
def edgR (N:Nat) (A:List (List Int)):List Ed:=(List.range N).flatMap λi=>rowE i (A.getD i [])
theorem Zo6 {n:Nat} (h:Zu n) {L:List T3} (hp:L.Perm (tri n)):edgR (Zg n).length (R2 (Zg n).length (L.flatMap prs))=edg n:=by
 refine J0 ?_ (Zo5 n) λe=> ?_
 ·unfold edgR;refine Q0 (Q:=λa b=>a<b) List.pairwise_lt_range (λi _=> ?_) λi _ j _ hij u hu v hv=> ?_
  ·unfold rowE;rw[List.pairwise_map];exact((Po i).1.filter _).imp λ{a b} h=> .inr ⟨rfl,h⟩
  ·unfold rowE at hu hv;obtain⟨x,_,rfl⟩:=Zti.1 hu;obtain⟨y,_,rfl⟩:=Zti.1 hv;refine .inl ?_;show(i:Int)<(j:Int);omega
 ·rw[Zbo,Cz];unfold edgR;rw[Zs2];constructor
  ·rintro ⟨i,hi,he⟩
   have hi:=Zsv.1 hi;unfold rowE at he;obtain⟨k,hk,rfl⟩:=Zti.1 he;obtain⟨h1,h2⟩:=List.mem_filter.1 hk;have h2:=of_decide_eq_true h2;obtain⟨k',rfl,h3⟩:=((Po i).2.1 hi k).1 h1;obtain⟨t,ht,h4⟩:=Zs2.1 h3;have ht:=hp.mem_iff.1 ht;obtain⟨l1,l2⟩:=Zne h t ht;refine⟨t,ht, ?_⟩;obtain⟨x,y,z⟩:=t;simp only[prs,Kr,Zrl,Ztn,or_false,Prod.mk.injEq]at h4 l1 l2⊢;omega
  ·rintro ⟨t,ht,he⟩
   obtain⟨l1,l2⟩:=Zne h t ht;obtain⟨b1,b2,b3⟩:=Zbj h t ht;have hL:=hp.mem_iff.2 ht;have key: ∀i k:Nat,(i,k)∈prs t->i<k->i<(Zg n).length->e=((i:Int),(k:Int))-> ∃a,a∈List.range (Zg n).length/\e∈rowE a ((R2 (Zg n).length (L.flatMap prs)).getD a []):=by
    intro i k hik hlt hi e1;refine⟨i,Zsv.2 hi, ?_⟩;unfold rowE;rw[e1];refine Zti.2 ⟨(k:Int),List.mem_filter.2 ⟨((Po i).2.1 hi _).2 ⟨k,rfl,Zs2.2 ⟨t,hL,hik⟩⟩,decide_eq_true (by omega)⟩,rfl⟩
   simp only[Kr,Zrl,Ztn,or_false]at he;rcases he with e1|e1|e1
   ·exact key t.1 t.2.1 (by simp[prs]) l1 b1 e1
   ·exact key t.1 t.2.2 (by simp[prs]) (by omega) b1 e1
   ·exact key t.2.1 t.2.2 (by simp[prs]) l2 b2 e1
section
variable (fu d:Nat) (hf:18446744073709551616<=fu)
include hf
set_option maxHeartbeats 4000000 in
theorem Qf (n:Nat) (h:Zu n):cl fu (d+9) fn_synopticref03_Edges [I n] []=OK (V.tup [V.c (C.sl (edg n).length (fl edC (edg n))),I 0]):=by
 obtain⟨L,hp,hA⟩:=Bi fu d hf n h;have hE:=Zo6 h hp;have heL:=Xd h;have hNl:=Ye h;have hcnt:=Nb fu (d+7) n h;have hRl:=G8 (Zg n).length (L.flatMap prs);have hin: ∀i,∀k∈(R2 (Zg n).length (L.flatMap prs)).getD i [],i<(Zg n).length->0<=k/\k<=1000:=by
  intro i k hk hi;obtain⟨k',rfl,h3⟩:=((Po i).2.1 hi k).1 hk;obtain⟨t,ht,h4⟩:=Zs2.1 h3;obtain⟨b1,b2,b3⟩:=Zbj h t (hp.mem_iff.1 ht);obtain⟨x,y,z⟩:=t;simp only[prs,Zrl,Ztn,or_false,Prod.mk.injEq]at h4 b1 b2 b3;omega
 have hrl: ∀i,((R2 (Zg n).length (L.flatMap prs)).getD i []).length<=30000:=λi=>by
  have h1:((R2 (Zg n).length (L.flatMap prs)).getD i []).length<=(L.flatMap prs).length:=(Po i).2.2;have h2:=Cu h;rw[prs_length,hp.length_eq]at h1;omega
 generalize R2 (Zg n).length (L.flatMap prs)=A at*
 unfold edgR at hE;generalize (Zg n).length=N at*
 have hpre: ∀j,j<=N->((List.range j).flatMap λi=>rowE i (A.getD i [])).length<=15000:=by
  intro j hj;rw[<-hE]at heL;refine Zrs ?_ heL;obtain⟨m,rfl⟩:=Nat.exists_eq_add_of_le hj;rw[List.range_add,Ztb,Zre];omega
 rw[<-hE];rw[eq_synopticref03_Edges,hcnt];simp only[Zb,QM];rw[Hq Zef,hA];simp only[Zb,QM];rw[Zk (λj:Nat=>(fl edC ((List.range j).flatMap λi=>rowE i (A.getD i [])),(j:Int),())) 0 (fl edC ((List.range N).flatMap λi=>rowE i (A.getD i [])),(N:Int),()) N ?_ ?_ ?_ (by omega)]
 ·have hl:=Zh Xc ((List.range N).flatMap λi=>rowE i (A.getD i []));generalize (List.range N).flatMap (λi=>rowE i (A.getD i []))=E at*
  have hdv:E.length*2/2=E.length:=by omega
  have htk:List.take (E.length*2) (fl edC E)=fl edC E:=Zrc (by omega);simp(disch:=omega)only[Zb,QM,QD,hl,hdv,Zq4,htk]
 ·rfl
 ·intro j hj;have hdr:=Wi A (show j<A.length by omega);have hb:=hpre j (by omega);have hb2:=hpre (j+1) (by omega);have hsu:(List.range (j+1)).flatMap (λi=>rowE i (A.getD i []))=(List.range j).flatMap (λi=>rowE i (A.getD i []))++rowE j (A.getD j []):=by rw[Ztd,Ztb];simp
  rw[hsu]at hb2⊢;have hk:=λk hk=>hin j k hk hj;have hrl:=hrl j;generalize (List.range j).flatMap (λi=>rowE i (A.getD i []))=E0 at*
  generalize A.getD j []=row at*
  have hdv: ∀E:List Ed,E.length*2/2=E.length:=λE=>by omega
  have hl:=λE=>Zh Xc E;have hro: ∀m,m<=row.length->(rowE j (row.take m)).length<=m:=by
   intro m hm;unfold rowE;rw[Zrt];exact Zrs (List.length_filter_le ..) (by rw[Zrz];omega)
  simp(disch:=omega)only[Zb,QM,QD,V5,Zq5,Zrd,hdr,hl,hdv];rw[Zk (λm:Nat=>(fl edC (E0++rowE j (row.take m)),(m:Int),())) 0 (fl edC (E0++rowE j row),((row.length:Nat):Int),()) row.length ?_ ?_ ?_ (by omega)]
  ·simp(disch:=omega)only[Zb,QM,QD,hl,hdv];rfl
  ·simp only[Zs5,rowE,List.filter_nil,List.map_nil,Zs8];rfl
  ·intro m hm;have hia:=ints_at row hm;have hkm:=hk row[m] (Zr2 hm);have hr1:=hro m (by omega);have hr2:=hro (m+1) (by omega);have hst:rowE j (row.take (m+1))=rowE j (row.take m)++(if(j:Int)<row[m]then[((j:Int),row[m])]else[]):=by
    unfold rowE;rw[Zr1 hm,List.filter_append,Zts];by_cases hlt:(j:Int)<row[m]
    ·rw[if_pos hlt];simp[hlt]
    ·rw[if_neg hlt];simp[hlt]
   rw[hst]at hr2⊢;generalize row[m]=v at*
   generalize rowE j (row.take m)=E1 at*
   have hEl:(E0++E1).length<=100000:=by rw[Zre];omega
   by_cases hlt:(j:Int)<v
   ·rw[if_pos hlt]at hr2⊢;rw[<-Zr4];have hsn:fl edC (E0++E1)++[C.v (.int .i64 (j:Int)),C.v (.int .i64 v)]=fl edC (E0++E1++[((j:Int),v)]):=Js (E0++E1) ((j:Int),v);have hsl:(E0++E1++[((j:Int),v)]).length=(E0++E1).length+1:=by rw[Zre];rfl
    generalize E0++E1++[((j:Int),v)]=E3 at*
    generalize E0++E1=E2 at*
    simp(disch:=omega)only[Zb,QM,QD,V5,Zq5,Zrd,hia,hl,hdv,hsn,hsl];rfl
   ·rw[if_neg hlt,Zs8];generalize E0++E1=E2 at*
    simp(disch:=omega)only[Zb,QM,QD,V5,Zq5,Zrd,hia,hl,hdv];rfl
  ·rw[Zsn];simp(disch:=omega)only[Zb,QM,QD,hl,hdv]
 ·have hl:=Zh Xc ((List.range N).flatMap λi=>rowE i (A.getD i []));have hle:=hpre N (by omega);generalize (List.range N).flatMap (λi=>rowE i (A.getD i []))=E at*
  have hdv:E.length*2/2=E.length:=by omega
  simp(disch:=omega)only[Zb,QM,QD,hl,hdv]
end
end Go.Proofs.YtoaanfjcjbghaaaGreatDoor
/- What reading codes comes to: numbers, vectors, states. -/
namespace Go.Proofs.YtoaanfjcjbghaaaGreatDoor
open Go Go.PM Go.Grid
attribute [local congr] Z1 Z2 Z3 Yp Z4 Z5 Yq Yr Ys Yt Z6 Z7 Yu Xt Xu Xv Xw Xx Xz X0 X1 X2 Xy Z9 Ya X3 Yb Yc Zt Yd Z8
def bytes (bs:List Int):Prop:=(∀x∈bs,0<=x/\x<=255)/\bs.length<=1000
abbrev Yn (bs:List Int) (i:Nat):PM.Obj:= .ob ty_synopticfield_Codes 0 [C.sl bs.length (ik .u8 bs),C.v (.int .i64 (i:Int))]
def wid (lo hi:Int) (l:List Int):Prop:= ∀v∈l,lo<=v/\v<=hi
theorem Znf {lo hi:Int} {l:List Int} {v:Int} (h:wid lo hi l) (hv:lo<=v/\v<=hi):wid lo hi (l++[v]):=by
 intro x hx;rcases Ztc.1 hx with hx|hx
 ·exact h x hx
 ·rw[List.mem_singleton.1 hx];exact hv
theorem Zng {lo hi lo' hi':Int} {l:List Int} (h:wid lo hi l) (h1:lo'<=lo) (h2:hi<=hi'):wid lo' hi' l:=λv hv=>by have:=h v hv;omega
theorem Zbp {lo hi:Int} {l:List Int} (h:wid lo hi l) {j:Nat} (hj:j<l.length):lo<=l[j]/\l[j]<=hi:=h _ (Zr2 hj)
theorem ik_at (kd:IntKind) (r:List Int) {m:Nat} (h:m<r.length):(ik kd r).drop m=C.v (.int kd r[m])::ik kd (r.drop (m+1)):=by
 unfold ik;rw[<-List.map_drop,Zsf h,Zst]
theorem or24 {x y:Nat} (hx:x<16777216) (hy:y<16777216): ∃z:Nat,z<16777216/\IntKind.i64.wrap ((BitVec.ofInt (IntKind.bits .i64) (x:Int)|||BitVec.ofInt (IntKind.bits .i64) (y:Int)).toNat:Int)=(z:Int):=by
 have h1: ∀x:Nat,x<16777216->(BitVec.ofInt (IntKind.bits .i64) (x:Int)).toNat=x:=by
  intro x hx;rw[BitVec.toNat_ofInt];show(((x:Int)%((2^64:Nat):Int))).toNat=x;omega
 have h2:(BitVec.ofInt (IntKind.bits .i64) (x:Int)|||BitVec.ofInt (IntKind.bits .i64) (y:Int)).toNat=x|||y:=by rw[BitVec.toNat_or,h1 x hx,h1 y hy]
 have h3:x|||y<2^24:=Nat.or_lt_two_pow (by omega) (by omega)
 refine⟨x|||y,by omega, ?_⟩;rw[h2,Q1 (by omega) (by omega)]
section
variable (fu d:Nat) (hf:18446744073709551616<=fu)
theorem Zo7 (bs:List Int) (i:Nat):cl fu (d+1) fn_synopticfield_Codes_Left [V.ptr 1000000 0] [Yn bs i]=some ⟨B (decide (i<bs.length)),[Yn bs i],none⟩:=by
 unfold Yn;rw[eq_synopticfield_Codes_Left];by_cases h:i<bs.length
 ·rw[decide_eq_true h];simp(disch:=omega)only[Zb,QM,QD]
 ·rw[decide_eq_false h];simp(disch:=omega)only[Zb,QM,QD]
theorem Xp {bs:List Int} (hb:bytes bs) {i:Nat} (hi:i<=1000) (n:Nat) (hn:1<=n/\n<=1000000):
  ∃v j:Nat,v<n/\j<=1000/\cl fu (d+2) fn_synopticfield_Codes_Next [V.ptr 1000000 0,I n] [Yn bs i]=some ⟨I v,[Yn bs j],none⟩:=by
 have hL:=Zo7 fu d bs i;obtain⟨hb,hl⟩:=hb;unfold Yn at hL⊢;rw[eq_synopticfield_Codes_Next,hL];by_cases h:i<bs.length
 ·have hx:=hb bs[i] (Zr2 h);have hia:=ik_at .u8 bs h;have e1:IntKind.i64.wrap bs[i]=bs[i]:=Q1 (by omega) (by omega);have e2:Int.tmod bs[i] (n:Int)=bs[i]%(n:Int):=IntWalk.rem_in _ _ hx.1;have e3:(i:Int)+1-1=(i:Int):=by omega
  have h1:0<=bs[i]%(n:Int):=Int.emod_nonneg _ (by omega);have h2:bs[i]%(n:Int)<n:=Int.emod_lt_of_pos _ (by omega);rw[decide_eq_true h];refine⟨(bs[i]%(n:Int)).toNat,i+1,by omega,by omega, ?_⟩;rw[Int.toNat_of_nonneg h1];simp(disch:=omega)only[Zb,QM,QD,Zq6,Zq8,Zq4,Nat.reduceAdd,e3,Zq5,Zrd,hia,e1,e2,Zr3,Zso]
 ·rw[decide_eq_false h];refine⟨0,i,by omega,hi, ?_⟩;simp(disch:=omega)only[Zb,QM,QD,Zq6,Zq8,Zq4,Nat.reduceAdd];rfl
theorem Zbq {bs:List Int} (hb:bytes bs) {i:Nat} (hi:i<=1000):
  ∃n j:Nat,(n=1\/n=2)/\j<=1000/\cl fu (d+3) fn_synopticfield_Codes_Frequency [V.ptr 1000000 0] [Yn bs i]=some ⟨I n,[Yn bs j],none⟩:=by
 obtain⟨v,j,hv,hj,e⟩:=Xp fu d hb hi 5 (by omega);unfold Yn at e⊢;rw[eq_synopticfield_Codes_Frequency];replace e:cl fu (d+2) fn_synopticfield_Codes_Next [V.ptr 1000000 0,I 5] _=_:=e;have hdr: ∃n:Nat,(n=1\/n=2)/\ ∃r,List.drop v [C.v (.int .i64 1),C.v (.int .i64 1),C.v (.int .i64 1),C.v (.int .i64 1),C.v (.int .i64 2)]=C.v (.int .i64 (n:Int))::r:=by
  rcases(show v=0\/v=1\/v=2\/v=3\/v=4 by omega)with rfl|rfl|rfl|rfl|rfl
  ·exact⟨1, .inl rfl,_,rfl⟩
  ·exact⟨1, .inl rfl,_,rfl⟩
  ·exact⟨1, .inl rfl,_,rfl⟩
  ·exact⟨1, .inl rfl,_,rfl⟩
  ·exact⟨2, .inr rfl,_,rfl⟩
 obtain⟨n,hn,r,hdr⟩:=hdr;refine⟨n,j,hn,hj, ?_⟩;simp(disch:=omega)only[Zb,QM,QD,e,Zq6,Zq8,Zq4,Nat.reduceAdd,Zq5,Zrd,hdr]
theorem Zkf {bs:List Int} (hb:bytes bs) {i:Nat} (hi:i<=1000):
  ∃a b c j:Nat,(1<=a/\a<=4)/\(1<=b/\b<=4)/\(1<=c/\c<=4)/\j<=1000/\cl fu (d+3) fn_synopticfield_Codes_Scheme [V.ptr 1000000 0] [Yn bs i]=some ⟨V.agg [C.v (.int .i64 (a:Int)),C.v (.int .i64 (b:Int)),C.v (.int .i64 (c:Int))],[Yn bs j],none⟩:=by
 obtain⟨v1,j1,hv1,hj1,e1⟩:=Xp fu d hb hi 4 (by omega);obtain⟨v2,j2,hv2,hj2,e2⟩:=Xp fu d hb hj1 4 (by omega);obtain⟨v3,j3,hv3,hj3,e3⟩:=Xp fu d hb hj2 4 (by omega);unfold Yn at e1 e2 e3⊢;replace e1:cl fu (d+2) fn_synopticfield_Codes_Next [V.ptr 1000000 0,I 4] _=_:=e1;replace e2:cl fu (d+2) fn_synopticfield_Codes_Next [V.ptr 1000000 0,I 4] _=_:=e2;replace e3:cl fu (d+2) fn_synopticfield_Codes_Next [V.ptr 1000000 0,I 4] _=_:=e3;refine⟨1+v1,1+v2,1+v3,j3,by omega,by omega,by omega,hj3, ?_⟩;rw[eq_synopticfield_Codes_Scheme];simp(disch:=omega)only[Zb,QM,QD,e1,e2,e3,Zq6,Zq8,Zq4,Nat.reduceAdd,Zr3,Zso]
theorem M8 {bs:List Int} (hb:bytes bs) {i:Nat} (hi:i<=1000) (most:Nat) (hm:most<=10000000000000):
  ∃(v:Int) (j:Nat),(-(most:Int)<=v/\v<=most)/\j<=1000/\cl fu (d+3) fn_synopticfield_Codes_Signed [V.ptr 1000000 0,I most] [Yn bs i]=some ⟨I v,[Yn bs j],none⟩:=by
 obtain⟨v1,j1,hv1,hj1,e1⟩:=Xp fu d hb hi 256 (by omega);obtain⟨v2,j2,hv2,hj2,e2⟩:=Xp fu d hb hj1 256 (by omega);obtain⟨v3,j3,hv3,hj3,e3⟩:=Xp fu d hb hj2 256 (by omega);obtain⟨v4,j4,hv4,hj4,e4⟩:=Xp fu d hb hj3 2 (by omega);unfold Yn at e1 e2 e3 e4⊢;replace e1:cl fu (d+2) fn_synopticfield_Codes_Next [V.ptr 1000000 0,I 256] _=_:=e1;replace e2:cl fu (d+2) fn_synopticfield_Codes_Next [V.ptr 1000000 0,I 256] _=_:=e2;replace e3:cl fu (d+2) fn_synopticfield_Codes_Next [V.ptr 1000000 0,I 256] _=_:=e3;replace e4:cl fu (d+2) fn_synopticfield_Codes_Next [V.ptr 1000000 0,I 2] _=_:=e4;have w1:(v1:Int)*2^16=((v1*65536:Nat):Int):=by omega
 have w2:(v2:Int)*2^8=((v2*256:Nat):Int):=by omega
 obtain⟨z,hz,o1⟩:=or24 (x:=v1*65536) (y:=v2*256) (by omega) (by omega);obtain⟨y,hy,o2⟩:=or24 (x:=z) (y:=v3) hz (by omega);have t1:Int.tmod (y:Int) ((most:Int)+1)=((y%(most+1):Nat):Int):=by
  rw[IntWalk.rem_in _ _ (by omega),Int.natCast_emod,Zr3];rfl
 have hq:y%(most+1)<=most:=by have:=Nat.mod_lt y (show 0<most+1 by omega);omega
 rw[eq_synopticfield_Codes_Signed];simp(disch:=omega)only[Zb,QM,QD,e1,e2,w1,w2,o1,e3,o2,t1,Zq6,Zq8,Zq4,Nat.reduceAdd];generalize y%(most+1)=q at*
 by_cases h4:v4=1
 ·refine⟨0-(q:Int),j4,by omega,hj4, ?_⟩;simp(disch:=omega)only[Zb,QM,QD,e4,Zq6,Zq8,Zq4,Nat.reduceAdd]
 ·refine⟨(q:Int),j4,by omega,hj4, ?_⟩;simp(disch:=omega)only[Zb,QM,QD,e4,Zq6,Zq8,Zq4,Nat.reduceAdd]
theorem Zo8 (bs:List Int) (k:Nat):cl fu (d+1) fn_synopticfield_New [V.c (C.sl bs.length (ik .u8 bs)),I (k:Int)] []=some ⟨V.ptr 1000000 0,[Yn (bs.take k) 0],none⟩:=by
 rw[eq_synopticfield_New];unfold Yn;by_cases h:k<bs.length
 ·have e1:(ik .u8 bs).take k=ik .u8 (bs.take k):=List.map_take.symm;simp(disch:=omega)only[Zb,QM,QD,Zq5,Zrd,e1,Zrz,Zse];rfl
 ·rw[show bs.take k=bs from Zrc (by omega)];simp(disch:=omega)only[Zb,QM,QD];rfl
end
end Go.Proofs.YtoaanfjcjbghaaaGreatDoor
/- Vectors and states that are made from codes. -/
namespace Go.Proofs.YtoaanfjcjbghaaaGreatDoor
open Go Go.PM Go.Grid
attribute [local congr] Z1 Z2 Z3 Yp Z4 Z5 Yq Yr Ys Yt Z6 Z7 Yu Xt Xu Xv Xw Xx Xz X0 X1 X2 Xy Z9 Ya X3 Yb Yc Zt Yd Z8
abbrev stC (n:Nat) (dp fw:List Int):List C:=[C.v (.int .i64 (n:Int)),C.sl dp.length (ints dp),C.sl fw.length (ints fw)]
structure StOk (n:Nat) (dp fw:List Int):Prop where
 dl:dp.length=(Zg n).length
 fl:fw.length=(edg n).length
 dw:wid 0 16777216 dp
 fw:wid (-1000000) 1000000 fw
theorem Zo9 {n:Nat} (h:n=1\/n=2):Zu n:=by unfold Zu;omega
section
variable (fu d:Nat) (hf:18446744073709551616<=fu)
include hf
set_option maxHeartbeats 4000000 in
theorem Wj {bs:List Int} (hb:bytes bs) {i:Nat} (hi:i<=1000) (n most:Nat) (hn:n<=1000000) (hm:most<=10000000000000) (top:Int) (ht:(most:Int)<=top/\9<=top):
  ∃(l:List Int) (j:Nat),l.length=n/\wid (-top) top l/\j<=1000/\cl fu (d+4) fn_synopticfield_Codes_Vector [V.ptr 1000000 0,I n,I most] [Yn bs i]=some ⟨V.c (C.sl l.length (ints l)),[Yn bs j],none⟩:=by
 obtain⟨v1,j1,hv1,hj1,e1⟩:=M8 fu d hb hi most (by omega);obtain⟨v2,j2,hv2,hj2,e2⟩:=M8 fu d hb hj1 most (by omega);obtain⟨v3,j3,hv3,hj3,e3⟩:=M8 fu d hb hj2 most (by omega);obtain⟨v4,j4,hv4,hj4,e4⟩:=M8 fu d hb hj3 9 (by omega);have hN:=λ(i:Nat) (hi:i<=1000)=>Xp fu (d+1) hb hi 7 (by omega);replace e4:cl fu (d+3) fn_synopticfield_Codes_Signed [V.ptr 1000000 0,I 9] _=_:=e4;unfold Yn at*
 rw[eq_synopticfield_Codes_Vector];simp(disch:=omega)only[Zb,QM,QD,e1,e2,e3,e4,Zq6,Zq8,Zq4,Nat.reduceAdd];refine Qt (A:=List C×Int×(C×Int×Unit)×Unit) (B:=Out) (fu:=fu) (λo=> ∃(l:List Int) (j:Nat),l.length=n/\wid (-top) top l/\j<=1000/\o=some ⟨V.c (C.sl l.length (ints l)),[Yn bs j],none⟩)
  (λy=> ∃(l:List Int) (j:Nat),l.length<=n/\wid (-top) top l/\j<=1000/\y=(ints l,((l.length:Nat):Int),(C.sl bs.length (ik .u8 bs),(j:Int),()),())) (λy=>(n:Int).toNat-y.2.1.toNat)
  (λe y=>e=0/\ ∃(l:List Int) (j:Nat),l.length=n/\wid (-top) top l/\j<=1000/\y=(ints l,((l.length:Nat):Int),(C.sl bs.length (ik .u8 bs),(j:Int),()),())) ?_ ?_ ?_ ?_
 ·exact⟨[],j4,by simp,(by intro v hv;cases hv),hj4,rfl⟩
 ·show(n:Int).toNat-(0:Int).toNat<fu;omega
 ·rintro y ⟨l,j,hl,hw,hj,rfl⟩
  by_cases hlt:l.length<n
  ·obtain⟨v,k,hv,hk,e5⟩:=hN j hj;replace e5:cl fu (d+3) fn_synopticfield_Codes_Next [V.ptr 1000000 0,I 7] _=_:=e5;have w0:IntKind.i64.wrap (0-(most:Int))=0-(most:Int):=Q1 (by omega) (by omega);obtain⟨x,r,hx,hdr⟩: ∃(x:Int) (r:List C),(-top<=x/\x<=top)/\List.drop v [C.v (.int .i64 v1),C.v (.int .i64 v2),C.v (.int .i64 v3),C.v (.int .i64 v4),C.v (.int .i64 0),C.v (.int .i64 (most:Int)),C.v (.int .i64 (0-(most:Int)))]=C.v (.int .i64 x)::r:=by
    rcases(show v=0\/v=1\/v=2\/v=3\/v=4\/v=5\/v=6 by omega)with rfl|rfl|rfl|rfl|rfl|rfl|rfl
    ·exact⟨v1,_,by omega,rfl⟩
    ·exact⟨v2,_,by omega,rfl⟩
    ·exact⟨v3,_,by omega,rfl⟩
    ·exact⟨v4,_,by omega,rfl⟩
    ·exact⟨0,_,by omega,rfl⟩
    ·exact⟨(most:Int),_,by omega,rfl⟩
    ·exact⟨0-(most:Int),_,by omega,rfl⟩
   refine .inl ⟨(ints (l++[x]),(((l++[x]).length:Nat):Int),(C.sl bs.length (ik .u8 bs),(k:Int),()),()), ?_,⟨l++[x],k,by simp;omega,Znf hw hx,hk,rfl⟩, ?_⟩
   ·simp(disch:=omega)only[Zb,QM,QD,e5,Zq6,Zq8,Zq4,Nat.reduceAdd,w0,Zq5,Zrd,hdr,Ze,Zro,Xo,Zre,Zr3,Zso]
   ·show(n:Int).toNat-(((l++[x]).length:Nat):Int).toNat<(n:Int).toNat-((l.length:Nat):Int).toNat;rw[Zre,List.length_singleton];omega
  ·refine .inr ⟨0,(ints l,((l.length:Nat):Int),(C.sl bs.length (ik .u8 bs),(j:Int),()),()), ?_,rfl,l,j,by omega,hw,hj,rfl⟩;simp(disch:=omega)only[Zb,QM,QD,Ze,Zro,Zrd]
 ·rintro e z ⟨rfl,l,j,hl,hw,hj,rfl⟩
  refine⟨l,j,hl,hw,hj, ?_⟩;have htk:List.take l.length (ints l)=ints l:=Zrc (by rw[Ze];exact Zrf _);simp(disch:=omega)only[Zb,QM,QD,Ze,Zro,Zrd,Zq4,htk]
omit hf in
theorem Zpa (x:Int): ∃v,(0<=v/\v<=16777216)/\cl fu (d+1) fn_synopticref28_Clip [I x,I 0,I 16777216] []=OK (I v):=by
 rw[eq_synopticref28_Clip];exact⟨_,by constructor<;>(repeat' split)<;>omega,rfl⟩
omit hf in
theorem Nc (n:Nat) (h:Zu n):cl fu (d+1) fn_synopticref22_Nodes [I n] []=OK (I ((Zg n).length:Int)):=by
 rw[Y4 h,eq_synopticref22_Nodes];rcases Qd h with rfl|rfl|rfl|rfl|rfl|rfl|rfl|rfl<;>(show @Eq (Option Out) _ _;kernel_rfl)
set_option maxHeartbeats 4000000 in
theorem Znh {bs:List Int} (hb:bytes bs) {i:Nat} (hi:i<=1000) (n:Nat) (h:Zu n):
  ∃(dp fw:List Int) (j:Nat),StOk n dp fw/\j<=1000/\cl fu (d+10) fn_synopticfield_Codes_State [V.ptr 1000000 0,I n] [Yn bs i]=some ⟨V.agg (stC n dp fw),[Yn bs j],none⟩:=by
 have hE:=Qf fu d hf n h;have heL:=Xd h;have hNl:=Ye h;have hN22:=Nc fu (d+8) n h;obtain⟨v1,j1,hv1,hj1,e1⟩:=Xp fu (d+7) hb hi 4 (by omega);replace e1:cl fu (d+9) fn_synopticfield_Codes_Next [V.ptr 1000000 0,I 4] _=_:=e1;obtain⟨m1,r1,hm1,hd1⟩: ∃(m:Nat) (r:List C),m<=1000000/\List.drop v1 [C.v (.int .i64 0),C.v (.int .i64 30),C.v (.int .i64 5000),C.v (.int .i64 1000000)]=C.v (.int .i64 (m:Int))::r:=by
  rcases(show v1=0\/v1=1\/v1=2\/v1=3 by omega)with rfl|rfl|rfl|rfl
  ·exact⟨0,_,by omega,rfl⟩
  ·exact⟨30,_,by omega,rfl⟩
  ·exact⟨5000,_,by omega,rfl⟩
  ·exact⟨1000000,_,by omega,rfl⟩
 obtain⟨fw,j2,hl2,hw2,hj2,e2⟩:=Wj fu (d+5) hf hb hj1 (edg n).length m1 (by omega) (by omega) 1000000 (by omega);obtain⟨v3,j3,hv3,hj3,e3⟩:=Xp fu (d+7) hb hj2 4 (by omega);replace e3:cl fu (d+9) fn_synopticfield_Codes_Next [V.ptr 1000000 0,I 4] _=_:=e3;obtain⟨m3,r3,hm3,hd3⟩: ∃(m:Nat) (r:List C),m<=2500000/\List.drop v3 [C.v (.int .i64 0),C.v (.int .i64 40),C.v (.int .i64 100000),C.v (.int .i64 2500000)]=C.v (.int .i64 (m:Int))::r:=by
  rcases(show v3=0\/v3=1\/v3=2\/v3=3 by omega)with rfl|rfl|rfl|rfl
  ·exact⟨0,_,by omega,rfl⟩
  ·exact⟨40,_,by omega,rfl⟩
  ·exact⟨100000,_,by omega,rfl⟩
  ·exact⟨2500000,_,by omega,rfl⟩
 obtain⟨v4,j4,hv4,hj4,e4⟩:=Xp fu (d+7) hb hj3 3 (by omega);replace e4:cl fu (d+9) fn_synopticfield_Codes_Next [V.ptr 1000000 0,I 3] _=_:=e4;obtain⟨m4,r4,hm4,hd4⟩: ∃(m:Nat) (r:List C),m<=90000/\List.drop v4 [C.v (.int .i64 0),C.v (.int .i64 30),C.v (.int .i64 90000)]=C.v (.int .i64 (m:Int))::r:=by
  rcases(show v4=0\/v4=1\/v4=2 by omega)with rfl|rfl|rfl
  ·exact⟨0,_,by omega,rfl⟩
  ·exact⟨30,_,by omega,rfl⟩
  ·exact⟨90000,_,by omega,rfl⟩
 obtain⟨l5,j5,hl5,hw5,hj5,e5⟩:=Wj fu (d+5) hf hb hj4 (Zg n).length m4 (by omega) (by omega) 90000 (by omega);obtain⟨cp,hcp⟩: ∃cp:Int->Int,∀x,(0<=cp x/\cp x<=16777216)/\cl fu (d+9) fn_synopticref28_Clip [I x,I 0,I 16777216] []=OK (I (cp x)):=Classical.axiomOfChoice (r:=λx v=>(0<=v/\v<=16777216)/\cl fu (d+9) fn_synopticref28_Clip [I x,I 0,I 16777216] []=OK (I v)) λx=>Zpa fu (d+8) x;have hcl:=λx=>(hcp x).2;refine⟨l5.map λx=>cp ((m3:Int)+x),fw,j5,⟨by rw[Zrt,hl5],hl2,λv hv=> ?_,hw2⟩,hj5, ?_⟩
 ·obtain⟨x,_,rfl⟩:=Zti.1 hv;exact(hcp _).1
 unfold Yn at*
 generalize edg n=E at*
 generalize (Zg n).length=N at*
 rw[eq_synopticfield_Codes_State,hE];simp(disch:=omega)only[Zb,QM,QD,e1,Zq6,Zq8,Zq4,Nat.reduceAdd,Zq5,Zrd,hd1,e2,e3,hd3,e4,hd4,hN22,e5];rw[Zk (λj:Nat=>((j:Int),((0:Int),C.nl,C.nl,()),((n:Int),ints ((l5.take j).map λx=>cp ((m3:Int)+x)),C.sl fw.length (ints fw),()),(C.sl bs.length (ik .u8 bs),(j5:Int),()),())) 0 (((l5.length:Nat):Int),((0:Int),C.nl,C.nl,()),((n:Int),ints (l5.map λx=>cp ((m3:Int)+x)),C.sl fw.length (ints fw),()),(C.sl bs.length (ik .u8 bs),(j5:Int),()),()) l5.length ?_ ?_ ?_ (by omega)]
 ·have htk:List.take l5.length (ints (l5.map λx=>cp ((m3:Int)+x)))=ints (l5.map λx=>cp ((m3:Int)+x)):=Zrc (by rw[Ze,Zrt];exact Zrf _);simp(disch:=omega)only[Zb,QM,QD,Ze,Zro,Zrd,Zq4,Zrt,htk];unfold stC;rw[Zrt]
 ·rfl
 ·intro j hj;have hia:=ints_at l5 hj;have hx:=Zbp hw5 hj;have hsn:ints ((l5.take j).map λx=>cp ((m3:Int)+x))++[C.v (.int .i64 (cp ((m3:Int)+l5[j])))]=ints ((l5.take (j+1)).map λx=>cp ((m3:Int)+x)):=by
   rw[Zr1 hj,Zts,Xo];rfl
  generalize l5[j]=x at*
  simp(disch:=omega)only[Zb,QM,QD,Zq5,Zrd,hia,hcl,Ze,Zro,Zrt,Zrz,Zse,hsn];rfl
 ·rw[Zsn];simp(disch:=omega)only[Zb,QM,QD,Ze,Zro,Zrd,Zrt]
end
end Go.Proofs.YtoaanfjcjbghaaaGreatDoor
/- Edges as the program hands them out, checks of states, degrees. -/
namespace Go.Proofs.YtoaanfjcjbghaaaGreatDoor
open Go Go.PM Go.Grid
attribute [local congr] Z1 Z2 Z3 Yp Z4 Z5 Yq Yr Ys Yt Z6 Z7 Yu Xt Xu Xv Xw Xx Xz X0 X1 X2 Xy Z9 Ya X3 Yb Yc Zt Yd Z8
def at0 (l:List Int) (i:Nat):Int:=l.getD i 0
theorem M9 {l:List Int} {i:Nat} (h:i<l.length):at0 l i=l[i]:=by
 unfold at0;rw[Zrm,Zrb h];rfl
theorem Zr (l:List Int) {i:Nat} (h:i<l.length):(ints l).drop i=C.v (.int .i64 (at0 l i))::ints (l.drop (i+1)):=by
 rw[ints_at l h,M9 h]
theorem C0 (l:List Int) {i:Nat} (h:i<l.length) (v:Int):putAt (ints l) i [C.v (.int .i64 v)]=ints (l.set i v):=by
 unfold putAt;rw[List.set_eq_take_append_cons_drop,if_pos h,Hx,Hw];simp[ik]
def Uc (l:List Int) (i:Nat) (v:Int):List Int:=l.set i (at0 l i+v)
theorem Y5 (l:List Int) (i:Nat) (v:Int):(Uc l i v).length=l.length:=by simp[Uc]
theorem Pp (l:List Int) (i:Nat) (v:Int) (k:Nat):at0 (Uc l i v) k=at0 l k+if k=i/\i<l.length then v else 0:=by
 unfold Uc at0;rw[Zrm,List.getElem?_set];by_cases h:i=k
 ·subst h;by_cases hl:i<l.length
  ·simp[hl,Zrm]
  ·rw[if_pos rfl,if_neg hl,if_neg (λe=>hl e.2),Zrm,Ztp (by omega)];rfl
 ·rw[if_neg h,if_neg (λe=>h e.1.symm),Zrm];simp
theorem Vo (l:List Int) {i:Nat} (h:i<l.length) (v:Int):putAt (ints l) i [C.v (.int .i64 (at0 l i+v))]=ints (Uc l i v):=C0 l h _
def Qu (lo hi:Int) (l:List Int):Bool:=l.any λv=> !(decide (lo<=v)&&decide (v<=hi))
theorem Ud {lo hi:Int} {l:List Int}:Qu lo hi l=false↔wid lo hi l:=by
 unfold Qu wid;rw[Ztk];simp
theorem Vd (n:Nat):(edgesL n).length=(edg n).length:=by simp[edgesL]
theorem Zgu (n:Nat) {j:Nat} (h':j<(edg n).length):(edgesL n)[j]? =some [I ((j:Nat):Int),V.agg [C.v (.int .i64 (edg n)[j].1),C.v (.int .i64 (edg n)[j].2)]]:=by
 unfold edgesL;rw[Zrj,List.getElem?_zipIdx,Zrb h'];simp
theorem La (n:Nat) {j:Nat} (h:j<(edgesL n).length) (h':j<(edg n).length):(edgesL n)[j]=[I ((j:Nat):Int),V.agg [C.v (.int .i64 (edg n)[j].1),C.v (.int .i64 (edg n)[j].2)]]:=by
 have:=Zgu n h';rw[Zrb h]at this;exact Option.some.inj this
theorem Zek (n:Nat) {j:Nat} (h:j<(edg n).length):(edgesL n).drop j=[I ((j:Nat):Int),V.agg [C.v (.int .i64 (edg n)[j].1),C.v (.int .i64 (edg n)[j].2)]]::(edgesL n).drop (j+1):=by
 rw[Zsf (by rw[Vd];exact h),La n _ h]
section
variable (fu d:Nat) (hf:18446744073709551616<=fu)
theorem Wk (v lo hi:Int):cl fu (d+1) fn_flux_within [I v,I lo,I hi] []=OK (B (decide (lo<=v)&&decide (v<=hi))):=by
 rw[eq_flux_within];by_cases h:lo<=v
 ·simp(disch:=omega)only[Zb,QM,QD]
 ·simp(disch:=omega)only[Zb,QM,QD]
theorem Zbr (v lo hi:Int):cl fu (d+2) fn_flux_outside_1 [I v,V.c (C.cp [C.v (.int .i64 lo)]),V.c (C.cp [C.v (.int .i64 hi)])] []=OK (B (!(decide (lo<=v)&&decide (v<=hi)))):=by
 have e:=Wk fu d v lo hi;generalize (decide (lo<=v)&&decide (v<=hi))=b at*
 rw[eq_flux_outside_1];simp only[Zb,QM,e]
include hf
theorem Qv (l:List Int) (hl:l.length<=1000000) (lo hi:Int):cl fu (d+5) fn_flux_outside [V.c (C.sl l.length (ints l)),I lo,I hi] []=OK (B (Qu lo hi l)):=by
 have h1:=λv=>Zbr fu d v lo hi;rw[eq_flux_outside,eq2_slices_ContainsFunc_sint_int,eq2_slices_IndexFunc_sint_int];rcases Qm (λj=> ∃h:j<l.length,(!(decide (lo<=l[j])&&decide (l[j]<=hi)))=true) l.length with hn|⟨k,hk,⟨hk2,hb⟩,hn⟩
 ·have hall:Qu lo hi l=false:=by
   unfold Qu;rw[Ztk];intro v hv;obtain⟨j,hj,rfl⟩:=List.getElem_of_mem hv;exact λe=>hn j hj ⟨hj,e⟩
  rw[hall,Zk (λj:Nat=>((0:Int),(j:Int),())) 0 ((0:Int),((l.length:Nat):Int),()) l.length ?_ ?_ ?_ (by omega)]
  ·simp(disch:=omega)only[Zb,QM,QD]
  ·rfl
  ·intro j hj;have hia:=ints_at l hj;have hv:=hn j hj;have hv:(!(decide (lo<=l[j])&&decide (l[j]<=hi)))=false:=by
    cases e:(!(decide (lo<=l[j])&&decide (l[j]<=hi)))
    ·rfl
    ·exact absurd ⟨hj,e⟩ hv
   have h1:=h1 l[j];rw[hv]at h1;simp(disch:=omega)only[Zb,QM,QD,Zq5,Zrd,hia,h1];rfl
  ·simp(disch:=omega)only[Zb,QM,QD]
 ·have hall:Qu lo hi l=true:=by
   unfold Qu;rw[List.any_eq_true];exact⟨l[k],Zr2 hk2,hb⟩
  rw[hall,Zk (λj:Nat=>((0:Int),(j:Int),())) 1 ((k:Int),(k:Int),()) k ?_ ?_ ?_ (by omega)]
  ·simp(disch:=omega)only[Zb,QM,QD]
  ·rfl
  ·intro j hj;have hjl:j<l.length:=by omega
   have hia:=ints_at l hjl;have hv:=hn j hj;have hv:(!(decide (lo<=l[j])&&decide (l[j]<=hi)))=false:=by
    cases e:(!(decide (lo<=l[j])&&decide (l[j]<=hi)))
    ·rfl
    ·exact absurd ⟨hjl,e⟩ hv
   have h1:=h1 l[j];rw[hv]at h1;simp(disch:=omega)only[Zb,QM,QD,Zq5,Zrd,hia,h1];rfl
  ·have hia:=ints_at l hk2;have h1:=h1 l[k];rw[hb]at h1;simp(disch:=omega)only[Zb,QM,QD,Zq5,Zrd,hia,h1]
omit hf in
theorem Zh2 (n:Nat) (h:Zu n):cl fu (d+1) fn_mesh_Frequency [I n] []=OK (B true):=by
 unfold Zu at h;rw[eq_mesh_Frequency];simp(disch:=omega)only[Zb,QM,QD]
omit hf in
theorem Ve (n:Nat) (h:Zu n):cl fu (d+2) fn_grid_Count [I n] []=OK (I ((Zg n).length:Int)):=by
 rw[Y4 h,eq_grid_Count,Zh2 fu d n h];simp only[Zb,QM];rcases Qd h with rfl|rfl|rfl|rfl|rfl|rfl|rfl|rfl<;>(show @Eq (Option Out) _ _;kernel_rfl)
theorem Qn (n:Nat) (h:Zu n):cl fu (d+9) fn_grid_Edges [I n] []=OK (V.tup [V.c (C.sl (edg n).length (fl edC (edg n))),I 0]):=by
 obtain⟨c,e⟩:=Znc fu d hf n h;have e0:=Zh2 fu (d+7) n h;generalize edg n=E at*
 generalize (Zg n).length=N at*
 generalize fl plc (Zg n)=nc at*
 generalize esn 0 (Zg n)=es at*
 generalize nxt n=nx at*
 rw[eq_grid_Edges,e0];simp(disch:=omega)only[Zb,QM,QD,e,Zd9,Mm,Zq6,Zq8,Zq4,Nat.reduceAdd]
theorem Pq (n:Nat) (h:Zu n) (dp fw:List Int) (h1:dp.length=(Zg n).length) (h2:fw.length=(edg n).length) (h3:wid 0 16777216 dp) (h4:wid (-16777216) 16777216 fw):
  cl fu (d+10) fn_flux_Check [V.agg (stC n dp fw)] []=OK (I 0):=by
 have hNl:=Ye h;have heL:=Xd h;have e1:=Qn fu d hf n h;have e2:=Ve fu (d+7) n h;have e3:=Qv fu (d+4) hf dp (by omega) 0 16777216;have e4:=Qv fu (d+4) hf fw (by omega) (-16777216) 16777216;rw[Ud.2 h3]at e3;rw[Ud.2 h4]at e4;generalize edg n=E at*
 generalize (Zg n).length=N at*
 unfold stC;rw[eq_flux_Check];simp(disch:=omega)only[Zb,QM,QD,e1,e2,e3,e4]
theorem Zni (n:Nat) (h:Zu n) (l:Nat) (go:Nat->Bool) (r:List C): ∃out lg,cl fu (d+10) fn_flux_edges_1 [V.c (C.yl l go (edgesL n)),V.c (C.cp (C.v (.int .i64 (n:Int))::r))] []=some out/\out.log=some lg/\(lg.st=true\/lg.rest=[]):=by
 have e1:=Qn fu d hf n h;have heL:=Xd h;have hed:=λ{j:Nat} (hj:j<(edg n).length)=>Zek n hj;have hell:=Vd n;rw[eq_flux_edges_1];simp(disch:=omega)only[Zb,QM,QD,e1];generalize edgesL n=EL at*
 generalize edg n=E at*
 refine Qt (A:=Int×Log×Unit) (B:=Out) (fu:=fu) (λo=> ∃out lg,o=some out/\out.log=some lg/\(lg.st=true\/lg.rest=[]))
  (λs=> ∃i:Nat,i<=E.length/\s=((i:Int),⟨l,go,i,EL.drop i,false⟩,())) (λs=>E.length-s.1.toNat) (λ_ z=>z.2.1.st=true\/z.2.1.rest=[]) ⟨0,by omega,rfl⟩ ?_ ?_ ?_
 ·show E.length-(0:Int).toNat<fu;omega
 ·rintro y ⟨i,hi,rfl⟩
  by_cases hlt:i<E.length
  ·have hd:=hed hlt;have hat:=Jt Xc hlt;cases hg:go i with
   |true=>
    refine .inl ⟨(((i+1:Nat):Int),⟨l,go,i+1,EL.drop (i+1),false⟩,()), ?_,⟨i+1,by omega,rfl⟩, ?_⟩
    ·simp(disch:=omega)only[Zb,QM,QD,Zq5,hat,edC,Zr8,Zr6,hd,Zds,Zdt,hg,Zr3,Zso]
    ·show E.length-((i+1:Nat):Int).toNat<E.length-(i:Int).toNat;omega
   |false=>
    refine .inr ⟨1,((i:Int),⟨l,go,i+1,EL.drop (i+1),true⟩,()), ?_, .inl rfl⟩;simp(disch:=omega)only[Zb,QM,QD,Zq5,hat,edC,Zr8,Zr6,hd,Zds,Zdt,hg]
  ·refine .inr ⟨0,((i:Int),⟨l,go,i,EL.drop i,false⟩,()), ?_, .inr ?_⟩
   ·simp(disch:=omega)only[Zb,QM,QD]
   ·show EL.drop i=[];rw[List.drop_eq_nil_iff];omega
 ·rintro e z hz
  refine⟨⟨V.tup [],[],some z.2.1⟩,z.2.1, ?_,rfl,hz⟩;cases e<;>rfl
omit hf in
theorem Kt (n:Nat) (h:Zu n):prim.iter (d+10) fn_flux_edges_1 [C.cp [C.v (.int .i64 (n:Int))]]=some (edgesL n):=by
 show(bif Nat.ble 10 (d+10)then iterC fn_flux_edges_1 [C.cp [C.v (.int .i64 (n:Int))]]else none)=_;unfold Zu at h;rw[show Nat.ble 10 (d+10)=true from Zte (by omega)];show need (decide (1<=(n:Int))&&decide ((n:Int)<=8)) (some (edgesL (n:Int).toNat))=_;rw[decide_eq_true (show 1<=(n:Int) by omega),decide_eq_true (show(n:Int)<=8 by omega),Zq5];rfl
end
end Go.Proofs.YtoaanfjcjbghaaaGreatDoor
/- Degrees, amounts, moves. -/
namespace Go.Proofs.YtoaanfjcjbghaaaGreatDoor
open Go Go.PM Go.Grid
attribute [local congr] Z1 Z2 Z3 Yp Z4 Z5 Yq Yr Ys Yt Z6 Z7 Yu Xt Xu Xv Xw Xx Xz X0 X1 X2 Xy Z9 Ya X3 Yb Yc Zt Yd Z8
def mv1 (l:List Int) (e:Int×Int) (u v:Int):List Int:=Uc (Uc l e.1.toNat u) e.2.toNat v
def Uf (N:Nat) (E:List (Int×Int)):List Int:=E.foldl (λl e=>mv1 l e 1 1) (List.replicate N 0)
def Qi (l:List Int) (P:List ((Int×Int)×Int)):List Int:=P.foldl (λl p=>mv1 l p.1 (-p.2) p.2) l
theorem Nf (l:List Int) (e:Int×Int) (u v:Int):(mv1 l e u v).length=l.length:=by unfold mv1;rw[Y5,Y5]
theorem Wl (N:Nat) (E:List (Int×Int)) (e:Int×Int):Uf N (E++[e])=mv1 (Uf N E) e 1 1:=by simp[Uf]
theorem Wm (l:List Int) (P:List ((Int×Int)×Int)) (p:(Int×Int)×Int):Qi l (P++[p])=mv1 (Qi l P) p.1 (-p.2) p.2:=by simp[Qi]
theorem Sb (P:List ((Int×Int)×Int)): ∀l,(Qi l P).length=l.length:=by
 induction P with
 |nil=>intro l;rfl
 |cons p P ih=>intro l;show(Qi (mv1 l p.1 (-p.2) p.2) P).length=_;rw[ih,Nf]
theorem Zgv (l:List Int) (e:Int×Int) (u v:Int) (k:Nat):at0 (mv1 l e u v) k=at0 l k+(if k=e.1.toNat/\k<l.length then u else 0)+if k=e.2.toNat/\k<l.length then v else 0:=by
 unfold mv1;rw[Pp,Pp,Y5]
 congr 1
 ·congr 1
  by_cases h:k=e.1.toNat
  ·subst h;rfl
  ·rw[if_neg (λq=>h q.1),if_neg (λq=>h q.1)]
 ·by_cases h:k=e.2.toNat
  ·subst h;rfl
  ·rw[if_neg (λq=>h q.1),if_neg (λq=>h q.1)]
theorem Zh3 (N:Nat) (i:Nat):at0 (List.replicate N 0) i=0:=by
 unfold at0;rw[Zrm,List.getElem?_replicate];split<;>rfl
theorem Rw (N:Nat) (E:List (Int×Int)):(Uf N E).length=N:=by
 have key: ∀(E:List (Int×Int)) (l:List Int),(E.foldl (λl e=>mv1 l e 1 1) l).length=l.length:=by
  intro E
  induction E with
  |nil=>intro l;rfl
  |cons e E ih=>intro l;rw[Zs7,ih,Nf]
 unfold Uf;rw[key];simp
theorem Zel (E:List (Int×Int)): ∀(l:List Int) (k:Nat),at0 l k<=at0 (E.foldl (λl e=>mv1 l e 1 1) l) k/\at0 (E.foldl (λl e=>mv1 l e 1 1) l) k<=at0 l k+2*E.length/\((∃e∈E,k=e.1.toNat\/k=e.2.toNat)->k<l.length->at0 l k+1<=at0 (E.foldl (λl e=>mv1 l e 1 1) l) k):=by
 induction E with
 |nil=>intro l k;exact⟨Int.le_refl _,by simp,λ⟨e,he,_⟩=>by cases he⟩
 |cons e E ih=>
  intro l k;rw[Zs7];obtain⟨h1,h2,h3⟩:=ih (mv1 l e 1 1) k;have hm:=Zgv l e 1 1 k;rw[Zq6];refine⟨?_, ?_, ?_⟩
  ·split at hm<;>split at hm<;>omega
  ·split at hm<;>split at hm<;>omega
  ·rintro ⟨e',he,hk⟩ hlt
   rcases Zrl.1 he with rfl|he
   ·rcases hk with hk|hk
    ·rw[if_pos ⟨hk,hlt⟩]at hm;split at hm<;>omega
    ·rw[if_pos (c:=k=e'.2.toNat/\k<l.length) ⟨hk,hlt⟩]at hm;split at hm<;>omega
   ·have:=h3 ⟨e',he,hk⟩ (by rw[Nf];exact hlt);split at hm<;>split at hm<;>omega
theorem F7 (N:Nat) (E:List (Int×Int)) (k:Nat):0<=at0 (Uf N E) k/\at0 (Uf N E) k<=2*E.length:=by
 obtain⟨h1,h2,_⟩:=Zel E (List.replicate N 0) k;rw[Zh3]at h1 h2;exact⟨h1,by unfold Uf;omega⟩
theorem J1 {N:Nat} {E:List (Int×Int)} {k:Nat} (h: ∃e∈E,k=e.1.toNat\/k=e.2.toNat) (hk:k<N):1<=at0 (Uf N E) k:=by
 obtain⟨_,_,h3⟩:=Zel E (List.replicate N 0) k;have:=h3 h (by simpa using hk);rw[Zh3]at this;unfold Uf;omega
theorem Zh4 {m:Int} (hm:0<=m) (P:List ((Int×Int)×Int)): ∀(l:List Int) (b:Int),(∀k,-b<=at0 l k/\at0 l k<=b)->(∀p∈P,-m<=p.2/\p.2<=m)-> ∀k,-(b+2*m*P.length)<=at0 (Qi l P) k/\at0 (Qi l P) k<=b+2*m*P.length:=by
 induction P with
 |nil=>intro l b h _ k;have:=h k;simp only[Qi,List.foldl_nil,Zq8];simpa using this
 |cons p P ih=>
  intro l b h hp k;have h2:=ih (mv1 l p.1 (-p.2) p.2) (b+2*m) (λk=>by
   have:=h k;have hp:=hp p (Zsd ..);rw[Zgv];split<;>split<;>omega) (λq hq=>hp q (Zrr _ hq)) k
  have e:b+2*m+2*m*(P.length:Int)=b+2*m*((p::P).length:Int):=by
   rw[Zq6,Zr3,Int.mul_add];omega
  rw[e]at h2;exact h2
section
variable (fu d:Nat) (hf:18446744073709551616<=fu)
theorem Zgw (n:Nat) (h:Zu n):cl fu (d+11) fn_flux_Degrees [I n] []=OK (V.tup [V.c (C.sl (Zg n).length (ints (Uf (Zg n).length (edg n)))),I 0]):=by
 have hn:=h;unfold Zu at hn;have hNl:=Ye h;have heL:=Xd h;have e1:=Wk fu (d+9) (n:Int) 1 8;rw[decide_eq_true (show 1<=(n:Int) by omega),decide_eq_true (show(n:Int)<=8 by omega)]at e1;have e2:=Ve fu (d+8) n h;have e3:=Kt d n h;have e4:=eq_flux_edges fu (d+9) (n:Int);have hel:=Vd n;have hea:=λ{j:Nat} (h1:j<(edgesL n).length) (h2:j<(edg n).length)=>La n h1 h2;have hin:=Rc h;generalize edgesL n=EL at*
 generalize edg n=E at*
 generalize (Zg n).length=N at*
 have hr0:reps N [C.v (.int .i64 0)]=ints (Uf N []):=by
  unfold Uf reps;simp[ik]
 have hdl:=Rw N;rw[eq_flux_Degrees];simp(disch:=omega)only[Zb,QM,QD,e1,e2,e4,Zq5,Zrd,hr0,Ze,hdl];rw[show prim.iter (d+10) fn_flux_edges_1 [C.cp [C.v (.int .i64 (n:Int))]]=some EL from e3];simp(disch:=omega)only[Zb,QM,QD,Zq5,Zrd,hr0,Ze,hdl];have hov:=Av (body:=(λit (y:(List C×Unit)×Unit)=>
    uncV it λx r=>
    rC x λc3=>
    asI .i64 c3 λi1=>
    uncV r λx1 r1=>
    rA x1 λcs1=>
    need (Nat.beq cs1.length 2)<|
    unc cs1 λc4 r2=>
    asI .i64 c4 λi2=>
    unc r2 λc5 _=>
    asI .i64 c5 λi3=>
    nilV r1<|
    need (inR i2 (y.1.1.length/1))<|
    unc (List.drop (0+(i2.toNat*1)) y.1.1) λc6 _=>
    asI .i64 c6 λi4=>
    need (inR i2 (y.1.1.length/1))<|
    need (((Nat.ble 0 (0+(i2.toNat*1)))&&(Nat.ble ((0+(i2.toNat*1))+1) y.1.1.length))&&true)<|
    need (inR i3 (y.1.1.length/1))<|
    unc (List.drop (0+(i3.toNat*1)) (putAt y.1.1 (0+(i2.toNat*1)) ([C.v (.int .i64 (IntKind.i64.wrap (i4+1)))]))) λc7 _=>
    asI .i64 c7 λi5=>
    need (inR i3 (y.1.1.length/1))<|
    need (((Nat.ble 0 (0+(i3.toNat*1)))&&(Nat.ble ((0+(i3.toNat*1))+1) ((putAt y.1.1 (0+(i2.toNat*1)) ([C.v (.int .i64 (IntKind.i64.wrap (i4+1)))])).length)))&&true)<|
    bd (putAt (putAt y.1.1 (0+(i2.toNat*1)) ([C.v (.int .i64 (IntKind.i64.wrap (i4+1)))])) (0+(i3.toNat*1)) ([C.v (.int .i64 (IntKind.i64.wrap (i5+1)))])) λcs2=>
    need (((Nat.beq ((y.1.1.length/1)*1) cs2.length)&&true)&&true)<|
    some (0,((cs2,()),())))) EL (λj:Nat=>((ints (Uf N (E.take j)),()),())) (by
   intro j hj;have hj':j<E.length:=by omega
   have hia:=hea hj hj';have hin:=hin E[j] (Zr2 hj');have hst:Uf N (E.take (j+1))=mv1 (Uf N (E.take j)) E[j] 1 1:=by rw[Zr1 hj',Wl]
   have hbd:=F7 N (E.take j);have htl:(E.take j).length<=15000:=by rw[Zrz];omega
   have hD:=hdl (E.take j);rw[hia,hst];generalize Uf N (E.take j)=D at*
   generalize E[j]=e at*
   obtain⟨ea,eb⟩:=e;simp only at hin⊢;obtain⟨x,rfl⟩: ∃x:Nat,ea=x:=⟨ea.toNat,by omega⟩;obtain⟨y,rfl⟩: ∃y:Nat,eb=y:=⟨eb.toNat,by omega⟩;have d1:=Zr D (i:=x) (by omega);have b1:=hbd x;have p1:=Vo D (i:=x) (by omega) 1;have hB:=Y5 D x 1;have hBa:=Pp D x 1 y;have hm:mv1 D ((x:Int),(y:Int)) 1 1=Uc (Uc D x 1) y 1:=by unfold mv1;rw[Zq5,Zq5]
   rw[hm];have b2:0<=at0 (Uc D x 1) y/\at0 (Uc D x 1) y<=40000:=by
    have:=hbd y;split at hBa<;>omega
   generalize Uc D x 1=D1 at*
   have d2:=Zr D1 (i:=y) (by omega);have p2:=Vo D1 (i:=y) (by omega) 1;have hB2:=Y5 D1 y 1;generalize Uc D1 y 1=D2 at*
   simp(disch:=omega)only[Zb,QM,QD,Zq6,Zq8,Zq4,Nat.reduceAdd,Zq5,Zrd,Zro,Ze,hD,d1,p1,hB,d2,p2,hB2])
 rw[hel,Zsn]at hov;rw[show overK _ EL ((ints (Uf N []),()),())=_ from hov];have htk:List.take N (ints (Uf N E))=ints (Uf N E):=Zrc (by rw[Ze,hdl];exact Zrf _);simp(disch:=omega)only[Zb,QM,QD,Zq4,Zrd,Zro,Ze,hdl,htk]
end
end Go.Proofs.YtoaanfjcjbghaaaGreatDoor
/- Amounts over edges, and what moving them comes to. -/
namespace Go.Proofs.YtoaanfjcjbghaaaGreatDoor
open Go Go.PM Go.Grid
attribute [local congr] Z1 Z2 Z3 Yp Z4 Z5 Yq Yr Ys Yt Z6 Z7 Yu Xt Xu Xv Xw Xx Xz X0 X1 X2 Xy Z9 Ya X3 Yb Yc Zt Yd Z8
theorem C1 {I' A:Type} {body:I' ->A->Option (Nat×A)} {xs:List I'} {x:A} (f:Nat->A) (z:A) (hx:x=f 0) (h: ∀j (h:j<xs.length),body xs[j] (f j)=some (0,f (j+1))) (hz:f xs.length=z):overK body xs x=some (0,z):=by
 rw[hx,<-hz];exact Av xs f h
def lim (dp dg:List Int) (k:Int):Int:=Int.tdiv (at0 dp k.toNat) (at0 dg k.toNat)
def shr (w:Int) (s:Nat):Int:=Int.fdiv w (2^s)
def amt (w p q:Int):Int:=if w>p then p else if w< -q then -q else w
def brn (w p q:Int):Int:=if w>p then 1 else if w< -q then -1 else 0
def amE (dp dg fw:List Int) (s:Nat) (E:List (Int×Int)) (j:Nat):Int:=amt (shr (at0 fw j) s) (lim dp dg (E.getD j (0,0)).1) (lim dp dg (E.getD j (0,0)).2)
def brE (dp dg fw:List Int) (s:Nat) (E:List (Int×Int)) (j:Nat):Int:=brn (shr (at0 fw j) s) (lim dp dg (E.getD j (0,0)).1) (lim dp dg (E.getD j (0,0)).2)
def amL (dp dg fw:List Int) (s:Nat) (E:List (Int×Int)) (k:Nat):List Int:=(List.range k).map (amE dp dg fw s E)
def brL (dp dg fw:List Int) (s:Nat) (E:List (Int×Int)) (k:Nat):List Int:=(List.range k).map (brE dp dg fw s E)
theorem Ku (dp dg fw:List Int) (s:Nat) (E:List (Int×Int)) (k:Nat):(amL dp dg fw s E k).length=k:=by simp[amL]
theorem Kv (dp dg fw:List Int) (s:Nat) (E:List (Int×Int)) (k:Nat):(brL dp dg fw s E k).length=k:=by simp[brL]
theorem Zem (dp dg fw:List Int) (s:Nat) (E:List (Int×Int)) (k:Nat):amL dp dg fw s E (k+1)=amL dp dg fw s E k++[amE dp dg fw s E k]:=by simp[amL,Ztd]
theorem Zen (dp dg fw:List Int) (s:Nat) (E:List (Int×Int)) (k:Nat):brL dp dg fw s E (k+1)=brL dp dg fw s E k++[brE dp dg fw s E k]:=by simp[brL,Ztd]
theorem Re (E:List (Int×Int)) {j:Nat} (h:j<E.length):E.getD j (0,0)=E[j]:=by
 rw[Zrm,Zrb h];rfl
theorem Mt {dp dg:List Int} {k:Int} {m:Int} (h:0<=at0 dp k.toNat/\at0 dp k.toNat<=m) (hd:1<=at0 dg k.toNat):0<=lim dp dg k/\lim dp dg k<=at0 dp k.toNat:=by
 unfold lim;generalize at0 dp k.toNat=a at*
 generalize at0 dg k.toNat=b at*
 rw[Int.tdiv_eq_ediv_of_nonneg h.1];exact⟨Int.ediv_nonneg h.1 (by omega),Int.ediv_le_self _ h.1⟩
theorem Xq {lo hi:Int} {l:List Int} (h:wid lo hi l) (h0:lo<=0/\0<=hi) (k:Nat):lo<=at0 l k/\at0 l k<=hi:=by
 by_cases hk:k<l.length
 ·rw[M9 hk];exact Zbp h hk
 ·unfold at0;rw[Zrm,Ztp (by omega)];exact h0
theorem Zqv {w p q:Int} (hp:0<=p) (hq:0<=q): -q<=amt w p q/\amt w p q<=p:=by
 unfold amt;split
 ·omega
 ·split<;>omega
section
variable (fu d:Nat) (hf:18446744073709551616<=fu)
include hf
theorem Rf (a b c:Nat) (ha:1<=a/\a<=4) (hb:1<=b/\b<=4) (hc:1<=c/\c<=4):cl fu (d+6) fn_flux_CheckScheme [V.agg [C.v (.int .i64 (a:Int)),C.v (.int .i64 (b:Int)),C.v (.int .i64 (c:Int))]] []=OK (I 0):=by
 have e:=Qv fu d hf [(a:Int),(b:Int),(c:Int)] (by simp) 1 4;rw[Ud.2 (by intro v hv;simp only[Zrl,Ztn,or_false]at hv;omega)]at e;replace e:cl fu (d+5) fn_flux_outside [V.c (C.sl 3 [C.v (.int .i64 (a:Int)),C.v (.int .i64 (b:Int)),C.v (.int .i64 (c:Int))]),I 1,I 4] []=OK (B false):=e;rw[eq_flux_CheckScheme];simp only[Zb,QM,e]
set_option maxHeartbeats 4000000 in
theorem Zgx (n:Nat) (h:Zu n) (dp fw:List Int) (h1:dp.length=(Zg n).length) (h2:fw.length=(edg n).length) (h3:wid 0 16777216 dp) (h4:wid (-16777216) 16777216 fw)
  (a b c:Nat) (ha:1<=a/\a<=4) (hb:1<=b/\b<=4) (hc:1<=c/\c<=4):
  cl fu (d+12) fn_flux_Amounts [V.agg [C.v (.int .i64 (a:Int)),C.v (.int .i64 (b:Int)),C.v (.int .i64 (c:Int))],V.agg (stC n dp fw)] []=OK (V.tup [V.c (C.sl (edg n).length (ints (amL dp (Uf (Zg n).length (edg n)) fw c (edg n) (edg n).length))),V.c (C.sl (edg n).length (ints (brL dp (Uf (Zg n).length (edg n)) fw c (edg n) (edg n).length))),I 0]):=by
 have hNl:=Ye h;have heL:=Xd h;have e1:=Rf fu (d+5) hf a b c ha hb hc;have e2:=Pq fu (d+1) hf n h dp fw h1 h2 h3 h4;have e3:=Zgw fu d n h;have e4:=eq_flux_edges fu (d+10) (n:Int);have e5:prim.iter (d+11) fn_flux_edges_1 [C.cp [C.v (.int .i64 (n:Int))]]=some (edgesL n):=Kt (d+1) n h;have hel:=Vd n;have hea:=λ{j:Nat} (h1:j<(edgesL n).length) (h2:j<(edg n).length)=>La n h1 h2;have hin:=Rc h;have hdl:=Rw (Zg n).length (edg n);have hdp: ∀e∈edg n,1<=at0 (Uf (Zg n).length (edg n)) e.1.toNat/\1<=at0 (Uf (Zg n).length (edg n)) e.2.toNat:=λe he=>⟨J1 ⟨e,he, .inl rfl⟩ (by have:=hin e he;omega),J1 ⟨e,he, .inr rfl⟩ (by have:=hin e he;omega)⟩;have hdb:=λk=>F7 (Zg n).length (edg n) k;unfold stC at*
 generalize Uf (Zg n).length (edg n)=dg at*
 generalize edgesL n=EL at*
 generalize edg n=E at*
 generalize (Zg n).length=N at*
 have hml:=λk=>Ku dp dg fw c E k;have hbl:=λk=>Kv dp dg fw c E k;have hsh:min c (IntKind.bits .i64)=c:=by show min c 64=c;omega
 rw[eq_flux_Amounts];simp(disch:=omega)only[Zb,QM,QD,e1,e2,e3,e4];rw[e5];simp only[Zb,QM];rw[C1 (λj:Nat=>((ints (amL dp dg fw c E j),()),(ints (brL dp dg fw c E j),()),())) ((ints (amL dp dg fw c E E.length),()),(ints (brL dp dg fw c E E.length),()),()) ?_ ?_ ?_]
 ·have htk: ∀l:List Int,l.length=E.length->List.take E.length (ints l)=ints l:=λl hl=>Zrc (by rw[Ze];omega);simp(disch:=omega)only[Zb,QM,QD,Zq4,Zrd,Zro,Ze,hml,hbl,htk _ (hml E.length),htk _ (hbl E.length)]
 ·rfl
 ·intro j hj;have hj':j<E.length:=by omega
  have hia:=hea hj hj';have hin:=hin E[j] (Zr2 hj');have hdp:=hdp E[j] (Zr2 hj');have hfj:j<fw.length:=by omega
  have hfi:=Zr fw hfj;have hwA:=Xq h3 (by omega) E[j].1.toNat;have hwB:=Xq h3 (by omega) E[j].2.toNat;have lA:=Mt (k:=E[j].1) hwA hdp.1;have lB:=Mt (k:=E[j].2) hwB hdp.2;have hst:=Zem dp dg fw c E j;have hsb:=Zen dp dg fw c E j;unfold amE at hst;unfold brE at hsb;rw[Re E hj']at hst hsb;rw[hia,hst,hsb];have hml:=hml j;have hbl:=hbl j;generalize amL dp dg fw c E j=A at*
  generalize brL dp dg fw c E j=B at*
  generalize E[j]=e at*
  obtain⟨ea,eb⟩:=e;simp only at hin hdp lA lB⊢;obtain⟨x,rfl⟩: ∃x:Nat,ea=x:=⟨ea.toNat,by omega⟩;obtain⟨y,rfl⟩: ∃y:Nat,eb=y:=⟨eb.toNat,by omega⟩;simp only[Zq5]at hdp hwA hwB lA lB;have d1:=Zr dp (i:=x) (by omega);have d2:=Zr dp (i:=y) (by omega);have g1:=Zr dg (i:=x) (by omega);have g2:=Zr dg (i:=y) (by omega);have lA':lim dp dg (x:Int)=Int.tdiv (at0 dp x) (at0 dg x):=by unfold lim;rw[Zq5]
  have lB':lim dp dg (y:Int)=Int.tdiv (at0 dp y) (at0 dg y):=by unfold lim;rw[Zq5]
  have sh':shr (at0 fw j) c=Int.fdiv (at0 fw j) (2^c):=rfl;generalize lim dp dg (x:Int)=p at*
  generalize lim dp dg (y:Int)=q at*
  generalize shr (at0 fw j) c=w at*
  by_cases c1:w>p
  ·rw[show amt w p q=p from if_pos c1,show brn w p q=1 from if_pos c1];simp(disch:=omega)only[Zb,QM,QD,Zq6,Zq8,Zq4,Nat.reduceAdd,Zq5,Zrd,Zro,d1,d2,g1,g2,hfi,<-lA',<-lB',hsh,<-sh',Ze,hml,hbl,Xo,Zre]
  ·by_cases c2:w< -q
   ·rw[show amt w p q= -q from by unfold amt;rw[if_neg c1,if_pos c2],show brn w p q= -1 from by unfold brn;rw[if_neg c1,if_pos c2]];have e0:(0:Int)-q= -q:=by omega
    simp(disch:=omega)only[Zb,QM,QD,Zq6,Zq8,Zq4,Nat.reduceAdd,Zq5,Zrd,Zro,d1,d2,g1,g2,hfi,<-lA',<-lB',hsh,<-sh',e0,Ze,hml,hbl,Xo,Zre]
   ·rw[show amt w p q=w from by unfold amt;rw[if_neg c1,if_neg c2],show brn w p q=0 from by unfold brn;rw[if_neg c1,if_neg c2]];have e0:(0:Int)-q= -q:=by omega
    simp(disch:=omega)only[Zb,QM,QD,Zq6,Zq8,Zq4,Nat.reduceAdd,Zq5,Zrd,Zro,d1,d2,g1,g2,hfi,<-lA',<-lB',hsh,<-sh',e0,Ze,hml,hbl,Xo,Zre]
 ·rw[hel]
omit hf in
theorem Rh (l:List Int) (h0:0<l.length) (hl:l.length<=1000000):cl fu (d+1) fn_slices_Clone_sint_int [V.c (C.sl l.length (ints l))] []=some ⟨V.own 1000000 0 l.length,[.sb ty_int 0 (ints l)],none⟩:=by
 have hb:Nat.beq l.length 0=false:=by
  cases e:Nat.beq l.length 0
  ·rfl
  ·have:=Zq2 e;omega
 have htk:List.take l.length (ints l)=ints l:=Zrc (by rw[Ze];exact Zrf _);rw[eq_slices_Clone_sint_int,hb];simp(disch:=omega)only[Zb,QM,QD,Ze,Zrd,Zq4,htk]
theorem Zpb (n:Nat) (h:Zu n) (dp fw:List Int) (h1:dp.length=(Zg n).length) (h2:fw.length=(edg n).length) (h3:wid 0 16777216 dp) (h4:wid (-16777216) 16777216 fw)
  (am:List Int) (h5:am.length=(edg n).length) (h6:wid (-16777216) 16777216 am):
  cl fu (d+12) fn_flux_Move [V.agg (stC n dp fw),V.c (C.sl am.length (ints am))] []=bif Qu 0 16777216 (Qi dp ((edg n).zip am))then OK (V.tup [V.agg [C.v (.int .i64 0),C.nl,C.nl],I 7])else OK (V.tup [V.agg (stC n (Qi dp ((edg n).zip am)) fw),I 0]):=by
 have hNl:=Ye h;have heL:=Xd h;have hN0:0<(Zg n).length:=by rw[Y4 h];omega
 have hE0:0<(edg n).length:=by
  have:(Zg n).length≠0:=by omega
  have hm:tc n (pt n 0 1 0) (pt n 0 0 1) (pt n 0 0 0)∈tri n:=by
   have hn:=h;unfold Zu at hn;unfold tri Lu rowC Xn;simp only[Zs2,Zsv];exact⟨0,by omega,0,by omega,0,by omega,Zsd ..⟩
  have:=(Zbo n _).2 ((Cz n _).2 ⟨_,hm,Zsd ..⟩);exact List.length_pos_of_mem this
 have e2:=Pq fu (d+1) hf n h dp fw h1 h2 h3 h4;have e3:=Qv fu (d+6) hf am (by omega) (-16777216) 16777216;rw[Ud.2 h6]at e3;have k1:=Rh fu (d+10) dp (by omega) (by omega);have k2:=Rh fu (d+10) fw (by omega) (by omega);have e4:=eq_flux_edges fu (d+10) (n:Int);have e5:prim.iter (d+11) fn_flux_edges_1 [C.cp [C.v (.int .i64 (n:Int))]]=some (edgesL n):=Kt (d+1) n h;have hel:=Vd n;have hea:=λ{j:Nat} (h1:j<(edgesL n).length) (h2:j<(edg n).length)=>La n h1 h2;have hin:=Rc h;have hML:=λP=>Sb P dp;have e6:=Qv fu (d+6) hf (Qi dp ((edg n).zip am)) (by rw[hML];omega) 0 16777216;rw[hML]at e6;have hbd:=λ(k:Nat) (i:Nat)=>Zh4 (m:=16777216) (by omega) (((edg n).zip am).take k) dp 16777216 (λi=>by have:=Xq h3 (by omega) i;omega) (λp hp=>h6 p.2 (by
  have:=Ztj hp;exact(List.of_mem_zip this).2)) i
 unfold stC at*
 generalize edgesL n=EL at*
 generalize edg n=E at*
 generalize (Zg n).length=N at*
 rw[eq_flux_Move];simp(disch:=omega)only[Zb,QM,QD,e2,e3,k1,k2,e4,Zd9,Ze,Zrd];rw[e5];simp(disch:=omega)only[Zb,QM,QD,Ze,Zrd];rw[C1 (λj:Nat=>(((0:Int),C.nl,C.nl,()),((n:Int),ints (Qi dp ((E.zip am).take j)),ints fw,()),())) (((0:Int),C.nl,C.nl,()),((n:Int),ints (Qi dp (E.zip am)),ints fw,()),()) ?_ ?_ ?_]
 ·have htk1:List.take dp.length (ints (Qi dp (E.zip am)))=ints (Qi dp (E.zip am)):=Zrc (by rw[Ze,hML];exact Zrf _);have htk2:List.take fw.length (ints fw)=ints fw:=Zrc (by rw[Ze];exact Zrf _);have hML:=hML (E.zip am);cases hb:Qu 0 16777216 (Qi dp (E.zip am))with
  |true=>
   rw[hb]at e6;simp(disch:=omega)only[Zb,QM,QD,Ze,Zrd,Zro,Zq4,hML,htk1,e6]
  |false=>
   rw[hb]at e6;simp(disch:=omega)only[Zb,QM,QD,Ze,Zrd,Zro,Zq4,hML,htk1,htk2,e6]
 ·rfl
 ·intro j hj;have hj':j<E.length:=by omega
  have hz:j<(E.zip am).length:=by rw[List.length_zip];omega
  have hja:j<am.length:=by omega
  have hia:=hea hj hj';have hin:=hin E[j] (Zr2 hj');have hai:=ints_at am hja;have haw:=Zbp h6 hja;have hst:Qi dp ((E.zip am).take (j+1))=mv1 (Qi dp ((E.zip am).take j)) E[j] (-am[j]) am[j]:=by rw[Zr1 hz,Wm,List.getElem_zip]
  have hbd:=hbd j;have htl:((E.zip am).take j).length<=15000:=by rw[Zrz];omega
  have hD:=hML ((E.zip am).take j);rw[hia,hst];generalize Qi dp ((E.zip am).take j)=D at*
  generalize E[j]=e at*
  generalize am[j]=v at*
  obtain⟨ea,eb⟩:=e;simp only at hin⊢;obtain⟨x,rfl⟩: ∃x:Nat,ea=x:=⟨ea.toNat,by omega⟩;obtain⟨y,rfl⟩: ∃y:Nat,eb=y:=⟨eb.toNat,by omega⟩;have d1:=Zr D (i:=x) (by omega);have b1:=hbd x;have p1:=Vo D (i:=x) (by omega) (-v);have hB:=Y5 D x (-v);have hBa:=Pp D x (-v) y;have hm:mv1 D ((x:Int),(y:Int)) (-v) v=Uc (Uc D x (-v)) y v:=by unfold mv1;rw[Zq5,Zq5]
  rw[hm];have b2:=hbd y;have b3: -1000000000000<=at0 (Uc D x (-v)) y/\at0 (Uc D x (-v)) y<=1000000000000:=by
   split at hBa<;>omega
  generalize Uc D x (-v)=D1 at*
  have d2:=Zr D1 (i:=y) (by omega);have p2:=Vo D1 (i:=y) (by omega) v;have hB2:=Y5 D1 y v;generalize Uc D1 y v=D2 at*
  have e0:at0 D x-v=at0 D x+ -v:=by omega
  simp(disch:=omega)only[Zb,QM,QD,Zq6,Zq8,Zq4,Nat.reduceAdd,Zq5,Zrd,Zro,Ze,hD,d1,hai,e0,p1,hB,d2,p2,hB2]
 ·show(((0:Int),C.nl,C.nl,()),((n:Int),ints (Qi dp ((E.zip am).take EL.length)),ints fw,()),())=_;rw[hel,Zrc (by rw[List.length_zip];omega)]
end
end Go.Proofs.YtoaanfjcjbghaaaGreatDoor
/- What is moved and moved back; masses; lists that are compared. -/
namespace Go.Proofs.YtoaanfjcjbghaaaGreatDoor
open Go Go.PM Go.Grid
attribute [local congr] Z1 Z2 Z3 Yp Z4 Z5 Yq Yr Ys Yt Z6 Z7 Yu Xt Xu Xv Xw Xx Xz X0 X1 X2 Xy Z9 Ya X3 Yb Yc Zt Yd Z8
theorem Zbs {l m:List Int} (hl:l.length=m.length) (h: ∀k,k<l.length->at0 l k=at0 m k):l=m:=by
 refine List.ext_getElem hl λk h1 h2=> ?_;rw[<-M9 h1,<-M9 h2];exact h k h1
def net (P:List ((Int×Int)×Int)) (k:Nat):Int:=(P.map λp=>(if k=p.1.1.toNat then -p.2 else 0)+(if k=p.1.2.toNat then p.2 else 0)).sum
theorem Zeo (p:(Int×Int)×Int) (P:List ((Int×Int)×Int)) (k:Nat):net (p::P) k=(if k=p.1.1.toNat then -p.2 else 0)+(if k=p.1.2.toNat then p.2 else 0)+net P k:=by unfold net;rw[Zst,List.sum_cons]
theorem Zkg (l:List Int) (p:(Int×Int)×Int) (P:List ((Int×Int)×Int)):Qi l (p::P)=Qi (mv1 l p.1 (-p.2) p.2) P:=rfl
theorem Zh5: ∀(P:List ((Int×Int)×Int)) (l:List Int) (k:Nat),k<l.length->at0 (Qi l P) k=at0 l k+net P k
 | [],l,k,_=>by simp[Qi,net]
 |p::P,l,k,h=>by
  rw[Zkg,Zh5 P _ k (by rw[Nf];exact h),Zgv,Zeo];by_cases h1:k=p.1.1.toNat<;>by_cases h2:k=p.1.2.toNat<;>simp only[h,h1,h2,and_true,if_true,if_false,false_and,true_and]<;>omega
def isL (c:C) (l:List Int):Prop:=nrm c=C.sl l.length (ints l)/\ ∀{R:Type} (k:Nat->List C->Option R),asSl c k=k l.length (ints l)
theorem Z0 (l:List Int):isL (C.sl l.length (ints l)) l:=⟨by rw[Zmb],λk=>by rw[Zhr]⟩
theorem V6:isL C.nl []:=⟨by rw[Zmc];rfl,λk=>by rw[Zhs];rfl⟩
section
variable (fu d:Nat) (hf:18446744073709551616<=fu)
include hf
theorem Zbt (a b:List Int) (ha:a.length<=1000000) (hb:b.length<=1000000):cl fu (d+1) fn_synopticref25_Ints [V.c (C.sl a.length (ints a)),V.c (C.sl b.length (ints b))] []=OK (B (decide (a=b))):=by
 rw[eq_synopticref25_Ints];by_cases hl:a.length=b.length
 ·rcases Qm (λj=>at0 a j≠at0 b j) a.length with hn|⟨k,hk,hne,hlt⟩
  ·rw[decide_eq_true (Zbs hl λk hk=>Classical.not_not.1 (hn k hk))];simp(disch:=omega)only[Zb,QM,QD];rw[Zk (λj:Nat=>(false,((j:Nat):Int),())) 0 (false,((a.length:Nat):Int),()) a.length ?_ ?_ ?_ (by omega)]
   ·simp(disch:=omega)only[Zb,QM,QD]
   ·rfl
   ·intro j hj;have e1:=Zr a hj;have e2:=Zr b (i:=j) (by omega);have e3:=Classical.not_not.1 (hn j hj);rw[<-e3]at e2;simp(disch:=omega)only[Zb,QM,QD,Zq5,Zrd,e1,e2];rfl
   ·simp(disch:=omega)only[Zb,QM,QD]
  ·rw[decide_eq_false (λe:a=b=>hne (by rw[e]))];simp(disch:=omega)only[Zb,QM,QD];rw[Zk (λj:Nat=>(false,((j:Nat):Int),())) 1 (false,((k:Nat):Int),()) k ?_ ?_ ?_ (by omega)]
   ·simp(disch:=omega)only[Zb,QM,QD]
   ·rfl
   ·intro j hj;have e1:=Zr a (i:=j) (by omega);have e2:=Zr b (i:=j) (by omega);have e3:=Classical.not_not.1 (hlt j hj);rw[<-e3]at e2;simp(disch:=omega)only[Zb,QM,QD,Zq5,Zrd,e1,e2];rfl
   ·have e1:=Zr a (i:=k) (by omega);have e2:=Zr b (i:=k) (by omega);simp(disch:=omega)only[Zb,QM,QD,Zq5,Zrd,e1,e2]
 ·rw[decide_eq_false (λe:a=b=>hl (by rw[e]))];simp(disch:=omega)only[Zb,QM,QD]
theorem To (n m:Int) (c1 c2 c3 c4:C) {a b a' b':List Int} (h1:isL c1 a) (h2:isL c2 b) (h3:isL c3 a') (h4:isL c4 b') (l1:a.length<=1000000) (l2:b.length<=1000000) (l3:a'.length<=1000000) (l4:b'.length<=1000000):
  cl fu (d+2) fn_synopticref29_Same [V.agg [C.v (.int .i64 n),c1,c2],V.agg [C.v (.int .i64 m),c3,c4]] []=OK (B (decide (n=m/\a=a'/\b=b'))):=by
 have e1:=Zbt fu d hf a a' l1 l3;have e2:=Zbt fu d hf b b' l2 l4;rw[eq_synopticref29_Same,h1.1,h2.1,h3.1,h4.1];by_cases q1:n=m
 ·by_cases q2:a=a'
  ·rw[decide_eq_true q2]at e1;rw[show decide (n=m/\a=a'/\b=b')=decide (b=b') from decide_eq_decide.2 ⟨λq=>q.2.2,λq=>⟨q1,q2,q⟩⟩];simp(disch:=omega)only[Zb,QM,QD,e1,e2]
  ·rw[decide_eq_false q2]at e1;rw[decide_eq_false (λq:n=m/\a=a'/\b=b'=>q2 q.2.1)];simp(disch:=omega)only[Zb,QM,QD,e1]
 ·rw[decide_eq_false (λq:n=m/\a=a'/\b=b'=>q1 q.1)];simp(disch:=omega)only[Zb,QM,QD]
omit hf in
theorem Lb {lo hi:Int} {n:Nat} {v:Int} (h:lo<=v/\v<=hi):wid lo hi (List.replicate n v):=λx hx=>by rw[List.eq_of_mem_replicate hx];exact h
end
end Go.Proofs.YtoaanfjcjbghaaaGreatDoor
/- Amounts, neighbours: what laws of several chapters lean on. -/
namespace Go.Proofs.YtoaanfjcjbghaaaGreatDoor
open Go Go.PM Go.Grid
attribute [local congr] Z1 Z2 Z3 Yp Z4 Z5 Yq Yr Ys Yt Z6 Z7 Yu Xt Xu Xv Xw Xx Xz X0 X1 X2 Xy Z9 Ya X3 Yb Yc Zt Yd Z8
theorem Zgy {l:List Int} (h: ∀x∈l,0<=x/\x<=255) {k:Nat} (hk:k<=1000):bytes (l.take k):=⟨λx hx=>h x (Ztj hx),by rw[Zrz];omega⟩
def rs (dp:List Int) (r:List Int):Int:=(r.map λk=>at0 dp k.toNat).sum
theorem Zpc {E:List (Int×Int)} {dp fw:List Int} {dg:List Int} (c:Nat) (hw:wid 0 16777216 dp) (hd: ∀e∈E,1<=at0 dg e.1.toNat/\1<=at0 dg e.2.toNat):wid (-16777216) 16777216 (amL dp dg fw c E E.length):=by
 intro v hv;unfold amL at hv;obtain⟨j,hj,rfl⟩:=Zti.1 hv;have hj:=Zsv.1 hj;have hd:=hd (E.getD j (0,0)) (by rw[Re E hj];exact Zr2 hj);unfold amE;generalize E.getD j (0,0)=e at*
 have L1:=Mt (dp:=dp) (dg:=dg) (k:=e.1) (m:=16777216) (Xq hw (by omega) _) hd.1;have L2:=Mt (dp:=dp) (dg:=dg) (k:=e.2) (m:=16777216) (Xq hw (by omega) _) hd.2;have L3:=Zqv (w:=shr (at0 fw j) c) L1.1 L2.1;have:=Xq hw (by omega) e.1.toNat;have:=Xq hw (by omega) e.2.toNat;omega
theorem Zbu {n:Nat} (h:Zu n):0<(edg n).length:=by
 have hm:tc n (pt n 0 1 0) (pt n 0 0 1) (pt n 0 0 0)∈tri n:=by
  have hn:=h;unfold Zu at hn;unfold tri Lu rowC Xn;simp only[Zs2,Zsv];exact⟨0,by omega,0,by omega,0,by omega,Zsd ..⟩
 exact List.length_pos_of_mem ((Zbo n _).2 ((Cz n _).2 ⟨_,hm,Zsd ..⟩))
structure Vst (n:Nat) (dp fw:List Int):Prop where
 dl:dp.length=(Zg n).length
 fl:fw.length=(edg n).length
 dw:wid 0 16777216 dp
 fw:wid (-16777216) 16777216 fw
theorem StOk.vst {n:Nat} {dp fw:List Int} (h:StOk n dp fw):Vst n dp fw:=⟨h.dl,h.fl,h.dw,Zng h.fw (by omega) (by omega)⟩
theorem Zbv {n:Nat} (h:Zu n): ∀e∈edg n,1<=at0 (Uf (Zg n).length (edg n)) e.1.toNat/\1<=at0 (Uf (Zg n).length (edg n)) e.2.toNat:=λe he=>by
 have:=Rc h e he;exact⟨J1 ⟨e,he, .inl rfl⟩ (by omega),J1 ⟨e,he, .inr rfl⟩ (by omega)⟩
theorem Zgz {lo hi:Int} {l:List Int} {k:Nat} (hk:k<l.length) (h: ¬(lo<=at0 l k/\at0 l k<=hi)):Qu lo hi l=true:=by
 cases e:Qu lo hi l with
 |true=>rfl
 |false=>
  rw[M9 hk]at h;exact absurd (Ud.1 e _ (Zr2 hk)) h
theorem Zbw {lo hi:Int} {l:List Int} (h: ∀k,k<l.length->lo<=at0 l k/\at0 l k<=hi):wid lo hi l:=λv hv=>by
 obtain⟨k,hk,rfl⟩:=Zr9.1 hv;rw[<-M9 hk];exact h k hk
section
variable (fu d:Nat) (hf:18446744073709551616<=fu)
theorem Zqw (x:Int) (n:Nat) (hn:1<=n/\n<=1000000000000): ∃v:Nat,v<n/\cl fu (d+1) fn_synopticfield_Mod [I x,I (n:Int)] []=OK (I (v:Int)):=by
 rw[eq_synopticfield_Mod];have h1:Int.tmod x n=x-n*Int.tdiv x n:=by have:=Int.tmod_add_mul_tdiv x n;omega
 have h2: -(n:Int)<Int.tmod x n/\Int.tmod x n<n:=by
  have:=Int.tmod_lt_of_pos x (by omega:(0:Int)<n);have:=Int.lt_tmod_of_pos x (by omega:(0:Int)<n);omega
 generalize Int.tmod x n=q at*
 by_cases h0:q<0
 ·refine⟨(q+n).toNat,by omega, ?_⟩;rw[Int.toNat_of_nonneg (by omega)];simp(disch:=omega)only[Zb,QM,QD]
 ·refine⟨q.toNat,by omega, ?_⟩;rw[Int.toNat_of_nonneg (by omega)];simp(disch:=omega)only[Zb,QM,QD]
end
end Go.Proofs.YtoaanfjcjbghaaaGreatDoor
/- Slopes, accelerated flows, steps. -/
namespace Go.Proofs.YtoaanfjcjbghaaaGreatDoor
open Go Go.PM Go.Grid
attribute [local congr] Z1 Z2 Z3 Yp Z4 Z5 Yq Yr Ys Yt Z6 Z7 Yu Xt Xu Xv Xw Xx Xz X0 X1 X2 Xy Z9 Ya X3 Yb Yc Zt Yd Z8
def clp (x:Int):Int:=if 16777216<(if -16777216>x then -16777216 else x)then 16777216 else if -16777216>x then -16777216 else x
theorem Zqx (x:Int): -16777216<=clp x/\clp x<=16777216:=by
 unfold clp
 repeat' split
 all_goals omega
def slE (dp:List Int) (E:List (Int×Int)) (j:Nat):Int:=at0 dp (E.getD j (0,0)).1.toNat-at0 dp (E.getD j (0,0)).2.toNat
def slp (dp:List Int) (E:List (Int×Int)) (k:Nat):List Int:=(List.range k).map (slE dp E)
def acc1 (a b:Nat) (f s:Int):Int:=clp (f+(shr s b-shr f a))
def Zg0 (a b:Nat) (dp fw:List Int) (E:List (Int×Int)) (j:Nat):Int:=acc1 a b (at0 fw j) (slE dp E j)
def Lk (a b:Nat) (dp fw:List Int) (E:List (Int×Int)) (k:Nat):List Int:=(List.range k).map (Zg0 a b dp fw E)
theorem Ri (dp:List Int) (E:List (Int×Int)) (k:Nat):(slp dp E k).length=k:=by simp[slp]
theorem Mu (a b:Nat) (dp fw:List Int) (E:List (Int×Int)) (k:Nat):(Lk a b dp fw E k).length=k:=by simp[Lk]
theorem Zep (dp:List Int) (E:List (Int×Int)) (k:Nat):slp dp E (k+1)=slp dp E k++[slE dp E k]:=by simp[slp,Ztd]
theorem Wn (a b:Nat) (dp fw:List Int) (E:List (Int×Int)) (k:Nat):Lk a b dp fw E (k+1)=Lk a b dp fw E k++[Zg0 a b dp fw E k]:=by simp[Lk,Ztd]
theorem Ng (f:Nat->Int) (n:Nat) {j:Nat} (h:j<n):at0 ((List.range n).map f) j=f j:=by
 unfold at0;rw[Zrm,Zrj,List.getElem?_range h];rfl
theorem Zbx {dp:List Int} (h:wid 0 16777216 dp) (E:List (Int×Int)) (j:Nat): -16777216<=slE dp E j/\slE dp E j<=16777216:=by
 unfold slE;have h1:=Xq h (by omega) (E.getD j (0,0)).1.toNat;have h2:=Xq h (by omega) (E.getD j (0,0)).2.toNat;omega
theorem Zeq (a b:Nat) (dp fw:List Int) (E:List (Int×Int)) (k:Nat):wid (-16777216) 16777216 (Lk a b dp fw E k):=λv hv=>by
 unfold Lk at hv;obtain⟨j,_,rfl⟩:=Zti.1 hv;exact Zqx _
theorem Zby {w:Int} (s:Nat) {m:Int} (hm:0<=m) (h: -m<=w/\w<=m): -m-1<=shr w s/\shr w s<=m:=by
 unfold shr;have hp:(1:Int)<=2^s:=by
  have:0<2^s:=Nat.pow_pos (by omega);have e:((2^s:Nat):Int)=(2:Int)^s:=by push_cast;rfl
  omega
 generalize (2:Int)^s=q at*
 rw[Int.fdiv_eq_ediv_of_nonneg _ (by omega)];constructor
 ·refine Int.le_ediv_of_mul_le (by omega) ?_;have:(-m-1)*q<=(-m-1)*1:=Int.mul_le_mul_of_nonpos_left (by omega) hp;omega
 ·have h1:w/q<=m/q:=Int.ediv_le_ediv (by omega) h.2;have h2:m/q<=m:=Int.ediv_le_self _ hm;omega
section
variable (fu d:Nat) (hf:18446744073709551616<=fu)
include hf
set_option maxHeartbeats 4000000 in
theorem Wo (n:Nat) (h:Zu n) (dp fw:List Int) (h1:dp.length=(Zg n).length) (h2:fw.length=(edg n).length) (h3:wid 0 16777216 dp) (h4:wid (-16777216) 16777216 fw):
  cl fu (d+11) fn_model_Slopes [V.agg (stC n dp fw)] []=OK (V.tup [V.c (C.sl (edg n).length (ints (slp dp (edg n) (edg n).length))),I 0]):=by
 have hNl:=Ye h;have heL:=Xd h;have e1:=Pq fu d hf n h dp fw h1 h2 h3 h4;have e2:=Qn fu (d+1) hf n h;have hin:=Rc h;have hsl:=λk=>Ri dp (edg n) k;have hbd:=λj=>Zbx h3 (edg n) j;have hls:=λk=>Zep dp (edg n) k;unfold stC at*
 generalize hE:edg n=E at*
 generalize (Zg n).length=N at*
 rw[eq_model_Slopes];simp(disch:=omega)only[Zb,QM,QD,e1,e2];rw[Zk (λj:Nat=>(ints (slp dp E j),((j:Nat):Int),())) 0 (ints (slp dp E E.length),((E.length:Nat):Int),()) E.length ?_ ?_ ?_ (by omega)]
 ·have htk:List.take E.length (ints (slp dp E E.length))=ints (slp dp E E.length):=Zrc (by rw[Ze,hsl];exact Zrf _);simp(disch:=omega)only[Zb,QM,QD,Ze,hsl,Zro,Zrd,Zq4,htk]
 ·rfl
 ·intro j hj;have hea:=Jt Xc hj;have hin:=hin E[j] (Zr2 hj);have hgd:=Re E hj;have hsE:slE dp E j=at0 dp E[j].1.toNat-at0 dp E[j].2.toNat:=by unfold slE;rw[hgd]
  have hbd:=hbd j;have hls:=hls j;have hslj:=hsl j;generalize slE dp E j=z at*
  generalize E[j]=e at*
  obtain⟨ea,eb⟩:=e;simp only at hin hsE;obtain⟨x,rfl⟩: ∃x:Nat,ea=x:=⟨ea.toNat,by omega⟩;obtain⟨y,rfl⟩: ∃y:Nat,eb=y:=⟨eb.toNat,by omega⟩;rw[Zq5,Zq5]at hsE;have g1:=Zr dp (i:=x) (by omega);have g2:=Zr dp (i:=y) (by omega);have b1:=Xq h3 (by omega) x;have b2:=Xq h3 (by omega) y;have edx:edC ((x:Int),(y:Int))=[C.v (.int .i64 (x:Int)),C.v (.int .i64 (y:Int))]:=rfl;rw[edx]at hea;rw[hls];simp(disch:=omega)only[Zb,QM,QD,Zr8,Zr6,Zq5,Zrd,Zro,hea,g1,g2,<-hsE,Ze,hslj,Zre,Zq6,Zq8,Zq4,Xo];rfl
 ·simp(disch:=omega)only[Zb,QM,QD,Ze,hsl,Zro,Zrd]
end
end Go.Proofs.YtoaanfjcjbghaaaGreatDoor
/- Steps of the model, one after the other. -/
namespace Go.Proofs.YtoaanfjcjbghaaaGreatDoor
open Go Go.PM Go.Grid
attribute [local congr] Z1 Z2 Z3 Yp Z4 Z5 Yq Yr Ys Yt Z6 Z7 Yu Xt Xu Xv Xw Xx Xz X0 X1 X2 Xy Z9 Ya X3 Yb Yc Zt Yd Z8
def stF (n a b:Nat) (dp fw:List Int):List Int:=Lk a b dp fw (edg n) (edg n).length
def stA (n a b c:Nat) (dp fw:List Int):List Int:=amL dp (Uf (Zg n).length (edg n)) (stF n a b dp fw) c (edg n) (edg n).length
def stD (n a b c:Nat) (dp fw:List Int):List Int:=Qi dp ((edg n).zip (stA n a b c dp fw))
def stB (n a b c:Nat) (dp fw:List Int):List Int:=brL dp (Uf (Zg n).length (edg n)) (stF n a b dp fw) c (edg n) (edg n).length
def Nt (n a b c:Nat) (dp fw:List Int):Bool:=Qu 0 16777216 (stD n a b c dp fw)
theorem Nh (n a b:Nat) (dp fw:List Int):(stF n a b dp fw).length=(edg n).length:=Mu ..
theorem Ni (n a b c:Nat) (dp fw:List Int):(stA n a b c dp fw).length=(edg n).length:=Ku ..
theorem Kw (n a b c:Nat) (dp fw:List Int):(stB n a b c dp fw).length=(edg n).length:=Kv ..
theorem C2 (n a b c:Nat) (dp fw:List Int):(stD n a b c dp fw).length=dp.length:=Sb ..
theorem Vst.acc {n:Nat} {dp fw:List Int} (h:Vst n dp fw) (a b:Nat):Vst n dp (stF n a b dp fw):=⟨h.dl,Nh ..,h.dw,Zeq _ _ _ _ _ _⟩
theorem Vst.step {n:Nat} {dp fw:List Int} (h:Vst n dp fw) {a b c:Nat} (ho:Nt n a b c dp fw=false):Vst n (stD n a b c dp fw) (stF n a b dp fw):=⟨by rw[C2];exact h.dl,Nh ..,Ud.1 ho,Zeq _ _ _ _ _ _⟩
theorem Zh6 {n:Nat} (hn:Zu n) {dp fw:List Int} (h:Vst n dp fw) (a b c:Nat):wid (-16777216) 16777216 (stA n a b c dp fw):=Zpc c h.dw (Zbv hn)
def runN (n a b c:Nat):Nat->List Int×List Int->Option (List Int×List Int)
 |0,s=>some s
 |k+1,s=>if Nt n a b c s.1 s.2 then none else runN n a b c k (stD n a b c s.1 s.2,stF n a b s.1 s.2)
theorem runN_add (n a b c:Nat): ∀(k m:Nat) (s:List Int×List Int),runN n a b c (k+m) s=(runN n a b c k s).bind (runN n a b c m)
 |0,m,s=>by rw[Zq4];rfl
 |k+1,m,s=>by
  rw[show k+1+m=(k+m)+1 by omega];simp only[runN];split
  ·rfl
  ·exact runN_add n a b c k m _
theorem Zer {n a b c:Nat}: ∀{k:Nat} {s t:List Int×List Int},Vst n s.1 s.2->runN n a b c k s=some t->Vst n t.1 t.2
 |0,s,t,h,e=>by injection e with e;subst e;exact h
 |k+1,s,t,h,e=>by
  simp only[runN]at e;split at e
  ·cases e
  ·rename_i hb;exact Zer (h.step (by simpa using hb)) e
def Zbz (n:Nat) (o:Option (List Int×List Int)):Option Out:=match o with
 |some s=>OK (V.tup [V.agg (stC n s.1 s.2),I 0])
 |none=>OK (V.tup [V.agg [C.v (.int .i64 0),C.nl,C.nl],I 7])
def Zg1 (n a b c:Nat) (dp fw:List Int):Option Out:=bif Nt n a b c dp fw then OK (V.tup [V.agg [C.v (.int .i64 0),C.nl,C.nl],V.c C.nl,I 7])else OK (V.tup [V.agg (stC n (stD n a b c dp fw) (stF n a b dp fw)),V.c (C.sl (stB n a b c dp fw).length (ints (stB n a b c dp fw))),I 0])
section
variable (fu d:Nat) (hf:18446744073709551616<=fu)
include hf
set_option maxHeartbeats 4000000 in
theorem R3 (n:Nat) (h:Zu n) (dp fw:List Int) (hv:Vst n dp fw) (a b c:Nat) (ha:1<=a/\a<=4) (hb:1<=b/\b<=4) (hc:1<=c/\c<=4):
  cl fu (d+12) fn_model_Accelerate [V.agg [C.v (.int .i64 (a:Int)),C.v (.int .i64 (b:Int)),C.v (.int .i64 (c:Int))],V.agg (stC n dp fw)] []=OK (V.tup [V.agg (stC n dp (stF n a b dp fw)),I 0]):=by
 have hNl:=Ye h;have heL:=Xd h;have hN0:0<(Zg n).length:=by rw[Y4 h];omega
 have h1:=hv.dl;have h2:=hv.fl;have h3:=hv.dw;have e1:=Rf fu (d+5) hf a b c ha hb hc;have e2:=Wo fu d hf n h dp fw h1 h2 h3 hv.fw;have k1:=Rh fu (d+10) dp (by omega) (by omega);have hal:=λk=>Mu a b dp fw (edg n) k;have has:=λk=>Wn a b dp fw (edg n) k;have hsl:=Ri dp (edg n) (edg n).length;have hsa: ∀{j:Nat},j<(edg n).length->at0 (slp dp (edg n) (edg n).length) j=slE dp (edg n) j:=λhj=>Ng _ _ hj;have hbd:=λj=>Zbx h3 (edg n) j;have ma:min a (IntKind.bits .i64)=a:=by show min a 64=a;omega
 have mb:min b (IntKind.bits .i64)=b:=by show min b 64=b;omega
 unfold stF;unfold stC at*
 rw[hal];have hac: ∀j,Zg0 a b dp fw (edg n) j=clp (at0 fw j+(shr (slE dp (edg n) j) b-shr (at0 fw j) a)):=λj=>rfl;generalize slp dp (edg n) (edg n).length=sl at*
 generalize hE:edg n=E at*
 generalize (Zg n).length=N at*
 rw[eq_model_Accelerate];simp(disch:=omega)only[Zb,QM,QD,e1,e2,k1,Zd9,Mm,Ze,Zrd];rw[Zk (λj:Nat=>(((j:Nat):Int),((0:Int),C.nl,C.nl,()),((n:Int),ints dp,ints (Lk a b dp fw E j),()),())) 0 (((fw.length:Nat):Int),((0:Int),C.nl,C.nl,()),((n:Int),ints dp,ints (Lk a b dp fw E E.length),()),()) fw.length ?_ ?_ ?_ (by omega)]
 ·have htk1:List.take dp.length (ints dp)=ints dp:=Zrc (by rw[Ze];exact Zrf _);have htk2:List.take E.length (ints (Lk a b dp fw E E.length))=ints (Lk a b dp fw E E.length):=Zrc (by rw[Ze,hal];exact Zrf _);simp(disch:=omega)only[Zb,QM,QD,Ze,hal,Zro,Zrd,Zq4,htk1,htk2]
 ·rfl
 ·intro j hj;have hjE:j<E.length:=by omega
  have i1:=Zr fw hj;have i2:=Zr sl (i:=j) (by omega);have b1:=Xq hv.fw (by omega) j;have b2:=hbd j;have hac:=hac j;have has:=has j;have halj:=hal j;rw[hsa hjE]at i2;rw[has];have q1:=Zby b (by omega:(0:Int)<=16777216) b2;have q2:=Zby a (by omega:(0:Int)<=16777216) b1;have f1:Int.fdiv (slE dp E j) (2^b)=shr (slE dp E j) b:=rfl;have f2:Int.fdiv (at0 fw j) (2^a)=shr (at0 fw j) a:=rfl;generalize Zg0 a b dp fw E j=z at*
  generalize shr (slE dp E j) b=p at*
  generalize shr (at0 fw j) a=q at*
  generalize slE dp E j=s at*
  generalize at0 fw j=f at*
  have hz:(if 16777216<(if -16777216>f+(p-q)then -16777216 else f+(p-q))then 16777216 else if -16777216>f+(p-q)then -16777216 else f+(p-q))=z:=hac.symm;simp(disch:=omega)only[Zb,QM,QD,Zq5,Zrd,Zro,i1,i2,ma,mb,f1,f2,hz,Ze,halj,Zre,Zq6,Zq8,Zq4,Xo];rfl
 ·have e0:fw.length=E.length:=h2;rw[e0];simp(disch:=omega)only[Zb,QM,QD,Ze,hal,Zro,Zrd]
theorem Zh7 (n:Nat) (h:Zu n) (dp fw:List Int) (hv:Vst n dp fw) (a b c:Nat) (ha:1<=a/\a<=4) (hb:1<=b/\b<=4) (hc:1<=c/\c<=4):
  cl fu (d+15) fn_model_Step [V.agg [C.v (.int .i64 (a:Int)),C.v (.int .i64 (b:Int)),C.v (.int .i64 (c:Int))],V.agg (stC n dp fw)] []=Zg1 n a b c dp fw:=by
 have e1:=R3 fu d hf n h dp fw hv a b c ha hb hc;have v2:=hv.acc a b;have e2:=Zgx fu d hf n h dp (stF n a b dp fw) v2.dl v2.fl v2.dw v2.fw a b c ha hb hc;have e3:=Zpb fu d hf n h dp (stF n a b dp fw) v2.dl v2.fl v2.dw v2.fw (stA n a b c dp fw) (Ni ..) (Zh6 h hv a b c);have hlA:=Ni n a b c dp fw;have hlB:=Kw n a b c dp fw;have hA:amL dp (Uf (Zg n).length (edg n)) (stF n a b dp fw) c (edg n) (edg n).length=stA n a b c dp fw:=rfl;have hB:brL dp (Uf (Zg n).length (edg n)) (stF n a b dp fw) c (edg n) (edg n).length=stB n a b c dp fw:=rfl;have hD:Qi dp ((edg n).zip (stA n a b c dp fw))=stD n a b c dp fw:=rfl;rw[hA,hB]at e2;rw[hD,hlA]at e3;unfold Zg1 Nt;rw[hlB];unfold stC at*
 generalize stA n a b c dp fw=am at*
 generalize stB n a b c dp fw=br at*
 generalize stD n a b c dp fw=D at*
 generalize stF n a b dp fw=F at*
 rw[eq_model_Step];have f1:=eq_model_accelerate fu (d+13) (a:Int) (b:Int) (c:Int);have f2:=eq_model_move fu (d+13) (a:Int) (b:Int) (c:Int);have g1:=eq_model_accelerate_1 fu (d+12) (n:Int) (C.sl dp.length (ints dp)) (C.sl fw.length (ints fw)) C.nl [C.v (.int .i64 (a:Int)),C.v (.int .i64 (b:Int)),C.v (.int .i64 (c:Int))];have g2:=eq_model_move_1 fu (d+12) (n:Int) (C.sl dp.length (ints dp)) (C.sl F.length (ints F)) C.nl [C.v (.int .i64 (a:Int)),C.v (.int .i64 (b:Int)),C.v (.int .i64 (c:Int))];simp(disch:=omega)only[Zb,QM,QD,e1,Zq6,Zq8,Zq4,Nat.reduceAdd]at g1;cases ho:Qu 0 16777216 D with
 |true=>
  rw[ho]at e3;simp(disch:=omega)only[Zb,QM,QD,e2,e3,Zq6,Zq8,Zq4,Nat.reduceAdd]at g2;simp(disch:=omega)only[Zb,QM,QD,f1,f2];rw[eq_model_chain_model_progress_do];simp(disch:=omega)only[Zb,QM,QD,g1,g2,Zq6,Zq8,Zq4,Nat.reduceAdd]
 |false=>
  rw[ho]at e3;simp(disch:=omega)only[Zb,QM,QD,e2,e3,Zq6,Zq8,Zq4,Nat.reduceAdd]at g2;simp(disch:=omega)only[Zb,QM,QD,f1,f2];rw[eq_model_chain_model_progress_do];simp(disch:=omega)only[Zb,QM,QD,g1,g2,Zq6,Zq8,Zq4,Nat.reduceAdd]
end
end Go.Proofs.YtoaanfjcjbghaaaGreatDoor
/- slices.Repeat, Rest. -/
namespace Go.Proofs.YtoaanfjcjbghaaaGreatDoor
open Go Go.PM Go.Grid
attribute [local congr] Z1 Z2 Z3 Yp Z4 Z5 Yq Yr Ys Yt Z6 Z7 Yu Xt Xu Xv Xw Xx Xz X0 X1 X2 Xy Z9 Ya X3 Yb Yc Zt Yd Z8
theorem Mv (a b:List Int):ints (a++b)=ints a++ints b:=Zts
theorem Znj (t q:Nat) (v:Int) (r:List Int) (h:q<=t):(ints (List.replicate t v++r)).take q=ints (List.replicate q v):=by
 have e:ints (List.replicate t v++r)=ints (List.replicate q v)++ints (List.replicate (t-q) v++r):=by
  rw[<-Mv,<-Zr4,List.replicate_append_replicate,show q+(t-q)=t by omega]
 rw[e];exact List.take_left' (by rw[Ze,Zrp])
theorem Zb0 (m t q:Nat) (v:Int) (h2:t+q<=m):putAt (ints (List.replicate t v++List.replicate (m-t) 0)) t (ints (List.replicate q v))=ints (List.replicate (t+q) v++List.replicate (m-(t+q)) 0):=by
 unfold putAt;have e1:ints (List.replicate t v++List.replicate (m-t) 0)=ints (List.replicate t v)++ints (List.replicate (m-t) 0):=Mv _ _;have e2:ints (List.replicate (m-t) (0:Int))=ints (List.replicate q 0)++ints (List.replicate (m-(t+q)) 0):=by
  rw[<-Mv,List.replicate_append_replicate,show q+(m-(t+q))=m-t by omega]
 rw[e1,List.take_left' (by rw[Ze,Zrp]),e2,<-Zr4];rw[List.drop_left' (by rw[Zre,Ze,Ze,Ze,Zrp,Zrp,Zrp])];rw[Mv,<-List.replicate_append_replicate,Mv]
theorem Vp (m:Nat) (v:Int):reps m [C.v (.int .i64 v)]=ints (List.replicate m v):=by
 unfold reps
 induction m with
 |zero=>rfl
 |succ m ih=>rw[Zs3,List.flatten_cons,ih,Zs3];rfl
section
variable (fu d:Nat) (hf:18446744073709551616<=fu)
theorem Zqy (m:Nat) (h:m=0\/ ∃n,Zu n/\m=(Zg n).length):cl fu (d+2) fn_bits_Mul [V.c (C.v (.int .u64 1)),V.c (C.v (.int .u64 (m:Int)))] []=OK (V.tup [V.c (C.v (.int .u64 0)),V.c (C.v (.int .u64 (m:Int)))]):=by
 rw[eq_bits_Mul,eq_bits_Mul64];rcases h with rfl|⟨n,h,rfl⟩
 ·show @Eq (Option Out) _ _;kernel_rfl
 ·rw[Y4 h];rcases Qd h with rfl|rfl|rfl|rfl|rfl|rfl|rfl|rfl<;>(show @Eq (Option Out) _ _;kernel_rfl)
include hf
theorem H0 (v:Int) (m:Nat) (h:m=0\/ ∃n,Zu n/\m=(Zg n).length):cl fu (d+3) fn_slices_Repeat_sint_int [V.c (C.sl 1 [C.v (.int .i64 v)]),I (m:Int)] []=OK (V.c (C.sl m (ints (List.replicate m v)))):=by
 have hm:m<=700:=by
  rcases h with rfl|⟨n,h,rfl⟩
  ·omega
  ·exact Ye h
 have hM:=Zqy fu d m h;have u1:IntKind.u64.wrap ((1:Nat):Int)=1:=rfl;have u2:IntKind.u64.wrap (m:Int)=(m:Int):=IntWalk.u64_in _ (by omega);rw[eq_slices_Repeat_sint_int,u1,u2];have hl:(ints (List.replicate m (0:Int))).length=m:=by rw[Ze,Zrp]
 simp(disch:=omega)only[Zb,QM,QD,hM,Zq5,Vp,hl,Zrd];by_cases h0:m=0
 ·subst h0;rw[show Nat.min 1 0=0 from rfl];obtain⟨f,rfl⟩: ∃f,fu=f+1:=⟨fu-1,by omega⟩;rfl
 ·rw[show Nat.min 1 m=0+1 from by have:Nat.min 1 m=1:=Zse (by omega);rw[this]];have p0:putAt (ints (List.replicate m (0:Int))) 0 [C.v (.int .i64 v)]=ints (List.replicate 1 v++List.replicate (m-1) 0):=by
   have:=Zb0 m 0 1 v (by omega);rw[List.replicate_zero,Zr6,Nat.sub_zero,Zq4]at this;exact this
  have l0: ∀t,t<=m->(ints (List.replicate t v++List.replicate (m-t) (0:Int))).length=m:=λt ht=>by rw[Ze,Zre,Zrp,Zrp];omega
  have tk:List.take ((0+1)*1) [C.v (.int .i64 v)]=[C.v (.int .i64 v)]:=rfl;have l1:=l0 1 (by omega);simp(disch:=omega)only[Zb,QM,QD,Zq5,Vp,hl,Zrd,tk,p0,l1,Zq6,Zq8,Zq4];rw[Cl (A:=List C×Int×Unit) (λy=> ∃t,1<=t/\t<=m/\y=(ints (List.replicate t v++List.replicate (m-t) (0:Int)),(t:Int),())) (λy=>m-y.2.1.toNat) 0 (ints (List.replicate m v),(m:Int),()) ⟨1,by omega,by omega,rfl⟩ (by show m-_<fu;omega) ?_]
  ·have tm:List.take m (ints (List.replicate m v))=ints (List.replicate m v):=Zrc (by rw[Ze,Zrp];exact Zrf _);simp(disch:=omega)only[Zb,QM,QD,Ze,Zrp,Zro,Zrd,tm,Zq4]
  ·rintro y ⟨t,h1,h2,rfl⟩
   have lt:=l0 t h2;by_cases hlt:t<m
   ·obtain⟨q,hq⟩: ∃q,Nat.min t (m-t)=q+1:=⟨Nat.min t (m-t)-1,by have:0<Nat.min t (m-t):=Nat.lt_min.2 ⟨by omega,by omega⟩;omega⟩;have q1:q+1<=t:=hq▸Nat.min_le_left _ _;have q2:q+1<=m-t:=hq▸Nat.min_le_right _ _;have l2:=l0 (t+(q+1)) (by omega);have tk:=Znj t (q+1) v (List.replicate (m-t) (0:Int)) q1;have pt:=Zb0 m t (q+1) v (by omega);refine .inl ⟨(ints (List.replicate (t+(q+1)) v++List.replicate (m-(t+(q+1))) (0:Int)),((t+(q+1):Nat):Int),()), ?_,⟨t+(q+1),by omega,by omega,rfl⟩, ?_⟩
    ·simp(disch:=omega)only[Zb,QM,QD,lt,Zro,Zrd,Zq5,Zq4,hq,tk,pt,l2];rfl
    ·show m-((t+(q+1):Nat):Int).toNat<m-((t:Nat):Int).toNat;omega
   ·obtain rfl:t=m:=by omega
    right;simp(disch:=omega)only[Zb,QM,QD,lt,Zro,Zrd];rw[Nat.sub_self,List.replicate_zero,Zs8]
theorem Zb1 (n:Nat) (h:Zu n) (dp:List Int) (h1:dp.length=(Zg n).length) (hw:wid 0 16777216 dp):
  cl fu (d+11) fn_model_FromField [I n,V.c (C.sl dp.length (ints dp))] []=OK (V.tup [V.agg (stC n dp (List.replicate (edg n).length 0)),I 0]):=by
 have hNl:=Ye h;have heL:=Xd h;have hN0:0<(Zg n).length:=by rw[Y4 h];omega
 have e3:=Qn fu (d+1) hf n h;have k1:=Rh fu (d+9) dp (by omega) (by omega);have e4:=Pq fu d hf n h dp (List.replicate (edg n).length 0) h1 (Zrp ..) hw (Lb (by omega));unfold stC at*
 rw[Zrp]at e4⊢;generalize edg n=E at*
 have htk:List.take dp.length (ints dp)=ints dp:=Zrc (by rw[Ze];exact Zrf _);rw[eq_model_FromField];simp(disch:=omega)only[Zb,QM,QD,e3,k1,Zd9,Mm,Ze,Zrd,Zq4,htk,Vp,Zq5,e4,decide_true]
theorem Zpd (n:Nat) (h:Zu n) (v:Int) (hv:0<=v/\v<=16777216):cl fu (d+12) fn_model_Rest [I n,I v] []=OK (V.tup [V.agg (stC n (List.replicate (Zg n).length v) (List.replicate (edg n).length 0)),I 0]):=by
 have e1:=Ve fu (d+9) n h;have e2:=H0 fu (d+8) hf v (Zg n).length (.inr ⟨n,h,rfl⟩);have e3:=Zb1 fu d hf n h (List.replicate (Zg n).length v) (Zrp ..) (Lb hv);unfold stC at*
 rw[Zrp]at e3⊢;rw[eq_model_Rest];simp(disch:=omega)only[Zb,QM,QD,e1,e2,e3,Zq6,Zq8,Zq4,Nat.reduceAdd]
end
end Go.Proofs.YtoaanfjcjbghaaaGreatDoor
/- Masses. -/
namespace Go.Proofs.YtoaanfjcjbghaaaGreatDoor
open Go Go.PM Go.Grid
attribute [local congr] Z1 Z2 Z3 Yp Z4 Z5 Yq Yr Ys Yt Z6 Z7 Yu Xt Xu Xv Xw Xx Xz X0 X1 X2 Xy Z9 Ya X3 Yb Yc Zt Yd Z8
section
variable (fu d:Nat) (hf:18446744073709551616<=fu)
include hf
end
end Go.Proofs.YtoaanfjcjbghaaaGreatDoor
/- Runs of the model; states at rest. -/
namespace Go.Proofs.YtoaanfjcjbghaaaGreatDoor
open Go Go.PM Go.Grid
attribute [local congr] Z1 Z2 Z3 Yp Z4 Z5 Yq Yr Ys Yt Z6 Z7 Yu Xt Xu Xv Xw Xx Xz X0 X1 X2 Xy Z9 Ya X3 Yb Yc Zt Yd Z8
theorem Mw (n:Nat) (v:Int) {k:Nat} (h:k<n):at0 (List.replicate n v) k=v:=by
 unfold at0;rw[Zrm,List.getElem?_replicate,if_pos h];rfl
theorem Zes: ∀(P:List ((Int×Int)×Int)) (k:Nat),(∀p∈P,p.2=0)->net P k=0
 | [],k,_=>rfl
 |p::P,k,h=>by
  rw[Zeo,Zes P k λq hq=>h q (Zrr _ hq),h p (Zsd ..)]
  repeat' split
  all_goals rfl
theorem Zh8 (f:Nat->Int) (n:Nat) (v:Int) (h: ∀j,j<n->f j=v):(List.range n).map f=List.replicate n v:=by
 refine Zbs (by simp) λk hk=> ?_;rw[Zrt,List.length_range]at hk;rw[Ng f n hk,Mw n v hk,h k hk]
theorem C3 (s:Nat):shr 0 s=0:=by unfold shr;exact Int.zero_fdiv _
theorem Znk {n:Nat} (h:Zu n) (a b:Nat) (v:Int):stF n a b (List.replicate (Zg n).length v) (List.replicate (edg n).length 0)=List.replicate (edg n).length 0:=by
 refine Zh8 _ _ _ λj hj=> ?_;have hin:=Rc h _ (Zr2 hj);unfold Zg0 acc1 slE;rw[Mw _ _ hj,Re _ hj,Mw _ _ (by omega),Mw _ _ (by omega),Int.sub_self,C3,C3];rfl
theorem Zqz {n:Nat} (h:Zu n) (a b c:Nat) {v:Int} (hv:0<=v/\v<=16777216):stA n a b c (List.replicate (Zg n).length v) (List.replicate (edg n).length 0)=List.replicate (edg n).length 0:=by
 unfold stA;rw[Znk h];refine Zh8 _ _ _ λj hj=> ?_;have hd:=Zbv h _ (Zr2 hj);have hw:wid 0 16777216 (List.replicate (Zg n).length v):=Lb hv;unfold amE;rw[Mw _ _ hj,Re _ hj,C3];have L1:=Mt (dp:=List.replicate (Zg n).length v) (k:=(edg n)[j].1) (m:=16777216) (Xq hw (by omega) _) hd.1;have L2:=Mt (dp:=List.replicate (Zg n).length v) (k:=(edg n)[j].2) (m:=16777216) (Xq hw (by omega) _) hd.2;unfold amt;rw[if_neg (by omega),if_neg (by omega)]
theorem Znl {n:Nat} (h:Zu n) (a b c:Nat) {v:Int} (hv:0<=v/\v<=16777216):stD n a b c (List.replicate (Zg n).length v) (List.replicate (edg n).length 0)=List.replicate (Zg n).length v:=by
 unfold stD;rw[Zqz h a b c hv];refine Zbs (Sb ..) λk hk=> ?_;rw[Sb]at hk;rw[Zh5 _ _ _ hk,Zes _ _ λp hp=>List.eq_of_mem_replicate (List.of_mem_zip hp).2,Int.add_zero]
theorem Zet {n:Nat} (h:Zu n) (a b c:Nat) {v:Int} (hv:0<=v/\v<=16777216): ∀k,runN n a b c k (List.replicate (Zg n).length v,List.replicate (edg n).length 0)=some (List.replicate (Zg n).length v,List.replicate (edg n).length 0)
 |0=>rfl
 |k+1=>by
  simp only[runN];have hb:Nt n a b c (List.replicate (Zg n).length v) (List.replicate (edg n).length 0)=false:=by
   unfold Nt;rw[Znl h a b c hv];exact Ud.2 (Lb hv)
  rw[hb,Znl h a b c hv,Znk h];simp only[Zs0,if_false];exact Zet h a b c hv k
theorem Znm (n:Nat) {v:Int} (hv:0<=v/\v<=16777216):Vst n (List.replicate (Zg n).length v) (List.replicate (edg n).length 0):=⟨Zrp ..,Zrp ..,Lb hv,Lb (by omega)⟩
theorem Zeu {n a b c j m:Nat} {s t:List Int×List Int} (h:runN n a b c j s=some t) (hb:Nt n a b c t.1 t.2=true) (hj:j<m):runN n a b c m s=none:=by
 obtain⟨k,rfl⟩: ∃k,m=j+(k+1):=⟨m-j-1,by omega⟩;rw[runN_add,h];show runN n a b c (k+1) t=none;simp only[runN,hb,if_true]
theorem Zh9 {n a b c j:Nat} {s t:List Int×List Int} (h:runN n a b c j s=some t) (hb:Nt n a b c t.1 t.2=false):runN n a b c (j+1) s=some (stD n a b c t.1 t.2,stF n a b t.1 t.2):=by
 rw[runN_add,h];show runN n a b c 1 t=_;simp only[runN,hb];rfl
section
variable (fu d:Nat) (hf:18446744073709551616<=fu)
include hf
set_option maxHeartbeats 4000000 in
theorem Znn (n:Nat) (h:Zu n) (dp fw:List Int) (hv:Vst n dp fw) (a b c:Nat) (ha:1<=a/\a<=4) (hb:1<=b/\b<=4) (hc:1<=c/\c<=4) (m:Nat) (hm:m<=400):
  cl fu (d+16) fn_model_Run [V.agg [C.v (.int .i64 (a:Int)),C.v (.int .i64 (b:Int)),C.v (.int .i64 (c:Int))],V.agg (stC n dp fw),I (m:Int)] []=Zbz n (runN n a b c m (dp,fw)):=by
 have hNl:=Ye h;have heL:=Xd h;have hN0:0<(Zg n).length:=by rw[Y4 h];omega
 have hE0:0<(edg n).length:=Zbu h;have h1:=hv.dl;have h2:=hv.fl;have e1:=Rf fu (d+8) hf a b c ha hb hc;have e2:=Pq fu (d+4) hf n h dp fw h1 h2 hv.dw hv.fw;have k1:=Rh fu (d+14) dp (by omega) (by omega);have k2:=Rh fu (d+14) fw (by omega) (by omega);have hst:=λ(s:List Int×List Int) (hs:Vst n s.1 s.2)=>Zh7 fu d hf n h s.1 s.2 hs a b c ha hb hc;have htk1:List.take dp.length (ints dp)=ints dp:=Zrc (by rw[Ze];exact Zrf _);have htk2:List.take fw.length (ints fw)=ints fw:=Zrc (by rw[Ze];exact Zrf _);have ec:cl fu (d+15) fn_model_check [V.agg [C.v (.int .i64 (a:Int)),C.v (.int .i64 (b:Int)),C.v (.int .i64 (c:Int))],V.agg (stC n dp fw)] []=OK (I 0):=by
  unfold stC at*
  rw[eq_model_check];simp(disch:=omega)only[Zb,QM,QD,e1,e2]
 unfold Zg1 at hst;unfold stC at*
 rw[eq_model_Run];simp(disch:=omega)only[Zb,QM,QD,ec,k1,k2,Zd9,Mm,Ze,Zrd,Zq4,htk1,htk2];refine Qt (A:=Int×Int×(Int×C×C×Unit)×(Int×C×C×Unit)×Unit) (B:=Out) (fu:=fu) (λo=>o=Zbz n (runN n a b c m (dp,fw)))
  (λy=> ∃(j:Nat) (s:List Int×List Int),j<=m/\Vst n s.1 s.2/\runN n a b c j (dp,fw)=some s/\y=(0,(j:Int),(0,C.nl,C.nl,()),((n:Int),C.sl s.1.length (ints s.1),C.sl s.2.length (ints s.2),()),())) (λy=>m-y.2.1.toNat)
  (λe z=>e=0/\(∃s:List Int×List Int,runN n a b c m (dp,fw)=some s/\z=(0,(m:Int),(0,C.nl,C.nl,()),((n:Int),C.sl s.1.length (ints s.1),C.sl s.2.length (ints s.2),()),()))\/e=1/\runN n a b c m (dp,fw)=none/\ ∃j:Int,z=(7,j,(0,C.nl,C.nl,()),(0,C.nl,C.nl,()),())) ?_ ?_ ?_ ?_
 ·exact⟨0,(dp,fw),by omega,hv,rfl,rfl⟩
 ·show m-_<fu;omega
 ·rintro y ⟨j,s,hj,hs,hr,rfl⟩
  by_cases hlt:j<m
  ·have hst:=hst s hs;cases hbad:Nt n a b c s.1 s.2 with
   |true=>
    rw[hbad]at hst;refine .inr ⟨1,_, ?_, .inr ⟨rfl,Zeu hr hbad hlt,(j:Int),rfl⟩⟩;simp(disch:=omega)only[Zb,QM,QD,hst,Zq6,Zq8,Zq4,Nat.reduceAdd]
   |false=>
    rw[hbad]at hst;refine .inl ⟨_, ?_,⟨j+1,(stD n a b c s.1 s.2,stF n a b s.1 s.2),by omega,hs.step hbad,Zh9 hr hbad,rfl⟩, ?_⟩
    ·simp(disch:=omega)only[Zb,QM,QD,hst,Zq6,Zq8,Zq4,Nat.reduceAdd];rfl
    ·show m-((j+1:Nat):Int).toNat<m-((j:Nat):Int).toNat;omega
  ·obtain rfl:j=m:=by omega
   refine .inr ⟨0,_, ?_, .inl ⟨rfl,s,hr,rfl⟩⟩;simp(disch:=omega)only[Zb,QM,QD]
 ·rintro e z (⟨rfl,s,hr,rfl⟩|⟨rfl,hr,j,rfl⟩)
  ·rw[hr];unfold Zbz stC;simp(disch:=omega)only[Zb,QM,QD]
  ·rw[hr];unfold Zbz;simp(disch:=omega)only[Zb,QM,QD]
theorem Zg2:cl fu (d+17) fn_synopticlaw30_awake [] []=OK (B true):=by
 have h:Zu 1:=by unfold Zu;omega
 have hv0:(0:Int)<=500/\(500:Int)<=16777216:=by omega
 have e1:=Zpd fu (d+4) hf 1 h 500 hv0;have e2:=Znn fu d hf 1 h _ _ (Znm 1 hv0) 2 1 3 (by omega) (by omega) (by omega) 4 (by omega);rw[Zet h 2 1 3 hv0]at e2;unfold Zbz at e2;have e3:=To fu (d+14) hf 1 1 _ _ _ _ (Z0 (List.replicate (Zg 1).length 500)) (Z0 (List.replicate (edg 1).length 0)) (Z0 (List.replicate (Zg 1).length 500)) (Z0 (List.replicate (edg 1).length 0)) (by rw[Zrp];have:=Ye h;omega) (by rw[Zrp];have:=Xd h;omega) (by rw[Zrp];have:=Ye h;omega) (by rw[Zrp];have:=Xd h;omega);rw[decide_eq_true (⟨rfl,rfl,rfl⟩:(1:Int)=1/\List.replicate (Zg 1).length (500:Int)=List.replicate (Zg 1).length 500/\List.replicate (edg 1).length (0:Int)=List.replicate (edg 1).length 0)]at e3;have hl:(List.replicate (Zg 1).length (500:Int)).length=12:=by rw[Zrp,Y4 h]
 unfold stC at*
 have hl':((((List.replicate (Zg 1).length (500:Int)).length:Nat):Int)==12)=true:=by rw[hl];rfl
 rw[Zso]at e1 e2;replace e2:cl fu (d+16) fn_model_Run [V.agg [C.v (.int .i64 2),C.v (.int .i64 1),C.v (.int .i64 3)],V.agg [C.v (.int .i64 1),_,_],I 4] []=_:=e2;generalize List.replicate (Zg 1).length (500:Int)=dp at*
 generalize List.replicate (edg 1).length (0:Int)=fw at*
 rw[eq_synopticlaw30_awake];simp(disch:=omega)only[Zb,QM,QD,e1,e2,e3,hl',Zq6,Zq8,Zq4,Nat.reduceAdd]
end
end Go.Proofs.YtoaanfjcjbghaaaGreatDoor
/- Both programs' checks, at any numbers. -/
namespace Go.Proofs.YtoaanfjcjbghaaaGreatDoor
open Go Go.PM Go.Grid
attribute [local congr] Z1 Z2 Z3 Yp Z4 Z5 Yq Yr Ys Yt Z6 Z7 Yu Xt Xu Xv Xw Xx Xz X0 X1 X2 Xy Z9 Ya X3 Yb Yc Zt Yd Z8
abbrev scC (a b c:Int):List C:=[C.v (.int .i64 a),C.v (.int .i64 b),C.v (.int .i64 c)]
def Zev (n:Int) (dp fw:List Int):Prop:= ∃m:Nat,n=m/\Zu m/\Vst m dp fw
section
variable (fu d:Nat) (hf:18446744073709551616<=fu)
include hf
theorem Fq (a b c:Int):cl fu (d+6) fn_flux_CheckScheme [V.agg (scC a b c)] []=OK (I (if Qu 1 4 [a,b,c]then 1 else 0)):=by
 have e:=Qv fu d hf [a,b,c] (by simp) 1 4;replace e:cl fu (d+5) fn_flux_outside [V.c (C.sl 3 [C.v (.int .i64 a),C.v (.int .i64 b),C.v (.int .i64 c)]),I 1,I 4] []=OK (B (Qu 1 4 [a,b,c])):=e;unfold scC;rw[eq_flux_CheckScheme];generalize Qu 1 4 [a,b,c]=q at*
 cases q<;>simp only[Zb,QM,e]<;>rfl
theorem Nj (a b c:Int):cl fu (d+1) fn_synopticref29_CheckScheme [V.agg (scC a b c)] []=OK (I (if Qu 1 4 [a,b,c]then 1 else 0)):=by
 unfold scC;rw[eq_synopticref29_CheckScheme];have hs:[C.v (.int .i64 a),C.v (.int .i64 b),C.v (.int .i64 c)]=ints [a,b,c]:=rfl;rw[hs];have hl:([a,b,c]:List Int).length=3:=rfl;generalize [a,b,c]=s at*
 rcases Qm (λj=> ¬(1<=at0 s j/\at0 s j<=4)) s.length with hn|⟨k,hk,hne,hlt⟩
 ·rw[Ud.2 (Zbw λk hk=>Classical.not_not.1 (hn k hk))];rw[Zk (λj:Nat=>((0:Int),((j:Nat):Int),())) 0 ((0:Int),((3:Nat):Int),()) 3 ?_ ?_ ?_ (by omega)]
  ·simp(disch:=omega)only[Zb,QM,QD];rfl
  ·rfl
  ·intro j hj;have i1:=Zr s (i:=j) (by omega);have b1:=Classical.not_not.1 (hn j (by omega));generalize at0 s j=v at*
   simp(disch:=omega)only[Zb,QM,QD,Zq5,Zrd,i1];rfl
  ·simp(disch:=omega)only[Zb,QM,QD]
 ·rw[Zgz hk hne];rw[Zk (λj:Nat=>((0:Int),((j:Nat):Int),())) 1 ((1:Int),((k:Nat):Int),()) k ?_ ?_ ?_ (by omega)]
  ·simp(disch:=omega)only[Zb,QM,QD];rfl
  ·rfl
  ·intro j hj;have i1:=Zr s (i:=j) (by omega);have b1:=Classical.not_not.1 (hlt j hj);generalize at0 s j=v at*
   simp(disch:=omega)only[Zb,QM,QD,Zq5,Zrd,i1];rfl
  ·have i1:=Zr s (i:=k) (by omega);generalize at0 s k=v at*
   by_cases q:v<1
   ·simp(disch:=omega)only[Zb,QM,QD,Zq5,Zrd,i1]
   ·have q2:v>4:=by omega
    simp(disch:=omega)only[Zb,QM,QD,Zq5,Zrd,i1]
theorem Wp (s:List Int) (hl:s.length<=1000000):cl fu (d+1) fn_synopticref29_depths [V.c (C.sl s.length (ints s))] []=OK (B (!Qu 0 16777216 s)):=by
 rw[eq_synopticref29_depths];rcases Qm (λj=> ¬(0<=at0 s j/\at0 s j<=16777216)) s.length with hn|⟨k,hk,hne,hlt⟩
 ·rw[Ud.2 (Zbw λk hk=>Classical.not_not.1 (hn k hk))];rw[Zk (λj:Nat=>(false,((j:Nat):Int),())) 0 (false,((s.length:Nat):Int),()) s.length ?_ ?_ ?_ (by omega)]
  ·simp(disch:=omega)only[Zb,QM,QD]
  ·rfl
  ·intro j hj;have i1:=Zr s hj;have b1:=Classical.not_not.1 (hn j hj);generalize at0 s j=v at*
   simp(disch:=omega)only[Zb,QM,QD,Zq5,Zrd,i1];rfl
  ·simp(disch:=omega)only[Zb,QM,QD]
 ·rw[Zgz hk hne];rw[Zk (λj:Nat=>(false,((j:Nat):Int),())) 1 (false,((k:Nat):Int),()) k ?_ ?_ ?_ (by omega)]
  ·simp(disch:=omega)only[Zb,QM,QD]
  ·rfl
  ·intro j hj;have i1:=Zr s (i:=j) (by omega);have b1:=Classical.not_not.1 (hlt j hj);generalize at0 s j=v at*
   simp(disch:=omega)only[Zb,QM,QD,Zq5,Zrd,i1];rfl
  ·have i1:=Zr s hk;generalize at0 s k=v at*
   by_cases q:v<0
   ·simp(disch:=omega)only[Zb,QM,QD,Zq5,Zrd,i1]
   ·have q2:v>16777216:=by omega
    simp(disch:=omega)only[Zb,QM,QD,Zq5,Zrd,i1]
theorem Zew (s:List Int) (hl:s.length<=1000000) (m:Nat) (hm:m<=1000000000000000000):cl fu (d+1) fn_synopticref22_Small [V.c (C.sl s.length (ints s)),I (m:Int)] []=OK (B (!Qu (-(m:Int)) m s)):=by
 have w0:IntKind.i64.wrap (0-(m:Int))= -(m:Int):=by rw[Q1 (by omega) (by omega)];omega
 rw[eq_synopticref22_Small];rcases Qm (λj=> ¬(-(m:Int)<=at0 s j/\at0 s j<=m)) s.length with hn|⟨k,hk,hne,hlt⟩
 ·rw[Ud.2 (Zbw λk hk=>Classical.not_not.1 (hn k hk))];rw[Zk (λj:Nat=>(false,((j:Nat):Int),())) 0 (false,((s.length:Nat):Int),()) s.length ?_ ?_ ?_ (by omega)]
  ·simp(disch:=omega)only[Zb,QM,QD]
  ·rfl
  ·intro j hj;have i1:=Zr s hj;have b1:=Classical.not_not.1 (hn j hj);generalize at0 s j=v at*
   simp(disch:=omega)only[Zb,QM,QD,Zq5,Zrd,i1,w0];rfl
  ·simp(disch:=omega)only[Zb,QM,QD]
 ·rw[Zgz hk hne];rw[Zk (λj:Nat=>(false,((j:Nat):Int),())) 1 (false,((k:Nat):Int),()) k ?_ ?_ ?_ (by omega)]
  ·simp(disch:=omega)only[Zb,QM,QD]
  ·rfl
  ·intro j hj;have i1:=Zr s (i:=j) (by omega);have b1:=Classical.not_not.1 (hlt j hj);generalize at0 s j=v at*
   simp(disch:=omega)only[Zb,QM,QD,Zq5,Zrd,i1,w0];rfl
  ·have i1:=Zr s hk;generalize at0 s k=v at*
   by_cases q:v>(m:Int)
   ·simp(disch:=omega)only[Zb,QM,QD,Zq5,Zrd,i1]
   ·have q2:v< -(m:Int):=by omega
    simp(disch:=omega)only[Zb,QM,QD,Zq5,Zrd,i1,w0]
omit hf in
theorem Lc (n:Int):cl fu (d+1) fn_synopticref29_Frequency [I n] []=OK (B (decide (1<=n)&&decide (n<=8))):=by
 rw[eq_synopticref29_Frequency];by_cases h:1<=n
 ·rw[decide_eq_true h];simp(disch:=omega)only[Zb,QM,QD]
 ·rw[decide_eq_false h];simp(disch:=omega)only[Zb,QM,QD]
omit hf in
theorem G9 (n:Int) (h:n<1\/8<n):cl fu (d+1) fn_mesh_Frequency [I n] []=OK (B false):=by
 rw[eq_mesh_Frequency];rcases h with h|h
 ·simp(disch:=omega)only[Zb,QM,QD]
 ·simp(disch:=omega)only[Zb,QM,QD]
omit hf in
theorem V7 (n:Int) (h:n<1\/8<n):cl fu (d+2) fn_grid_Edges [I n] []=OK (V.tup [V.c C.nl,I 1]):=by
 have e:=G9 fu d n h;rw[eq_grid_Edges,e];simp(disch:=omega)only[Zb,QM,QD]
theorem H2 (n:Int) {c1 c2:C} {dp fw:List Int} (h1:isL c1 dp) (h2:isL c2 fw) (l1:dp.length<=1000000) (l2:fw.length<=1000000):
  (Zev n dp fw->cl fu (d+10) fn_flux_Check [V.agg [C.v (.int .i64 n),c1,c2]] []=OK (I 0))/\(¬Zev n dp fw->cl fu (d+10) fn_flux_Check [V.agg [C.v (.int .i64 n),c1,c2]] []=OK (I 1)):=by
 have o1:=Qv fu (d+4) hf dp l1 0 16777216;have o2:=Qv fu (d+4) hf fw l2 (-16777216) 16777216;by_cases hn:1<=n/\n<=8
 ·obtain⟨m,rfl⟩: ∃m:Nat,n=m:=⟨n.toNat,by omega⟩;have h:Zu m:=by unfold Zu;omega
  have heL:=Xd h;have hNl:=Ye h;have e1:=Qn fu d hf m h;have e2:=Ve fu (d+7) m h;have key:cl fu (d+10) fn_flux_Check [V.agg [C.v (.int .i64 (m:Int)),c1,c2]] []=OK (I (if dp.length=(Zg m).length/\fw.length=(edg m).length/\Qu 0 16777216 dp=false/\Qu (-16777216) 16777216 fw=false then 0 else 1)):=by
   generalize edg m=E at*
   generalize (Zg m).length=N at*
   rw[eq_flux_Check];have n1:=h1.1;have n2:=h2.1;have s1:=λ{R:Type} (k:Nat->List C->Option R)=>h1.2 k;have s2:=λ{R:Type} (k:Nat->List C->Option R)=>h2.2 k;simp(disch:=omega)only[Zb,QM,QD,e1];rw[s1];simp(disch:=omega)only[Zb,QM,QD,e2];by_cases q1:dp.length=N
   ·simp(disch:=omega)only[Zb,QM,QD];rw[s2];simp(disch:=omega)only[Zb,QM,QD];by_cases q2:fw.length=E.length
    ·simp(disch:=omega)only[Zb,QM,QD,n1,o1];cases q3:Qu 0 16777216 dp with
     |true=>
      rw[if_neg (λq=>by cases q.2.2.1)];simp(disch:=omega)only[Zb,QM,QD]
     |false=>
      simp(disch:=omega)only[Zb,QM,QD,n2,o2];cases q4:Qu (-16777216) 16777216 fw with
      |true=>
       rw[if_neg (λq=>by cases q.2.2.2)];simp(disch:=omega)only[Zb,QM,QD]
      |false=>
       rw[if_pos ⟨q1,q2,by simp,by simp⟩];simp(disch:=omega)only[Zb,QM,QD]
    ·rw[if_neg (λq=>q2 q.2.1)];simp(disch:=omega)only[Zb,QM,QD]
   ·rw[if_neg (λq=>q1 q.1)];simp(disch:=omega)only[Zb,QM,QD]
  constructor
  ·rintro ⟨k,hk,hfk,hv⟩
   obtain rfl:m=k:=by omega
   rw[key,if_pos ⟨hv.dl,hv.fl,Ud.2 hv.dw,Ud.2 hv.fw⟩]
  ·intro hb;rw[key,if_neg (λq=>hb ⟨m,rfl,h,⟨q.1,q.2.1,Ud.1 q.2.2.1,Ud.1 q.2.2.2⟩⟩)]
 ·have e1:=V7 fu (d+7) n (by omega);refine⟨λ⟨m,hm,hfm,_⟩=>absurd (by unfold Zu at hfm;omega) hn,λ_=> ?_⟩;rw[eq_flux_Check];simp(disch:=omega)only[Zb,QM,QD,e1]
theorem Q2 (n:Int) {c1 c2:C} {dp fw:List Int} (h1:isL c1 dp) (h2:isL c2 fw) (l1:dp.length<=1000000) (l2:fw.length<=1000000):
  (Zev n dp fw->cl fu (d+10) fn_synopticref29_Check [V.agg [C.v (.int .i64 n),c1,c2]] []=OK (I 0))/\(¬Zev n dp fw->cl fu (d+10) fn_synopticref29_Check [V.agg [C.v (.int .i64 n),c1,c2]] []=OK (I 1)):=by
 have o1:=Wp fu (d+8) hf dp l1;have o2:=Zew fu (d+8) hf fw l2 16777216 (by omega);replace o2:cl fu (d+9) fn_synopticref22_Small [V.c (C.sl fw.length (ints fw)),I 16777216] []=OK (B (!Qu (-16777216) 16777216 fw)):=o2;have o0:=Lc fu (d+8) n;by_cases hn:1<=n/\n<=8
 ·obtain⟨m,rfl⟩: ∃m:Nat,n=m:=⟨n.toNat,by omega⟩;have h:Zu m:=by unfold Zu;omega
  have heL:=Xd h;have hNl:=Ye h;have e1:=Qf fu d hf m h;have e2:=Nc fu (d+8) m h;rw[decide_eq_true hn.1,decide_eq_true hn.2]at o0;have key:cl fu (d+10) fn_synopticref29_Check [V.agg [C.v (.int .i64 (m:Int)),c1,c2]] []=OK (I (if dp.length=(Zg m).length/\fw.length=(edg m).length/\Qu 0 16777216 dp=false/\Qu (-16777216) 16777216 fw=false then 0 else 1)):=by
   generalize edg m=E at*
   generalize (Zg m).length=N at*
   rw[eq_synopticref29_Check];have n1:=h1.1;have n2:=h2.1;have s1:=λ{R:Type} (k:Nat->List C->Option R)=>h1.2 k;have s2:=λ{R:Type} (k:Nat->List C->Option R)=>h2.2 k;simp(disch:=omega)only[Zb,QM,QD,o0,e1];rw[s1];simp(disch:=omega)only[Zb,QM,QD,e2];by_cases q1:dp.length=N
   ·simp(disch:=omega)only[Zb,QM,QD];rw[s2];simp(disch:=omega)only[Zb,QM,QD];by_cases q2:fw.length=E.length
    ·simp(disch:=omega)only[Zb,QM,QD,n1,o1];cases q3:Qu 0 16777216 dp with
     |true=>
      rw[if_neg (λq=>by cases q.2.2.1)];simp(disch:=omega)only[Zb,QM,QD]
     |false=>
      simp(disch:=omega)only[Zb,QM,QD,n2,o2];cases q4:Qu (-16777216) 16777216 fw with
      |true=>
       rw[if_neg (λq=>by cases q.2.2.2)];simp(disch:=omega)only[Zb,QM,QD]
      |false=>
       rw[if_pos ⟨q1,q2,by simp,by simp⟩];simp(disch:=omega)only[Zb,QM,QD]
    ·rw[if_neg (λq=>q2 q.2.1)];simp(disch:=omega)only[Zb,QM,QD]
   ·rw[if_neg (λq=>q1 q.1)];simp(disch:=omega)only[Zb,QM,QD]
  constructor
  ·rintro ⟨k,hk,hfk,hv⟩
   obtain rfl:m=k:=by omega
   rw[key,if_pos ⟨hv.dl,hv.fl,Ud.2 hv.dw,Ud.2 hv.fw⟩]
  ·intro hb;rw[key,if_neg (λq=>hb ⟨m,rfl,h,⟨q.1,q.2.1,Ud.1 q.2.2.1,Ud.1 q.2.2.2⟩⟩)]
 ·refine⟨λ⟨m,hm,hfm,_⟩=>absurd (by unfold Zu at hfm;omega) hn,λ_=> ?_⟩;have hb:(decide (1<=n)&&decide (n<=8))=false:=by
   cases e:(decide (1<=n)&&decide (n<=8))with
   |false=>rfl
   |true=>
    rw[Zq3,decide_eq_true_iff,decide_eq_true_iff]at e;exact absurd e hn
  rw[hb]at o0;rw[eq_synopticref29_Check];simp(disch:=omega)only[Zb,QM,QD,o0]
end
end Go.Proofs.YtoaanfjcjbghaaaGreatDoor
/- The reference's Degrees: the same as the program's. -/
namespace Go.Proofs.YtoaanfjcjbghaaaGreatDoor
open Go Go.PM Go.Grid
attribute [local congr] Z1 Z2 Z3 Yp Z4 Z5 Yq Yr Ys Yt Z6 Z7 Yu Xt Xu Xv Xw Xx Xz X0 X1 X2 Xy Z9 Ya X3 Yb Yc Zt Yd Z8
theorem Zb2 (E:List (Int×Int)) {j:Nat} (h:j<E.length) {x y:Int} (e:E[j]=(x,y)):(fl edC E).drop (j*2)=C.v (.int .i64 x)::C.v (.int .i64 y)::fl edC (E.drop (j+1))/\List.drop 1 (C.v (.int .i64 x)::C.v (.int .i64 y)::fl edC (E.drop (j+1)))=C.v (.int .i64 y)::fl edC (E.drop (j+1)):=by
 have hea:=Jt Xc h;rw[e]at hea;rw[hea];exact⟨rfl,rfl⟩
section
variable (fu d:Nat) (hf:18446744073709551616<=fu)
include hf
set_option maxHeartbeats 4000000 in
theorem Bj (n:Nat) (h:Zu n):cl fu (d+10) fn_synopticref29_Degrees [I n] []=OK (V.tup [V.c (C.sl (Zg n).length (ints (Uf (Zg n).length (edg n)))),I 0]):=by
 have hn:=h;unfold Zu at hn;have hNl:=Ye h;have heL:=Xd h;have e0:=Lc fu (d+8) (n:Int);rw[decide_eq_true (show 1<=(n:Int) by omega),decide_eq_true (show(n:Int)<=8 by omega)]at e0;have e1:=Qf fu d hf n h;have e2:=Nc fu (d+8) n h;have hin:=Rc h;generalize edg n=E at*
 generalize (Zg n).length=N at*
 have hr0:reps N [C.v (.int .i64 0)]=ints (Uf N []):=by
  unfold Uf reps;simp[ik]
 have hdl:=Rw N;rw[eq_synopticref29_Degrees];simp(disch:=omega)only[Zb,QM,QD,e0,e1,e2,Zq5,Zrd,hr0,Ze,hdl];rw[Zk (λj:Nat=>(ints (Uf N (E.take j)),((j:Nat):Int),())) 0 (ints (Uf N E),((E.length:Nat):Int),()) E.length ?_ ?_ ?_ (by omega)]
 ·have htk:List.take N (ints (Uf N E))=ints (Uf N E):=Zrc (by rw[Ze,hdl];exact Zrf _);simp(disch:=omega)only[Zb,QM,QD,Zq4,Zrd,Zro,Ze,hdl,htk]
 ·rfl
 ·intro j hj;have hin:=hin E[j] (Zr2 hj);have hst:Uf N (E.take (j+1))=mv1 (Uf N (E.take j)) E[j] 1 1:=by rw[Zr1 hj,Wl]
  have hbd:=F7 N (E.take j);have htl:(E.take j).length<=15000:=by rw[Zrz];omega
  have hD:=hdl (E.take j);rw[hst];generalize Uf N (E.take j)=D at*
  generalize hee:E[j]=e at*
  obtain⟨ea,eb⟩:=e;simp only at hin⊢;obtain⟨x,rfl⟩: ∃x:Nat,ea=x:=⟨ea.toNat,by omega⟩;obtain⟨y,rfl⟩: ∃y:Nat,eb=y:=⟨eb.toNat,by omega⟩;obtain⟨ea1,ea2⟩:=Zb2 E hj hee;have d1:=Zr D (i:=x) (by omega);have b1:=hbd x;have p1:=Vo D (i:=x) (by omega) 1;have hB:=Y5 D x 1;have hBa:=Pp D x 1 y;have hm:mv1 D ((x:Int),(y:Int)) 1 1=Uc (Uc D x 1) y 1:=by unfold mv1;rw[Zq5,Zq5]
  rw[hm];have b2:0<=at0 (Uc D x 1) y/\at0 (Uc D x 1) y<=40000:=by
   have:=hbd y;split at hBa<;>omega
  generalize Uc D x 1=D1 at*
  have d2:=Zr D1 (i:=y) (by omega);have p2:=Vo D1 (i:=y) (by omega) 1;have hB2:=Y5 D1 y 1;generalize Uc D1 y 1=D2 at*
  simp(disch:=omega)only[Zb,QM,QD,Zq6,Zq8,Zq4,Nat.reduceAdd,Zq5,Zrd,Zro,Ze,hD,ea2,ea1,d1,p1,hB,d2,p2,hB2];rfl
 ·rw[Zsn];simp(disch:=omega)only[Zb,QM,QD,Zrd,Zro,Ze,hdl]
end
end Go.Proofs.YtoaanfjcjbghaaaGreatDoor
/- The reference's Amounts and Move: the same as the program's. -/
namespace Go.Proofs.YtoaanfjcjbghaaaGreatDoor
open Go Go.PM Go.Grid
attribute [local congr] Z1 Z2 Z3 Yp Z4 Z5 Yq Yr Ys Yt Z6 Z7 Yu Xt Xu Xv Xw Xx Xz X0 X1 X2 Xy Z9 Ya X3 Yb Yc Zt Yd Z8
section
variable (fu d:Nat) (hf:18446744073709551616<=fu)
include hf
set_option maxHeartbeats 4000000 in
theorem Bl (n:Nat) (h:Zu n) {c1 c2:C} {dp fw:List Int} (h1:isL c1 dp) (h2:isL c2 fw) (hv:Vst n dp fw) (a b c:Nat) (ha:1<=a/\a<=4) (hb:1<=b/\b<=4) (hc:1<=c/\c<=4):
  cl fu (d+11) fn_synopticref29_Amounts [V.agg (scC a b c),V.agg [C.v (.int .i64 (n:Int)),c1,c2]] []=OK (V.tup [V.c (C.sl (edg n).length (ints (amL dp (Uf (Zg n).length (edg n)) fw c (edg n) (edg n).length))),V.c (C.sl (edg n).length (ints (brL dp (Uf (Zg n).length (edg n)) fw c (edg n) (edg n).length))),I 0]):=by
 have hNl:=Ye h;have heL:=Xd h;have e1:=Nj fu (d+9) hf (a:Int) (b:Int) (c:Int);rw[Ud.2 (by intro v hv;simp only[Zrl,Ztn,or_false]at hv;omega)]at e1;have hdl:=hv.dl;have hfl:=hv.fl;have e2:=(Q2 fu d hf (n:Int) h1 h2 (by omega) (by omega)).1 ⟨n,rfl,h,hv⟩;have e3:=Bj fu d hf n h;have e4:=Qf fu (d+1) hf n h;have hin:=Rc h;have hdgl:=Rw (Zg n).length (edg n);have hdp:=Zbv h;have hdb:=λk=>F7 (Zg n).length (edg n) k;have h3:=hv.dw;have s1:=λ{R:Type} (k:Nat->List C->Option R)=>h1.2 k;have s2:=λ{R:Type} (k:Nat->List C->Option R)=>h2.2 k;generalize Uf (Zg n).length (edg n)=dg at*
 generalize edg n=E at*
 generalize (Zg n).length=N at*
 have hml:=λk=>Ku dp dg fw c E k;have hbl:=λk=>Kv dp dg fw c E k;have hsh:min c (IntKind.bits .i64)=c:=by show min c 64=c;omega
 have hu:IntKind.u64.wrap ((c:Nat):Int)=(c:Int):=IntWalk.u64_in (c:Int) (by omega);unfold scC at*
 replace e1:cl fu (d+10) fn_synopticref29_CheckScheme _ []=OK (I 0):=e1;rw[eq_synopticref29_Amounts];simp(disch:=omega)only[Zb,QM,QD,e1,e2,e3,e4];rw[Zk (λj:Nat=>(ints (amL dp dg fw c E j),ints (brL dp dg fw c E j),((j:Nat):Int),())) 0 (ints (amL dp dg fw c E E.length),ints (brL dp dg fw c E E.length),((E.length:Nat):Int),()) E.length ?_ ?_ ?_ (by omega)]
 ·have htk: ∀l:List Int,l.length=E.length->List.take E.length (ints l)=ints l:=λl hl=>Zrc (by rw[Ze];omega);simp(disch:=omega)only[Zb,QM,QD,Zq4,Zrd,Zro,Ze,hml,hbl,htk _ (hml E.length),htk _ (hbl E.length)]
 ·rfl
 ·intro j hj;have hin:=hin E[j] (Zr2 hj);have hdp:=hdp E[j] (Zr2 hj);have hfj:j<fw.length:=by omega
  have hfi:=Zr fw hfj;have hwA:=Xq h3 (by omega) E[j].1.toNat;have hwB:=Xq h3 (by omega) E[j].2.toNat;have lA:=Mt (k:=E[j].1) hwA hdp.1;have lB:=Mt (k:=E[j].2) hwB hdp.2;have hst:=Zem dp dg fw c E j;have hsb:=Zen dp dg fw c E j;unfold amE at hst;unfold brE at hsb;rw[Re E hj]at hst hsb;rw[hst,hsb];have hml:=hml j;have hbl:=hbl j;generalize amL dp dg fw c E j=A at*
  generalize brL dp dg fw c E j=B at*
  generalize hee:E[j]=e at*
  obtain⟨ea,eb⟩:=e;simp only at hin hdp lA lB⊢;obtain⟨x,rfl⟩: ∃x:Nat,ea=x:=⟨ea.toNat,by omega⟩;obtain⟨y,rfl⟩: ∃y:Nat,eb=y:=⟨eb.toNat,by omega⟩;obtain⟨ea1,ea2⟩:=Zb2 E hj hee;simp only[Zq5]at hdp hwA hwB lA lB;have d1:=Zr dp (i:=x) (by omega);have d2:=Zr dp (i:=y) (by omega);have g1:=Zr dg (i:=x) (by omega);have g2:=Zr dg (i:=y) (by omega);have lA':Int.tdiv (at0 dp x) (at0 dg x)=lim dp dg (x:Int):=by unfold lim;rw[Zq5]
  have lB':Int.tdiv (at0 dp y) (at0 dg y)=lim dp dg (y:Int):=by unfold lim;rw[Zq5]
  have sh':Int.fdiv (at0 fw j) (2^c)=shr (at0 fw j) c:=rfl;generalize lim dp dg (x:Int)=p at*
  generalize lim dp dg (y:Int)=q at*
  generalize shr (at0 fw j) c=w at*
  have e0:IntKind.i64.wrap (0-q)= -q:=by rw[Q1 (by omega) (by omega)];omega
  simp(disch:=omega)only[Zb,QM,QD];rw[s2];simp(disch:=omega)only[Zb,QM,QD,Zq5,Zrd,hfi,hu,ea1];rw[s1];simp(disch:=omega)only[Zb,QM,QD,Zq5,Zrd,d1,ea1,g1,ea2];rw[s1];simp(disch:=omega)only[Zb,QM,QD,Zq5,Zrd,d2,ea1,g2,ea2,lA',lB',hsh,sh',e0];by_cases c1:w>p
  ·rw[show amt w p q=p from if_pos c1,show brn w p q=1 from if_pos c1];simp(disch:=omega)only[Zb,QM,QD,hu,Zq5,hsh,sh',lA',lB',e0,Zrd,Zro,Ze,hml,hbl,Xo,Zre,Zq6,Zq8,Zq4];rfl
  ·by_cases c2:w< -q
   ·rw[show amt w p q= -q from by unfold amt;rw[if_neg c1,if_pos c2],show brn w p q= -1 from by unfold brn;rw[if_neg c1,if_pos c2]];simp(disch:=omega)only[Zb,QM,QD,hu,Zq5,hsh,sh',lA',lB',e0,Zrd,Zro,Ze,hml,hbl,Xo,Zre,Zq6,Zq8,Zq4];rfl
   ·rw[show amt w p q=w from by unfold amt;rw[if_neg c1,if_neg c2],show brn w p q=0 from by unfold brn;rw[if_neg c1,if_neg c2]];simp(disch:=omega)only[Zb,QM,QD,hu,Zq5,hsh,sh',lA',lB',e0,Zrd,Zro,Ze,hml,hbl,Xo,Zre,Zq6,Zq8,Zq4];rfl
 ·simp(disch:=omega)only[Zb,QM,QD,Zrd,Zro,Ze,hml,hbl]
set_option maxHeartbeats 4000000 in
theorem Zg3 (n:Nat) (h:Zu n) {c1 c2:C} {dp fw:List Int} (h1:isL c1 dp) (h2:isL c2 fw) (hv:Vst n dp fw) (am:List Int) (h5:am.length=(edg n).length) (h6:wid (-16777216) 16777216 am):
  cl fu (d+11) fn_synopticref29_Move [V.agg [C.v (.int .i64 (n:Int)),c1,c2],V.c (C.sl am.length (ints am))] []=bif Qu 0 16777216 (Qi dp ((edg n).zip am))then OK (V.tup [V.agg [C.v (.int .i64 0),C.nl,C.nl],I 7])else OK (V.tup [V.agg (stC n (Qi dp ((edg n).zip am)) fw),I 0]):=by
 have hNl:=Ye h;have heL:=Xd h;have hdl:=hv.dl;have hfl:=hv.fl;have e2:=(Q2 fu d hf (n:Int) h1 h2 (by omega) (by omega)).1 ⟨n,rfl,h,hv⟩;have e3:=Zew fu (d+9) hf am (by omega) 16777216 (by omega);replace e3:cl fu (d+10) fn_synopticref22_Small [V.c (C.sl am.length (ints am)),I 16777216] []=OK (B (!Qu (-16777216) 16777216 am)):=e3;rw[Ud.2 h6]at e3;have e4:=Qf fu (d+1) hf n h;have hin:=Rc h;have hML:=λP=>Sb P dp;have e6:=Wp fu (d+9) hf (Qi dp ((edg n).zip am)) (by rw[hML];omega);rw[hML]at e6;have h3:=hv.dw;have hbd:=λ(k:Nat) (i:Nat)=>Zh4 (m:=16777216) (by omega) (((edg n).zip am).take k) dp 16777216 (λi=>by have:=Xq h3 (by omega) i;omega) (λp hp=>h6 p.2 (by
  have:=Ztj hp;exact(List.of_mem_zip this).2)) i
 have s1:=λ{R:Type} (k:Nat->List C->Option R)=>h1.2 k;have s2:=λ{R:Type} (k:Nat->List C->Option R)=>h2.2 k;unfold stC at*
 generalize edg n=E at*
 generalize (Zg n).length=N at*
 rw[eq_synopticref29_Move];simp(disch:=omega)only[Zb,QM,QD,e2];rw[s2];simp(disch:=omega)only[Zb,QM,QD,e3];rw[s1];simp(disch:=omega)only[Zb,QM,QD,Ze,Zrd];rw[s2];simp(disch:=omega)only[Zb,QM,QD,Ze,Zrd,e4];rw[Zk (λj:Nat=>(((j:Nat):Int),((0:Int),C.nl,C.nl,()),((n:Int),ints (Qi dp ((E.zip am).take j)),ints fw,()),())) 0 (((E.length:Nat):Int),((0:Int),C.nl,C.nl,()),((n:Int),ints (Qi dp (E.zip am)),ints fw,()),()) E.length ?_ ?_ ?_ (by omega)]
 ·have htk1:List.take dp.length (ints (Qi dp (E.zip am)))=ints (Qi dp (E.zip am)):=Zrc (by rw[Ze,hML];exact Zrf _);have htk2:List.take fw.length (ints fw)=ints fw:=Zrc (by rw[Ze];exact Zrf _);have hML:=hML (E.zip am);cases hb:Qu 0 16777216 (Qi dp (E.zip am))with
  |true=>
   rw[hb]at e6;simp(disch:=omega)only[Zb,QM,QD,Ze,Zrd,Zro,Zq4,hML,htk1,e6]
  |false=>
   rw[hb]at e6;simp(disch:=omega)only[Zb,QM,QD,Ze,Zrd,Zro,Zq4,hML,htk1,htk2,e6]
 ·rfl
 ·intro j hj;have hz:j<(E.zip am).length:=by rw[List.length_zip];omega
  have hja:j<am.length:=by omega
  have hin:=hin E[j] (Zr2 hj);have hai:=ints_at am hja;have haw:=Zbp h6 hja;have hst:Qi dp ((E.zip am).take (j+1))=mv1 (Qi dp ((E.zip am).take j)) E[j] (-am[j]) am[j]:=by rw[Zr1 hz,Wm,List.getElem_zip]
  have hbd:=hbd j;have htl:((E.zip am).take j).length<=15000:=by rw[Zrz];omega
  have hD:=hML ((E.zip am).take j);rw[hst];generalize Qi dp ((E.zip am).take j)=D at*
  generalize hee:E[j]=e at*
  generalize am[j]=v at*
  obtain⟨ea,eb⟩:=e;simp only at hin⊢;obtain⟨x,rfl⟩: ∃x:Nat,ea=x:=⟨ea.toNat,by omega⟩;obtain⟨y,rfl⟩: ∃y:Nat,eb=y:=⟨eb.toNat,by omega⟩;obtain⟨ea1,ea2⟩:=Zb2 E hj hee;have d1:=Zr D (i:=x) (by omega);have b1:=hbd x;have p1:=Vo D (i:=x) (by omega) (-v);have hB:=Y5 D x (-v);have hBa:=Pp D x (-v) y;have hm:mv1 D ((x:Int),(y:Int)) (-v) v=Uc (Uc D x (-v)) y v:=by unfold mv1;rw[Zq5,Zq5]
  rw[hm];have b2:=hbd y;have b3: -1000000000000<=at0 (Uc D x (-v)) y/\at0 (Uc D x (-v)) y<=1000000000000:=by
   split at hBa<;>omega
  generalize Uc D x (-v)=D1 at*
  have d2:=Zr D1 (i:=y) (by omega);have p2:=Vo D1 (i:=y) (by omega) v;have hB2:=Y5 D1 y v;generalize Uc D1 y v=D2 at*
  have e0:at0 D x-v=at0 D x+ -v:=by omega
  simp(disch:=omega)only[Zb,QM,QD,Zq6,Zq8,Zq4,Nat.reduceAdd,Zq5,Zrd,Zro,Ze,hD,ea1,ea2,d1,hai,e0,p1,hB,d2,p2,hB2];rfl
 ·rw[Zrc (l:=E.zip am) (by rw[List.length_zip];omega)];have hML:=hML (E.zip am);simp(disch:=omega)only[Zb,QM,QD,Ze,Zrd,Zro,hML]
end
end Go.Proofs.YtoaanfjcjbghaaaGreatDoor
/- Both programs at any state, scheme, amounts: the same answers. -/
namespace Go.Proofs.YtoaanfjcjbghaaaGreatDoor
open Go Go.PM Go.Grid
attribute [local congr] Z1 Z2 Z3 Yp Z4 Z5 Yq Yr Ys Yt Z6 Z7 Yu Xt Xu Xv Xw Xx Xz X0 X1 X2 Xy Z9 Ya X3 Yb Yc Zt Yd Z8
theorem F8 {c:C} {l:List Int} (h:isL c l) (h0:0<l.length):c=C.sl l.length (ints l):=by
 have h1:=h.1;have h2:=h.2 (R:=Unit) λ_ _=>some ();cases c with
 |sl n cs=>exact h1
 |nl=>
  have h3:C.sl 0 []=C.sl l.length (ints l):=h1;injection h3 with h3 _
  omega
 |_=>exact absurd h2 (by simp[asSl,slOf])
theorem Wq {n:Nat} (h:Zu n):0<(Zg n).length:=by rw[Y4 h];omega
theorem Zpe {a b c:Int} (h:Qu 1 4 [a,b,c]=false): ∃x y z:Nat,a=x/\b=y/\c=z/\(1<=x/\x<=4)/\(1<=y/\y<=4)/\(1<=z/\z<=4):=by
 have h:=Ud.1 h;have h1:=h a (by simp);have h2:=h b (by simp);have h3:=h c (by simp);exact⟨a.toNat,b.toNat,c.toNat,by omega,by omega,by omega,by omega,by omega,by omega⟩
section
variable (fu d:Nat) (hf:18446744073709551616<=fu)
include hf
end
end Go.Proofs.YtoaanfjcjbghaaaGreatDoor
