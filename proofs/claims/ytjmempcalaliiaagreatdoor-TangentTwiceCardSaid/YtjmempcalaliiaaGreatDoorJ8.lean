/- Parts put together: W, Gc, Gd, Ge, Ea, H, Eb, Ec, Ed, Ee, Ef, Eg, Eh, Ei, Ej, Ek, El, Fa, Fb, Fc, Fd, Fe, Ff, Fp, Nb, Nc, Pa, Pb. -/
import Derived.Test.YtjmempcalaliiaaGreatDoorJ5
import Derived.Test.YtjmempcalaliiaaGreatDoorEq
import Derived.Test.YtjmempcalaliiaaGreatDoorJ6
set_option linter.defProp false
set_option linter.unusedSimpArgs false
set_option linter.unusedVariables false
/- Rules whose conditions simp can have shown by omega; lists of records as cells. -/
namespace Go.PM
open Go
theorem X6 {x:Int} (h1: -9223372036854775808<=x) (h2:x<=9223372036854775807):IntKind.i64.wrap x=x:=IntWalk.i64_in x ⟨by omega,by omega⟩
theorem dlt_t {a b:Int} (h:a<b):decide (a<b)=true:=decide_eq_true h
theorem dlt_f {a b:Int} (h:b<=a):decide (a<b)=false:=decide_eq_false (by omega)
theorem dle_t {a b:Int} (h:a<=b):decide (a<=b)=true:=decide_eq_true h
theorem dle_f {a b:Int} (h:b<a):decide (a<=b)=false:=decide_eq_false (by omega)
theorem dgt_t {a b:Int} (h:b<a):decide (a>b)=true:=decide_eq_true h
theorem dgt_f {a b:Int} (h:a<=b):decide (a>b)=false:=decide_eq_false (by omega)
theorem dge_t {a b:Int} (h:b<=a):decide (a≥b)=true:=decide_eq_true h
theorem dge_f {a b:Int} (h:a<b):decide (a≥b)=false:=decide_eq_false (by omega)
theorem ibeq_t {a b:Int} (h:a=b):(a==b)=true:=beq_iff_eq.2 h
theorem Nh {a b:Int} (h:a≠b):(a==b)=false:=beq_eq_false_iff_ne.2 h
theorem ibne_t {a b:Int} (h:a≠b):(a !=b)=true:=bne_iff_ne.2 h
theorem ibne_f {a b:Int} (h:a=b):(a !=b)=false:=by subst h;simp
def fl {A:Type} (e:A->List C) (l:List A):List C:=l.flatMap e
section
variable {A:Type} {e:A->List C} {m:Nat}
@[simp] theorem fl_nil:fl e []=[]:=rfl
theorem Vf (x:A) (l:List A):fl e (x::l)=e x++fl e l:=by simp[fl]
theorem Ni (l l':List A):fl e (l++l')=fl e l++fl e l':=by simp[fl]
theorem Ph (l:List A) (x:A):fl e l++e x=fl e (l++[x]):=by simp[fl]
theorem Zg (h: ∀x,(e x).length=m): ∀l:List A,(fl e l).length=l.length*m
 | []=>by simp[fl]
 |x::l=>by rw[Vf,List.length_append,h,Zg h l,List.length_cons,Nat.succ_mul];omega
theorem M6 (h: ∀x,(e x).length=m): ∀(k:Nat) (l:List A),(fl e l).drop (k*m)=fl e (l.drop k)
 |0,l=>by simp
 |k+1,[]=>by simp[fl]
 |k+1,x::l=>by
  rw[Vf,Nat.succ_mul,Nat.add_comm,List.drop_append];rw[show(e x).drop (m+k*m)=[] from List.drop_eq_nil_of_le (by rw[h];omega),h,Nat.add_sub_cancel_left,List.nil_append,M6 h k l];rfl
theorem Fx (h: ∀x,(e x).length=m): ∀(k:Nat) (l:List A),(fl e l).take (k*m)=fl e (l.take k)
 |0,l=>by simp
 |k+1,[]=>by simp[fl]
 |k+1,x::l=>by
  rw[Vf,Nat.succ_mul,Nat.add_comm,List.take_append];rw[List.take_of_length_le (by rw[h];omega),h,Nat.add_sub_cancel_left,Fx h k l,List.take_succ_cons,Vf]
theorem Pi (h: ∀x,(e x).length=m) {k:Nat} {l:List A} (hk:k<l.length):(fl e l).drop (k*m)=e l[k]++fl e (l.drop (k+1)):=by
 rw[M6 h,List.drop_eq_getElem_cons hk,Vf]
end
theorem Ua (P:Nat->Prop) [DecidablePred P] (n:Nat):(∀j,j<n-> ¬P j)\/ ∃k,k<n/\P k/\ ∀j,j<k-> ¬P j:=by
 induction n with
 |zero=>left;intro j hj;omega
 |succ n ih=>
  rcases ih with ih|⟨k,h1,h2,h3⟩
  ·by_cases h:P n
   ·exact .inr ⟨n,by omega,h,ih⟩
   ·left;intro j hj;by_cases e:j=n
    ·subst e;exact h
    ·exact ih j (by omega)
  ·exact .inr ⟨k,by omega,h2,h3⟩
theorem Zh {A:Type} {body:A->Option (Nat×A)} {x:A} {fu:Nat} (f:Nat->A) (e:Nat) (z:A) (k:Nat) (hx:x=f 0) (h: ∀j,j<k->body (f j)=some (0,f (j+1))) (he:body (f k)=some (e+1,z)) (hf:k<fu):iter body fu x=some (e,z):=by
 rw[hx];exact Pa f e z k 0 fu (λj _ hj=>h j (by omega)) (by rw[Nat.zero_add];exact he) hf
theorem A4 {A:Type} {body:A->Option (Nat×A)} {x:A} {fu:Nat} (J:A->Prop) (m:A->Nat) (e:Nat) (z:A) (hx:J x) (hm:m x<fu) (h: ∀y,J y->(∃y',body y=some (0,y')/\J y'/\m y'<m y)\/body y=some (e+1,z)):iter body fu x=some (e,z):=by
 obtain⟨e',z',h1,h2,h3⟩:=Ng (body:=body) J m (λe' z'=>e'=e/\z'=z) (λy hy=>(h y hy).imp id λhh=>⟨e,z,hh,rfl,rfl⟩) fu x hx hm;rw[h1,h2,h3]
theorem Q0 {A:Type} (body:A->Option (Nat×A)) (n:Nat) (x:A):iter body (n+1) x=(body x).bind λp=>natD p.1 (iter body n p.2) λm=>some (m,p.2):=by
 simp only[iter]
 congr 1
def QM:=And.intro @obs (And.intro @rC_c (And.intro @rA_agg (And.intro @rT_tup (And.intro @Nf (And.intro @rW_own (And.intro @rS_sb (And.intro @rF_sb (And.intro @uncV_cons (And.intro @uncO_cons (And.intro @nilV_nil (And.intro @rO_ob (And.intro @rN_ob (And.intro @unc_cons (And.intro @asI_int (And.intro @asB_bool (And.intro @Ao (And.intro @W4 (And.intro @asSl_nl (And.intro @asFn_fn (And.intro @asP_cp (And.intro @nrm_sl (And.intro @nrm_nl (And.intro @Ht (And.intro @ct (And.intro @cf (And.intro @bd_eq (And.intro @natD_zero (And.intro @natD_succ (And.intro @natD_one (And.intro @noYl_v (And.intro @noYl_sl (And.intro @noYl_nl (And.intro @noYl_cp (And.intro @noYl_fn (And.intro @Bool.and_true (And.intro @Bool.true_and (And.intro @Bool.and_self (And.intro @beqN_self (And.intro @Bool.not_true (And.intro @Bool.not_false (And.intro @Bool.and_false (And.intro @Bool.false_and (And.intro @Bool.or_false (And.intro @Bool.false_or (And.intro @Bool.or_true @Bool.true_or)))))))))))))))))))))))))))))))))))))))))))))
def QD:=And.intro @X6 (And.intro @dlt_t (And.intro @dlt_f (And.intro @dle_t (And.intro @dle_f (And.intro @dgt_t (And.intro @dgt_f (And.intro @dge_t (And.intro @dge_f (And.intro @ibeq_t (And.intro @Nh (And.intro @ibne_t (And.intro @ibne_f (And.intro @inR_int (And.intro @beqN_eq @bleN_le))))))))))))))
end Go.PM
/- Places: what the functions of the program and of the reference come to. -/
namespace Go.Proofs.YtjmempcalaliiaaGreatDoor
open Go Go.PM Go.Grid
def plc (p:Pl):List C:=[.v (.int .i64 p.f), .v (.int .i64 p.a), .v (.int .i64 p.b), .v (.int .i64 p.c)]
theorem Zj (p:Pl):(plc p).length=4:=rfl
def wcs (w:Nat->Nat):List C:=(List.range 12).map λv=> .v (.int .i64 (w v))
abbrev OK (r:V):Option Out:=some ⟨r,[],none⟩
def validI (f a b c:Int):Bool:=decide (0<=f/\f<20/\0<=a/\a<=840/\0<=b/\b<=840/\0<=c/\c<=840/\a+b+c=840)
theorem H3 {p:Pl} (h:p.ok):validI p.f p.a p.b p.c=true:=by
 obtain⟨h1,h2⟩:=h;exact decide_eq_true (by omega)
theorem Fy (fu d:Nat) (f a b c:Int):cl fu (d+1) fn_synopticref02_Valid [V.agg [.v (.int .i64 f), .v (.int .i64 a), .v (.int .i64 b), .v (.int .i64 c)]] []=OK (B (validI f a b c)):=by
 rw[eq_synopticref02_Valid];by_cases h1:0<=f
 case neg=>rw[show validI f a b c=false from decide_eq_false (by omega)];simp(disch:=omega)only[QM,QD]
 by_cases h2:f<20
 case neg=>rw[show validI f a b c=false from decide_eq_false (by omega)];simp(disch:=omega)only[QM,QD]
 by_cases h3:0<=a
 case neg=>rw[show validI f a b c=false from decide_eq_false (by omega)];simp(disch:=omega)only[QM,QD]
 by_cases h4:a<=840
 case neg=>rw[show validI f a b c=false from decide_eq_false (by omega)];simp(disch:=omega)only[QM,QD]
 by_cases h5:0<=b
 case neg=>rw[show validI f a b c=false from decide_eq_false (by omega)];simp(disch:=omega)only[QM,QD]
 by_cases h6:b<=840
 case neg=>rw[show validI f a b c=false from decide_eq_false (by omega)];simp(disch:=omega)only[QM,QD]
 by_cases h7:0<=c
 case neg=>rw[show validI f a b c=false from decide_eq_false (by omega)];simp(disch:=omega)only[QM,QD]
 by_cases h8:c<=840
 case neg=>rw[show validI f a b c=false from decide_eq_false (by omega)];simp(disch:=omega)only[QM,QD]
 by_cases h9:a+b+c=840
 ·rw[show validI f a b c=true from decide_eq_true (by omega)];simp(disch:=omega)only[QM,QD]
 ·rw[show validI f a b c=false from decide_eq_false (by omega)];simp(disch:=omega)only[QM,QD]
theorem twenty {f:Nat} (h:f<20):f=0\/f=1\/f=2\/f=3\/f=4\/f=5\/f=6\/f=7\/f=8\/f=9\/f=10\/f=11\/f=12\/f=13\/f=14\/f=15\/f=16\/f=17\/f=18\/f=19:=by omega
theorem Sc (fu d f:Nat) (h:f<20):cl fu (d+1) fn_synopticref02_Corners [I f] []=OK (V.tup [V.agg [.v (.int .i64 (crn f).1), .v (.int .i64 (crn f).2.1), .v (.int .i64 (crn f).2.2)],I 0]):=by
 rw[eq_synopticref02_Corners];rcases twenty h with rfl|rfl|rfl|rfl|rfl|rfl|rfl|rfl|rfl|rfl|rfl|rfl|rfl|rfl|rfl|rfl|rfl|rfl|rfl|rfl<;>(show @Eq (Option Out) _ _;kernel_rfl)
theorem Ky (fu d:Nat) (p:Pl) (h:p.ok):cl fu (d+2) fn_synopticref02_Weights [V.agg (plc p)] []=OK (V.agg (wcs (wt p))):=by
 obtain⟨f,a,b,c⟩:=p;unfold plc;rw[eq_synopticref02_Weights];simp only;rw[Sc fu d f h.1];have hf:f<20:=h.1;rcases twenty hf with rfl|rfl|rfl|rfl|rfl|rfl|rfl|rfl|rfl|rfl|rfl|rfl|rfl|rfl|rfl|rfl|rfl|rfl|rfl|rfl<;>(show @Eq (Option Out) _ _;kernel_rfl)
theorem sp_ref_On (fu d:Nat) (w:Nat->Nat) (hw: ∀v,w v<=840) (f:Nat) (h:f<20):cl fu (d+2) fn_synopticref02_On [I f,V.agg (wcs w)] []=OK (V.tup [V.agg (plc (onW w f)),B (onW w f).full]):=by
 have e:cl fu (d+2) fn_synopticref02_On [I f,V.agg (wcs w)] []=OK (V.tup [V.agg (plc (onW w f)),B (IntKind.i64.wrap (IntKind.i64.wrap ((w (crn f).1:Int)+(w (crn f).2.1:Int))+(w (crn f).2.2:Int))==840)]):=by
  rw[eq_synopticref02_On,Sc fu d f h];rcases twenty h with rfl|rfl|rfl|rfl|rfl|rfl|rfl|rfl|rfl|rfl|rfl|rfl|rfl|rfl|rfl|rfl|rfl|rfl|rfl|rfl<;>(show @Eq (Option Out) _ _;kernel_rfl)
 rw[e];have h1:=hw (crn f).1;have h2:=hw (crn f).2.1;have h3:=hw (crn f).2.2;simp(disch:=omega)only[X6];have e2:((w (crn f).1:Int)+(w (crn f).2.1:Int)+(w (crn f).2.2:Int)==840)=(onW w f).full:=by
  rw[Bool.eq_iff_iff,Sb,beq_iff_eq];show _↔w (crn f).1+w (crn f).2.1+w (crn f).2.2=840;omega
 rw[e2]
def addrsTo (w:Nat->Nat) (j:Nat):List Pl:=((List.range j).map (onW w)).filter Pl.full
theorem Qh (w:Nat->Nat) (j:Nat):addrsTo w (j+1)=if(onW w j).full then addrsTo w j++[onW w j]else addrsTo w j:=by
 unfold addrsTo;rw[List.range_succ,List.map_append,List.filter_append];simp only[List.map_cons,List.map_nil,List.filter_cons,List.filter_nil];split<;>simp
theorem Kz (w:Nat->Nat) (j:Nat):(addrsTo w j).length<=j:=by
 unfold addrsTo;refine Nat.le_trans (List.length_filter_le _ _) ?_;simp
theorem wt_le {p:Pl} (h:p.ok) (v:Nat):wt p v<=840:=by
 have h2:=h.2;unfold wt wt3
 (repeat' split)<;>omega
theorem pl_snoc (l:List Pl) (q:Pl):fl plc l++[.v (.int .i64 q.f), .v (.int .i64 q.a), .v (.int .i64 q.b), .v (.int .i64 q.c)]=fl plc (l++[q]):=Ph l q
theorem Yl (l:List Pl):l.length*4/4=l.length:=Nat.mul_div_cancel _ (by omega)
theorem W7 (w:Nat->Nat):putAt [C.v (.int .i64 0),C.v (.int .i64 0),C.v (.int .i64 0),C.v (.int .i64 0),C.v (.int .i64 0),C.v (.int .i64 0),C.v (.int .i64 0),C.v (.int .i64 0),C.v (.int .i64 0),C.v (.int .i64 0),C.v (.int .i64 0),C.v (.int .i64 0)] 0 (wcs w)=wcs w:=id rfl
theorem Cr (w:Nat->Nat):List.take 12 (wcs w)=wcs w:=id rfl
theorem K0 (w:Nat->Nat):(wcs w).length=12:=id rfl
theorem Nj (fu d:Nat) (hf:18446744073709551616<=fu) (p:Pl) (h:p.ok):
  cl fu (d+3) fn_synopticref02_Addresses [V.agg (plc p)] []=OK (V.tup [V.c (C.sl (addrs p).length (fl plc (addrs p))),I 0]):=by
 have e1:=Ky fu d p h;have hv:=H3 h;unfold plc at e1⊢;rw[eq_synopticref02_Addresses,Fy,hv,e1];simp only[QM,W7,Cr,K0,Nat.zero_add,show Nat.ble 12 12=true from rfl];rw[show(([]:List C),(0:Int),())=(λj:Nat=>(fl plc (addrsTo (wt p) j),(j:Int),())) 0 from rfl,Pa (λj:Nat=>(fl plc (addrsTo (wt p) j),(j:Int),())) 0 (fl plc (addrsTo (wt p) 20),(20:Int),()) 20 0 fu ?_ ?_ (by omega)]
 ·simp(disch:=omega)only[QM,QD,Zg Zj,Yl,Nat.zero_add];rw[List.take_of_length_le (by rw[Zg Zj];omega)];rfl
 ·intro j _ hj;have hl:=Kz (wt p) j;rw[Qh];have e2:=sp_ref_On fu d (wt p) (wt_le h) j (by omega);unfold plc at e2;simp(disch:=omega)only[QM,QD,e2,Zg Zj,Yl,List.length_cons,List.length_nil,Nat.zero_add,Nat.reduceAdd];cases hfull:(onW (wt p) j).full with
  |true=>
   simp(disch:=omega)only[QM,QD,pl_snoc,Zg Zj,List.length_append,List.length_cons,List.length_nil,Nat.zero_add,if_true,Int.natCast_add,Int.natCast_one]
  |false=>
   simp(disch:=omega)only[QM,QD,Bool.false_eq_true,if_false,Int.natCast_add,Int.natCast_one]
 ·simp(disch:=omega)only[QM,QD,Zg Zj,Yl,Nat.zero_add];rfl
end Go.Proofs.YtjmempcalaliiaaGreatDoor
/- Places, continued: the normal place; the program's functions. -/
namespace Go.Proofs.YtjmempcalaliiaaGreatDoor
open Go Go.PM Go.Grid
theorem S5 (fu d:Nat) (hf:18446744073709551616<=fu) (p:Pl) (h:p.ok):cl fu (d+4) fn_synopticref02_Normal [V.agg (plc p)] []=OK (V.tup [V.agg (plc (norm p)),I 0]):=by
 have e1:=Nj fu d hf p h;obtain⟨r,hr⟩:=Sr h;rw[hr]at e1;unfold plc at e1⊢;rw[eq_synopticref02_Normal,e1];simp(disch:=omega)only[QM,QD,Vf,plc,List.cons_append,List.nil_append,List.length_cons]
theorem Fz (p q:Pl):((p.f:Int)==q.f&&((p.a:Int)==q.a&&((p.b:Int)==q.b&&(p.c:Int)==q.c)))=decide (p=q):=by
 obtain⟨f,a,b,c⟩:=p;obtain⟨f',a',b',c'⟩:=q;rw[Bool.eq_iff_iff];simp only[Bool.and_eq_true,beq_iff_eq,decide_eq_true_eq,Pl.mk.injEq];omega
theorem Mv (fu d:Nat) (hf:18446744073709551616<=fu) (p:Pl) (h:p.ok):cl fu (d+5) fn_synopticref02_IsNormal [V.agg (plc p)] []=OK (B (isN p)):=by
 have e1:=S5 fu d hf p h;unfold plc at e1⊢;rw[eq_synopticref02_IsNormal,e1];simp(disch:=omega)only[QM,QD,List.length_cons,List.length_nil,Fz,Nat.reduceAdd];unfold isN;rw[show decide (p=norm p)=decide (norm p=p) from by rw[Bool.eq_iff_iff];simp[eq_comm]]
theorem sp_face (fu d:Nat) (f:Int):cl fu (d+1) fn_place_face [I f] []=OK (B (decide (0<=f/\f<20))):=by
 rw[eq_place_face];by_cases h1:0<=f
 ·simp(disch:=omega)only[QM,QD];by_cases h2:f<20
  ·rw[dlt_t h2,decide_eq_true ⟨h1,h2⟩]
  ·rw[dlt_f (by omega),decide_eq_false (by omega)]
 ·rw[decide_eq_false (by omega: ¬(0<=f/\f<20))];simp(disch:=omega)only[QM,QD]
theorem Cs (fu d:Nat) (hf:18446744073709551616<=fu) (f a b c:Int):cl fu (d+2) fn_place_Valid [V.agg [.v (.int .i64 f), .v (.int .i64 a), .v (.int .i64 b), .v (.int .i64 c)]] []=OK (B (validI f a b c)):=by
 rw[eq_place_Valid,sp_face];obtain⟨fu',rfl⟩: ∃n,fu=n+4:=⟨fu-4,by omega⟩;by_cases h3:0<=a
 case neg=>rw[show validI f a b c=false from decide_eq_false (by omega)];rw[Q0];simp(disch:=omega)only[QM,QD,Int.toNat_zero,Nat.zero_mul,List.drop_zero]
 by_cases h4:a<=840
 case neg=>rw[show validI f a b c=false from decide_eq_false (by omega)];rw[Q0];simp(disch:=omega)only[QM,QD,Int.toNat_zero,Nat.zero_mul,List.drop_zero]
 by_cases h5:0<=b
 case neg=>rw[show validI f a b c=false from decide_eq_false (by omega)];rw[Q0];simp(disch:=omega)only[QM,QD,Int.toNat_zero,Nat.zero_mul,List.drop_zero,Int.zero_add,Q0,Int.toNat_one,Nat.one_mul,List.drop_succ_cons]
 by_cases h6:b<=840
 case neg=>rw[show validI f a b c=false from decide_eq_false (by omega)];rw[Q0];simp(disch:=omega)only[QM,QD,Int.toNat_zero,Nat.zero_mul,List.drop_zero,Int.zero_add,Q0,Int.toNat_one,Nat.one_mul,List.drop_succ_cons]
 by_cases h7:0<=c
 case neg=>rw[show validI f a b c=false from decide_eq_false (by omega)];rw[Q0];simp(disch:=omega)only[QM,QD,Int.toNat_zero,Nat.zero_mul,List.drop_zero,Int.zero_add,Q0,Int.toNat_one,Nat.one_mul,List.drop_succ_cons,Int.reduceAdd,Int.reduceToNat]
 by_cases h8:c<=840
 case neg=>rw[show validI f a b c=false from decide_eq_false (by omega)];rw[Q0];simp(disch:=omega)only[QM,QD,Int.toNat_zero,Nat.zero_mul,List.drop_zero,Int.zero_add,Q0,Int.toNat_one,Nat.one_mul,List.drop_succ_cons,Int.reduceAdd,Int.reduceToNat]
 simp(disch:=omega)only[QM,QD,Int.toNat_zero,Nat.zero_mul,List.drop_zero,Int.zero_add,Q0,Int.toNat_one,Nat.one_mul,List.drop_succ_cons,Int.reduceAdd,Int.reduceToNat];by_cases h1:0<=f/\f<20
 ·rw[decide_eq_true h1];by_cases h9:a+b+c=840
  ·rw[show validI f a b c=true from decide_eq_true (by omega)];simp(disch:=omega)only[QM,QD]
  ·rw[show validI f a b c=false from decide_eq_false (by omega)];simp(disch:=omega)only[QM,QD]
 ·rw[decide_eq_false h1,show validI f a b c=false from decide_eq_false (by omega)];simp(disch:=omega)only[QM,QD]
theorem sp_of (fu d:Nat) (p:Pl) (h:p.ok):cl fu (d+1) fn_place_of [V.agg (plc p)] []=OK (V.agg (wcs (wt p))):=by
 obtain⟨f,a,b,c⟩:=p;unfold plc;rw[eq_place_of];have hf:f<20:=h.1;rcases twenty hf with rfl|rfl|rfl|rfl|rfl|rfl|rfl|rfl|rfl|rfl|rfl|rfl|rfl|rfl|rfl|rfl|rfl|rfl|rfl|rfl<;>(show @Eq (Option Out) _ _;kernel_rfl)
theorem A5 {w:Nat->Nat} (hw: ∀v,w v<=840) {f:Nat} (h:f<20):validI (onW w f).f (onW w f).a (onW w f).b (onW w f).c=(onW w f).full:=by
 have h1:=hw (crn f).1;have h2:=hw (crn f).2.1;have h3:=hw (crn f).2.2;rw[Bool.eq_iff_iff,Sb];unfold validI;rw[decide_eq_true_eq];show(0:Int)<=(f:Nat)/\((f:Nat):Int)<20/\(0:Int)<=((w (crn f).1:Nat):Int)/\((w (crn f).1:Nat):Int)<=840/\(0:Int)<=((w (crn f).2.1:Nat):Int)/\((w (crn f).2.1:Nat):Int)<=840/\(0:Int)<=((w (crn f).2.2:Nat):Int)/\((w (crn f).2.2:Nat):Int)<=840/\((w (crn f).1:Nat):Int)+((w (crn f).2.1:Nat):Int)+((w (crn f).2.2:Nat):Int)=840↔w (crn f).1+w (crn f).2.1+w (crn f).2.2=840;omega
theorem sp_on (fu d:Nat) (hf:18446744073709551616<=fu) (w:Nat->Nat) (hw: ∀v,w v<=840) (f:Nat) (h:f<20):cl fu (d+3) fn_place_on [I f,V.agg (wcs w)] []=OK (V.tup [V.agg (plc (onW w f)),B (onW w f).full]):=by
 have e:cl fu (d+3) fn_place_on [I f,V.agg (wcs w)] []=((cl fu (d+2) fn_place_Valid [V.agg (plc (onW w f))] []).bind λout=>rC out.r λc6=>asB c6 λb=>OK (V.tup [V.agg (plc (onW w f)),B b])):=by
  rw[eq_place_on];rcases twenty h with rfl|rfl|rfl|rfl|rfl|rfl|rfl|rfl|rfl|rfl|rfl|rfl|rfl|rfl|rfl|rfl|rfl|rfl|rfl|rfl<;>(show @Eq (Option Out) _ _;kernel_rfl)
 rw[e];unfold plc;rw[Cs fu d hf,A5 hw h];simp only[QM]
theorem Pj {w:Nat->Nat}: ∀{k:Nat},(∀j,j<k->(onW w j).full=false)->addrsTo w k=[]
 |0,_=>rfl
 |k+1,h=>by rw[Qh,h k (by omega),Pj (λj hj=>h j (by omega))];rfl
theorem S6 {w:Nat->Nat} {k:Nat} (hk:(onW w k).full=true) (h: ∀j,j<k->(onW w j).full=false): ∀n,k<n-> ∃r,addrsTo w n=onW w k::r
 |0,hn=>by omega
 |n+1,hn=>by
  by_cases e:k=n
  ·subst e;exact⟨[],by rw[Qh,hk,Pj h];rfl⟩
  ·obtain⟨r,hr⟩:=S6 hk h n (by omega);rw[Qh,hr];split
   ·exact⟨r++[onW w n],rfl⟩
   ·exact⟨r,rfl⟩
theorem H4 (fu d:Nat) (hf:18446744073709551616<=fu) (p:Pl) (h:p.ok):cl fu (d+4) fn_place_Normal [V.agg (plc p)] []=OK (V.tup [V.agg (plc (norm p)),I 0]):=by
 have e1:=sp_of fu (d+2) p h;have hv:=H3 h;unfold plc at e1⊢;rw[eq_place_Normal,Cs fu (d+1) hf,hv,e1];simp only[QM,W7,Cr,K0,Nat.zero_add,show Nat.ble 12 12=true from rfl];obtain⟨r,hr⟩:=Sr h;have hm:=Pg h;obtain⟨k,hk,hke,hkl⟩: ∃k,k<20/\onW (wt p) k=norm p/\ ∀j,j<k->(onW (wt p) j).full=false:=by
  rcases Ua (λj=>(onW (wt p) j).full=true) 20 with h0|⟨k,h1,h2,h3⟩
  ·exfalso;obtain⟨g,g1,g2,g3⟩:=Sq.1 hm;exact h0 g g1 (by rw[g2];exact Sb.2 g3)
  ·refine⟨k,h1, ?_,λj hj=>by simpa using h3 j hj⟩;obtain⟨r',this⟩:=S6 h2 (λj hj=>by simpa using h3 j hj) 20 h1;have this:addrs p=onW (wt p) k::r':=this;rw[hr]at this;exact(List.cons.inj this).1.symm
 rw[show((0:Int),(0:Int),((0:Int),(0:Int),(0:Int),(0:Int),()),())=(λj:Nat=>((0:Int),(j:Int),((0:Int),(0:Int),(0:Int),(0:Int),()),())) 0 from rfl,Pa (λj:Nat=>((0:Int),(j:Int),((0:Int),(0:Int),(0:Int),(0:Int),()),())) 1 (0,(k:Int),((norm p).f,(norm p).a,(norm p).b,(norm p).c,()),()) k 0 fu ?_ ?_ (by omega)]
 ·simp only[QM]
 ·intro j _ hj;have e2:=sp_on fu d hf (wt p) (wt_le h) j (by omega);rw[hkl j (by omega)]at e2;unfold plc at e2;simp(disch:=omega)only[QM,QD,e2,List.length_cons,List.length_nil,Nat.zero_add,Nat.reduceAdd,Int.natCast_add,Int.natCast_one]
 ·have e2:=sp_on fu d hf (wt p) (wt_le h) k hk;rw[hke,Sb.2 (M3 h).2]at e2;unfold plc at e2;simp(disch:=omega)only[QM,QD,e2,List.length_cons,List.length_nil,Nat.zero_add,Nat.reduceAdd]
end Go.Proofs.YtjmempcalaliiaaGreatDoor
/- The nodes of the grids as they are collected; a map from the nodes to their numbers: plain laws. -/
namespace Go.Grid
def pre (n f i j:Nat):List Pl:=(List.range f).flatMap (face n)++((List.range i).flatMap (row n f)++(List.range j).map (pt n f i))
def upTo (n f i j:Nat):List Pl:=(pre n f i j).filter isN
theorem pre_j (n f i j:Nat):pre n f i (j+1)=pre n f i j++[pt n f i j]:=by
 unfold pre;rw[List.range_succ,List.map_append];simp[List.append_assoc]
theorem pre_i (n f i:Nat):pre n f i (n+1-i)=pre n f (i+1) 0:=by
 unfold pre;rw[List.range_succ,List.flatMap_append];simp[row]
theorem pre_f (n f:Nat):pre n f (n+1) 0=pre n (f+1) 0 0:=by
 unfold pre;rw[List.range_succ (n:=f),List.flatMap_append];simp[face]
theorem pre_end (n:Nat):pre n 20 0 0=pts n:=by unfold pre pts;simp
theorem upTo_j (n f i j:Nat):upTo n f i (j+1)=if norm (pt n f i j)=pt n f i j then upTo n f i j++[pt n f i j]else upTo n f i j:=by
 unfold upTo;rw[pre_j,List.filter_append];simp only[List.filter_cons,List.filter_nil,isN,decide_eq_true_eq];split<;>simp
theorem pre_lt {n f i j:Nat} (h:freq n) {q:Pl} (hq:q∈pre n f i j):plt q (pt n f i j):=by
 have hst:=X9 h;have hmul: ∀{i j:Nat},i<j->i*(840/n)<j*(840/n):=λhij=>Nat.mul_lt_mul_of_pos_right hij (by omega);simp only[pre,List.mem_append,List.mem_flatMap,List.mem_range,List.mem_map,face,row]at hq;rcases hq with⟨f',h1,i',_,j',_,rfl⟩|⟨i',h1,j',_,rfl⟩|⟨j',h1,rfl⟩
 ·exact .inl h1
 ·exact .inr ⟨rfl, .inl (hmul h1)⟩
 ·exact .inr ⟨rfl, .inr ⟨rfl,hmul h1⟩⟩
theorem upTo_not {n f i j:Nat} (h:freq n):pt n f i j∉upTo n f i j:=λhm=>Rm _ (pre_lt h (List.mem_filter.1 hm).1)
theorem Xp {B:Type} {g:Nat->List B} {m:Nat} (h: ∀x,(g x).length<=m): ∀k,((List.range k).flatMap g).length<=k*m
 |0=>by simp
 |k+1=>by
  rw[List.range_succ,List.flatMap_append,List.length_append,Nat.succ_mul];have:=Xp h k;have:=h k;simp only[List.flatMap_cons,List.flatMap_nil,List.append_nil];omega
theorem row_le (n f i:Nat) (h:n<=8):(row n f i).length<=9:=by unfold row;simp;omega
theorem face_le (n f:Nat) (h:n<=8):(face n f).length<=81:=by
 unfold face;have:=Xp (g:=row n f) (λi=>row_le n f i h) (n+1);omega
theorem Yy {n f i j:Nat} (h:freq n) (hf:f<=20) (hi:i<=9) (hj:j<=9):(upTo n f i j).length<=2000:=by
 refine Nat.le_trans (List.length_filter_le _ _) ?_;unfold pre;rw[List.length_append,List.length_append,List.length_map,List.length_range];have h1:=Xp (g:=face n) (λf=>face_le n f h.2) f;have h2:=Xp (g:=row n f) (λi=>row_le n f i h.2) i;omega
theorem Ct (n:Nat):upTo n 20 0 0=nodes n:=by unfold upTo;rw[pre_end];rfl
theorem isN_inner {p:Pl} (h:p.ok) (ha:0<p.a) (hb:0<p.b) (hc:0<p.c):isN p=true:=decide_eq_true (Aw h ha hb hc)
end Go.Grid
/- The nodes of a grid where the net is handed out as a new object. -/
namespace Go.Proofs.YtjmempcalaliiaaGreatDoor
open Go Go.PM Go.Grid
theorem H5 (p q:Pl):eqT Tryz.prog 20 ty_api_Place (plc p) (plc q)=some (decide (p=q)):=by
 have:eqT Tryz.prog 20 ty_api_Place (plc p) (plc q)=some ((p.f:Int)==q.f&&((p.a:Int)==q.a&&((p.b:Int)==q.b&&((p.c:Int)==q.c&&true)))):=by kernel_rfl
 rw[this,Bool.and_true,Fz]
def esn:Nat->List Pl->List (List C×List C)
 |_,[]=>[]
 |k,p::r=>(plc p,[.v (.int .i64 k)])::esn (k+1) r
theorem Cu (p:Pl): ∀(l:List Pl) (k:Nat),esn k l++[(plc p,[.v (.int .i64 ((k+l.length:Nat):Int))])]=esn k (l++[p])
 | [],k=>by simp[esn]
 |q::l,k=>by
  simp only[esn,List.cons_append,List.length_cons];rw[<-Cu p l (k+1),show k+(l.length+1)=k+1+l.length by omega]
theorem ceqs_plc (p:Pl):ceqs (plc p) (plc p)=true:=by simp[plc,ceqs,ceq]
theorem W8 {p:Pl}: ∀(l:List Pl) (k i:Nat),p∉l->mfind Tryz.prog ty_api_Place (plc p) (esn k l) i=some none
 | [],k,i,_=>by simp[esn,mfind]
 |q::l,k,i,h=>by
  simp only[esn,mfind,H5];rw[decide_eq_false (λe=>h (by simp[e]))];simp only[cf];exact W8 l (k+1) (i+1) (λe=>h (by simp[e]))
theorem W9 {p:Pl}: ∀(l:List Pl) (k i:Nat),p∈l->mfind Tryz.prog ty_api_Place (plc p) (esn k l) i=some (some (i+l.idxOf p,[.v (.int .i64 ((k+l.idxOf p:Nat):Int))]))
 | [],k,i,h=>by cases h
 |q::l,k,i,h=>by
  simp only[esn,mfind,H5];by_cases e:p=q
  ·subst e;rw[decide_eq_true rfl];simp[ceqs_plc,need]
  ·rw[decide_eq_false e];simp only[cf];have hm:p∈l:=by rcases List.mem_cons.1 h with h|h;exact absurd h e;exact h
   rw[W9 l (k+1) (i+1) hm,List.idxOf_cons];have:(q==p)=false:=by simpa using Ne.symm e
   rw[this];simp only[cond_false];rw[show i+1+l.idxOf p=i+(l.idxOf p+1) by omega,show k+1+l.idxOf p=k+(l.idxOf p+1) by omega]
theorem mput_none (es:List (List C×List C)) (k v:List C):mput es none k v=es++[(k,v)]:=id rfl
abbrev netC (n:Nat) (l:List Pl):List C:=[.v (.int .i64 n), .v (.int .i64 ((840/n:Nat):Int)),C.sl l.length (fl plc l),C.mp ty_api_Place ty_int (some 4) none (esn 0 l),C.nl,C.nl,C.nl]
abbrev netS (n:Nat) (l:List Pl):Int×Int×List C×List (List C×List C)×C×C×C×Unit:=((n:Int),((840/n:Nat):Int),fl plc l,esn 0 l,C.nl,C.nl,C.nl,())
theorem K1 {n:Nat} (h:freq n):IntKind.i64.wrap (Int.tdiv 840 n)=((840/n:Nat):Int):=by
 rcases X0 h with rfl|rfl|rfl|rfl|rfl|rfl|rfl|rfl<;>rfl
theorem Sd {n i:Nat} (h:freq n) (hi:i<=n):i*(840/n)<=840:=by
 have:=Nat.mul_le_mul_right (840/n) hi;rw[Qw h]at this;exact this
theorem Vv {n i:Nat} (h:freq n) (hi:i<=n):IntKind.i64.wrap ((i:Int)*((840/n:Nat):Int))=((i*(840/n):Nat):Int):=by
 have:=Sd h hi;rw[show((i:Int)*((840/n:Nat):Int))=((i*(840/n):Nat):Int) from(Int.natCast_mul _ _).symm];exact X6 (Int.le_trans (by decide) (Int.natCast_nonneg _)) (Int.le_trans (Int.ofNat_le.2 this) (by decide))
theorem Se (l:List Pl) (f a b c:Nat):fl plc l++[.v (.int .i64 f), .v (.int .i64 a), .v (.int .i64 b), .v (.int .i64 c)]=fl plc (l++[⟨f,a,b,c⟩]):=Ph l ⟨f,a,b,c⟩
theorem esn_snoc' (l:List Pl) (f a b c:Nat):esn 0 l++[([.v (.int .i64 f), .v (.int .i64 a), .v (.int .i64 b), .v (.int .i64 c)],[.v (.int .i64 (l.length:Int))])]=esn 0 (l++[⟨f,a,b,c⟩]):=by
 have:=Cu ⟨f,a,b,c⟩ l 0;rw[Nat.zero_add]at this;exact this
theorem A6 (fu d:Nat) (hf:18446744073709551616<=fu) (n:Nat) (h:freq n):cl fu (d+5) fn_mesh_Points [I n] []=some ⟨V.ptr 1000000 0,[.ob ty_mesh_Net 0 (netC n (nodes n))],none⟩:=by
 have hn:=h;unfold freq at hn;rw[eq_mesh_Points,K1 h,show(!((n:Int)==0))=true from by rw[Nh (by omega)];rfl,Ht];rw[Zh (λf:Nat=>((f:Int),netS n (upTo n f 0 0),())) 0 ((20:Int),netS n (upTo n 20 0 0),()) 20 ?_ ?_ ?_ (by omega)]
 ·rw[Ct];simp(disch:=omega)only[QM,QD,Zg Zj,Yl,Nat.zero_add];rw[List.take_of_length_le (by rw[Zg Zj];omega)]
 ·rfl
 ·intro f hf';have hl:(upTo n f 0 0).length<=2000:=Yy h (by omega) (by omega) (by omega);simp(disch:=omega)only[QM,QD,Zg Zj,Yl];rw[Zh (λi:Nat=>((i:Int),netS n (upTo n f i 0),())) 0 (((n+1:Nat):Int),netS n (upTo n f (n+1) 0),()) (n+1) ?_ ?_ ?_ (by omega)]
  ·have hl:(upTo n f (n+1) 0).length<=2000:=Yy h (by omega) (by omega) (by omega);simp(disch:=omega)only[QM,QD,Zg Zj,Yl,Int.natCast_add,Int.natCast_one];unfold upTo;rw[pre_f]
  ·rfl
  ·intro i hi;have hl:(upTo n f i 0).length<=2000:=Yy h (by omega) (by omega) (by omega);simp(disch:=omega)only[QM,QD,Zg Zj,Yl];rw[Zh (λj:Nat=>((j:Int),netS n (upTo n f i j),())) 0 (((n+1-i:Nat):Int),netS n (upTo n f i (n+1-i)),()) (n+1-i) ?_ ?_ ?_ (by omega)]
   ·have hl:(upTo n f i (n+1-i)).length<=2000:=Yy h (by omega) (by omega) (by omega);simp(disch:=omega)only[QM,QD,Zg Zj,Yl,Int.natCast_add,Int.natCast_one];unfold upTo;rw[pre_i]
   ·rfl
   ·intro j hj;have hl:(upTo n f i j).length<=2000:=Yy h (by omega) (by omega) (by omega);have hnot:=upTo_not (f:=f) (i:=i) (j:=j) h;have hc:IntKind.i64.wrap (((n:Int)-(i:Int)-(j:Int))*((840/n:Nat):Int))=(((n-i-j)*(840/n):Nat):Int):=by
     rw[show(n:Int)-i-j=((n-i-j:Nat):Int) by omega,Vv h (by omega)]
    have e2:=H4 fu d hf (pt n f i j) (pt_ok h hf' (by omega));have e3:=W8 (upTo n f i j) 0 0 hnot;have e4:=Fz (norm (pt n f i j)) (pt n f i j);have e5:=upTo_j n f i j;generalize hz:decide (norm (pt n f i j)=pt n f i j)=z at e4;replace e5:upTo n f i (j+1)=bif z then upTo n f i j++[pt n f i j]else upTo n f i j:=by
     cases z with
     |true=>rw[e5,if_pos (of_decide_eq_true hz)];rfl
     |false=>rw[e5,if_neg (of_decide_eq_false hz)];rfl
    clear hz;simp only[plc]at e2 e3;generalize norm (pt n f i j)=q at e2 e4 e5;simp only[pt]at e2 e3 e4 e5;simp(disch:=omega)only[QM,QD,hc,Vv h (show i<=n by omega),Vv h (show j<=n by omega),e2,e4,List.length_cons,List.length_nil,Nat.zero_add,Nat.reduceAdd,Zg Zj,Yl];rw[e5];cases z with
    |true=>
     simp(disch:=omega)only[QM,QD,mfd,e3,mput_none,Se,esn_snoc',Zg Zj,Yl,List.length_append,List.length_cons,List.length_nil,Nat.zero_add,Int.natCast_add,Int.natCast_one]
    |false=>
     simp(disch:=omega)only[QM,QD,Int.natCast_add,Int.natCast_one]
   ·have hl:(upTo n f i (n+1-i)).length<=2000:=Yy h (by omega) (by omega) (by omega);simp(disch:=omega)only[QM,QD,Zg Zj,Yl]
  ·have hl:(upTo n f (n+1) 0).length<=2000:=Yy h (by omega) (by omega) (by omega);simp(disch:=omega)only[QM,QD,Zg Zj,Yl]
 ·have hl:(upTo n 20 0 0).length<=2000:=Yy h (by omega) (by omega) (by omega);simp(disch:=omega)only[QM,QD,Zg Zj,Yl];rfl
end Go.Proofs.YtjmempcalaliiaaGreatDoor
/- Rules that keep simp at what comes first: nothing behind it is looked at (attribute [local congr] in the texts that use them). -/
namespace Go.PM
open Go
def hdt {A:Type} (x:A):A:=x
theorem Zc {A:Type} (x:A):hdt x=x:=id rfl
theorem out0:Nat.beq 1000000 (OUT+0)=true:=id rfl
theorem out1:Nat.beq 1000001 (OUT+1)=true:=id rfl
theorem out2:Nat.beq 1000002 (OUT+2)=true:=id rfl
section
variable {R A B':Type}
theorem Zr {x x':Option A} {k:A->Option B'} (h:hdt x=x'):x.bind k=x'.bind k:=by rw[<-h];rfl
theorem Zs {b b':Bool} {k:Option R} (h:hdt b=b'):need b k=need b' k:=by rw[<-h];rfl
theorem Zt {b b':Bool} {x y:R} (h:hdt b=b'):(bif b then x else y)=(bif b' then x else y):=by rw[<-h];rfl
theorem Ya {c c':List C} {k:C->List C->Option R} (h:hdt c=c'):unc c k=unc c' k:=by rw[<-h];rfl
theorem Zu {c c':List V} {k:V->List V->Option R} (h:hdt c=c'):uncV c k=uncV c' k:=by rw[<-h];rfl
theorem Zv {c c':List PM.Obj} {k:PM.Obj->List PM.Obj->Option R} (h:hdt c=c'):uncO c k=uncO c' k:=by rw[<-h];rfl
theorem Yb {c c':List (List V)} {k:List V->List (List V)->Option R} (h:hdt c=c'):unI c k=unI c' k:=by rw[<-h];rfl
theorem Yc {kd:IntKind} {c c':C} {k:Int->Option R} (h:hdt c=c'):asI kd c k=asI kd c' k:=by rw[<-h];rfl
theorem Yd {c c':C} {k:Bool->Option R} (h:hdt c=c'):asB c k=asB c' k:=by rw[<-h];rfl
theorem Ye {c c':C} {k:ByteArray->Option R} (h:hdt c=c'):asS c k=asS c' k:=by rw[<-h];rfl
theorem Zw {c c':C} {k:Nat->List C->Option R} (h:hdt c=c'):asSl c k=asSl c' k:=by rw[<-h];rfl
theorem Zx {c c':C} {k:FuncId->List C->Option R} (h:hdt c=c'):asFn c k=asFn c' k:=by rw[<-h];rfl
theorem Yf {c c':C} {k:List C->Option R} (h:hdt c=c'):asP c k=asP c' k:=by rw[<-h];rfl
theorem Zy {c c':C} {ky:Nat->Option R} {k:FuncId->List C->Option R} (h:hdt c=c'):asYF c ky k=asYF c' ky k:=by rw[<-h];rfl
theorem Y5 {x x':V} {k:C->Option R} (h:hdt x=x'):rC x k=rC x' k:=by rw[<-h];rfl
theorem Y6 {x x':V} {k:List C->Option R} (h:hdt x=x'):rA x k=rA x' k:=by rw[<-h];rfl
theorem Y7 {x x':V} {k:List V->Option R} (h:hdt x=x'):rT x k=rT x' k:=by rw[<-h];rfl
theorem Y8 {x x':V} {k:List V->Option R} (h:hdt x=x'):rG x k=rG x' k:=by rw[<-h];rfl
theorem Y9 {x x':V} {m:Nat} {k:Option R} (h:hdt x=x'):rP x m k=rP x' m k:=by rw[<-h];rfl
theorem Xa {x x':V} {m:Nat} {k:Nat->Option R} (h:hdt x=x'):rW x m k=rW x' m k:=by rw[<-h];rfl
theorem Xb {o o':PM.Obj} {t fz:Nat} {k:List C->Option R} (h:hdt o=o'):rO o t fz k=rO o' t fz k:=by rw[<-h];rfl
theorem Xc {o o':PM.Obj} {t n:Nat} {k:List C->Option R} (h:hdt o=o'):rN o t n k=rN o' t n k:=by rw[<-h];rfl
theorem Xd {o o':PM.Obj} {t:Nat} {k:Nat->List C->Option R} (h:hdt o=o'):rF o t k=rF o' t k:=by rw[<-h];rfl
theorem Xe {o o':PM.Obj} {t fz:Nat} {k:List C->Option R} (h:hdt o=o'):rS o t fz k=rS o' t fz k:=by rw[<-h];rfl
theorem Zz {x x':List V} {k:Option R} (h:hdt x=x'):nilV x k=nilV x' k:=by rw[<-h];rfl
theorem Z0 {n n':Nat} {a:Option R} {b:Nat->Option R} (h:hdt n=n'):natD n a b=natD n' a b:=by rw[<-h];rfl
theorem Xf {x x':A} {k:A->Option R} (h:hdt x=x'):bd x k=bd x' k:=by rw[<-h];rfl
theorem Z1 {body:A->Option (Nat×A)} {fu:Nat} {x x':A} (h:hdt x=x'):iter body fu x=iter body fu x':=by rw[<-h];rfl
theorem Z2 {I:Type} {body:I->A->Option (Nat×A)} {l l':List I} {x x':A} (h1:hdt l=l') (h:hdt x=x'):overK body l x=overK body l' x':=by rw[<-h,<-h1];rfl
theorem Zm {sz:Nat} {lo lo' hi hi':Option V} {c c':C} {k:C->Option R} (h1:hdt lo=lo') (h2:hdt hi=hi') (h:hdt c=c'):sliceC sz lo hi c k=sliceC sz lo' hi' c' k:=by rw[<-h,<-h1,<-h2];rfl
theorem Z3 {c c':C} {kt et:TypeId} {ka va:Option Nat} {k:List (List C×List C)->Option R} (h:hdt c=c'):asMp c kt et ka va k=asMp c' kt et ka va k:=by rw[<-h];rfl
end
end Go.PM
/- A grid's cells: what the functions that add them come to. -/
namespace Go.PM
open Go
theorem rPk_ps {R:Type} (g t:Nat) (ps:List PC) (k:List PC->Option R):rPk (.pk g t (.ps ps) none) t k=k ps:=by
 show need (Nat.beq t t) (k ps)=_;rw[show Nat.beq t t=true from Nat.beq_refl t];rfl
theorem uncP_cons {R:Type} (p:PC) (ps:List PC) (k:PC->List PC->Option R):uncP (p::ps) k=k p ps:=id rfl
theorem asPc_c {R:Type} (c:C) (k:C->Option R):asPc (.c c) k=k c:=id rfl
theorem asRw_r {R:Type} (te:TypeId) (row:List C) (k:List C->Option R):asRw te (.r te row) k=k row:=by
 show need (Nat.beq te te) (k row)=_;rw[show Nat.beq te te=true from Nat.beq_refl te];rfl
theorem asRow_r {R:Type} (te:TypeId) (row:List C) (k:List C->Option R):asRow te (.r te row) k=k row:=by
 show need (Nat.beq te te) (k row)=_;rw[show Nat.beq te te=true from Nat.beq_refl te];rfl
theorem asRow_nl {R:Type} (te:TypeId) (k:List C->Option R):asRow te (.c .nl) k=k []:=id rfl
theorem nilP_nil {R:Type} (k:Option R):nilP [] k=k:=id rfl
theorem Nk {R:Type} (te:TypeId) (row cs:List C) (k:List C->Option R) (h:cs.length=row.length):rowBack te row false [.sb te 0 cs] k=k cs:=by
 show need (Nat.beq te te&&Nat.beq cs.length row.length&&Nat.beq 0 0) (k cs)=_;rw[show Nat.beq te te=true from Nat.beq_refl te,h,show Nat.beq row.length row.length=true from Nat.beq_refl _];rfl
theorem rowBack_t {R:Type} (te:TypeId) (row cs:List C) (k:List C->Option R) (h:cs.length=row.length):rowBack te row true [.sb te row.length cs] k=k cs:=by
 show need (Nat.beq te te&&Nat.beq cs.length row.length&&Nat.beq row.length cs.length) (k cs)=_;rw[show Nat.beq te te=true from Nat.beq_refl te,h,show Nat.beq row.length row.length=true from Nat.beq_refl _];rfl
set_option linter.defProp false in
def QE:=And.intro @rPk_ps (And.intro @uncP_cons (And.intro @asPc_c (And.intro @asRw_r (And.intro @asRow_r (And.intro @asRow_nl @nilP_nil)))))
end Go.PM
namespace Go.Proofs.YtjmempcalaliiaaGreatDoor
open Go Go.PM Go.Grid
attribute [local congr] Zr Zs Zt Ya Zu Zv Yb Yc Yd Ye Zw Zx Yf Y5 Y6 Y7 Y8 Y9 Xb Xc Xd Xe Xa Zz Z0 Xf Z1 Z2 Zm Z3 Zy
abbrev netP (n:Nat) (cs:List C):List PC:=[PC.c (C.v (.int .i64 n)),PC.c (C.v (.int .i64 ((840/n:Nat):Int))),PC.c (C.sl (nodes n).length (fl plc (nodes n))),PC.c (C.mp ty_api_Place ty_int (some 4) none (esn 0 (nodes n))),PC.r ty_api_Cell cs,PC.c .nl,PC.c .nl]
abbrev netO (g n:Nat) (cs:List C):PM.Obj:= .pk g ty_mesh_Net (.ps (netP n cs)) none
theorem Z7 {n:Nat} (h:freq n):(nodes n).length<=700:=by
 rw[Xo h];rcases X0 h with rfl|rfl|rfl|rfl|rfl|rfl|rfl|rfl<;>decide
section
variable (fu d:Nat) (hf:18446744073709551616<=fu)
theorem Q1 (f a b c:Nat) (x y z:Int) (h:a<=10000/\b<=10000/\c<=10000) (hx: -10000<=x/\x<=10000) (hy: -10000<=y/\y<=10000) (hz: -10000<=z/\z<=10000):
  cl fu (d+1) fn_mesh_moved [V.agg (plc ⟨f,a,b,c⟩),I x,I y,I z] []=OK (V.agg [C.v (.int .i64 f),C.v (.int .i64 (a+x)),C.v (.int .i64 (b+y)),C.v (.int .i64 (c+z))]):=by
 simp only[plc];rw[eq_mesh_moved,X6 (by omega) (by omega),X6 (by omega) (by omega),X6 (by omega) (by omega)]
include hf
theorem A7 (g n:Nat) (h:freq n) (p:Pl) (hp:p∈pts n) (cs:List C):
  cl fu (d+5) fn_mesh_Net_at [V.ptr 1000000 0,V.agg (plc p)] [netO g n cs]=some ⟨I (idx n p),[netO g n cs],none⟩:=by
 have hok:=Kw h hp;have e1:=H4 fu d hf p hok;have e2:=W9 (nodes n) 0 0 (Cq h hp);simp only[plc]at e1 e2⊢;rw[eqp_mesh_Net_at];simp(disch:=omega)only[Zc,QM,QD,e1,mfd,e2,orZ,List.length_cons,List.length_nil,Nat.zero_add,Nat.reduceAdd];rfl
omit hf in
theorem Pk {α:Type} {le:α->α->Prop} (anti: ∀a b,le a b->le b a->a=b): ∀{p q:List α},p.Perm q->p.Pairwise le->q.Pairwise le->p=q
 | [],q,h,_,_=>(List.nil_perm.1 h).symm
 |a::p,[],h,_,_=>by have:=h.length_eq;simp at this
 |a::p,b::q,h,hp,hq=>by
  rw[List.pairwise_cons]at hp hq;have e:a=b:=by
   have h1:a∈b::q:=h.mem_iff.1 (List.mem_cons_self ..);have h2:b∈a::p:=h.mem_iff.2 (List.mem_cons_self ..);rcases List.mem_cons.1 h1 with h1|h1
   ·exact h1
   ·rcases List.mem_cons.1 h2 with h2|h2
    ·exact h2.symm
    ·exact anti a b (hp.1 b h2) (hq.1 a h1)
  subst e;rw[Pk anti h.cons_inv hp.2 hq.2]
omit hf in
theorem A8 (l:List Int):(sortI l).Perm l:=List.mergeSort_perm ..
omit hf in
theorem sortI_asc (l:List Int):(sortI l).Pairwise (λa b=>a<=b):=by
 have:=List.pairwise_mergeSort (le:=λx y:Int=>decide (x<=y)) (λa b c h1 h2=>by simp at*;omega) (λa b=>by simp;omega) l;exact this.imp λh=>by simpa using h
omit hf in
theorem sortI_eq {l m:List Int} (hp:m.Perm l) (hs:m.Pairwise (λa b=>a<=b)):sortI l=m:=
 Pk (λa b h1 h2=>Int.le_antisymm h1 h2) ((A8 l).trans hp.symm) (sortI_asc l) hs
omit hf in
theorem sortI_3 (i j k:Nat):sortI [(i:Int),j,k]=[((sort3 i j k).1:Int),((sort3 i j k).2.1:Int),((sort3 i j k).2.2:Int)]:=by
 unfold sort3;split<;>split<;>try split
 all_goals
  refine sortI_eq ?_ (by simp;omega);first
  |exact .refl _
  |exact .swap _ _ _
  |exact(List.Perm.swap _ _ _).cons _
  |exact(List.Perm.swap _ _ _).trans ((List.Perm.swap _ _ _).cons _)
  |exact((List.Perm.swap _ _ _).cons _).trans (.swap _ _ _)
  |exact((List.Perm.swap _ _ _).trans ((List.Perm.swap _ _ _).cons _)).trans (.swap _ _ _)
end
end Go.Proofs.YtjmempcalaliiaaGreatDoor
/- A grid's cells, one place after the other. -/
namespace Go.Proofs.YtjmempcalaliiaaGreatDoor
open Go Go.PM Go.Grid
attribute [local congr] Zr Zs Zt Ya Zu Zv Yb Yc Yd Ye Zw Zx Yf Y5 Y6 Y7 Y8 Y9 Xb Xc Xd Xe Xa Zz Z0 Xf Z1 Z2 Zm Z3 Zy
abbrev pl3 (p q r:Pl):List C:=[.v (.int .i64 p.f), .v (.int .i64 p.a), .v (.int .i64 p.b), .v (.int .i64 p.c), .v (.int .i64 q.f), .v (.int .i64 q.a), .v (.int .i64 q.b), .v (.int .i64 q.c), .v (.int .i64 r.f), .v (.int .i64 r.a), .v (.int .i64 r.b), .v (.int .i64 r.c)]
def trC (t:Nat×Nat×Nat):List C:=[.v (.int .i64 t.1), .v (.int .i64 t.2.1), .v (.int .i64 t.2.2)]
theorem Zo (t:Nat×Nat×Nat):(trC t).length=3:=rfl
section
variable (fu d:Nat) (hf:18446744073709551616<=fu)
theorem sp_upward (g n f a b c:Nat) (h:freq n) (hb:a<=840/\b<=840/\c<=840) (cs:List C):
  cl fu (d+2) fn_mesh_Net_upward [V.ptr 1000000 0,V.agg (plc ⟨f,a,b,c⟩)] [netO g n cs]=some ⟨V.agg (pl3 ⟨f,a+840/n,b,c⟩ ⟨f,a,b+840/n,c⟩ ⟨f,a,b,c+840/n⟩),[netO g n cs],none⟩:=by
 have hs:=X9 h;have m1:=Q1 fu d f a b c ((840/n:Nat):Int) 0 0 (by omega) (by omega) (by omega) (by omega);have m2:=Q1 fu d f a b c 0 ((840/n:Nat):Int) 0 (by omega) (by omega) (by omega) (by omega);have m3:=Q1 fu d f a b c 0 0 ((840/n:Nat):Int) (by omega) (by omega) (by omega) (by omega);simp only[plc]at m1 m2 m3⊢;rw[eqp_mesh_Net_upward];simp(disch:=omega)only[Zc,QM,QD,m1,m2,m3,List.length_cons,List.length_nil,Nat.zero_add,Nat.reduceAdd,Int.add_zero];rfl
theorem Cv (g n f a b c:Nat) (h:freq n) (hb:a<=840/\b<=840/\c<=840) (cs:List C):
  cl fu (d+2) fn_mesh_Net_downward [V.ptr 1000000 0,V.agg (plc ⟨f,a,b,c⟩)] [netO g n cs]=some ⟨V.agg (pl3 ⟨f,a,b+840/n,c+840/n⟩ ⟨f,a+840/n,b,c+840/n⟩ ⟨f,a+840/n,b+840/n,c⟩),[netO g n cs],none⟩:=by
 have hs:=X9 h;have m1:=Q1 fu d f a b c 0 ((840/n:Nat):Int) ((840/n:Nat):Int) (by omega) (by omega) (by omega) (by omega);have m2:=Q1 fu d f a b c ((840/n:Nat):Int) 0 ((840/n:Nat):Int) (by omega) (by omega) (by omega) (by omega);have m3:=Q1 fu d f a b c ((840/n:Nat):Int) ((840/n:Nat):Int) 0 (by omega) (by omega) (by omega) (by omega);simp only[plc]at m1 m2 m3⊢;rw[eqp_mesh_Net_downward];simp(disch:=omega)only[Zc,QM,QD,m1,m2,m3,List.length_cons,List.length_nil,Nat.zero_add,Nat.reduceAdd,Int.add_zero];rfl
theorem pr_sort3 (i j k:Nat):cl fu (d+1) fn_slices_Sort_sint_int [V.ws 1000000 3] [.ob ty_3_int 0 [.v (.int .i64 i), .v (.int .i64 j), .v (.int .i64 k)]]=some ⟨.tup [],[.ob ty_3_int 0 (trC (sort3 i j k))],none⟩:=by
 have e:cl fu (d+1) fn_slices_Sort_sint_int [V.ws 1000000 3] [.ob ty_3_int 0 [.v (.int .i64 i), .v (.int .i64 j), .v (.int .i64 k)]]=some ⟨.tup [],[.ob ty_3_int 0 (ints (sortI [(i:Int),j,k]))],none⟩:=by kernel_rfl
 rw[e,sortI_3];rfl
include hf
theorem sp_cell (g n:Nat) (h:freq n) (p q r:Pl) (hp:p∈pts n) (hq:q∈pts n) (hr:r∈pts n) (L:List (Nat×Nat×Nat)) (hL:L.length<=100000):
  cl fu (d+6) fn_mesh_Net_cell [V.ptr 1000000 0,V.agg (pl3 p q r)] [netO g n (fl trC L)]=some ⟨V.tup [],[netO 1 n (fl trC (L++[tc n p q r]))],none⟩:=by
 have hfl:=Zg Zo L;have hdv:L.length*3/3=L.length:=by omega
 have a1:=A7 fu d hf 0 n h p hp (fl trC L);have a2:=A7 fu d hf 0 n h q hq (fl trC L);have a3:=A7 fu d hf 0 n h r hr (fl trC L);have hsn:fl trC L++[.v (.int .i64 (tc n p q r).1), .v (.int .i64 (tc n p q r).2.1), .v (.int .i64 (tc n p q r).2.2)]=fl trC (L++[tc n p q r]):=Ph L _;have hfl2:(fl trC (L++[tc n p q r])).length=(L.length+1)*3:=by rw[Zg Zo,List.length_append];rfl
 have hs:=pr_sort3 fu (d+4) (idx n p) (idx n q) (idx n r);generalize hi:idx n p=ip at*
 generalize hj:idx n q=iq at*
 generalize hk:idx n r=ir at*
 unfold tc at hsn hfl2⊢;rw[hi,hj,hk]at hsn hfl2⊢;simp only[plc]at a1 a2 a3;unfold netO netP at a1 a2 a3⊢;rw[eqp_mesh_Net_cell];generalize (nodes n).length=nl at*
 generalize fl plc (nodes n)=nc at*
 generalize esn 0 (nodes n)=es at*
 simp(disch:=omega)only[Zc,QM,QD,List.length_cons,List.length_nil,Nat.zero_add,Nat.reduceAdd];rw[Zh (λj:Nat=>(((j:Nat):Int),(match j with|0=>[C.v (.int .i64 0),C.v (.int .i64 0),C.v (.int .i64 0)]|1=>[C.v (.int .i64 ip),C.v (.int .i64 0),C.v (.int .i64 0)]|2=>[C.v (.int .i64 ip),C.v (.int .i64 iq),C.v (.int .i64 0)]|_=>[C.v (.int .i64 ip),C.v (.int .i64 iq),C.v (.int .i64 ir)]),((n:Int),(((840/n:Nat):Int)),C.sl nl nc,C.mp ty_api_Place ty_int (some 4) none es,fl trC L,C.nl,C.nl,()),())) 0
  ((3:Int),[C.v (.int .i64 ip),C.v (.int .i64 iq),C.v (.int .i64 ir)],((n:Int),(((840/n:Nat):Int)),C.sl nl nc,C.mp ty_api_Place ty_int (some 4) none es,fl trC L,C.nl,C.nl,()),()) 3 ?_ ?_ ?_ (by omega)]
 ·simp(disch:=omega)only[Zc,QM,QD,hs,trC,List.length_cons,List.length_nil,Nat.zero_add,Nat.reduceAdd,hfl,hdv,List.drop_succ_cons,List.drop_zero,hsn,hfl2]
 ·rfl
 ·intro j hj;rcases(show j=0\/j=1\/j=2 by omega)with rfl|rfl|rfl
  ·simp(disch:=omega)only[Zc,QM,QD,QE,a1,Nat.reduceMul,Int.toNat_natCast,Int.ofNat_zero,Int.toNat_zero,show Int.toNat 1=1 from rfl,show Int.toNat 2=2 from rfl,show((1:Nat):Int)=1 from rfl,show((2:Nat):Int)=2 from rfl,Nat.zero_mul,Nat.one_mul,List.take_succ_cons,List.take_zero,List.drop_zero,List.drop_succ_cons,List.length_cons,List.length_nil,Nat.zero_add,Nat.reduceAdd];rfl
  ·simp(disch:=omega)only[Zc,QM,QD,QE,a2,Nat.reduceMul,Int.toNat_natCast,Int.ofNat_zero,Int.toNat_zero,show Int.toNat 1=1 from rfl,show Int.toNat 2=2 from rfl,show((1:Nat):Int)=1 from rfl,show((2:Nat):Int)=2 from rfl,Nat.zero_mul,Nat.one_mul,List.take_succ_cons,List.take_zero,List.drop_zero,List.drop_succ_cons,List.length_cons,List.length_nil,Nat.zero_add,Nat.reduceAdd];rfl
  ·simp(disch:=omega)only[Zc,QM,QD,QE,a3,Nat.reduceMul,Int.toNat_natCast,Int.ofNat_zero,Int.toNat_zero,show Int.toNat 1=1 from rfl,show Int.toNat 2=2 from rfl,show((1:Nat):Int)=1 from rfl,show((2:Nat):Int)=2 from rfl,Nat.zero_mul,Nat.one_mul,List.take_succ_cons,List.take_zero,List.drop_zero,List.drop_succ_cons,List.length_cons,List.length_nil,Nat.zero_add,Nat.reduceAdd];rfl
 ·rfl
end
end Go.Proofs.YtjmempcalaliiaaGreatDoor
/- All of a grid's cells. -/
namespace Go.Proofs.YtjmempcalaliiaaGreatDoor
open Go Go.PM Go.Grid
attribute [local congr] Zr Zs Zt Ya Zu Zv Yb Yc Yd Ye Zw Zx Yf Y5 Y6 Y7 Y8 Y9 Xb Xc Xd Xe Xa Zz Z0 Xf Z1 Z2 Zm Z3 Zy
def preC (n f a b:Nat):List (Nat×Nat×Nat):=(List.range f).flatMap (faceC n)++((List.range a).flatMap (rowC n f)++(List.range b).flatMap (cellsAt n f a))
theorem A9 (n f a b:Nat):preC n f a b++cellsAt n f a b=preC n f a (b+1):=by
 unfold preC;rw[List.range_succ,List.flatMap_append];simp[List.append_assoc]
theorem preC_a (n f a:Nat):preC n f a (n-a)=preC n f (a+1) 0:=by
 unfold preC;rw[List.range_succ (n:=a),List.flatMap_append];simp[rowC]
theorem preC_f (n f:Nat):preC n f n 0=preC n (f+1) 0 0:=by
 unfold preC;rw[List.range_succ (n:=f),List.flatMap_append];simp[faceC]
theorem K2 (n:Nat):preC n 20 0 0=tri n:=by unfold preC tri;simp
theorem K3 (n f a b:Nat):(cellsAt n f a b).length<=2:=by unfold cellsAt;split<;>simp
theorem rowC_le (n f a:Nat) (h:n<=8):(rowC n f a).length<=16:=by
 have:=Xp (g:=cellsAt n f a) (λb=>K3 n f a b) (n-a);unfold rowC;omega
theorem faceC_le (n f:Nat) (h:n<=8):(faceC n f).length<=128:=by
 have:=Xp (g:=rowC n f) (λa=>rowC_le n f a h) n;unfold faceC;omega
theorem F0 {n f a b:Nat} (h:n<=8) (hf:f<=20) (ha:a<=9) (hb:b<=9):(preC n f a b).length<=5000:=by
 have h1:=Xp (g:=faceC n) (λa=>faceC_le n a h) f;have h2:=Xp (g:=rowC n f) (λa=>rowC_le n f a h) a;have h3:=Xp (g:=cellsAt n f a) (λb=>K3 n f a b) b;unfold preC;rw[List.length_append,List.length_append];omega
theorem Pm {n f i j:Nat} (hf:f<20) (h:i+j<=n):pt n f i j∈pts n:=M5.2 ⟨f,i,j,hf,h,rfl⟩
section
variable (fu d:Nat) (hf:18446744073709551616<=fu)
include hf
theorem sp_cells (g n:Nat) (h:freq n) (f a b:Nat) (hf':f<20) (hab:a+b<n) (L:List (Nat×Nat×Nat)) (hL:L.length<=50000):
  ∃g',cl fu (d+7) fn_mesh_Net_cells [V.ptr 1000000 0,V.agg [.v (.int .i64 f), .v (.int .i64 ((a*(840/n):Nat):Int)), .v (.int .i64 ((b*(840/n):Nat):Int)), .v (.int .i64 (((n-1-a-b)*(840/n):Nat):Int))]] [netO g n (fl trC L)]=some ⟨V.tup [],[netO g' n (fl trC (L++cellsAt n f a b))],none⟩:=by
 have hs:=X9 h;have hn:=h;unfold freq at hn;have ha:a*(840/n)<=840:=Sd h (by omega);have hb:b*(840/n)<=840:=Sd h (by omega);have hc:(n-1-a-b)*(840/n)<=840:=Sd h (by omega);have u1:=sp_upward fu (d+4) g n f (a*(840/n)) (b*(840/n)) ((n-1-a-b)*(840/n)) h ⟨ha,hb,hc⟩ (fl trC L);have e1:(⟨f,a*(840/n)+840/n,b*(840/n),(n-1-a-b)*(840/n)⟩:Pl)=pt n f (a+1) b:=by
  unfold pt;rw[Nat.succ_mul,show n-1-a-b=n-(a+1)-b by omega]
 have e2:(⟨f,a*(840/n),b*(840/n)+840/n,(n-1-a-b)*(840/n)⟩:Pl)=pt n f a (b+1):=by
  unfold pt;rw[Nat.succ_mul,show n-1-a-b=n-a-(b+1) by omega]
 have e3:(⟨f,a*(840/n),b*(840/n),(n-1-a-b)*(840/n)+840/n⟩:Pl)=pt n f a b:=by
  unfold pt;rw[<-Nat.succ_mul,show(n-1-a-b).succ=n-a-b by omega]
 rw[e1,e2,e3]at u1;have p1:=Pm (n:=n) (i:=a+1) (j:=b) hf' (by omega);have p2:=Pm (n:=n) (i:=a) (j:=b+1) hf' (by omega);have p3:=Pm (n:=n) (i:=a) (j:=b) hf' (by omega);have c1:=sp_cell fu d hf (Nat.succ g) n h _ _ _ p1 p2 p3 L (by omega);by_cases hd:a+b+1<n
 ·have e4:((n-1-a-b)*(840/n))=(n-2-a-b)*(840/n)+840/n:=by rw[<-Nat.succ_mul,show(n-2-a-b).succ=n-1-a-b by omega]
  have hc2:(n-2-a-b)*(840/n)<=840:=by omega
  have m1:=Q1 fu (d+5) f (a*(840/n)) (b*(840/n)) ((n-1-a-b)*(840/n)) 0 0 (0-((840/n:Nat):Int)) (by omega) (by omega) (by omega) (by omega);have e5:((((n-1-a-b)*(840/n):Nat):Int)+(0-((840/n:Nat):Int)))=(((n-2-a-b)*(840/n):Nat):Int):=by omega
  rw[e5]at m1;have u2:=Cv fu (d+4) (Nat.succ (Nat.succ g)) n f (a*(840/n)) (b*(840/n)) ((n-2-a-b)*(840/n)) h ⟨ha,hb,hc2⟩ (fl trC (L++[tc n (pt n f (a+1) b) (pt n f a (b+1)) (pt n f a b)]));have e6:(⟨f,a*(840/n),b*(840/n)+840/n,(n-2-a-b)*(840/n)+840/n⟩:Pl)=pt n f a (b+1):=by rw[<-e4];exact e2
  have e7:(⟨f,a*(840/n)+840/n,b*(840/n),(n-2-a-b)*(840/n)+840/n⟩:Pl)=pt n f (a+1) b:=by rw[<-e4];exact e1
  have e8:(⟨f,a*(840/n)+840/n,b*(840/n)+840/n,(n-2-a-b)*(840/n)⟩:Pl)=pt n f (a+1) (b+1):=by
   unfold pt;rw[Nat.succ_mul,Nat.succ_mul,show n-2-a-b=n-(a+1)-(b+1) by omega]
  rw[e6,e7,e8]at u2;have p4:=Pm (n:=n) (i:=a+1) (j:=b+1) hf' (by omega);have c2:=sp_cell fu d hf (Nat.succ (Nat.succ (Nat.succ g))) n h _ _ _ p2 p1 p4 (L++[tc n (pt n f (a+1) b) (pt n f a (b+1)) (pt n f a b)]) (by simp;omega);have hge:((840/n:Nat):Int)<=(((n-1-a-b)*(840/n):Nat):Int):=by omega
  have hL2:L++cellsAt n f a b=(L++[tc n (pt n f (a+1) b) (pt n f a (b+1)) (pt n f a b)])++[tc n (pt n f a (b+1)) (pt n f (a+1) b) (pt n f (a+1) (b+1))]:=by
   unfold cellsAt;rw[if_pos hd];simp
  rw[hL2];generalize tc n (pt n f (a+1) b) (pt n f a (b+1)) (pt n f a b)=t1 at*
  generalize tc n (pt n f a (b+1)) (pt n f (a+1) b) (pt n f (a+1) (b+1))=t2 at*
  simp only[plc,Int.add_zero]at u1 u2 m1;generalize pt n f (a+1) b=q1 at*
  generalize pt n f a (b+1)=q2 at*
  generalize pt n f a b=q3 at*
  generalize pt n f (a+1) (b+1)=q4 at*
  unfold netO netP at u1 u2 c1 c2⊢;refine⟨Nat.succ (Nat.succ (Nat.succ (Nat.succ g))), ?_⟩;rw[eqp_mesh_Net_cells];generalize (nodes n).length=nl at*
  generalize fl plc (nodes n)=nc at*
  generalize esn 0 (nodes n)=es at*
  generalize a*(840/n)=x at*
  generalize b*(840/n)=y at*
  generalize (n-1-a-b)*(840/n)=z at*
  generalize (n-2-a-b)*(840/n)=z2 at*
  simp(disch:=omega)only[Zc,QM,QD,QE,u1,c1,m1,u2,c2,List.length_cons,List.length_nil,Nat.zero_add,Nat.reduceAdd]
 ·have hz:n-1-a-b=0:=by omega
  have hlt:(((n-1-a-b)*(840/n):Nat):Int)<((840/n:Nat):Int):=by rw[hz,Nat.zero_mul];omega
  have hL2:L++cellsAt n f a b=L++[tc n (pt n f (a+1) b) (pt n f a (b+1)) (pt n f a b)]:=by
   unfold cellsAt;rw[if_neg hd]
  rw[hL2];generalize tc n (pt n f (a+1) b) (pt n f a (b+1)) (pt n f a b)=t1 at*
  simp only[plc]at u1;generalize pt n f (a+1) b=q1 at*
  generalize pt n f a (b+1)=q2 at*
  generalize pt n f a b=q3 at*
  unfold netO netP at u1 c1⊢;refine⟨Nat.succ (Nat.succ g), ?_⟩;rw[eqp_mesh_Net_cells];generalize (nodes n).length=nl at*
  generalize fl plc (nodes n)=nc at*
  generalize esn 0 (nodes n)=es at*
  generalize a*(840/n)=x at*
  generalize b*(840/n)=y at*
  generalize (n-1-a-b)*(840/n)=z at*
  simp(disch:=omega)only[Zc,QM,QD,QE,u1,c1,List.length_cons,List.length_nil,Nat.zero_add,Nat.reduceAdd]
end
end Go.Proofs.YtjmempcalaliiaaGreatDoor
/- A grid's cells and edges, sorted; equal edges once. -/
namespace Go.Proofs.YtjmempcalaliiaaGreatDoor
open Go Go.PM Go.Grid
attribute [local congr] Zr Zs Zt Ya Zu Zv Yb Yc Yd Ye Zw Zx Yf Y5 Y6 Y7 Y8 Y9 Xb Xc Xd Xe Xa Zz Z0 Xf Z1 Z2 Zm Z3 Zy
section
variable {α:Type} (le:α->α->Bool)
theorem Nl (x:α): ∀l,(insS le x l).Perm (x::l)
 | []=> .refl _
 |y::l=>by
  unfold insS;split
  ·exact .refl _
  ·exact((Nl x l).cons y).trans (.swap x y l)
theorem Yg: ∀l,(isort le l).Perm l
 | []=> .refl _
 |x::l=>(Nl le x (isort le l)).trans ((Yg l).cons x)
variable {le} (ht: ∀a b,le a b=true\/le b a=true) (htr: ∀a b c,le a b=true->le b c=true->le a c=true)
include ht htr
theorem Cw (x:α): ∀{l:List α},l.Pairwise (λa b=>le a b=true)->(insS le x l).Pairwise (λa b=>le a b=true)
 | [],_=>by simp[insS]
 |y::l,h=>by
  unfold insS;rw[List.pairwise_cons]at h;split
  ·rename_i hxy;rw[List.pairwise_cons,List.pairwise_cons];exact⟨λz hz=>(List.mem_cons.1 hz).elim (λe=>e▸hxy) λhz=>htr _ _ _ hxy (h.1 z hz),h⟩
  ·rename_i hxy;rw[List.pairwise_cons];refine⟨λz hz=> ?_,Cw x h.2⟩;rcases List.mem_cons.1 ((Nl le x l).mem_iff.1 hz)with rfl|hz
   ·exact(ht _ _).resolve_left hxy
   ·exact h.1 z hz
theorem Ss: ∀l,(isort le l).Pairwise (λa b=>le a b=true)
 | []=> .nil
 |x::l=>Cw ht htr x (Ss l)
end
theorem Pn {a b:Nat×Nat×Nat}:leT a b=true↔a.1<b.1\/a.1=b.1/\(a.2.1<b.2.1\/a.2.1=b.2.1/\a.2.2<=b.2.2):=by simp[leT]
theorem U2 {a b:Ed}:leZ a b=true↔a.1<b.1\/a.1=b.1/\a.2<=b.2:=by simp[leZ]
def trI (t:Nat×Nat×Nat):List Int:=[(t.1:Int),(t.2.1:Int),(t.2.2:Int)]
def edI (e:Ed):List Int:=[e.1,e.2]
def edC (e:Ed):List C:=[.v (.int .i64 e.1), .v (.int .i64 e.2)]
theorem Yh (e:Ed):(edC e).length=2:=rfl
theorem F1 (L:List (Nat×Nat×Nat)):fl trC L=ints (L.flatMap trI):=by
 induction L with
 |nil=>rfl
 |cons x L ih=>rw[Vf,ih,List.flatMap_cons];rfl
theorem Po (L:List Ed):fl edC L=ints (flatE L):=by
 induction L with
 |nil=>rfl
 |cons x L ih=>rw[Vf,ih,Td];rfl
theorem leT_lex (a b:Nat×Nat×Nat):(¬lexZ [0,1,2] (trI b) (trI a)<0)↔leT a b=true:=by
 rw[Pn,Qa,Qa,Qa];simp only[trI,lexZ,List.getD_cons_zero,List.getD_cons_succ];omega
theorem leZ_lex (a b:Ed):(¬lexZ [0,1] (edI b) (edI a)<0)↔leZ a b=true:=by
 rw[U2,Qa,Qa];simp only[edI,lexZ,List.getD_cons_zero,List.getD_cons_succ];omega
theorem leT_anti (a b:Nat×Nat×Nat) (h:leT a b=true) (h':leT b a=true):a=b:=by
 rw[Pn]at h h';obtain⟨a1,a2,a3⟩:=a;obtain⟨b1,b2,b3⟩:=b;simp only at h h';have e1:a1=b1:=by omega
 have e2:a2=b2:=by omega
 have e3:a3=b3:=by omega
 rw[e1,e2,e3]
theorem Cx (a b:Ed) (h:leZ a b=true) (h':leZ b a=true):a=b:=by
 rw[U2]at h h';obtain⟨a1,a2⟩:=a;obtain⟨b1,b2⟩:=b;simp only at h h';have e1:a1=b1:=by omega
 have e2:a2=b2:=by omega
 rw[e1,e2]
section
variable (fu d:Nat)
theorem pr_sortT (L:List (Nat×Nat×Nat)) (hl:L.length<=1000000):cl fu (d+1) fn_slices_SortFunc_sapi_Cell_api_Cell [V.own 1000000 0 L.length,V.c (C.fn fn_mesh_Build_1 [])] [.sb ty_api_Cell 0 (fl trC L)]=
  some ⟨.tup [],[.sb ty_api_Cell 0 (fl trC (isort leT L))],none⟩:=by
 have e:cl fu (d+1) fn_slices_SortFunc_sapi_Cell_api_Cell [V.own 1000000 0 L.length,V.c (C.fn fn_mesh_Build_1 [])] [.sb ty_api_Cell 0 (fl trC L)]=(unInts (fl trC L)).bind λzs=>need (Nat.beq 1000000 OUT&&Nat.beq 0 0&&Nat.beq fn_mesh_Build_1 fn_mesh_Build_1&&Nat.beq ty_api_Cell ty_api_Cell&&Nat.beq 0 0&&Nat.beq zs.length (L.length*3)&&Nat.ble L.length 4611686018427387903) (some ⟨.tup [],[.sb ty_api_Cell 0 (ints (flatZ 3 (sortR 3 (lexZ [0,1,2]) L.length zs)))],none⟩):=by kernel_rfl
 have hlen:(L.flatMap trI).length=L.length*3:=by
  have:=Zg Zo L;rw[F1]at this;simpa using this
 have e1:Nat.beq 1000000 OUT=true:=rfl;obtain⟨l',h1,h2,h3⟩:=Ks (k:=3) (g:=trI) (λ_=>rfl) (lexZ_swo [0,1,2]) L;have h4:l'=isort leT L:=Pk leT_anti (h1.trans (Yg leT L).symm) (h2.imp λ{a b} h=>(leT_lex a b).1 h) (Ss (λa b=>by rw[Pn,Pn];omega) (λa b c h h'=>by rw[Pn]at h h'⊢;omega) L);rw[e,F1,Ve];simp(disch:=omega)only[Zc,QM,QD,hlen,e1];rw[h3,h4,F1]
theorem pr_sortZ (L:List Ed) (hl:L.length<=1000000):cl fu (d+1) fn_slices_SortFunc_sapi_Edge_api_Edge [V.own 1000000 0 L.length,V.c (C.fn fn_mesh_Build_2 [])] [.sb ty_api_Edge 0 (fl edC L)]=
  some ⟨.tup [],[.sb ty_api_Edge 0 (fl edC (isort leZ L))],none⟩:=by
 have e:cl fu (d+1) fn_slices_SortFunc_sapi_Edge_api_Edge [V.own 1000000 0 L.length,V.c (C.fn fn_mesh_Build_2 [])] [.sb ty_api_Edge 0 (fl edC L)]=(unInts (fl edC L)).bind λzs=>need (Nat.beq 1000000 OUT&&Nat.beq 0 0&&Nat.beq fn_mesh_Build_2 fn_mesh_Build_2&&Nat.beq ty_api_Edge ty_api_Edge&&Nat.beq 0 0&&Nat.beq zs.length (L.length*2)&&Nat.ble L.length 4611686018427387903) (some ⟨.tup [],[.sb ty_api_Edge 0 (ints (flatZ 2 (sortR 2 (lexZ [0,1]) L.length zs)))],none⟩):=by kernel_rfl
 have hlen:(flatE L).length=L.length*2:=X4 L;have e1:Nat.beq 1000000 OUT=true:=rfl;obtain⟨l',h1,h2,h3⟩:=Ks (k:=2) (g:=edI) (λ_=>rfl) (lexZ_swo [0,1]) L;have h4:l'=isort leZ L:=Pk Cx (h1.trans (Yg leZ L).symm) (h2.imp λ{a b} h=>(leZ_lex a b).1 h) (Ss (λa b=>by rw[U2,U2];omega) (λa b c h h'=>by rw[U2]at h h'⊢;omega) L);have h5: ∀l:List Ed,l.flatMap edI=flatE l:=λl=>rfl;rw[e,Po,Ve];simp(disch:=omega)only[Zc,QM,QD,hlen,e1];rw[h5,h5]at h3;rw[h3,h4,Po]
theorem K4 {α:Type} [Inhabited α] [DecidableEq α] (l:List α):(Lib.compact l).length<=l.length:=by
 unfold Lib.compact Lib.compactUpTo;rw[List.length_map];exact Nat.le_trans (List.length_filter_le ..) (by simp)
theorem Mj {α:Type} [Inhabited α] [DecidableEq α] {l:List α} {x:α} (h:x∈Lib.compact l):x∈l:=by
 unfold Lib.compact Lib.compactUpTo at h;obtain⟨j,hj,rfl⟩:=List.mem_map.1 h;have:=List.mem_range.1 (List.mem_filter.1 hj).1;rw[getElem!_pos l.toArray j (by simpa using this)];simp
theorem Wa (L:List Ed) (hl:L.length<=1000000): ∃pad:List Ed,pad.length=L.length/\cl fu (d+1) fn_slices_Compact_sapi_Edge_api_Edge [V.own 1000000 0 L.length] [.sb ty_api_Edge 0 (fl edC L)]=
  some ⟨V.c (C.sl (Lib.compact L).length (fl edC (Lib.compact L))),[.sb ty_api_Edge (fl edC L).length (fl edC pad)],none⟩:=by
 have e:cl fu (d+1) fn_slices_Compact_sapi_Edge_api_Edge [V.own 1000000 0 L.length] [.sb ty_api_Edge 0 (fl edC L)]=(unInts (fl edC L)).bind λzs=>(pairs zs).bind λl=>need (Nat.beq 1000000 OUT&&Nat.beq 0 0&&Nat.beq ty_api_Edge ty_api_Edge&&Nat.beq 0 0&&Nat.beq l.length L.length&&Nat.ble L.length 4611686018427387903&&Nat.ble (Lib.compact l).length L.length)
   (some ⟨.c (.sl (Lib.compact l).length (ints (flatE (Lib.compact l)))),[.sb ty_api_Edge (fl edC L).length (ints (flatE (padE l L.length)))],none⟩):=by kernel_rfl
 have e1:Nat.beq 1000000 OUT=true:=rfl;have hle:=K4 L;refine⟨padE L L.length,Mi hle, ?_⟩;rw[e,Po,Ve,Po,Po];show(pairs (flatE L)).bind _=_;rw[Aq];simp(disch:=omega)only[Zc,QM,QD,e1]
end
end Go.Proofs.YtjmempcalaliiaaGreatDoor
/- A grid: what mesh.Build comes to. -/
namespace Go.Proofs.YtjmempcalaliiaaGreatDoor
open Go Go.PM Go.Grid
attribute [local congr] Zr Zs Zt Ya Zu Zv Yb Yc Yd Ye Zw Zx Yf Y5 Y6 Y7 Y8 Y9 Xb Xc Xd Xe Xa Zz Z0 Xf Z1 Z2 Zm Z3 Zy
theorem blt_t {a b:Nat} (h:a<b):Nat.blt a b=true:=Nat.ble_eq_true_of_le h
def push1 (R:List (List Int)) (i:Nat) (z:Int):List (List Int):=R.set i (R.getD i []++[z])
def pushE (R:List (List Int)) (e:Ed):List (List Int):=push1 (push1 R e.1.toNat e.2) e.2.toNat e.1
def pushed (N:Nat) (E:List Ed):List (List Int):=E.foldl pushE (List.replicate N [])
noncomputable def nxt (n:Nat):List (List Int):=(pushed (nodes n).length (edg n)).map sortI
theorem H6 (P:Nat->Prop) {i j k:Nat} (h1:P i) (h2:P j) (h3:P k):P (sort3 i j k).1/\P (sort3 i j k).2.1/\P (sort3 i j k).2.2:=by
 unfold sort3;split<;>split<;>try split
 all_goals exact⟨by assumption,by assumption,by assumption⟩
theorem F2 {n:Nat} (h:freq n): ∀t∈tri n,t.1<(nodes n).length/\t.2.1<(nodes n).length/\t.2.2<(nodes n).length:=by
 intro t ht;unfold tri faceC rowC at ht;simp only[List.mem_flatMap,List.mem_range]at ht;obtain⟨f,hf,a,ha,b,hb,ht⟩:=ht;have hp: ∀i j,i+j<=n->idx n (pt n f i j)<(nodes n).length:=λi j hij=>Kx h (Pm hf hij);unfold cellsAt at ht;rcases List.mem_cons.1 ht with rfl|ht
 ·exact H6 (λx=>x<(nodes n).length) (hp _ _ (by omega)) (hp _ _ (by omega)) (hp _ _ (by omega))
 ·split at ht
  ·rename_i hd;obtain rfl:=List.mem_singleton.1 ht;exact H6 (λx=>x<(nodes n).length) (hp _ _ (by omega)) (hp _ _ (by omega)) (hp _ _ (by omega))
  ·cases ht
theorem rawE_in {n:Nat} (h:freq n): ∀e∈rawE n,(0<=e.1/\e.1<((nodes n).length:Nat))/\(0<=e.2/\e.2<((nodes n).length:Nat)):=by
 intro e he;obtain⟨t,ht,he⟩:=List.mem_flatMap.1 he;obtain⟨h1,h2,h3⟩:=F2 h t ((Yg leT _).mem_iff.1 ht);simp only[edsT,List.mem_cons,List.mem_nil_iff,or_false]at he;rcases he with rfl|rfl|rfl<;>(simp only;omega)
theorem Te {n:Nat} (h:freq n): ∀e∈edg n,(0<=e.1/\e.1<((nodes n).length:Nat))/\(0<=e.2/\e.2<((nodes n).length:Nat)):=
 λe he=>rawE_in h e ((Yg leZ _).mem_iff.1 (Mj he))
theorem K5 {n:Nat} (h:freq n):(tri n).length<=5000:=by
 unfold freq at h;rw[<-K2];exact F0 (by omega) (by omega) (by omega) (by omega)
theorem Rn (L:List (Nat×Nat×Nat)):(L.flatMap edsT).length=L.length*3:=by
 induction L with
 |nil=>rfl
 |cons x L ih=>rw[List.flatMap_cons,List.length_append,ih,List.length_cons];simp only[edsT,List.length_cons,List.length_nil];omega
theorem rawE_le {n:Nat} (h:freq n):(rawE n).length<=15000:=by
 unfold rawE;rw[Rn,(Yg leT _).length_eq];have:=K5 h;omega
theorem Xw {n:Nat} (h:freq n):(edg n).length<=15000:=
 Nat.le_trans (K4 _) (by rw[(Yg leZ _).length_eq];exact rawE_le h)
theorem Qi (R:List (List Int)) (i:Nat) (z:Int):(push1 R i z).length=R.length:=by simp[push1]
theorem F3 {R:List (List Int)} {m:Nat} (h: ∀r∈R,r.length<=m) (i:Nat):(R.getD i []).length<=m:=by
 rw[List.getD_eq_getElem?_getD];cases hi:R[i]? with
 |none=>simp
 |some r=>exact h r (List.mem_of_getElem? hi)
theorem K6 {R:List (List Int)} {m:Nat} (h: ∀r∈R,r.length<=m) (i:Nat) (z:Int): ∀r∈push1 R i z,r.length<=m+1:=by
 intro r hr;rcases List.mem_or_eq_of_mem_set hr with hr|rfl
 ·have:=h r hr;omega
 ·have:=F3 h i;rw[List.length_append,List.length_cons,List.length_nil];omega
theorem Cy (R:List (List Int)) (i:Nat) (r:List Int):(R.map ints).set i (ints r)=(R.set i r).map ints:=List.map_set.symm
theorem H7 (R:List (List Int)) (i:Nat):(R.map ints).getD i []=ints (R.getD i []):=by
 rw[List.getD_eq_getElem?_getD,List.getD_eq_getElem?_getD,List.getElem?_map];cases R[i]? <;>rfl
theorem Yu (r:List Int) (z:Int):ints r++[C.v (.int .i64 z)]=ints (r++[z]):=by simp[ik]
theorem Cz (N:Nat) (E:List Ed) (e:Ed):pushed N (E++[e])=pushE (pushed N E) e:=by simp[pushed]
theorem S7 (N:Nat) (E:List Ed):(pushed N E).length=N:=by
 have key: ∀(E:List Ed) (R:List (List Int)),(E.foldl pushE R).length=R.length:=by
  intro E
  induction E with
  |nil=>intro R;rfl
  |cons e E ih=>intro R;rw[List.foldl_cons,ih];unfold pushE;rw[Qi,Qi]
 unfold pushed;rw[key];simp
theorem H8 (N:Nat) (E:List Ed): ∀r∈pushed N E,r.length<=2*E.length:=by
 have key: ∀(E:List Ed) (R:List (List Int)) (m:Nat),(∀r∈R,r.length<=m)-> ∀r∈E.foldl pushE R,r.length<=m+2*E.length:=by
  intro E
  induction E with
  |nil=>intro R m h r hr;have:=h r hr;simp;omega
  |cons e E ih=>
   intro R m h r hr;rw[List.foldl_cons]at hr;have:=ih _ (m+1+1) (K6 (K6 h _ _) _ _) r hr;rw[List.length_cons];omega
 intro r hr;have:=key E _ 0 (λr hr=>by rw[List.eq_of_mem_replicate hr];simp) r hr;omega
theorem eds_fl (t:Nat×Nat×Nat):fl edC (edsT t)=[C.v (.int .i64 t.1),C.v (.int .i64 t.2.1),C.v (.int .i64 t.1),C.v (.int .i64 t.2.2),C.v (.int .i64 t.2.1),C.v (.int .i64 t.2.2)]:=rfl
def mixS (R:List (List Int)) (j:Nat):List (List Int):=(R.take j).map sortI++R.drop j
theorem Mk (R:List (List Int)) (j:Nat):(mixS R j).length=R.length:=by
 unfold mixS;rw[List.length_append,List.length_map,<-List.length_append,List.take_append_drop]
theorem mixS_get {R:List (List Int)} {j:Nat} (hj:j<R.length):(mixS R j).getD j []=R[j]:=by
 unfold mixS;rw[List.getD_eq_getElem?_getD,List.getElem?_append_right (by simp;omega)];simp[Nat.min_eq_left (Nat.le_of_lt hj),hj]
theorem mixS_set {R:List (List Int)} {j:Nat} (hj:j<R.length):(mixS R j).set j (sortI R[j])=mixS R (j+1):=by
 unfold mixS;have h1:((R.take j).map sortI).length=j:=by simp;omega
 rw[List.set_append_right _ _ (by omega),h1,Nat.sub_self,List.drop_eq_getElem_cons hj,List.set_cons_zero,List.take_succ_eq_append_getElem hj,List.map_append,List.append_assoc];rfl
theorem mixS_zero (R:List (List Int)):mixS R 0=R:=by simp[mixS]
theorem mixS_all (R:List (List Int)):mixS R R.length=R.map sortI:=by simp[mixS]
section
variable (fu d:Nat)
theorem pr_sortI (r:List Int) (h:r.length<=1000000):cl fu (d+1) fn_slices_Sort_sint_int [V.own 1000000 0 r.length] [.sb ty_int 0 (ints r)]=some ⟨.tup [],[.sb ty_int 0 (ints (sortI r))],none⟩:=by
 have e:cl fu (d+1) fn_slices_Sort_sint_int [V.own 1000000 0 r.length] [.sb ty_int 0 (ints r)]=orP (sortP ty_int) (sortWsP ty_3_int) [.own 1000000 0 r.length] [.sb ty_int 0 (ints r)]:=by kernel_rfl
 have hw:=wholeI_of (t:=ty_int) (l:=r) (by omega);have hs:sortP ty_int [.own 1000000 0 r.length] [.sb ty_int 0 (ints r)]=some ⟨.tup [],[.sb ty_int 0 (ints (sortI r))],none⟩:=by
  rw[sortP,hw];exact Option.map_some ..
 rw[e,orP,hs]
variable (hf:18446744073709551616<=fu)
include hf
theorem cells_pre (n:Nat) (h:freq n) (f a b:Nat) (hf':f<20) (hab:a+b<n): ∃g',cl fu (d+7) fn_mesh_Net_cells [V.ptr 1000000 0,V.agg [.v (.int .i64 f), .v (.int .i64 ((a*(840/n):Nat):Int)), .v (.int .i64 ((b*(840/n):Nat):Int)), .v (.int .i64 (((n-1-a-b)*(840/n):Nat):Int))]] [netO 0 n (fl trC (preC n f a b))]=some ⟨V.tup [],[netO g' n (fl trC (preC n f a (b+1)))],none⟩:=by
 have hn:=h;unfold freq at hn;have h5:(preC n f a b).length<=5000:=F0 hn.2 (Nat.le_of_lt hf') (show a<=9 by omega) (show b<=9 by omega);have h6:=sp_cells fu d hf 0 n h f a b hf' hab (preC n f a b) (Nat.le_trans h5 (Nat.le_of_ble_eq_true rfl));rw[A9]at h6;exact h6
set_option maxHeartbeats 8000000 in
set_option maxRecDepth 4000 in
theorem sp_Build (n:Nat) (h:freq n): ∃c:C,cl fu (d+8) fn_mesh_Build [I n] []=some ⟨V.ptr 1000000 0,[.ob ty_mesh_Net 0 [C.v (.int .i64 n),C.v (.int .i64 ((840/n:Nat):Int)),C.sl (nodes n).length (fl plc (nodes n)),C.mp ty_api_Place ty_int (some 4) none (esn 0 (nodes n)),c,C.sl (edg n).length (fl edC (edg n)),C.sl (nxt n).length ((nxt n).map λr=>C.sl r.length (ints r))]],none⟩:=by
 have hn:=h;unfold freq at hn;have hs:=X9 h;have hP:=A6 fu (d+2) hf n h;have hC:=cells_pre fu d hf n h;have hNl:=Z7 h;have hlT:=K5 h;unfold netO netP at hC;unfold netC at hP;have heI:=Te h;have heL:=Xw h;have hrL:=rawE_le h;unfold nxt;generalize hE:edg n=E at*
 generalize hNl2:(nodes n).length=N at*
 generalize fl plc (nodes n)=nc at*
 generalize esn 0 (nodes n)=es at*
 have eO0:Nat.beq 1000000 (OUT+0)=true:=rfl;refine⟨C.sl (isort leT (tri n)).length (fl trC (isort leT (tri n))), ?_⟩;rw[eq_mesh_Build,hP];simp(disch:=omega)only[Zc,QM,QD,QE,eO0,List.length_cons,List.length_nil,Nat.zero_add,Nat.reduceAdd];rw[Zh (λf:Nat=>(((f:Nat):Int),((n:Int),(((840/n:Nat):Int)),C.sl N nc,C.mp ty_api_Place ty_int (some 4) none es,fl trC (preC n f 0 0),C.nl,C.nl,()),())) 0
  ((20:Int),((n:Int),(((840/n:Nat):Int)),C.sl N nc,C.mp ty_api_Place ty_int (some 4) none es,fl trC (tri n),C.nl,C.nl,()),()) 20 ?_ ?_ ?_ (by omega)]
 ·generalize hT0:tri n=T0 at*
  generalize hT:isort leT T0=T at*
  have hTl:T.length=T0.length:=by rw[<-hT];exact(Yg leT T0).length_eq
  have hfl0:=Zg Zo T0;have hflT:=Zg Zo T;have hdv0:T0.length*3/3=T0.length:=by omega
  have hdvT:T.length*3/3=T.length:=by omega
  have s1:=pr_sortT fu (d+6) T0 (by omega);rw[hT]at s1;have b1: ∀{R:Type} (k:List C->Option R),rowBack ty_api_Cell (fl trC T0) false [.sb ty_api_Cell 0 (fl trC T)] k=k (fl trC T):=λk=>Nk _ _ _ k (by omega);simp(disch:=omega)only[Zc,QM,QD,QE,hfl0,hdv0,s1,b1,hflT,hdvT];rw[Zh (λj:Nat=>(((j:Nat):Int),((n:Int),(((840/n:Nat):Int)),C.sl N nc,C.mp ty_api_Place ty_int (some 4) none es,C.sl T.length (fl trC T),fl edC ((T.take j).flatMap edsT),C.nl,()),())) 0
   (((T.length:Nat):Int),((n:Int),(((840/n:Nat):Int)),C.sl N nc,C.mp ty_api_Place ty_int (some 4) none es,C.sl T.length (fl trC T),fl edC (T.flatMap edsT),C.nl,()),()) T.length ?_ ?_ ?_ (by omega)]
  rotate_left
  ·rfl
  ·intro j hj;have hat:=Pi Zo hj;have hln:(fl edC ((T.take j).flatMap edsT)).length=(j*3)*2:=by rw[Zg Yh,Rn,List.length_take,Nat.min_eq_left (by omega)]
   have hdl:(j*3)*2/2=j*3:=by omega
   have happ:fl edC ((T.take j).flatMap edsT)++[C.v (.int .i64 T[j].1),C.v (.int .i64 T[j].2.1),C.v (.int .i64 T[j].1),C.v (.int .i64 T[j].2.2),C.v (.int .i64 T[j].2.1),C.v (.int .i64 T[j].2.2)]=fl edC ((T.take (j+1)).flatMap edsT):=by
    rw[<-eds_fl,<-Ni,List.take_succ_eq_append_getElem hj,List.flatMap_append];simp
   have hln2:(fl edC ((T.take (j+1)).flatMap edsT)).length=(j*3+3)*2:=by rw[Zg Yh,Rn,List.length_take,Nat.min_eq_left (by omega)];omega
   simp(disch:=omega)only[Zc,QM,QD,Int.toNat_natCast,hat,trC,List.cons_append,List.nil_append,hln,hdl,happ,hln2];rfl
  ·rw[List.take_length];simp(disch:=omega)only[Zc,QM,QD]
  have hraw:T.flatMap edsT=rawE n:=by unfold rawE;rw[hT0,hT]
  rw[hraw];have hEd:Lib.compact (isort leZ (rawE n))=E:=hE;generalize rawE n=W at*
  have hflW:=Zg Yh W;have hdvW:W.length*2/2=W.length:=by omega
  have s2:=pr_sortZ fu (d+6) W (by omega);have hZl:(isort leZ W).length=W.length:=(Yg leZ W).length_eq;generalize isort leZ W=Z at*
  have hflZ:=Zg Yh Z;have hdvZ:Z.length*2/2=Z.length:=by omega
  have b2: ∀{R:Type} (k:List C->Option R),rowBack ty_api_Edge (fl edC W) false [.sb ty_api_Edge 0 (fl edC Z)] k=k (fl edC Z):=λk=>Nk _ _ _ k (by omega);obtain⟨pad,hpad,s3⟩:=Wa fu (d+6) Z (by omega);rw[hEd]at s3;have hflP:=Zg Yh pad;have b3: ∀{R:Type} (k:List C->Option R),rowBack ty_api_Edge (fl edC Z) true [.sb ty_api_Edge (Z.length*2) (fl edC pad)] k=k (fl edC pad):=λk=>by rw[<-hflZ];exact rowBack_t _ _ _ k (by omega)
  have hflE:=Zg Yh E;simp(disch:=omega)only[Zc,QM,QD,QE,hflW,hdvW,s2,b2,hflZ,hdvZ,s3,b3,Int.toNat_natCast,List.length_replicate,decide_true];rw[Zh (λj:Nat=>(((j:Nat):Int),((n:Int),(((840/n:Nat):Int)),C.sl N nc,C.mp ty_api_Place ty_int (some 4) none es,C.sl T.length (fl trC T),C.sl E.length (fl edC E),(pushed N (E.take j)).map ints,()),())) 0
   (((E.length:Nat):Int),((n:Int),(((840/n:Nat):Int)),C.sl N nc,C.mp ty_api_Place ty_int (some 4) none es,C.sl T.length (fl trC T),C.sl E.length (fl edC E),(pushed N E).map ints,()),()) E.length ?_ ?_ ?_ (by omega)]
  rotate_left
  ·show _=(((0:Nat):Int),_,());simp only[List.take_zero,pushed,List.foldl_nil,List.map_replicate];rfl
  ·intro j hj;have hat:=Pi Yh hj;have hin:=heI E[j] (List.getElem_mem hj);have hps:pushed N (E.take (j+1))=pushE (pushed N (E.take j)) E[j]:=by rw[List.take_succ_eq_append_getElem hj,Cz]
   have hRl:=S7 N (E.take j);have hRb:=H8 N (E.take j);rw[List.length_take,Nat.min_eq_left (by omega)]at hRb;rw[hps];generalize pushed N (E.take j)=R at*
   generalize E[j]=e at*
   obtain⟨ea,eb⟩:=e
   dsimp only at hin
   obtain⟨x,rfl⟩: ∃x:Nat,ea=x:=⟨ea.toNat,by omega⟩;obtain⟨y,rfl⟩: ∃y:Nat,eb=y:=⟨eb.toNat,by omega⟩;have hg1:=F3 hRb x;have hg2:=F3 (K6 hRb x (y:Int)) y;have hl1:=Qi R x (y:Int);have hpe:pushE R ((x:Int),(y:Int))=push1 (push1 R x (y:Int)) y (x:Int):=rfl;have hp1: ∀i z,R.set i (R.getD i []++[z])=push1 R i z:=λi z=>rfl;have hp2: ∀i z,(push1 R x (y:Int)).set i ((push1 R x (y:Int)).getD i []++[z])=push1 (push1 R x (y:Int)) i z:=λi z=>rfl;have hl2:=Qi (push1 R x (y:Int)) y (x:Int);rw[hpe];simp(disch:=omega)only[Zc,QM,QD,blt_t,Zf,hat,edC,List.cons_append,List.nil_append,Int.toNat_natCast,Nat.mul_one,Nat.div_one,List.length_map,H7,Yu,Cy,hp1,hp2,hRl,hl1,hl2,List.length_append,List.length_cons,List.length_nil,Nat.zero_add];rfl
  ·rw[List.take_length];simp(disch:=omega)only[Zc,QM,QD]
  have hRl:=S7 N E;have hRb:=H8 N E;generalize pushed N E=R at*
  simp(disch:=omega)only[Zc,QM,QD,List.length_map];rw[Zh (λj:Nat=>(((j:Nat):Int),((n:Int),(((840/n:Nat):Int)),C.sl N nc,C.mp ty_api_Place ty_int (some 4) none es,C.sl T.length (fl trC T),C.sl E.length (fl edC E),(mixS R j).map ints,()),())) 0
   (((R.length:Nat):Int),((n:Int),(((840/n:Nat):Int)),C.sl N nc,C.mp ty_api_Place ty_int (some 4) none es,C.sl T.length (fl trC T),C.sl E.length (fl edC E),(R.map sortI).map ints,()),()) R.length ?_ ?_ ?_ (by omega)]
  rotate_left
  ·rw[mixS_zero];rfl
  ·intro j hj;have hml:=Mk R j;have hgt:=mixS_get hj;have hst:=mixS_set hj;have hml2:=Mk R (j+1);have hrl:=hRb R[j] (List.getElem_mem hj);have s4:=pr_sortI fu (d+6) R[j] (by omega);have hsl:=Fo R[j];generalize R[j]=r at*
   have b4: ∀{R:Type} (k:List C->Option R),rowBack ty_int (ints r) false [.sb ty_int 0 (ints (sortI r))] k=k (ints (sortI r)):=λk=>Nk _ _ _ k (by rw[Zf,Zf];exact hsl);simp(disch:=omega)only[Zc,QM,QD,blt_t,Int.toNat_natCast,Nat.mul_one,Nat.div_one,List.length_map,H7,hgt,Zf,s4,b4,Cy,hst,hml,hml2];rfl
  ·rw[mixS_all];simp(disch:=omega)only[Zc,QM,QD,List.length_map]
  have hmm:List.map (λ(r:List C)=>C.sl (r.length/1) r) ((R.map sortI).map ints)=(R.map sortI).map λr=>C.sl r.length (ints r):=by
   rw[List.map_map];apply List.map_congr_left;intro r _;show C.sl ((ints r).length/1) (ints r)=_;rw[Zf,Nat.div_one]
  simp(disch:=omega)only[Zc,QM,QD,List.length_map,hmm]
 ·rfl
 ·intro f hf';simp(disch:=omega)only[Zc,QM,QD];rw[Zh (λa:Nat=>(((a:Nat):Int),((n:Int),(((840/n:Nat):Int)),C.sl N nc,C.mp ty_api_Place ty_int (some 4) none es,fl trC (preC n f a 0),C.nl,C.nl,()),())) 0
   ((n:Int),((n:Int),(((840/n:Nat):Int)),C.sl N nc,C.mp ty_api_Place ty_int (some 4) none es,fl trC (preC n f n 0),C.nl,C.nl,()),()) n ?_ ?_ ?_ (by omega)]
  ·simp(disch:=omega)only[Zc,QM,QD];rw[preC_f];rfl
  ·rfl
  ·intro a ha;simp(disch:=omega)only[Zc,QM,QD];rw[Zh (λb:Nat=>(((b:Nat):Int),((n:Int),(((840/n:Nat):Int)),C.sl N nc,C.mp ty_api_Place ty_int (some 4) none es,fl trC (preC n f a b),C.nl,C.nl,()),())) 0
    (((n-a:Nat):Int),((n:Int),(((840/n:Nat):Int)),C.sl N nc,C.mp ty_api_Place ty_int (some 4) none es,fl trC (preC n f a (n-a)),C.nl,C.nl,()),()) (n-a) ?_ ?_ ?_ (by omega)]
   ·simp(disch:=omega)only[Zc,QM,QD];rw[preC_a];rfl
   ·rfl
   ·intro b hb;obtain⟨g',hC⟩:=hC f a b hf' (by omega);have w1:IntKind.i64.wrap ((a:Int)*((840/n:Nat):Int))=((a*(840/n):Nat):Int):=Vv h (by omega);have w2:IntKind.i64.wrap ((b:Int)*((840/n:Nat):Int))=((b*(840/n):Nat):Int):=Vv h (by omega);have w3:IntKind.i64.wrap (((n:Int)-1-(a:Int)-(b:Int))*((840/n:Nat):Int))=(((n-1-a-b)*(840/n):Nat):Int):=by
     rw[show(n:Int)-1-(a:Int)-(b:Int)=((n-1-a-b:Nat):Int) by omega];exact Vv h (by omega)
    simp(disch:=omega)only[Zc,QM,QD,QE,w1,w2,w3,hC];rfl
   ·simp(disch:=omega)only[Zc,QM,QD]
  ·simp(disch:=omega)only[Zc,QM,QD]
 ·rw[K2];simp(disch:=omega)only[Zc,QM,QD];rfl
end
end Go.Proofs.YtjmempcalaliiaaGreatDoor
/- The reference's nodes and the index of a place. -/
namespace Go.Proofs.YtjmempcalaliiaaGreatDoor
open Go Go.PM Go.Grid
theorem Tf (fu d n:Nat) (h:freq n):cl fu (d+1) fn_synopticref03_Count [I n] []=OK (I ((10*n*n+2:Nat):Int)):=by
 rw[eq_synopticref03_Count];rcases X0 h with rfl|rfl|rfl|rfl|rfl|rfl|rfl|rfl<;>(show @Eq (Option Out) _ _;kernel_rfl)
theorem upTo_jb (n f i j:Nat):upTo n f i (j+1)=bif isN (pt n f i j)then upTo n f i j++[pt n f i j]else upTo n f i j:=by
 rw[upTo_j];unfold isN;by_cases h:norm (pt n f i j)=pt n f i j
 ·rw[if_pos h,decide_eq_true h];rfl
 ·rw[if_neg h,decide_eq_false h];rfl
theorem C0 {n:Nat}:((10*n*n+2:Nat):Int)≠0:=by omega
theorem F4 (fu d:Nat) (hf:18446744073709551616<=fu) (n:Nat) (h:freq n):cl fu (d+6) fn_synopticref03_Nodes [I n] []=OK (V.tup [V.c (C.sl (nodes n).length (fl plc (nodes n))),I 0]):=by
 have hn:=h;unfold freq at hn;have hst:=X9 h;rw[eq_synopticref03_Nodes,Tf fu (d+4) n h,K1 h];simp only[QM];rw[Nh C0,Nh (show(n:Int)≠0 by omega)];simp only[QM];rw[Zh (λf:Nat=>(fl plc (upTo n f 0 0),(f:Int),())) 0 (fl plc (upTo n 20 0 0),(20:Int),()) 20 ?_ ?_ ?_ (by omega)]
 ·rw[Ct];simp(disch:=omega)only[QM,QD,Zg Zj,Yl,Nat.zero_add];rw[List.take_of_length_le (by rw[Zg Zj];omega)]
 ·rfl
 ·intro f hf';have hl:(upTo n f 0 0).length<=2000:=Yy h (by omega) (by omega) (by omega);simp(disch:=omega)only[QM,QD,Zg Zj,Yl];rw[Zh (λi:Nat=>(fl plc (upTo n f i 0),((i*(840/n):Nat):Int),())) 0 (fl plc (upTo n f (n+1) 0),(((n+1)*(840/n):Nat):Int),()) (n+1) ?_ ?_ ?_ (by omega)]
  ·have hl:(upTo n f (n+1) 0).length<=2000:=Yy h (by omega) (by omega) (by omega);simp(disch:=omega)only[QM,QD,Zg Zj,Yl,Int.natCast_add,Int.natCast_one];unfold upTo;rw[pre_f]
  ·simp only[Nat.zero_mul];rfl
  ·intro i hi;have hl:(upTo n f i 0).length<=2000:=Yy h (by omega) (by omega) (by omega);have hA:=Sd h (show i<=n by omega);have hA1:(i+1)*(840/n)=i*(840/n)+840/n:=Nat.succ_mul _ _;rw[hA1];generalize hAe:i*(840/n)=A at hA⊢;simp(disch:=omega)only[QM,QD,Zg Zj,Yl];rw[Zh (λj:Nat=>(fl plc (upTo n f i j),((j*(840/n):Nat):Int),())) 0 (fl plc (upTo n f i (n+1-i)),(((n+1-i)*(840/n):Nat):Int),()) (n+1-i) ?_ ?_ ?_ (by omega)]
   ·have hl:(upTo n f i (n+1-i)).length<=2000:=Yy h (by omega) (by omega) (by omega);generalize hst':840/n=s at*
    simp(disch:=omega)only[QM,QD,Zg Zj,Yl,Int.natCast_add];unfold upTo;rw[pre_i]
   ·simp only[Nat.zero_mul];rfl
   ·intro j hj;have hl:(upTo n f i j).length<=2000:=Yy h (by omega) (by omega) (by omega);have hs:=Ax (n:=n) (i:=i) (j:=j) h (by omega);have hB1:(j+1)*(840/n)=j*(840/n)+840/n:=Nat.succ_mul _ _;have hok:=pt_ok (f:=f) h hf' (show i+j<=n by omega);have hN:=Mv fu d hf (pt n f i j) hok;have hin:0<A->0<j*(840/n)->0<(n-i-j)*(840/n)->isN (pt n f i j)=true:=λh1 h2 h3=>isN_inner hok (by show 0<i*(840/n);omega) h2 h3;have hup:=upTo_jb n f i j;rw[hB1];simp only[plc]at hN;generalize isN (pt n f i j)=z at hN hin hup;simp only[pt]at hN hup;rw[hAe]at hs hN hup;generalize j*(840/n)=B at*
    generalize (n-i-j)*(840/n)=D at*
    generalize 840/n=s at*
    have hD:(840:Int)-A-B=(D:Int):=by omega
    rw[hup];by_cases c1:0<A
    ·by_cases c2:0<B
     ·by_cases c3:0<D
      ·rw[hin c1 c2 c3];simp(disch:=omega)only[QM,QD,hD,Se,Zg Zj,Yl,List.length_append,List.length_cons,List.length_nil,Nat.zero_add,Int.natCast_add]
      ·cases z<;>simp(disch:=omega)only[QM,QD,hD,hN,Se,Zg Zj,Yl,List.length_append,List.length_cons,List.length_nil,Nat.zero_add,Int.natCast_add]
     ·cases z<;>simp(disch:=omega)only[QM,QD,hD,hN,Se,Zg Zj,Yl,List.length_append,List.length_cons,List.length_nil,Nat.zero_add,Int.natCast_add]
    ·cases z<;>simp(disch:=omega)only[QM,QD,hD,hN,Se,Zg Zj,Yl,List.length_append,List.length_cons,List.length_nil,Nat.zero_add,Int.natCast_add]
   ·have hl:(upTo n f i (n+1-i)).length<=2000:=Yy h (by omega) (by omega) (by omega);have hs:=Ax (n:=n) (i:=i) (j:=n-i) h (by omega);have h1:(n+1-i)*(840/n)=(n-i)*(840/n)+840/n:=by rw[show n+1-i=n-i+1 by omega,Nat.succ_mul]
    rw[hAe,show n-i-(n-i)=0 by omega]at hs;rw[h1];generalize (n-i)*(840/n)=B at*
    generalize 840/n=s at*
    simp(disch:=omega)only[QM,QD,Zg Zj,Yl,Int.natCast_add]
  ·have hl:(upTo n f (n+1) 0).length<=2000:=Yy h (by omega) (by omega) (by omega);have h1:(n+1)*(840/n)=840+840/n:=by rw[Nat.succ_mul,Qw h]
   rw[h1];generalize 840/n=s at*
   simp(disch:=omega)only[QM,QD,Zg Zj,Yl,Int.natCast_add]
 ·have hl:(upTo n 20 0 0).length<=2000:=Yy h (by omega) (by omega) (by omega);simp(disch:=omega)only[QM,QD,Zg Zj,Yl];rfl
theorem sp_less (fu d:Nat) (p q:Pl):cl fu (d+1) fn_synopticref03_less [V.agg (plc p),V.agg (plc q)] []=OK (B (decide (plt p q))):=by
 unfold plc;rw[eq_synopticref03_less];by_cases h1:p.f=q.f
 ·by_cases h2:p.a=q.a
  ·by_cases h3:p.b<q.b
   ·rw[decide_eq_true (show plt p q from .inr ⟨h1, .inr ⟨h2,h3⟩⟩)];simp(disch:=omega)only[QM,QD]
   ·rw[decide_eq_false (show ¬plt p q from by unfold plt;omega)];simp(disch:=omega)only[QM,QD]
  ·by_cases h3:p.a<q.a
   ·rw[decide_eq_true (show plt p q from .inr ⟨h1, .inl h3⟩)];simp(disch:=omega)only[QM,QD]
   ·rw[decide_eq_false (show ¬plt p q from by unfold plt;omega)];simp(disch:=omega)only[QM,QD]
 ·by_cases h3:p.f<q.f
  ·rw[decide_eq_true (show plt p q from .inl h3)];simp(disch:=omega)only[QM,QD]
  ·rw[decide_eq_false (show ¬plt p q from by unfold plt;omega)];simp(disch:=omega)only[QM,QD]
theorem Pp {l:List Pl} (h:l.Pairwise plt) {i j:Nat} (hi:i<l.length) (hj:j<l.length) (hij:i<j):plt l[i] l[j]:=List.pairwise_iff_getElem.1 h i j hi hj hij
theorem sp_find (fu d:Nat) (hf:18446744073709551616<=fu) (l:List Pl) (hl:l.length<=1000000) (hs:l.Pairwise plt) (k:Nat) (hk:k<l.length):
  cl fu (d+2) fn_synopticref03_find [V.c (C.sl l.length (fl plc l)),V.agg (plc l[k])] []=OK (I k):=by
 have hq:plc l[k]=[.v (.int .i64 l[k].f), .v (.int .i64 l[k].a), .v (.int .i64 l[k].b), .v (.int .i64 l[k].c)]:=rfl;rw[hq,eq_synopticref03_find];rw[A4 (λy:Int×Int×Unit=> ∃lo hi:Nat,y=((lo:Int),(hi:Int),())/\lo<=k/\k<=hi/\hi<=l.length) (λy=>(y.2.1-y.1).toNat) 0 ((k:Int),(k:Int),()) ?_ ?_ ?_]
 ·have hd:=Pi Zj hk;simp(disch:=omega)only[QM,QD,Int.toNat_natCast,hd,plc,List.cons_append,List.nil_append,ibeq_t]
 ·exact⟨0,l.length,rfl,Nat.zero_le _,by omega,Nat.le_refl _⟩
 ·simp only[];omega
 ·rintro _ ⟨lo,hi,rfl,g1,g2,g3⟩
  by_cases hlt:lo<hi
  ·left;have hm:Int.tdiv ((lo:Int)+(hi:Int)) 2=(((lo+hi)/2:Nat):Int):=by
    rw[show((lo:Int)+(hi:Int))=((lo+hi:Nat):Int) from by omega];rfl
   have hml:(lo+hi)/2<l.length:=by omega
   have hd:=Pi Zj hml;have hless:=sp_less fu d l[(lo+hi)/2] l[k];simp only[plc]at hless;by_cases hmk:(lo+hi)/2<k
   ·rw[decide_eq_true (Pp hs hml hk hmk)]at hless;refine⟨((((lo+hi)/2+1:Nat):Int),(hi:Int),()), ?_,⟨(lo+hi)/2+1,hi,rfl,by omega,g2,g3⟩, ?_⟩
    ·simp(disch:=omega)only[QM,QD,hm,Int.toNat_natCast,hd,plc,List.cons_append,List.nil_append,hless,Int.natCast_add,Int.natCast_one]
    ·simp only[];omega
   ·have hn: ¬plt l[(lo+hi)/2] l[k]:=by
     rcases Nat.lt_or_ge k ((lo+hi)/2)with h|h
     ·exact λh'=>Rm _ (plt_trans h' (Pp hs hk hml h))
     ·have:(lo+hi)/2=k:=by omega
      simp only[this];exact Rm _
    rw[decide_eq_false hn]at hless;refine⟨((lo:Int),(((lo+hi)/2:Nat):Int),()), ?_,⟨lo,(lo+hi)/2,rfl,g1,by omega,by omega⟩, ?_⟩
    ·simp(disch:=omega)only[QM,QD,hm,Int.toNat_natCast,hd,plc,List.cons_append,List.nil_append,hless]
    ·simp only[];omega
  ·right;have e1:lo=k:=by omega
   have e2:hi=k:=by omega
   subst e1 e2;simp(disch:=omega)only[QM,QD]
theorem sp_ref_at (fu d:Nat) (hf:18446744073709551616<=fu) (n:Nat) (h:freq n) (p:Pl) (hp:p∈pts n):
  cl fu (d+5) fn_synopticref03_at [V.c (C.sl (nodes n).length (fl plc (nodes n))),I p.f,I p.a,I p.b] []=OK (I (idx n p)):=by
 have hok:=Kw h hp;have hs:=hok.2;have e1:=S5 fu d hf p hok;have e2:=sp_find fu (d+2) hf (nodes n) (by have:=Z7 h;omega) (Fw h) (idx n p) (Kx h hp);rw[A3 h hp]at e2;have hc:(840:Int)-p.a-p.b=p.c:=by omega
 simp only[plc]at e1 e2;rw[eq_synopticref03_at];simp(disch:=omega)only[QM,QD,hc,e1,e2,List.length_cons,List.length_nil,Nat.zero_add,Nat.reduceAdd]
end Go.Proofs.YtjmempcalaliiaaGreatDoor
/- The reference's cells: what they come to. -/
namespace Go.Proofs.YtjmempcalaliiaaGreatDoor
open Go Go.PM Go.Grid
attribute [local congr] Zr Zs Zt Ya Zu Zv Yb Yc Yd Ye Zw Zx Yf Y5 Y6 Y7 Y8 Y9 Xb Xc Xd Xe Xa Zz Z0 Xf Z1 Z2 Zm Z3 Zy
theorem Q2 {A B:Type} {body:A->Option (Nat×A)} {fu:Nat} {x:A} {K:Nat×A->Option B} (R:Option B->Prop) (J:A->Prop) (m:A->Nat) (Q:Nat->A->Prop) (hx:J x) (hm:m x<fu)
  (h: ∀y,J y->(∃y',body y=some (0,y')/\J y'/\m y'<m y)\/ ∃e z,body y=some (e+1,z)/\Q e z) (hK: ∀e z,Q e z->R (K (e,z))):R ((iter body fu x).bind K):=by
 obtain⟨e,z,h1,h2⟩:=Ng (body:=body) J m Q h fu x hx hm;rw[h1];exact hK e z h2
theorem sort3_sum (i j k:Nat):(sort3 i j k).1+(sort3 i j k).2.1+(sort3 i j k).2.2=i+j+k:=by
 unfold sort3;split<;>split<;>try split
 all_goals first|rfl|(simp only;omega)|omega
theorem sort3_min (i j k:Nat):(if(k:Int)<(if(j:Int)<i then(j:Int)else i)then(k:Int)else(if(j:Int)<i then(j:Int)else i))=((sort3 i j k).1:Int):=by
 unfold sort3
 repeat' split
 all_goals first|(simp only at*;done)|(simp only at*;omega)|omega
theorem sort3_max (i j k:Nat):(if(k:Int)>(if(j:Int)>i then(j:Int)else i)then(k:Int)else(if(j:Int)>i then(j:Int)else i))=((sort3 i j k).2.2:Int):=by
 unfold sort3
 repeat' split
 all_goals first|(simp only at*;done)|(simp only at*;omega)|omega
theorem F5 {A:Type} {e:A->List C} {m:Nat} (hm: ∀x,(e x).length=m) (L B:List A) (i:Nat):putAt (fl e L) (i*m) (fl e B)=fl e (L.take i++B++L.drop (i+B.length)):=by
 unfold putAt;rw[Fx hm,Zg hm,<-Nat.add_mul,M6 hm,Ni,Ni]
section
variable (fu d:Nat) (hf:18446744073709551616<=fu)
theorem C1 (i j k:Nat) (hi:i<=1000000) (hj:j<=1000000) (hk:k<=1000000):cl fu (d+1) fn_synopticref03_cell [I i,I j,I k] []=OK (V.agg (trC (sort3 i j k))):=by
 have h1:=sort3_min i j k;have h2:=sort3_max i j k;have h3:=sort3_sum i j k;have e1:IntKind.i64.wrap (IntKind.i64.wrap ((i:Int)+j)+k)=(i:Int)+j+k:=by rw[X6 (x:=(i:Int)+j) (by omega) (by omega),X6 (by omega) (by omega)]
 have e2:(i:Int)+j+k-((sort3 i j k).1:Int)-((sort3 i j k).2.2:Int)=((sort3 i j k).2.1:Int):=by omega
 rw[eq_synopticref03_cell,h1,h2,e1];simp(disch:=omega)only[Zc,QM,QD,e2];rfl
include hf
theorem sp_insert (L:List (Nat×Nat×Nat)) (hL:L.length<=100000) (x:Nat×Nat×Nat): ∃k,k<=L.length/\
  cl fu (d+1) fn_synopticref03_insert [V.own 1000000 0 L.length,V.agg (trC x)] [.sb ty_api_Cell 0 (fl trC L)]=some ⟨V.own 1000001 0 (L.length+1),[.dead, .sb ty_api_Cell 0 (fl trC (L.take k++x::L.drop k))],none⟩:=by
 have hfl:=Zg Zo L;have hz:fl trC L++[C.v (.int .i64 0),C.v (.int .i64 0),C.v (.int .i64 0)]=fl trC (L++[(0,0,0)]):=Ph L (0,0,0);have hflz:(fl trC (L++[(0,0,0)])).length=(L.length+1)*3:=by rw[Zg Zo,List.length_append];rfl
 unfold trC;rw[eq_synopticref03_insert];refine Q2 (A:=(Nat×List C)×Int×Unit) (B:=Out) (fu:=fu) (λo=> ∃k,k<=L.length/\o=some ⟨V.own 1000001 0 (L.length+1),[.dead, .sb ty_api_Cell 0 (fl trC (L.take k++x::L.drop k))],none⟩)
  (λy=> ∃k:Nat,k<=L.length/\y=((L.length,fl trC L),(k:Int),())) (λy=>y.2.1.toNat) (λe y=>e=0/\ ∃k:Nat,k<=L.length/\y=((L.length,fl trC L),(k:Int),())) ?_ ?_ ?_ ?_
 ·exact⟨L.length,Nat.le_refl _,rfl⟩
 ·show((L.length:Nat):Int).toNat<fu;omega
 ·rintro y ⟨k,hk,rfl⟩
  cases k with
  |zero=>
   refine .inr ⟨0,_, ?_,rfl,0,hk,rfl⟩;simp(disch:=omega)only[Zc,QM,QD]
  |succ k=>
   have hat:=Pi Zo (l:=L) (k:=k) (by omega);have hk1:((k+1:Nat):Int)-1=(k:Int):=by omega
   have go: ∀{b:Option (Nat×((Nat×List C)×Int×Unit))},b=some (0,((L.length,fl trC L),(k:Int),()))\/b=some (1,((L.length,fl trC L),((k+1:Nat):Int),()))->
     (∃y',b=some (0,y')/\(∃k:Nat,k<=L.length/\y'=((L.length,fl trC L),(k:Int),()))/\y'.2.1.toNat<((k+1:Nat):Int).toNat)\/ ∃e z,b=some (e+1,z)/\e=0/\ ∃k:Nat,k<=L.length/\z=((L.length,fl trC L),(k:Int),()):=by
    intro b hb;rcases hb with rfl|rfl
    ·exact .inl ⟨_,rfl,⟨k,by omega,rfl⟩,by show(k:Int).toNat<_;omega⟩
    ·exact .inr ⟨0,_,rfl,rfl,k+1,hk,rfl⟩
   refine go ?_;have hat1:List.drop (k*3+1) (fl trC L)=C.v (.int .i64 L[k].2.1)::C.v (.int .i64 L[k].2.2)::fl trC (L.drop (k+1)):=by rw[<-List.drop_drop,hat];rfl
   have hat2:List.drop (k*3+2) (fl trC L)=C.v (.int .i64 L[k].2.2)::fl trC (L.drop (k+1)):=by rw[<-List.drop_drop,hat];rfl
   generalize L[k]=t at*
   obtain⟨t1,t2,t3⟩:=t;obtain⟨x1,x2,x3⟩:=x;simp only at hat hat1 hat2⊢;by_cases q1:x1<t1
   ·simp(disch:=omega)only[Zc,QM,QD,hk1,Nat.zero_add,Int.toNat_natCast,hat,hat1,hat2,trC,List.cons_append,List.nil_append];exact .inl trivial
   by_cases q2:x1=t1
   ·by_cases q3:x2<t2
    ·simp(disch:=omega)only[Zc,QM,QD,hk1,Nat.zero_add,Int.toNat_natCast,hat,hat1,hat2,trC,List.cons_append,List.nil_append];exact .inl trivial
    by_cases q4:x2=t2
    ·by_cases q5:x3<t3
     ·simp(disch:=omega)only[Zc,QM,QD,hk1,Nat.zero_add,Int.toNat_natCast,hat,hat1,hat2,trC,List.cons_append,List.nil_append];exact .inl trivial
     ·simp(disch:=omega)only[Zc,QM,QD,hk1,Nat.zero_add,Int.toNat_natCast,hat,hat1,hat2,trC,List.cons_append,List.nil_append];exact .inr trivial
    ·simp(disch:=omega)only[Zc,QM,QD,hk1,Nat.zero_add,Int.toNat_natCast,hat,hat1,hat2,trC,List.cons_append,List.nil_append];exact .inr trivial
   ·simp(disch:=omega)only[Zc,QM,QD,hk1,Nat.zero_add,Int.toNat_natCast,hat,hat1,hat2,trC,List.cons_append,List.nil_append];exact .inr trivial
 ·rintro e z ⟨rfl,k,hk,rfl⟩
  refine⟨k,hk, ?_⟩;have hx1:[C.v (.int .i64 x.1),C.v (.int .i64 x.2.1),C.v (.int .i64 x.2.2)]=fl trC [x]:=by simp[fl,trC]
  have hput:putAt (fl trC (L++[(0,0,0)])) (k*3) (fl trC [x])=fl trC ((L++[(0,0,0)]).take k++[x]++(L++[(0,0,0)]).drop (k+1)):=F5 Zo _ [x] k;by_cases hkl:k=L.length
  ·subst hkl;have hres:(L++[(0,0,0)]).take L.length++[x]++(L++[(0,0,0)]).drop (L.length+1)=L.take L.length++x::L.drop L.length:=by simp
   rw[hres]at hput;have hfl2:(fl trC (L.take L.length++x::L.drop L.length)).length=(L.length+1)*3:=by rw[Zg Zo];simp
   have htk:List.take ((L.length+1)*3) (fl trC (L.take L.length++x::L.drop L.length))=fl trC (L.take L.length++x::L.drop L.length):=List.take_of_length_le (by omega);have hmin:Nat.min (L.length+1-L.length) (L.length+1-(L.length+1))=0:=by simp
   have hc1:((L.length:Nat):Int)+1=((L.length+1:Nat):Int):=by omega
   simp(disch:=omega)only[Zc,QM,QD,hfl,hz,hflz,hc1,Int.toNat_natCast,hmin,Nat.zero_add,hx1,hput,hfl2,htk]
  ·have hcp:List.take ((L.length-k)*3) (List.drop (k*3) (fl trC (L++[(0,0,0)])))=fl trC (L.drop k):=by
    rw[M6 Zo,Fx Zo]
    congr 1
    rw[List.drop_append_of_le_length hk,List.take_append_of_le_length (by simp),List.take_of_length_le (by simp)]
   have hput1:putAt (fl trC (L++[(0,0,0)])) ((k+1)*3) (fl trC (L.drop k))=fl trC ((L++[(0,0,0)]).take (k+1)++L.drop k):=by
    rw[F5 Zo,List.length_drop,show List.drop (k+1+(L.length-k)) (L++[((0,0,0):Nat×Nat×Nat)])=[] from List.drop_eq_nil_of_le (by rw[List.length_append,List.length_singleton];omega),List.append_nil]
   have hflc:(fl trC ((L++[(0,0,0)]).take (k+1)++L.drop k)).length=(L.length+1)*3:=by rw[Zg Zo];simp;omega
   have hput2:putAt (fl trC ((L++[(0,0,0)]).take (k+1)++L.drop k)) (k*3) (fl trC [x])=fl trC (L.take k++x::L.drop k):=by
    rw[F5 Zo]
    congr 1
    have e1:((L++[(0,0,0)]).take (k+1)++L.drop k).take k=L.take k:=by
     rw[List.take_append_of_le_length (by simp;omega),List.take_take,Nat.min_eq_left (by omega),List.take_append_of_le_length hk]
    have e2:((L++[(0,0,0)]).take (k+1)++L.drop k).drop (k+[x].length)=L.drop k:=by
     rw[List.drop_append,List.drop_eq_nil_of_le (by simp;omega)];simp[Nat.min_eq_left (show k+1<=L.length+1 by omega)]
    rw[e1,e2];simp
   have hfl2:(fl trC (L.take k++x::L.drop k)).length=(L.length+1)*3:=by rw[Zg Zo];simp;omega
   have htk:List.take ((L.length+1)*3) (fl trC (L.take k++x::L.drop k))=fl trC (L.take k++x::L.drop k):=List.take_of_length_le (by omega);obtain⟨q,hq⟩: ∃q,L.length-k=q+1:=⟨L.length-k-1,by omega⟩;have hmin:Nat.min (L.length+1-k) (L.length+1-(k+1))=q+1:=by
    show min _ _=_;omega
   have hc1:((k:Nat):Int)+1=((k+1:Nat):Int):=by omega
   rw[hq]at hcp;simp(disch:=omega)only[Zc,QM,QD,hfl,hz,hflz,hc1,Int.toNat_natCast,hmin,Nat.zero_add,hcp,hput1,hflc,hx1,hput2,hfl2,htk]
end
end Go.Proofs.YtjmempcalaliiaaGreatDoor
/- The reference's cells: the same as the grid's, in another order. -/
namespace Go.Proofs.YtjmempcalaliiaaGreatDoor
open Go Go.PM Go.Grid
attribute [local congr] Zr Zs Zt Ya Zu Zv Yb Yc Yd Ye Zw Zx Yf Y5 Y6 Y7 Y8 Y9 Xb Xc Xd Xe Xa Zz Z0 Xf Z1 Z2 Zm Z3 Zy
abbrev T3:=Nat×Nat×Nat
def putC (K:List T3×T3->Nat) (L:List T3) (x:T3):List T3:=L.take (K (L,x))++x::L.drop (K (L,x))
def accC (K:List T3×T3->Nat) (l:List T3):List T3:=l.foldl (putC K) []
theorem Nm (K:List T3×T3->Nat) (l:List T3) (x:T3):accC K (l++[x])=putC K (accC K l) x:=by simp[accC]
theorem H9 (K:List T3×T3->Nat) (L:List T3) (x:T3):(putC K L x).Perm (x::L):=by
 unfold putC;refine List.perm_middle.trans ?_;rw[List.take_append_drop]
theorem Ga (K:List T3×T3->Nat) (l:List T3):(accC K l).Perm l:=by
 have key: ∀(l acc:List T3),(l.foldl (putC K) acc).Perm (acc++l):=by
  intro l
  induction l with
  |nil=>intro acc;simp
  |cons x l ih=>
   intro acc;rw[List.foldl_cons];refine(ih _).trans (((H9 K acc x).append_right l).trans ?_);exact(List.perm_middle (l₁:=acc) (a:=x) (l₂:=l)).symm
 exact key l []
theorem Ml (K:List T3×T3->Nat) (l:List T3):(accC K l).length=l.length:=(Ga K l).length_eq
section
variable (fu d:Nat) (hf:18446744073709551616<=fu)
include hf
theorem sp_atR (n:Nat) (h:freq n) (f i j:Nat) (hf':f<20) (hij:i+j<=n) (x y:Int) (hx:x=((i*(840/n):Nat):Int)) (hy:y=((j*(840/n):Nat):Int)):
  cl fu (d+5) fn_synopticref03_at [V.c (C.sl (nodes n).length (fl plc (nodes n))),I f,I x,I y] []=OK (I (idx n (pt n f i j))):=by
 subst hx hy;have:=sp_ref_at fu d hf n h (pt n f i j) (Pm hf' hij);generalize idx n (pt n f i j)=k at*
 simp only[pt]at this;exact this
set_option maxHeartbeats 8000000 in
theorem F6 (n:Nat) (h:freq n): ∃L:List T3,L.Perm (tri n)/\cl fu (d+7) fn_synopticref03_Cells [I n] []=OK (V.tup [V.c (C.sl L.length (fl trC L)),I 0]):=by
 have hn:=h;unfold freq at hn;have hst:=X9 h;obtain⟨K,hK⟩: ∃K:List T3×T3->Nat,∀p:List T3×T3,p.1.length<=100000->cl fu (d+6) fn_synopticref03_insert [V.own 1000000 0 p.1.length,V.agg (trC p.2)] [.sb ty_api_Cell 0 (fl trC p.1)]=some ⟨V.own 1000001 0 (p.1.length+1),[.dead, .sb ty_api_Cell 0 (fl trC (p.1.take (K p)++p.2::p.1.drop (K p)))],none⟩:=by
  refine Classical.axiomOfChoice (r:=λ(p:List T3×T3) (k:Nat)=>p.1.length<=100000->cl fu (d+6) fn_synopticref03_insert [V.own 1000000 0 p.1.length,V.agg (trC p.2)] [.sb ty_api_Cell 0 (fl trC p.1)]=some ⟨V.own 1000001 0 (p.1.length+1),[.dead, .sb ty_api_Cell 0 (fl trC (p.1.take k++p.2::p.1.drop k))],none⟩) λp=> ?_;by_cases hp:p.1.length<=100000
  ·obtain⟨k,_,hk⟩:=sp_insert fu (d+5) hf p.1 hp p.2;exact⟨k,λ_=>hk⟩
  ·exact⟨0,λh=>absurd h hp⟩
 have hK: ∀L x,L.length<=100000->cl fu (d+6) fn_synopticref03_insert [V.own 1000000 0 L.length,V.agg (trC x)] [.sb ty_api_Cell 0 (fl trC L)]=some ⟨V.own 1000001 0 (L.length+1),[.dead, .sb ty_api_Cell 0 (fl trC (putC K L x))],none⟩:=λL x hl=>hK (L,x) hl;have hpl: ∀L x,(putC K L x).length=L.length+1:=λL x=>by rw[(H9 K L x).length_eq];rfl
 refine⟨accC K (tri n),Ga K (tri n), ?_⟩;have hle: ∀{f a b:Nat},f<=20->a<=9->b<=9->(accC K (preC n f a b)).length<=5000:=λh1 h2 h3=>by rw[Ml];exact F0 hn.2 h1 h2 h3
 have hdv: ∀L:List T3,L.length*3/3=L.length:=λL=>by omega
 have hfl: ∀L:List T3,(fl trC L).length=L.length*3:=λL=>Zg Zo L;have hat:=λf i j hf' hij x y hx hy=>sp_atR fu (d+1) hf n h f i j hf' hij x y hx hy;have hN:=F4 fu d hf n h;have hNl:=Z7 h;have hidx: ∀{f i j:Nat},f<20->i+j<=n->idx n (pt n f i j)<=1000000:=λh1 h2=>by have:=Kx h (Pm (n:=n) h1 h2);omega
 rw[eq_synopticref03_Cells,hN,K1 h];generalize (nodes n).length=N at*
 generalize fl plc (nodes n)=nc at*
 simp only[Zc,QM];rw[ibne_f rfl,Nh (show(n:Int)≠0 by omega)];simp only[Zc,QM];rw[Zh (λf:Nat=>(fl trC (accC K (preC n f 0 0)),(f:Int),())) 0 (fl trC (accC K (tri n)),(20:Int),()) 20 ?_ ?_ ?_ (by omega)]
 ·have h1:(accC K (tri n)).length<=5000:=by rw[Ml];exact K5 h
  have htk:List.take ((accC K (tri n)).length*3) (fl trC (accC K (tri n)))=fl trC (accC K (tri n)):=List.take_of_length_le (by rw[hfl];omega);simp(disch:=omega)only[Zc,QM,QD,hdv,hfl,Nat.zero_add,htk]
 ·rfl
 ·intro f hf';have h1:=hle (f:=f) (a:=0) (b:=0) (by omega) (by omega) (by omega);simp(disch:=omega)only[Zc,QM,QD,hdv,hfl];rw[Zh (λi:Nat=>(fl trC (accC K (preC n f i 0)),((i*(840/n):Nat):Int),())) 0 (fl trC (accC K (preC n f n 0)),((n*(840/n):Nat):Int),()) n ?_ ?_ ?_ (by omega)]
  ·simp(disch:=omega)only[Zc,QM,QD,hdv,hfl];rw[preC_f];rfl
  ·simp only[Nat.zero_mul];rfl
  ·intro i hi;have h1:=hle (f:=f) (a:=i) (b:=0) (by omega) (by omega) (by omega);have hA:=Sd h (show i+1<=n by omega);have hA1:(i+1)*(840/n)=i*(840/n)+840/n:=Nat.succ_mul _ _;rw[hA1]at hA⊢;simp(disch:=omega)only[Zc,QM,QD,hdv,hfl];rw[Zh (λj:Nat=>(fl trC (accC K (preC n f i j)),((j*(840/n):Nat):Int),())) 0 (fl trC (accC K (preC n f i (n-i))),(((n-i)*(840/n):Nat):Int),()) (n-i) ?_ ?_ ?_ (by omega)]
   ·simp(disch:=omega)only[Zc,QM,QD,hdv,hfl];rw[preC_a];simp only[Int.natCast_add]
   ·simp only[Nat.zero_mul];rfl
   ·intro j hj;have h1:=hle (f:=f) (a:=i) (b:=j) (by omega) (by omega) (by omega);have hB1:(j+1)*(840/n)=j*(840/n)+840/n:=Nat.succ_mul _ _;have hAB:=Sd h (show i+j+1<=n by omega);have hAB1:(i+j+1)*(840/n)=i*(840/n)+j*(840/n)+840/n:=by rw[Nat.succ_mul,Nat.add_mul]
    rw[hAB1]at hAB;have a1:=hat f (i+1) j hf' (by omega) (((i*(840/n):Nat):Int)+((840/n:Nat):Int)) ((j*(840/n):Nat):Int) (by rw[hA1];omega) rfl;have a2:=hat f i (j+1) hf' (by omega) ((i*(840/n):Nat):Int) (((j*(840/n):Nat):Int)+((840/n:Nat):Int)) rfl (by rw[hB1];omega);have a3:=hat f i j hf' (by omega) ((i*(840/n):Nat):Int) ((j*(840/n):Nat):Int) rfl rfl;have i1:=hidx (f:=f) (i:=i+1) (j:=j) hf' (by omega);have i2:=hidx (f:=f) (i:=i) (j:=j+1) hf' (by omega);have i3:=hidx (f:=f) (i:=i) (j:=j) hf' (by omega);have c1:=C1 fu (d+5) _ _ _ i1 i2 i3;have n1:=hK (accC K (preC n f i j)) (sort3 (idx n (pt n f (i+1) j)) (idx n (pt n f i (j+1))) (idx n (pt n f i j))) (by omega);rw[hB1];by_cases hd:i+j+1<n
    ·have hAB2:=Sd h (show i+j+2<=n by omega);have hAB3:(i+j+2)*(840/n)=i*(840/n)+j*(840/n)+840/n+840/n:=by rw[Nat.succ_mul,hAB1]
     rw[hAB3]at hAB2;have a4:=hat f (i+1) (j+1) hf' (by omega) (((i*(840/n):Nat):Int)+((840/n:Nat):Int)) (((j*(840/n):Nat):Int)+((840/n:Nat):Int)) (by rw[hA1];omega) (by rw[hB1];omega);have i4:=hidx (f:=f) (i:=i+1) (j:=j+1) hf' (by omega);have c2:=C1 fu (d+5) _ _ _ i2 i1 i4;have n2:=hK (putC K (accC K (preC n f i j)) (sort3 (idx n (pt n f (i+1) j)) (idx n (pt n f i (j+1))) (idx n (pt n f i j)))) (sort3 (idx n (pt n f i (j+1))) (idx n (pt n f (i+1) j)) (idx n (pt n f (i+1) (j+1)))) (by rw[hpl];omega);have hL:accC K (preC n f i (j+1))=putC K (putC K (accC K (preC n f i j)) (sort3 (idx n (pt n f (i+1) j)) (idx n (pt n f i (j+1))) (idx n (pt n f i j)))) (sort3 (idx n (pt n f i (j+1))) (idx n (pt n f (i+1) j)) (idx n (pt n f (i+1) (j+1)))):=by
      rw[<-A9,show cellsAt n f i j=[tc n (pt n f (i+1) j) (pt n f i (j+1)) (pt n f i j)]++[tc n (pt n f i (j+1)) (pt n f (i+1) j) (pt n f (i+1) (j+1))] by unfold cellsAt;rw[if_pos hd];rfl,<-List.append_assoc,Nm,Nm];rfl
     rw[hL];generalize idx n (pt n f (i+1) j)=q1 at*
     generalize idx n (pt n f i (j+1))=q2 at*
     generalize idx n (pt n f i j)=q3 at*
     generalize idx n (pt n f (i+1) (j+1))=q4 at*
     generalize sort3 q1 q2 q3=t1 at*
     generalize sort3 q2 q1 q4=t2 at*
     have l1:=hpl (accC K (preC n f i j)) t1;rw[l1]at n2;have l2:=hpl (putC K (accC K (preC n f i j)) t1) t2;generalize putC K (putC K (accC K (preC n f i j)) t1) t2=L2 at*
     generalize putC K (accC K (preC n f i j)) t1=L1 at*
     generalize accC K (preC n f i j)=L0 at*
     generalize i*(840/n)=A at*
     generalize j*(840/n)=B at*
     generalize 840/n=s at*
     obtain⟨t11,t12,t13⟩:=t1;obtain⟨t21,t22,t23⟩:=t2;simp only[trC]at c1 n1 c2 n2;simp(disch:=omega)only[Zc,QM,QD,a1,a2,a3,a4,c1,n1,c2,n2,out1,hdv,hfl,l1,l2,List.length_cons,List.length_nil,Nat.zero_add,Nat.reduceAdd,Int.natCast_add]
    ·have hnn:i+j+1=n:=by omega
     have hL:accC K (preC n f i (j+1))=putC K (accC K (preC n f i j)) (sort3 (idx n (pt n f (i+1) j)) (idx n (pt n f i (j+1))) (idx n (pt n f i j))):=by
      rw[<-A9,show cellsAt n f i j=[tc n (pt n f (i+1) j) (pt n f i (j+1)) (pt n f i j)] by unfold cellsAt;rw[if_neg hd],Nm];rfl
     have hAB4:i*(840/n)+j*(840/n)+840/n=840:=by rw[<-hAB1,hnn];exact Qw h
     rw[hL];generalize idx n (pt n f (i+1) j)=q1 at*
     generalize idx n (pt n f i (j+1))=q2 at*
     generalize idx n (pt n f i j)=q3 at*
     generalize sort3 q1 q2 q3=t1 at*
     have l1:=hpl (accC K (preC n f i j)) t1;generalize putC K (accC K (preC n f i j)) t1=L1 at*
     generalize accC K (preC n f i j)=L0 at*
     generalize i*(840/n)=A at*
     generalize j*(840/n)=B at*
     generalize 840/n=s at*
     obtain⟨t11,t12,t13⟩:=t1;simp only[trC]at c1 n1;simp(disch:=omega)only[Zc,QM,QD,a1,a2,a3,c1,n1,out1,hdv,hfl,l1,List.length_cons,List.length_nil,Nat.zero_add,Nat.reduceAdd,Int.natCast_add]
   ·have hend:i*(840/n)+(n-i)*(840/n)=840:=by rw[<-Nat.add_mul,show i+(n-i)=n by omega];exact Qw h
    have h1:=hle (f:=f) (a:=i) (b:=n-i) (by omega) (by omega) (by omega);generalize (n-i)*(840/n)=B at*
    simp(disch:=omega)only[Zc,QM,QD,hdv,hfl]
  ·have h1:=hle (f:=f) (a:=n) (b:=0) (by omega) (by omega) (by omega);have hend:=Qw h;generalize n*(840/n)=B at*
   simp(disch:=omega)only[Zc,QM,QD,hdv,hfl]
 ·have h1:=hle (f:=20) (a:=0) (b:=0) (by omega) (by omega) (by omega);simp(disch:=omega)only[Zc,QM,QD,hdv,hfl];rw[K2];rfl
end
end Go.Proofs.YtjmempcalaliiaaGreatDoor
/- The reference's neighbours. -/
namespace Go.Proofs.YtjmempcalaliiaaGreatDoor
open Go Go.PM Go.Grid
attribute [local congr] Zr Zs Zt Ya Zu Zv Yb Yc Yd Ye Zw Zx Yf Y5 Y6 Y7 Y8 Y9 Xb Xc Xd Xe Xa Zz Z0 Xf Z1 Z2 Zm Z3 Zy
def insU (z:Int):List Int->List Int
 | []=>[z]
 |y::l=>if y<z then y::insU z l else if y=z then y::l else z::y::l
theorem K7 {z x:Int}: ∀{l:List Int},x∈insU z l↔x=z\/x∈l
 | []=>by simp[insU]
 |y::l=>by
  unfold insU;split
  ·rw[List.mem_cons,K7,List.mem_cons];exact⟨λh=>h.elim (λh=> .inr (.inl h)) λh=>h.elim .inl λh=> .inr (.inr h),λh=>h.elim (λh=> .inr (.inl h)) λh=>h.elim .inl λh=> .inr (.inr h)⟩
  ·split
   ·rename_i h1 h2;subst h2;simp
   ·simp
theorem C2 {z:Int}: ∀{l:List Int},l.Pairwise (λa b=>a<b)->(insU z l).Pairwise (λa b=>a<b)
 | [],h=>by simp[insU]
 |y::l,h=>by
  rw[List.pairwise_cons]at h;unfold insU;split
  ·rename_i h1;rw[List.pairwise_cons];refine⟨λx hx=> ?_,C2 h.2⟩;rcases K7.1 hx with rfl|hx
   ·exact h1
   ·exact h.1 x hx
  ·split
   ·rw[List.pairwise_cons];exact h
   ·rename_i h1 h2;rw[List.pairwise_cons,List.pairwise_cons];refine⟨λx hx=> ?_,h⟩;rcases List.mem_cons.1 hx with rfl|hx
    ·omega
    ·have:=h.1 x hx;omega
theorem Mm (z:Int): ∀l,(insU z l).length<=l.length+1
 | []=>by simp[insU]
 |y::l=>by
  unfold insU;have:=Mm z l;split
  ·simp;omega
  ·split<;>simp
theorem insU_at (z:Int): ∀l:List Int,∃k,k<=l.length/\(∀j (h:j<l.length),j<k->l[j]<z)/\(∀h:k<l.length,¬l[k]<z)/\((∀h:k<l.length,l[k]≠z)->insU z l=l.take k++z::l.drop k)/\ ∀h:k<l.length,l[k]=z->insU z l=l
 | []=>⟨0,by simp,by simp,by simp,by simp[insU],by simp⟩
 |y::l=>by
  obtain⟨k,h1,h2,h3,h4,h5⟩:=insU_at z l;by_cases hy:y<z
  ·refine⟨k+1,by simp;omega,λj hj hjk=> ?_,λh=>h3 (by simp at h;omega),λh=> ?_,λh e=> ?_⟩
   ·cases j with
    |zero=>exact hy
    |succ j=>exact h2 j (by simp at hj;omega) (by omega)
   ·unfold insU;rw[if_pos hy,h4 λh'=>h (by simp;omega)];rfl
   ·unfold insU;rw[if_pos hy,h5 (by simp at h;omega) e]
  ·refine⟨0,by simp,λj hj hjk=>by omega,λ_=>hy,λh=> ?_,λh e=> ?_⟩
   ·have:y≠z:=h (by simp);unfold insU;rw[if_neg hy,if_neg this];rfl
   ·have e:y=z:=e;unfold insU;rw[if_neg hy,if_pos e]
def rC1 (r:List Int):C:=match r with| []=> .nl|_::_=> .sl r.length (ints r)
theorem Uo {R:Type} (r:List Int) (k:Nat->List C->Option R):asSl (rC1 r) k=k r.length (ints r):=by cases r<;>rfl
theorem rC1_ne {r:List Int} (h:r≠[]):rC1 r= .sl r.length (ints r):=by cases r with|nil=>exact absurd rfl h|cons x r=>rfl
theorem Nn (r:List Int) (k:Nat):(ints r).drop k=ints (r.drop k):=(List.map_drop).symm
theorem Np (r:List Int) (k:Nat):(ints r).take k=ints (r.take k):=(List.map_take).symm
theorem slice_rC1 (r:List Int) (k:Nat) (hk:k<=r.length): ∃c:C,(∀{R:Type} (k':C->Option R),sliceC 1 (some (I k)) none (rC1 r) k'=k' c)/\ ∀{R:Type} (k':Nat->List C->Option R),asSl c k'=k' (r.length-k) (ints (r.drop k)):=by
 cases r with
 |nil=>
  have:k=0:=by simpa using hk
  subst this;exact⟨.nl,λk'=>rfl,λk'=>rfl⟩
 |cons x r=>
  refine⟨.sl ((x::r).length-k) (ints ((x::r).drop k)),λk'=> ?_,λk'=>rfl⟩;have h1:decide ((0:Int)<=(k:Int))=true:=decide_eq_true (by omega);have h2:decide ((k:Int)<=(((x::r).length:Nat):Int))=true:=decide_eq_true (by omega);have h3:((k:Int)).toNat=k:=Int.toNat_natCast k;show bound none (x::r).length (x::r).length (λh=>bound (some (I k)) 0 h λa=>k' (.sl (h-a) (((ints (x::r)).drop (a*1)).take ((h-a)*1))))=_;show need (decide ((0:Int)<=(k:Int))&&decide ((k:Int)<=(((x::r).length:Nat):Int))) (k' (.sl ((x::r).length-(k:Int).toNat) (((ints (x::r)).drop ((k:Int).toNat*1)).take (((x::r).length-(k:Int).toNat)*1))))=_;rw[h1,h2,h3,Nat.mul_one,Nat.mul_one,Nn,List.take_of_length_le (by rw[Zf,List.length_drop];omega)];rfl
theorem Gb (R:List (List Int)) {i:Nat} (hi:i<R.length):(R.map rC1).drop i=rC1 (R.getD i [])::(R.map rC1).drop (i+1):=by
 rw[List.drop_eq_getElem_cons (by simpa using hi),List.getElem_map,List.getD_eq_getElem?_getD,List.getElem?_eq_getElem hi];rfl
theorem rows_put (R:List (List Int)) {i:Nat} (hi:i<R.length) (r:List Int):putAt (R.map rC1) i [rC1 r]=(R.set i r).map rC1:=by
 unfold putAt;rw[List.map_set,List.set_eq_take_append_cons_drop,if_pos (by simpa using hi)];simp
theorem reps_nl (N:Nat):reps N [C.nl]=(List.replicate N ([]:List Int)).map rC1:=by
 induction N with
 |zero=>rfl
 |succ N ih=>rw[List.replicate_succ,List.map_cons,<-ih];unfold reps;rw[List.replicate_succ,List.flatten_cons];rfl
def addP (R:List (List Int)) (p:Nat×Nat):List (List Int):=R.set p.1 (insU p.2 (R.getD p.1 []))
def prs (t:T3):List (Nat×Nat):=[(t.1,t.2.1),(t.1,t.2.2),(t.2.1,t.2.2),(t.2.1,t.1),(t.2.2,t.1),(t.2.2,t.2.1)]
theorem Sf (R:List (List Int)) (p:Nat×Nat):(addP R p).length=R.length:=by simp[addP]
theorem Jw (l:List (Nat×Nat)): ∀R,(l.foldl addP R).length=R.length:=by
 induction l with
 |nil=>intro R;rfl
 |cons p l ih=>intro R;rw[List.foldl_cons,ih,Sf]
theorem addP_getD (R:List (List Int)) (p:Nat×Nat) (i:Nat):(addP R p).getD i []=if i=p.1/\i<R.length then insU p.2 (R.getD i [])else R.getD i []:=by
 unfold addP;rw[List.getD_eq_getElem?_getD,List.getElem?_set];by_cases h:p.1=i
 ·subst h;by_cases hl:p.1<R.length
  ·simp[hl]
  ·rw[if_pos rfl,if_neg hl,if_neg (λe=>hl e.2),List.getD_eq_getElem?_getD,List.getElem?_eq_none (by omega)]
 ·rw[if_neg h,if_neg (λe=>h e.1.symm),List.getD_eq_getElem?_getD]
theorem addP_same {R:List (List Int)} {p:Nat×Nat} (h:insU p.2 (R.getD p.1 [])=R.getD p.1 []):addP R p=R:=by
 unfold addP;rw[h];by_cases hl:p.1<R.length
 ·rw[List.getD_eq_getElem?_getD,List.getElem?_eq_getElem hl];exact List.set_getElem_self hl
 ·exact List.set_eq_of_length_le (by omega)
theorem Wb (l:List (Nat×Nat)): ∀(R:List (List Int)) (i:Nat),(∀r,R.getD i []=r->r.Pairwise (λa b=>a<b))->((l.foldl addP R).getD i []).Pairwise (λa b=>a<b)/\(i<R.length-> ∀x,x∈(l.foldl addP R).getD i []↔x∈R.getD i []\/ ∃k:Nat,x=k/\(i,k)∈l)/\((l.foldl addP R).getD i []).length<=(R.getD i []).length+l.length:=by
 induction l with
 |nil=>intro R i h;exact⟨h _ rfl,λ_ x=>by simp,by simp⟩
 |cons p l ih=>
  intro R i h;rw[List.foldl_cons];have hg:=addP_getD R p i;obtain⟨a1,a2,a3⟩:=ih (addP R p) i (λr hr=>by
   subst hr;rw[hg];split
   ·exact C2 (h _ rfl)
   ·exact h _ rfl)
  refine⟨a1,λhi x=> ?_, ?_⟩
  ·rw[a2 (by rw[Sf];exact hi),hg];by_cases hp:i=p.1
   ·subst hp;rw[if_pos ⟨rfl,hi⟩,K7];constructor
    ·rintro ((rfl|h1)|⟨k,h1,h2⟩)
     ·exact .inr ⟨p.2,rfl,List.mem_cons_self ..⟩
     ·exact .inl h1
     ·exact .inr ⟨k,h1,List.mem_cons_of_mem _ h2⟩
    ·rintro (h1|⟨k,h1,h2⟩)
     ·exact .inl (.inr h1)
     ·rcases List.mem_cons.1 h2 with h2|h2
      ·have e:k=p.2:=congrArg Prod.snd h2;exact .inl (.inl (h1.trans (by rw[e])))
      ·exact .inr ⟨k,h1,h2⟩
   ·rw[if_neg (λe=>hp e.1)];constructor
    ·rintro (h1|⟨k,h1,h2⟩)
     ·exact .inl h1
     ·exact .inr ⟨k,h1,List.mem_cons_of_mem _ h2⟩
    ·rintro (h1|⟨k,h1,h2⟩)
     ·exact .inl h1
     ·rcases List.mem_cons.1 h2 with h2|h2
      ·subst h2;exact absurd rfl hp
      ·exact .inr ⟨k,h1,h2⟩
  ·rw[hg]at a3;rw[List.length_cons];split at a3
   ·have:=Mm p.2 (R.getD i []);omega
   ·omega
theorem prs_length (L:List T3):(L.flatMap prs).length=L.length*6:=by
 induction L with
 |nil=>rfl
 |cons x L ih=>rw[List.flatMap_cons,List.length_append,ih,List.length_cons];simp only[prs,List.length_cons,List.length_nil];omega
theorem Nq (N i:Nat):(List.replicate N ([]:List Int)).getD i []=[]:=by
 rw[List.getD_eq_getElem?_getD,List.getElem?_replicate];split<;>rfl
theorem Vw {N:Nat} {l:List (Nat×Nat)} (i:Nat):((l.foldl addP (List.replicate N [])).getD i []).Pairwise (λa b=>a<b)/\(i<N-> ∀x,x∈(l.foldl addP (List.replicate N [])).getD i []↔ ∃k:Nat,x=k/\(i,k)∈l)/\((l.foldl addP (List.replicate N [])).getD i []).length<=l.length:=by
 obtain⟨h1,h2,h3⟩:=Wb l (List.replicate N []) i (λr hr=>by rw[Nq]at hr;subst hr;exact .nil);refine⟨h1,λhi x=> ?_, ?_⟩
 ·rw[h2 (by simpa using hi),Nq];simp
 ·rw[Nq]at h3;simpa using h3
end Go.Proofs.YtjmempcalaliiaaGreatDoor
/- The reference's neighbours: what the function comes to. -/
namespace Go.Proofs.YtjmempcalaliiaaGreatDoor
open Go Go.PM Go.Grid
attribute [local congr] Zr Zs Zt Ya Zu Zv Yb Yc Yd Ye Zw Zx Yf Y5 Y6 Y7 Y8 Y9 Xb Xc Xd Xe Xa Zz Z0 Xf Z1 Z2 Zm Z3 Zy
def accR (N:Nat) (l:List (Nat×Nat)):List (List Int):=l.foldl addP (List.replicate N [])
theorem accR_snoc (N:Nat) (l:List (Nat×Nat)) (p:Nat×Nat):accR N (l++[p])=addP (accR N l) p:=by simp[accR]
theorem Mn (N:Nat) (l:List (Nat×Nat)):(accR N l).length=N:=by unfold accR;rw[Jw];simp
theorem put2 (a b:C):putAt [C.v (.int .i64 0),C.v (.int .i64 0)] 0 [a,b]=[a,b]:=rfl
theorem ints_at (r:List Int) {m:Nat} (h:m<r.length):(ints r).drop m=C.v (.int .i64 r[m])::ints (r.drop (m+1)):=by
 rw[Nn,List.drop_eq_getElem_cons h];rfl
section
variable (fu d:Nat) (hf:18446744073709551616<=fu)
include hf
set_option maxHeartbeats 8000000 in
theorem Jx (n:Nat) (h:freq n): ∃L:List T3,L.Perm (tri n)/\cl fu (d+8) fn_synopticref03_around [I n] []=OK (V.c (C.sl (nodes n).length ((accR (nodes n).length (L.flatMap prs)).map rC1))):=by
 have hn:=h;unfold freq at hn;obtain⟨L,hp,hC⟩:=F6 fu d hf n h;have hN:=Xo h;have hNl:=Z7 h;have hcnt:=Tf fu (d+6) n h;rw[<-hN]at hcnt;have hin: ∀t∈L,t.1<(nodes n).length/\t.2.1<(nodes n).length/\t.2.2<(nodes n).length:=λt ht=>F2 h t (hp.mem_iff.1 ht);have hLl:L.length<=5000:=by rw[hp.length_eq];exact K5 h
 refine⟨L,hp, ?_⟩;generalize (nodes n).length=N at*
 have hR0:(accR N []).map rC1=reps N [C.nl]:=by rw[reps_nl];rfl
 have hRl:=Mn N;have hrow: ∀l i,((accR N l).getD i []).length<=l.length:=λl i=>(Vw (N:=N) (l:=l) i).2.2;rw[eq_synopticref03_around,hC];simp(disch:=omega)only[Zc,QM,QD,hcnt,Int.toNat_natCast,Xy,List.length_cons,List.length_nil,Nat.zero_add,Nat.mul_one];rw[Zh (λj:Nat=>((accR N ((L.take j).flatMap prs)).map rC1,(j:Int),())) 0 ((accR N (L.flatMap prs)).map rC1,((L.length:Nat):Int),()) L.length ?_ ?_ ?_ (by omega)]
 ·have htk:List.take N ((accR N (L.flatMap prs)).map rC1)=(accR N (L.flatMap prs)).map rC1:=List.take_of_length_le (by rw[List.length_map,hRl];exact Nat.le_refl _);simp(disch:=omega)only[Zc,QM,QD,List.length_map,hRl,Nat.div_one,Nat.mul_one,Nat.zero_add,htk]
 ·rw[<-hR0];rfl
 ·intro j hj;have hat:=Pi Zo hj;have hts:=hin L[j] (List.getElem_mem hj);have hnx:(L.take (j+1)).flatMap prs=(L.take j).flatMap prs++prs L[j]:=by rw[List.take_succ_eq_append_getElem hj,List.flatMap_append];simp
  have hl0:((L.take j).flatMap prs).length=j*6:=by rw[prs_length,List.length_take,Nat.min_eq_left (by omega)]
  rw[hnx];generalize (L.take j).flatMap prs=l0 at*
  generalize L[j]=t at*
  obtain⟨x,y,z⟩:=t;simp only[trC]at hat hts;simp(disch:=omega)only[Zc,QM,QD,Int.toNat_natCast,hat,List.cons_append,List.nil_append,List.length_map,hRl,Nat.div_one,Nat.mul_one];rw[Zh (λq:Nat=>((accR N (l0++(prs (x,y,z)).take q)).map rC1,(q:Int),())) 0 ((accR N (l0++prs (x,y,z))).map rC1,(6:Int),()) 6 ?_ ?_ ?_ (by omega)]
  ·simp(disch:=omega)only[Zc,QM,QD,List.length_map,hRl,Nat.div_one,Nat.mul_one];rfl
  ·simp only[List.take_zero,List.append_nil];rfl
  ·intro q hq;have hpl:(prs (x,y,z)).length=6:=rfl;have hq':q<(prs (x,y,z)).length:=hq;have hnx2:l0++(prs (x,y,z)).take (q+1)=(l0++(prs (x,y,z)).take q)++[(prs (x,y,z))[q]]:=by rw[List.take_succ_eq_append_getElem hq',List.append_assoc]
   have hl1:(l0++(prs (x,y,z)).take q).length<=30000:=by rw[List.length_append,List.length_take,hl0];omega
   have h12:List.take 2 (List.drop (q*2) [C.v (.int .i64 (x:Int)),C.v (.int .i64 (y:Int)),C.v (.int .i64 (x:Int)),C.v (.int .i64 (z:Int)),C.v (.int .i64 (y:Int)),C.v (.int .i64 (z:Int)),C.v (.int .i64 (y:Int)),C.v (.int .i64 (x:Int)),C.v (.int .i64 (z:Int)),C.v (.int .i64 (x:Int)),C.v (.int .i64 (z:Int)),C.v (.int .i64 (y:Int))])=[C.v (.int .i64 ((prs (x,y,z))[q].1:Int)),C.v (.int .i64 ((prs (x,y,z))[q].2:Int))]:=by
    rcases(show q=0\/q=1\/q=2\/q=3\/q=4\/q=5 by omega)with rfl|rfl|rfl|rfl|rfl|rfl<;>rfl
   have hpin:(prs (x,y,z))[q].1<N:=by
    rcases(show q=0\/q=1\/q=2\/q=3\/q=4\/q=5 by omega)with rfl|rfl|rfl|rfl|rfl|rfl<;>(simp only[prs,List.getElem_cons_zero,List.getElem_cons_succ];omega)
   rw[hnx2,accR_snoc];generalize (prs (x,y,z))[q]=pr at*
   generalize l0++(prs (x,y,z)).take q=l1 at*
   obtain⟨a,b⟩:=pr;simp only at hpin h12;have hrl:=hrow l1 a;have hRN:=hRl l1;generalize accR N l1=R at*
   have hdr:=Gb R (show a<R.length by omega);have hput:=rows_put R (show a<R.length by omega);obtain⟨k,k1,k2,k3,k4,k5⟩:=insU_at (b:Int) (R.getD a []);obtain⟨c,c1,c2⟩:=slice_rC1 (R.getD a []) k k1;have hadd:addP R (a,b)=R.set a (insU (b:Int) (R.getD a [])):=rfl;have hsame:=addP_same (R:=R) (p:=(a,b));simp only at hsame;have hal:=Sf R (a,b);generalize R.getD a []=row at*
   simp(disch:=omega)only[Zc,QM,QD,Int.toNat_natCast,List.length_drop,List.length_cons,List.length_nil,Nat.zero_add,Nat.reduceAdd,h12,List.length_map,hRN,Nat.div_one,Nat.mul_one,put2];rw[Zh (λm:Nat=>(R.map rC1,(m:Int),[C.v (.int .i64 (a:Int)),C.v (.int .i64 (b:Int))],())) 0 (R.map rC1,(k:Int),[C.v (.int .i64 (a:Int)),C.v (.int .i64 (b:Int))],()) k ?_ ?_ ?_ (by omega)]
   ·have hnew:insU (b:Int) row=row.take k++(b:Int)::row.drop k->putAt (R.map rC1) a [C.sl (k+(1+(row.length-k))) (ints (row.take k)++([C.v (.int .i64 (b:Int))]++ints (row.drop k)))]=(addP R (a,b)).map rC1:=by
     intro e;have e1:(row.take k++(b:Int)::row.drop k).length=k+(1+(row.length-k)):=by rw[List.length_append,List.length_cons,List.length_drop,List.length_take,Nat.min_eq_left k1];omega
     have e2:ints (row.take k++(b:Int)::row.drop k)=ints (row.take k)++([C.v (.int .i64 (b:Int))]++ints (row.drop k)):=by simp[ik]
     rw[hadd,e,<-hput,rC1_ne (by simp),e1,e2]
    have e0:List.drop 1 [C.v (.int .i64 (a:Int)),C.v (.int .i64 (b:Int))]=[C.v (.int .i64 (b:Int))]:=rfl;by_cases hk:k<row.length
    ·have hia:=ints_at row hk;by_cases hb:row[k]=(b:Int)
     ·rw[hsame (k5 hk hb)];simp(disch:=omega)only[Zc,QM,QD,Nat.zero_add,Nat.mul_one,Nat.div_one,Int.toNat_natCast,hdr,Uo,hia,e0,List.length_map,hRN];rfl
     ·have hnew:=hnew (k4 λ_=>hb);have hnl:(putAt (R.map rC1) a [C.sl (k+(1+(row.length-k))) (ints (row.take k)++([C.v (.int .i64 (b:Int))]++ints (row.drop k)))]).length=N:=by rw[hnew,List.length_map,hal,hRN]
      simp(disch:=omega)only[Zc,QM,QD,Nat.zero_add,Nat.mul_one,Nat.div_one,Int.toNat_natCast,hdr,Uo,hia,e0,c1,c2,List.length_map,hRN,Zf,Np,List.length_append,List.length_cons,List.length_nil,List.length_drop,List.length_take,Nat.min_eq_left,hnl,decide_true];rw[hnew];rfl
    ·have hnew:=hnew (k4 λh=>absurd h hk);have hnl:(putAt (R.map rC1) a [C.sl (k+(1+(row.length-k))) (ints (row.take k)++([C.v (.int .i64 (b:Int))]++ints (row.drop k)))]).length=N:=by rw[hnew,List.length_map,hal,hRN]
     simp(disch:=omega)only[Zc,QM,QD,Nat.zero_add,Nat.mul_one,Nat.div_one,Int.toNat_natCast,hdr,Uo,e0,c1,c2,List.length_map,hRN,Zf,Np,List.length_append,List.length_cons,List.length_nil,List.length_drop,List.length_take,Nat.min_eq_left,hnl,decide_true];rw[hnew];rfl
   ·rfl
   ·intro m hm;have hml:m<row.length:=by omega
    have hlt:=k2 m hml hm;have hia:=ints_at row hml;have e0:List.drop 1 [C.v (.int .i64 (a:Int)),C.v (.int .i64 (b:Int))]=[C.v (.int .i64 (b:Int))]:=rfl;simp(disch:=omega)only[Zc,QM,QD,Nat.zero_add,Nat.mul_one,Nat.div_one,Int.toNat_natCast,hdr,Uo,hia,e0,List.length_map,hRN];rfl
   ·have e0:List.drop 1 [C.v (.int .i64 (a:Int)),C.v (.int .i64 (b:Int))]=[C.v (.int .i64 (b:Int))]:=rfl;by_cases hk:k<row.length
    ·have hge:=k3 hk;have hia:=ints_at row hk;simp(disch:=omega)only[Zc,QM,QD,Nat.zero_add,Nat.mul_one,Nat.div_one,Int.toNat_natCast,hdr,Uo,hia,e0,List.length_map,hRN]
    ·simp(disch:=omega)only[Zc,QM,QD,Nat.zero_add,Nat.mul_one,Nat.div_one,Int.toNat_natCast,hdr,Uo,e0,List.length_map,hRN]
  ·simp(disch:=omega)only[Zc,QM,QD,List.length_map,hRl,Nat.div_one,Nat.mul_one];rfl
 ·rw[List.take_length];simp(disch:=omega)only[Zc,QM,QD,List.length_map,hRl,Nat.div_one,Nat.mul_one]
end
end Go.Proofs.YtjmempcalaliiaaGreatDoor
/- The reference's edges are the grid's. -/
namespace Go.Proofs.YtjmempcalaliiaaGreatDoor
open Go Go.PM Go.Grid
attribute [local congr] Zr Zs Zt Ya Zu Zv Yb Yc Yd Ye Zw Zx Yf Y5 Y6 Y7 Y8 Y9 Xb Xc Xd Xe Xa Zz Z0 Xf Z1 Z2 Zm Z3 Zy
def ltE (a b:Ed):Prop:=a.1<b.1\/a.1=b.1/\a.2<b.2
theorem K8 (a:Ed): ¬ltE a a:=by unfold ltE;omega
theorem ltE_asymm {a b:Ed} (h:ltE a b): ¬ltE b a:=by unfold ltE at*;omega
theorem Pq: ∀{p q:List Ed},p.Pairwise ltE->q.Pairwise ltE->(∀x,x∈p↔x∈q)->p=q
 | [],[],_,_,_=>rfl
 | [],b::q,_,_,h=>by have:=(h b).2 (List.mem_cons_self ..);cases this
 |a::p,[],_,_,h=>by have:=(h a).1 (List.mem_cons_self ..);cases this
 |a::p,b::q,hp,hq,h=>by
  rw[List.pairwise_cons]at hp hq;have e:a=b:=by
   rcases List.mem_cons.1 ((h a).1 (List.mem_cons_self ..))with h1|h1
   ·exact h1
   ·rcases List.mem_cons.1 ((h b).2 (List.mem_cons_self ..))with h2|h2
    ·exact h2.symm
    ·exact absurd (hp.1 b h2) (ltE_asymm (hq.1 a h1))
  subst e;have:p=q:=Pq hp.2 hq.2 λx=>by
   constructor
   ·intro hx;rcases List.mem_cons.1 ((h x).1 (List.mem_cons_of_mem _ hx))with h1|h1
    ·subst h1;exact absurd (hp.1 x hx) (K8 x)
    ·exact h1
   ·intro hx;rcases List.mem_cons.1 ((h x).2 (List.mem_cons_of_mem _ hx))with h1|h1
    ·subst h1;exact absurd (hq.1 x hx) (K8 x)
    ·exact h1
  rw[this]
theorem K9 {α:Type} [Inhabited α] (l:List α) {j:Nat} (hj:j<l.length):l.toArray[j]! =l[j]:=by
 rw[getElem!_pos l.toArray j (by simpa using hj)];simp
theorem Nr {α:Type} [Inhabited α] [DecidableEq α] (l:List α) {j:Nat} (hj:j<l.length):Lib.keeps l.toArray j=true↔j=0\/ ∃h:0<j,l[j]≠l[j-1]:=by
 unfold Lib.keeps;rw[K9 l hj,K9 l (show j-1<l.length by omega)];simp;constructor
 ·rintro (h|h)
  ·exact .inl h
  ·by_cases h0:j=0
   ·exact .inl h0
   ·exact .inr ⟨by omega,h⟩
 ·rintro (h|⟨_,h⟩)
  ·exact .inl h
  ·exact .inr h
theorem compact_all {α:Type} [Inhabited α] [DecidableEq α] (l:List α): ∀(j:Nat) (hj:j<l.length),l[j]∈Lib.compact l:=by
 have key: ∀(j:Nat) (hj:j<l.length),Lib.keeps l.toArray j=true->l[j]∈Lib.compact l:=by
  intro j hj hk;unfold Lib.compact Lib.compactUpTo;rw[<-K9 l hj];exact List.mem_map_of_mem (List.mem_filter.2 ⟨List.mem_range.2 hj,hk⟩)
 intro j
 induction j with
 |zero=>intro hj;exact key 0 hj ((Nr l hj).2 (.inl rfl))
 |succ j ih=>
  intro hj;by_cases e:l[j+1]=l[j]
  ·rw[e];exact ih (by omega)
  ·exact key (j+1) hj ((Nr l hj).2 (.inr ⟨by omega,e⟩))
theorem C3 (l:List Ed) (h:l.Pairwise λa b=>leZ a b=true):(Lib.compact l).Pairwise ltE:=by
 unfold Lib.compact Lib.compactUpTo;rw[List.pairwise_map,List.pairwise_filter];refine(List.pairwise_lt_range (n:=l.length)).imp_of_mem λ{a b} ha hb hab ka kb=> ?_;have ha:=List.mem_range.1 ha;have hb:=List.mem_range.1 hb;rw[K9 l ha,K9 l hb];rcases(Nr l hb).1 kb with h0|⟨h0,hne⟩
 ·omega
 have g:=List.pairwise_iff_getElem.1 h;have h1:leZ l[a] l[b-1]=true:=by
  by_cases e:a=b-1
  ·subst e;rw[U2];exact .inr ⟨rfl,by omega⟩
  ·exact g a (b-1) ha (by omega) (by omega)
 have h2:leZ l[b-1] l[b]=true:=g (b-1) b (by omega) hb (by omega);have h3:l[b]≠l[b-1]:=hne;generalize l[a]=u at*
 generalize l[b]=v at*
 generalize l[b-1]=w at*
 have h4: ¬leZ v w=true:=λe=>h3 (Cx _ _ e h2);rw[U2]at h1 h2 h4;unfold ltE;omega
theorem edg_asc (n:Nat):(edg n).Pairwise ltE:=C3 _ (Ss (λa b=>by rw[U2,U2];omega) (λa b c h h'=>by rw[U2]at h h'⊢;omega) _)
theorem F7 (n:Nat) (e:Ed):e∈edg n↔e∈rawE n:=by
 constructor
 ·intro h;exact(Yg leZ _).mem_iff.1 (Mj h)
 ·intro h;have h:=(Yg leZ _).mem_iff.2 h;obtain⟨j,hj,rfl⟩:=List.getElem_of_mem h;exact compact_all _ j hj
theorem Ja (n:Nat) (e:Ed):e∈rawE n↔ ∃t∈tri n,e∈edsT t:=by
 unfold rawE;rw[List.mem_flatMap];exact⟨λ⟨t,h,h'⟩=>⟨t,(Yg leT _).mem_iff.1 h,h'⟩,λ⟨t,h,h'⟩=>⟨t,(Yg leT _).mem_iff.2 h,h'⟩⟩
theorem C4 {i j k:Nat} (h1:i≠j) (h2:i≠k) (h3:j≠k):(sort3 i j k).1<(sort3 i j k).2.1/\(sort3 i j k).2.1<(sort3 i j k).2.2:=by
 unfold sort3;split<;>split<;>try split
 all_goals first|(simp only;omega)|omega
theorem pt_ne {n f a b a' b':Nat} (h:freq n) (hne:a≠a'\/b≠b'):pt n f a b≠pt n f a' b':=by
 intro e;have hs:=X9 h;have e1:a*(840/n)=a'*(840/n):=congrArg Pl.a e;have e2:b*(840/n)=b'*(840/n):=congrArg Pl.b e;rcases hne with hne|hne
 ·exact hne (Nat.eq_of_mul_eq_mul_right (by omega) e1)
 ·exact hne (Nat.eq_of_mul_eq_mul_right (by omega) e2)
theorem tri_lt {n:Nat} (h:freq n): ∀t∈tri n,t.1<t.2.1/\t.2.1<t.2.2:=by
 intro t ht;unfold tri faceC rowC at ht;simp only[List.mem_flatMap,List.mem_range]at ht;obtain⟨f,hf,a,ha,b,hb,ht⟩:=ht;have hp: ∀i j i' j',i+j<=n->i'+j'<=n->(i≠i'\/j≠j')->idx n (pt n f i j)≠idx n (pt n f i' j'):=λi j i' j' h1 h2 h3 e=>pt_ne h h3 (idx_inj h (Pm hf h1) (Pm hf h2) rfl e);unfold cellsAt at ht;rcases List.mem_cons.1 ht with rfl|ht
 ·exact C4 (hp _ _ _ _ (by omega) (by omega) (by omega)) (hp _ _ _ _ (by omega) (by omega) (by omega)) (hp _ _ _ _ (by omega) (by omega) (by omega))
 ·split at ht
  ·obtain rfl:=List.mem_singleton.1 ht;exact C4 (hp _ _ _ _ (by omega) (by omega) (by omega)) (hp _ _ _ _ (by omega) (by omega) (by omega)) (hp _ _ _ _ (by omega) (by omega) (by omega))
  ·cases ht
def rowE (i:Nat) (r:List Int):List Ed:=(r.filter λk=>decide ((i:Int)<k)).map λk=>((i:Int),k)
def edgR (N:Nat) (A:List (List Int)):List Ed:=(List.range N).flatMap λi=>rowE i (A.getD i [])
theorem edgR_eq {n:Nat} (h:freq n) {L:List T3} (hp:L.Perm (tri n)):edgR (nodes n).length (accR (nodes n).length (L.flatMap prs))=edg n:=by
 refine Pq ?_ (edg_asc n) λe=> ?_
 ·unfold edgR;refine X5 (Q:=λa b=>a<b) List.pairwise_lt_range (λi _=> ?_) λi _ j _ hij u hu v hv=> ?_
  ·unfold rowE;rw[List.pairwise_map];exact((Vw i).1.filter _).imp λ{a b} h=> .inr ⟨rfl,h⟩
  ·unfold rowE at hu hv;obtain⟨x,_,rfl⟩:=List.mem_map.1 hu;obtain⟨y,_,rfl⟩:=List.mem_map.1 hv;refine .inl ?_;show(i:Int)<(j:Int);omega
 ·rw[F7,Ja];unfold edgR;rw[List.mem_flatMap];constructor
  ·rintro ⟨i,hi,he⟩
   have hi:=List.mem_range.1 hi;unfold rowE at he;obtain⟨k,hk,rfl⟩:=List.mem_map.1 he;obtain⟨h1,h2⟩:=List.mem_filter.1 hk;have h2:=of_decide_eq_true h2;obtain⟨k',rfl,h3⟩:=((Vw i).2.1 hi k).1 h1;obtain⟨t,ht,h4⟩:=List.mem_flatMap.1 h3;have ht:=hp.mem_iff.1 ht;obtain⟨l1,l2⟩:=tri_lt h t ht;refine⟨t,ht, ?_⟩;obtain⟨x,y,z⟩:=t;simp only[prs,edsT,List.mem_cons,List.mem_nil_iff,or_false,Prod.mk.injEq]at h4 l1 l2⊢;omega
  ·rintro ⟨t,ht,he⟩
   obtain⟨l1,l2⟩:=tri_lt h t ht;obtain⟨b1,b2,b3⟩:=F2 h t ht;have hL:=hp.mem_iff.2 ht;have key: ∀i k:Nat,(i,k)∈prs t->i<k->i<(nodes n).length->e=((i:Int),(k:Int))-> ∃a,a∈List.range (nodes n).length/\e∈rowE a ((accR (nodes n).length (L.flatMap prs)).getD a []):=by
    intro i k hik hlt hi e1;refine⟨i,List.mem_range.2 hi, ?_⟩;unfold rowE;rw[e1];refine List.mem_map.2 ⟨(k:Int),List.mem_filter.2 ⟨((Vw i).2.1 hi _).2 ⟨k,rfl,List.mem_flatMap.2 ⟨t,hL,hik⟩⟩,decide_eq_true (by omega)⟩,rfl⟩
   simp only[edsT,List.mem_cons,List.mem_nil_iff,or_false]at he;rcases he with e1|e1|e1
   ·exact key t.1 t.2.1 (by simp[prs]) l1 b1 e1
   ·exact key t.1 t.2.2 (by simp[prs]) (by omega) b1 e1
   ·exact key t.2.1 t.2.2 (by simp[prs]) l2 b2 e1
section
variable (fu d:Nat) (hf:18446744073709551616<=fu)
include hf
set_option maxHeartbeats 4000000 in
theorem Ps (n:Nat) (h:freq n):cl fu (d+9) fn_synopticref03_Edges [I n] []=OK (V.tup [V.c (C.sl (edg n).length (fl edC (edg n))),I 0]):=by
 obtain⟨L,hp,hA⟩:=Jx fu d hf n h;have hE:=edgR_eq h hp;have heL:=Xw h;have hNl:=Z7 h;have hcnt:=Tf fu (d+7) n h;have hRl:=Mn (nodes n).length (L.flatMap prs);have hin: ∀i,∀k∈(accR (nodes n).length (L.flatMap prs)).getD i [],i<(nodes n).length->0<=k/\k<=1000:=by
  intro i k hk hi;obtain⟨k',rfl,h3⟩:=((Vw i).2.1 hi k).1 hk;obtain⟨t,ht,h4⟩:=List.mem_flatMap.1 h3;obtain⟨b1,b2,b3⟩:=F2 h t (hp.mem_iff.1 ht);obtain⟨x,y,z⟩:=t;simp only[prs,List.mem_cons,List.mem_nil_iff,or_false,Prod.mk.injEq]at h4 b1 b2 b3;omega
 have hrl: ∀i,((accR (nodes n).length (L.flatMap prs)).getD i []).length<=30000:=λi=>by
  have h1:((accR (nodes n).length (L.flatMap prs)).getD i []).length<=(L.flatMap prs).length:=(Vw i).2.2;have h2:=K5 h;rw[prs_length,hp.length_eq]at h1;omega
 generalize accR (nodes n).length (L.flatMap prs)=A at*
 unfold edgR at hE;generalize (nodes n).length=N at*
 have hpre: ∀j,j<=N->((List.range j).flatMap λi=>rowE i (A.getD i [])).length<=15000:=by
  intro j hj;rw[<-hE]at heL;refine Nat.le_trans ?_ heL;obtain⟨m,rfl⟩:=Nat.exists_eq_add_of_le hj;rw[List.range_add,List.flatMap_append,List.length_append];omega
 rw[<-hE];rw[eq_synopticref03_Edges,hcnt];simp only[Zc,QM];rw[Nh C0,hA];simp only[Zc,QM];rw[Zh (λj:Nat=>(fl edC ((List.range j).flatMap λi=>rowE i (A.getD i [])),(j:Int),())) 0 (fl edC ((List.range N).flatMap λi=>rowE i (A.getD i [])),(N:Int),()) N ?_ ?_ ?_ (by omega)]
 ·have hl:=Zg Yh ((List.range N).flatMap λi=>rowE i (A.getD i []));generalize (List.range N).flatMap (λi=>rowE i (A.getD i []))=E at*
  have hdv:E.length*2/2=E.length:=by omega
  have htk:List.take (E.length*2) (fl edC E)=fl edC E:=List.take_of_length_le (by omega);simp(disch:=omega)only[Zc,QM,QD,hl,hdv,Nat.zero_add,htk]
 ·rfl
 ·intro j hj;have hdr:=Gb A (show j<A.length by omega);have hb:=hpre j (by omega);have hb2:=hpre (j+1) (by omega);have hsu:(List.range (j+1)).flatMap (λi=>rowE i (A.getD i []))=(List.range j).flatMap (λi=>rowE i (A.getD i []))++rowE j (A.getD j []):=by rw[List.range_succ,List.flatMap_append];simp
  rw[hsu]at hb2⊢;have hk:=λk hk=>hin j k hk hj;have hrl:=hrl j;generalize (List.range j).flatMap (λi=>rowE i (A.getD i []))=E0 at*
  generalize A.getD j []=row at*
  have hdv: ∀E:List Ed,E.length*2/2=E.length:=λE=>by omega
  have hl:=λE=>Zg Yh E;have hro: ∀m,m<=row.length->(rowE j (row.take m)).length<=m:=by
   intro m hm;unfold rowE;rw[List.length_map];exact Nat.le_trans (List.length_filter_le ..) (by rw[List.length_take];omega)
  simp(disch:=omega)only[Zc,QM,QD,Uo,Int.toNat_natCast,Nat.mul_one,hdr,hl,hdv];rw[Zh (λm:Nat=>(fl edC (E0++rowE j (row.take m)),(m:Int),())) 0 (fl edC (E0++rowE j row),((row.length:Nat):Int),()) row.length ?_ ?_ ?_ (by omega)]
  ·simp(disch:=omega)only[Zc,QM,QD,hl,hdv];rfl
  ·simp only[List.take_zero,rowE,List.filter_nil,List.map_nil,List.append_nil];rfl
  ·intro m hm;have hia:=ints_at row hm;have hkm:=hk row[m] (List.getElem_mem hm);have hr1:=hro m (by omega);have hr2:=hro (m+1) (by omega);have hst:rowE j (row.take (m+1))=rowE j (row.take m)++(if(j:Int)<row[m]then[((j:Int),row[m])]else[]):=by
    unfold rowE;rw[List.take_succ_eq_append_getElem hm,List.filter_append,List.map_append];by_cases hlt:(j:Int)<row[m]
    ·rw[if_pos hlt];simp[hlt]
    ·rw[if_neg hlt];simp[hlt]
   rw[hst]at hr2⊢;generalize row[m]=v at*
   generalize rowE j (row.take m)=E1 at*
   have hEl:(E0++E1).length<=100000:=by rw[List.length_append];omega
   by_cases hlt:(j:Int)<v
   ·rw[if_pos hlt]at hr2⊢;rw[<-List.append_assoc];have hsn:fl edC (E0++E1)++[C.v (.int .i64 (j:Int)),C.v (.int .i64 v)]=fl edC (E0++E1++[((j:Int),v)]):=Ph (E0++E1) ((j:Int),v);have hsl:(E0++E1++[((j:Int),v)]).length=(E0++E1).length+1:=by rw[List.length_append];rfl
    generalize E0++E1++[((j:Int),v)]=E3 at*
    generalize E0++E1=E2 at*
    simp(disch:=omega)only[Zc,QM,QD,Uo,Int.toNat_natCast,Nat.mul_one,hia,hl,hdv,hsn,hsl];rfl
   ·rw[if_neg hlt,List.append_nil];generalize E0++E1=E2 at*
    simp(disch:=omega)only[Zc,QM,QD,Uo,Int.toNat_natCast,Nat.mul_one,hia,hl,hdv];rfl
  ·rw[List.take_length];simp(disch:=omega)only[Zc,QM,QD,hl,hdv]
 ·have hl:=Zg Yh ((List.range N).flatMap λi=>rowE i (A.getD i []));have hle:=hpre N (by omega);generalize (List.range N).flatMap (λi=>rowE i (A.getD i []))=E at*
  have hdv:E.length*2/2=E.length:=by omega
  simp(disch:=omega)only[Zc,QM,QD,hl,hdv]
end
end Go.Proofs.YtjmempcalaliiaaGreatDoor
/- What reading codes comes to: numbers, vectors, states. -/
namespace Go.Proofs.YtjmempcalaliiaaGreatDoor
open Go Go.PM Go.Grid
attribute [local congr] Zr Zs Zt Ya Zu Zv Yb Yc Yd Ye Zw Zx Yf Y5 Y6 Y7 Y8 Y9 Xb Xc Xd Xe Xa Zz Z0 Xf Z1 Z2 Zm Z3 Zy
def bytes (bs:List Int):Prop:=(∀x∈bs,0<=x/\x<=255)/\bs.length<=1000
abbrev codesO (bs:List Int) (i:Nat):PM.Obj:= .ob ty_synopticfield_Codes 0 [C.sl bs.length (ik .u8 bs),C.v (.int .i64 (i:Int))]
def wid (lo hi:Int) (l:List Int):Prop:= ∀v∈l,lo<=v/\v<=hi
theorem wid_snoc {lo hi:Int} {l:List Int} {v:Int} (h:wid lo hi l) (hv:lo<=v/\v<=hi):wid lo hi (l++[v]):=by
 intro x hx;rcases List.mem_append.1 hx with hx|hx
 ·exact h x hx
 ·rw[List.mem_singleton.1 hx];exact hv
theorem Q3 {lo hi lo' hi':Int} {l:List Int} (h:wid lo hi l) (h1:lo'<=lo) (h2:hi<=hi'):wid lo' hi' l:=λv hv=>by have:=h v hv;omega
theorem Wc {lo hi:Int} {l:List Int} (h:wid lo hi l) {j:Nat} (hj:j<l.length):lo<=l[j]/\l[j]<=hi:=h _ (List.getElem_mem hj)
theorem ik_at (kd:IntKind) (r:List Int) {m:Nat} (h:m<r.length):(ik kd r).drop m=C.v (.int kd r[m])::ik kd (r.drop (m+1)):=by
 unfold ik;rw[<-List.map_drop,List.drop_eq_getElem_cons h,List.map_cons]
theorem or24 {x y:Nat} (hx:x<16777216) (hy:y<16777216): ∃z:Nat,z<16777216/\IntKind.i64.wrap ((BitVec.ofInt (IntKind.bits .i64) (x:Int)|||BitVec.ofInt (IntKind.bits .i64) (y:Int)).toNat:Int)=(z:Int):=by
 have h1: ∀x:Nat,x<16777216->(BitVec.ofInt (IntKind.bits .i64) (x:Int)).toNat=x:=by
  intro x hx;rw[BitVec.toNat_ofInt];show(((x:Int)%((2^64:Nat):Int))).toNat=x;omega
 have h2:(BitVec.ofInt (IntKind.bits .i64) (x:Int)|||BitVec.ofInt (IntKind.bits .i64) (y:Int)).toNat=x|||y:=by rw[BitVec.toNat_or,h1 x hx,h1 y hy]
 have h3:x|||y<2^24:=Nat.or_lt_two_pow (by omega) (by omega)
 refine⟨x|||y,by omega, ?_⟩;rw[h2,X6 (by omega) (by omega)]
section
variable (fu d:Nat) (hf:18446744073709551616<=fu)
theorem sp_Left (bs:List Int) (i:Nat):cl fu (d+1) fn_synopticfield_Codes_Left [V.ptr 1000000 0] [codesO bs i]=some ⟨B (decide (i<bs.length)),[codesO bs i],none⟩:=by
 unfold codesO;rw[eq_synopticfield_Codes_Left];by_cases h:i<bs.length
 ·rw[decide_eq_true h];simp(disch:=omega)only[Zc,QM,QD]
 ·rw[decide_eq_false h];simp(disch:=omega)only[Zc,QM,QD]
theorem X7 {bs:List Int} (hb:bytes bs) {i:Nat} (hi:i<=1000) (n:Nat) (hn:1<=n/\n<=1000000):
  ∃v j:Nat,v<n/\j<=1000/\cl fu (d+2) fn_synopticfield_Codes_Next [V.ptr 1000000 0,I n] [codesO bs i]=some ⟨I v,[codesO bs j],none⟩:=by
 have hL:=sp_Left fu d bs i;obtain⟨hb,hl⟩:=hb;unfold codesO at hL⊢;rw[eq_synopticfield_Codes_Next,hL];by_cases h:i<bs.length
 ·have hx:=hb bs[i] (List.getElem_mem h);have hia:=ik_at .u8 bs h;have e1:IntKind.i64.wrap bs[i]=bs[i]:=X6 (by omega) (by omega);have e2:Int.tmod bs[i] (n:Int)=bs[i]%(n:Int):=IntWalk.rem_in _ _ hx.1;have e3:(i:Int)+1-1=(i:Int):=by omega
  have h1:0<=bs[i]%(n:Int):=Int.emod_nonneg _ (by omega);have h2:bs[i]%(n:Int)<n:=Int.emod_lt_of_pos _ (by omega);rw[decide_eq_true h];refine⟨(bs[i]%(n:Int)).toNat,i+1,by omega,by omega, ?_⟩;rw[Int.toNat_of_nonneg h1];simp(disch:=omega)only[Zc,QM,QD,List.length_cons,List.length_nil,Nat.zero_add,Nat.reduceAdd,e3,Int.toNat_natCast,Nat.mul_one,hia,e1,e2,Int.natCast_add,Int.natCast_one]
 ·rw[decide_eq_false h];refine⟨0,i,by omega,hi, ?_⟩;simp(disch:=omega)only[Zc,QM,QD,List.length_cons,List.length_nil,Nat.zero_add,Nat.reduceAdd];rfl
theorem F8 {bs:List Int} (hb:bytes bs) {i:Nat} (hi:i<=1000):
  ∃n j:Nat,(n=1\/n=2)/\j<=1000/\cl fu (d+3) fn_synopticfield_Codes_Frequency [V.ptr 1000000 0] [codesO bs i]=some ⟨I n,[codesO bs j],none⟩:=by
 obtain⟨v,j,hv,hj,e⟩:=X7 fu d hb hi 5 (by omega);unfold codesO at e⊢;rw[eq_synopticfield_Codes_Frequency];replace e:cl fu (d+2) fn_synopticfield_Codes_Next [V.ptr 1000000 0,I 5] _=_:=e;have hdr: ∃n:Nat,(n=1\/n=2)/\ ∃r,List.drop v [C.v (.int .i64 1),C.v (.int .i64 1),C.v (.int .i64 1),C.v (.int .i64 1),C.v (.int .i64 2)]=C.v (.int .i64 (n:Int))::r:=by
  rcases(show v=0\/v=1\/v=2\/v=3\/v=4 by omega)with rfl|rfl|rfl|rfl|rfl
  ·exact⟨1, .inl rfl,_,rfl⟩
  ·exact⟨1, .inl rfl,_,rfl⟩
  ·exact⟨1, .inl rfl,_,rfl⟩
  ·exact⟨1, .inl rfl,_,rfl⟩
  ·exact⟨2, .inr rfl,_,rfl⟩
 obtain⟨n,hn,r,hdr⟩:=hdr;refine⟨n,j,hn,hj, ?_⟩;simp(disch:=omega)only[Zc,QM,QD,e,List.length_cons,List.length_nil,Nat.zero_add,Nat.reduceAdd,Int.toNat_natCast,Nat.mul_one,hdr]
theorem Su {bs:List Int} (hb:bytes bs) {i:Nat} (hi:i<=1000) (most:Nat) (hm:most<=10000000000000):
  ∃(v:Int) (j:Nat),(-(most:Int)<=v/\v<=most)/\j<=1000/\cl fu (d+3) fn_synopticfield_Codes_Signed [V.ptr 1000000 0,I most] [codesO bs i]=some ⟨I v,[codesO bs j],none⟩:=by
 obtain⟨v1,j1,hv1,hj1,e1⟩:=X7 fu d hb hi 256 (by omega);obtain⟨v2,j2,hv2,hj2,e2⟩:=X7 fu d hb hj1 256 (by omega);obtain⟨v3,j3,hv3,hj3,e3⟩:=X7 fu d hb hj2 256 (by omega);obtain⟨v4,j4,hv4,hj4,e4⟩:=X7 fu d hb hj3 2 (by omega);unfold codesO at e1 e2 e3 e4⊢;replace e1:cl fu (d+2) fn_synopticfield_Codes_Next [V.ptr 1000000 0,I 256] _=_:=e1;replace e2:cl fu (d+2) fn_synopticfield_Codes_Next [V.ptr 1000000 0,I 256] _=_:=e2;replace e3:cl fu (d+2) fn_synopticfield_Codes_Next [V.ptr 1000000 0,I 256] _=_:=e3;replace e4:cl fu (d+2) fn_synopticfield_Codes_Next [V.ptr 1000000 0,I 2] _=_:=e4;have w1:(v1:Int)*2^16=((v1*65536:Nat):Int):=by omega
 have w2:(v2:Int)*2^8=((v2*256:Nat):Int):=by omega
 obtain⟨z,hz,o1⟩:=or24 (x:=v1*65536) (y:=v2*256) (by omega) (by omega);obtain⟨y,hy,o2⟩:=or24 (x:=z) (y:=v3) hz (by omega);have t1:Int.tmod (y:Int) ((most:Int)+1)=((y%(most+1):Nat):Int):=by
  rw[IntWalk.rem_in _ _ (by omega),Int.natCast_emod,Int.natCast_add];rfl
 have hq:y%(most+1)<=most:=by have:=Nat.mod_lt y (show 0<most+1 by omega);omega
 rw[eq_synopticfield_Codes_Signed];simp(disch:=omega)only[Zc,QM,QD,e1,e2,w1,w2,o1,e3,o2,t1,List.length_cons,List.length_nil,Nat.zero_add,Nat.reduceAdd];generalize y%(most+1)=q at*
 by_cases h4:v4=1
 ·refine⟨0-(q:Int),j4,by omega,hj4, ?_⟩;simp(disch:=omega)only[Zc,QM,QD,e4,List.length_cons,List.length_nil,Nat.zero_add,Nat.reduceAdd]
 ·refine⟨(q:Int),j4,by omega,hj4, ?_⟩;simp(disch:=omega)only[Zc,QM,QD,e4,List.length_cons,List.length_nil,Nat.zero_add,Nat.reduceAdd]
theorem sp_NewC (bs:List Int) (k:Nat):cl fu (d+1) fn_synopticfield_New [V.c (C.sl bs.length (ik .u8 bs)),I (k:Int)] []=some ⟨V.ptr 1000000 0,[codesO (bs.take k) 0],none⟩:=by
 rw[eq_synopticfield_New];unfold codesO;by_cases h:k<bs.length
 ·have e1:(ik .u8 bs).take k=ik .u8 (bs.take k):=List.map_take.symm;simp(disch:=omega)only[Zc,QM,QD,Int.toNat_natCast,Nat.mul_one,e1,List.length_take,Nat.min_eq_left];rfl
 ·rw[show bs.take k=bs from List.take_of_length_le (by omega)];simp(disch:=omega)only[Zc,QM,QD];rfl
end
end Go.Proofs.YtjmempcalaliiaaGreatDoor
/- Vectors and states that are made from codes. -/
namespace Go.Proofs.YtjmempcalaliiaaGreatDoor
open Go Go.PM Go.Grid
attribute [local congr] Zr Zs Zt Ya Zu Zv Yb Yc Yd Ye Zw Zx Yf Y5 Y6 Y7 Y8 Y9 Xb Xc Xd Xe Xa Zz Z0 Xf Z1 Z2 Zm Z3 Zy
abbrev stC (n:Nat) (dp fw:List Int):List C:=[C.v (.int .i64 (n:Int)),C.sl dp.length (ints dp),C.sl fw.length (ints fw)]
structure StOk (n:Nat) (dp fw:List Int):Prop where
 dl:dp.length=(nodes n).length
 fl:fw.length=(edg n).length
 dw:wid 0 16777216 dp
 fw:wid (-1000000) 1000000 fw
theorem Pt {n:Nat} (h:n=1\/n=2):freq n:=by unfold freq;omega
section
variable (fu d:Nat) (hf:18446744073709551616<=fu)
include hf
set_option maxHeartbeats 4000000 in
theorem Sv {bs:List Int} (hb:bytes bs) {i:Nat} (hi:i<=1000) (n most:Nat) (hn:n<=1000000) (hm:most<=10000000000000) (top:Int) (ht:(most:Int)<=top/\9<=top):
  ∃(l:List Int) (j:Nat),l.length=n/\wid (-top) top l/\j<=1000/\cl fu (d+4) fn_synopticfield_Codes_Vector [V.ptr 1000000 0,I n,I most] [codesO bs i]=some ⟨V.c (C.sl l.length (ints l)),[codesO bs j],none⟩:=by
 obtain⟨v1,j1,hv1,hj1,e1⟩:=Su fu d hb hi most (by omega);obtain⟨v2,j2,hv2,hj2,e2⟩:=Su fu d hb hj1 most (by omega);obtain⟨v3,j3,hv3,hj3,e3⟩:=Su fu d hb hj2 most (by omega);obtain⟨v4,j4,hv4,hj4,e4⟩:=Su fu d hb hj3 9 (by omega);have hN:=λ(i:Nat) (hi:i<=1000)=>X7 fu (d+1) hb hi 7 (by omega);replace e4:cl fu (d+3) fn_synopticfield_Codes_Signed [V.ptr 1000000 0,I 9] _=_:=e4;unfold codesO at*
 rw[eq_synopticfield_Codes_Vector];simp(disch:=omega)only[Zc,QM,QD,e1,e2,e3,e4,List.length_cons,List.length_nil,Nat.zero_add,Nat.reduceAdd];refine Q2 (A:=List C×Int×(C×Int×Unit)×Unit) (B:=Out) (fu:=fu) (λo=> ∃(l:List Int) (j:Nat),l.length=n/\wid (-top) top l/\j<=1000/\o=some ⟨V.c (C.sl l.length (ints l)),[codesO bs j],none⟩)
  (λy=> ∃(l:List Int) (j:Nat),l.length<=n/\wid (-top) top l/\j<=1000/\y=(ints l,((l.length:Nat):Int),(C.sl bs.length (ik .u8 bs),(j:Int),()),())) (λy=>(n:Int).toNat-y.2.1.toNat)
  (λe y=>e=0/\ ∃(l:List Int) (j:Nat),l.length=n/\wid (-top) top l/\j<=1000/\y=(ints l,((l.length:Nat):Int),(C.sl bs.length (ik .u8 bs),(j:Int),()),())) ?_ ?_ ?_ ?_
 ·exact⟨[],j4,by simp,(by intro v hv;cases hv),hj4,rfl⟩
 ·show(n:Int).toNat-(0:Int).toNat<fu;omega
 ·rintro y ⟨l,j,hl,hw,hj,rfl⟩
  by_cases hlt:l.length<n
  ·obtain⟨v,k,hv,hk,e5⟩:=hN j hj;replace e5:cl fu (d+3) fn_synopticfield_Codes_Next [V.ptr 1000000 0,I 7] _=_:=e5;have w0:IntKind.i64.wrap (0-(most:Int))=0-(most:Int):=X6 (by omega) (by omega);obtain⟨x,r,hx,hdr⟩: ∃(x:Int) (r:List C),(-top<=x/\x<=top)/\List.drop v [C.v (.int .i64 v1),C.v (.int .i64 v2),C.v (.int .i64 v3),C.v (.int .i64 v4),C.v (.int .i64 0),C.v (.int .i64 (most:Int)),C.v (.int .i64 (0-(most:Int)))]=C.v (.int .i64 x)::r:=by
    rcases(show v=0\/v=1\/v=2\/v=3\/v=4\/v=5\/v=6 by omega)with rfl|rfl|rfl|rfl|rfl|rfl|rfl
    ·exact⟨v1,_,by omega,rfl⟩
    ·exact⟨v2,_,by omega,rfl⟩
    ·exact⟨v3,_,by omega,rfl⟩
    ·exact⟨v4,_,by omega,rfl⟩
    ·exact⟨0,_,by omega,rfl⟩
    ·exact⟨(most:Int),_,by omega,rfl⟩
    ·exact⟨0-(most:Int),_,by omega,rfl⟩
   refine .inl ⟨(ints (l++[x]),(((l++[x]).length:Nat):Int),(C.sl bs.length (ik .u8 bs),(k:Int),()),()), ?_,⟨l++[x],k,by simp;omega,wid_snoc hw hx,hk,rfl⟩, ?_⟩
   ·simp(disch:=omega)only[Zc,QM,QD,e5,List.length_cons,List.length_nil,Nat.zero_add,Nat.reduceAdd,w0,Int.toNat_natCast,Nat.mul_one,hdr,Zf,Nat.div_one,Yu,List.length_append,Int.natCast_add,Int.natCast_one]
   ·show(n:Int).toNat-(((l++[x]).length:Nat):Int).toNat<(n:Int).toNat-((l.length:Nat):Int).toNat;rw[List.length_append,List.length_singleton];omega
  ·refine .inr ⟨0,(ints l,((l.length:Nat):Int),(C.sl bs.length (ik .u8 bs),(j:Int),()),()), ?_,rfl,l,j,by omega,hw,hj,rfl⟩;simp(disch:=omega)only[Zc,QM,QD,Zf,Nat.div_one,Nat.mul_one]
 ·rintro e z ⟨rfl,l,j,hl,hw,hj,rfl⟩
  refine⟨l,j,hl,hw,hj, ?_⟩;have htk:List.take l.length (ints l)=ints l:=List.take_of_length_le (by rw[Zf];exact Nat.le_refl _);simp(disch:=omega)only[Zc,QM,QD,Zf,Nat.div_one,Nat.mul_one,Nat.zero_add,htk]
omit hf in
theorem sp_Clip (x:Int): ∃v,(0<=v/\v<=16777216)/\cl fu (d+1) fn_synopticref28_Clip [I x,I 0,I 16777216] []=OK (I v):=by
 rw[eq_synopticref28_Clip];exact⟨_,by constructor<;>(repeat' split)<;>omega,rfl⟩
omit hf in
theorem Jb (n:Nat) (h:freq n):cl fu (d+1) fn_synopticref22_Nodes [I n] []=OK (I ((nodes n).length:Int)):=by
 rw[Xo h,eq_synopticref22_Nodes];rcases X0 h with rfl|rfl|rfl|rfl|rfl|rfl|rfl|rfl<;>(show @Eq (Option Out) _ _;kernel_rfl)
set_option maxHeartbeats 4000000 in
theorem sp_State {bs:List Int} (hb:bytes bs) {i:Nat} (hi:i<=1000) (n:Nat) (h:freq n):
  ∃(dp fw:List Int) (j:Nat),StOk n dp fw/\j<=1000/\cl fu (d+10) fn_synopticfield_Codes_State [V.ptr 1000000 0,I n] [codesO bs i]=some ⟨V.agg (stC n dp fw),[codesO bs j],none⟩:=by
 have hE:=Ps fu d hf n h;have heL:=Xw h;have hNl:=Z7 h;have hN22:=Jb fu (d+8) n h;obtain⟨v1,j1,hv1,hj1,e1⟩:=X7 fu (d+7) hb hi 4 (by omega);replace e1:cl fu (d+9) fn_synopticfield_Codes_Next [V.ptr 1000000 0,I 4] _=_:=e1;obtain⟨m1,r1,hm1,hd1⟩: ∃(m:Nat) (r:List C),m<=1000000/\List.drop v1 [C.v (.int .i64 0),C.v (.int .i64 30),C.v (.int .i64 5000),C.v (.int .i64 1000000)]=C.v (.int .i64 (m:Int))::r:=by
  rcases(show v1=0\/v1=1\/v1=2\/v1=3 by omega)with rfl|rfl|rfl|rfl
  ·exact⟨0,_,by omega,rfl⟩
  ·exact⟨30,_,by omega,rfl⟩
  ·exact⟨5000,_,by omega,rfl⟩
  ·exact⟨1000000,_,by omega,rfl⟩
 obtain⟨fw,j2,hl2,hw2,hj2,e2⟩:=Sv fu (d+5) hf hb hj1 (edg n).length m1 (by omega) (by omega) 1000000 (by omega);obtain⟨v3,j3,hv3,hj3,e3⟩:=X7 fu (d+7) hb hj2 4 (by omega);replace e3:cl fu (d+9) fn_synopticfield_Codes_Next [V.ptr 1000000 0,I 4] _=_:=e3;obtain⟨m3,r3,hm3,hd3⟩: ∃(m:Nat) (r:List C),m<=2500000/\List.drop v3 [C.v (.int .i64 0),C.v (.int .i64 40),C.v (.int .i64 100000),C.v (.int .i64 2500000)]=C.v (.int .i64 (m:Int))::r:=by
  rcases(show v3=0\/v3=1\/v3=2\/v3=3 by omega)with rfl|rfl|rfl|rfl
  ·exact⟨0,_,by omega,rfl⟩
  ·exact⟨40,_,by omega,rfl⟩
  ·exact⟨100000,_,by omega,rfl⟩
  ·exact⟨2500000,_,by omega,rfl⟩
 obtain⟨v4,j4,hv4,hj4,e4⟩:=X7 fu (d+7) hb hj3 3 (by omega);replace e4:cl fu (d+9) fn_synopticfield_Codes_Next [V.ptr 1000000 0,I 3] _=_:=e4;obtain⟨m4,r4,hm4,hd4⟩: ∃(m:Nat) (r:List C),m<=90000/\List.drop v4 [C.v (.int .i64 0),C.v (.int .i64 30),C.v (.int .i64 90000)]=C.v (.int .i64 (m:Int))::r:=by
  rcases(show v4=0\/v4=1\/v4=2 by omega)with rfl|rfl|rfl
  ·exact⟨0,_,by omega,rfl⟩
  ·exact⟨30,_,by omega,rfl⟩
  ·exact⟨90000,_,by omega,rfl⟩
 obtain⟨l5,j5,hl5,hw5,hj5,e5⟩:=Sv fu (d+5) hf hb hj4 (nodes n).length m4 (by omega) (by omega) 90000 (by omega);obtain⟨cp,hcp⟩: ∃cp:Int->Int,∀x,(0<=cp x/\cp x<=16777216)/\cl fu (d+9) fn_synopticref28_Clip [I x,I 0,I 16777216] []=OK (I (cp x)):=Classical.axiomOfChoice (r:=λx v=>(0<=v/\v<=16777216)/\cl fu (d+9) fn_synopticref28_Clip [I x,I 0,I 16777216] []=OK (I v)) λx=>sp_Clip fu (d+8) x;have hcl:=λx=>(hcp x).2;refine⟨l5.map λx=>cp ((m3:Int)+x),fw,j5,⟨by rw[List.length_map,hl5],hl2,λv hv=> ?_,hw2⟩,hj5, ?_⟩
 ·obtain⟨x,_,rfl⟩:=List.mem_map.1 hv;exact(hcp _).1
 unfold codesO at*
 generalize edg n=E at*
 generalize (nodes n).length=N at*
 rw[eq_synopticfield_Codes_State,hE];simp(disch:=omega)only[Zc,QM,QD,e1,List.length_cons,List.length_nil,Nat.zero_add,Nat.reduceAdd,Int.toNat_natCast,Nat.mul_one,hd1,e2,e3,hd3,e4,hd4,hN22,e5];rw[Zh (λj:Nat=>((j:Int),((0:Int),C.nl,C.nl,()),((n:Int),ints ((l5.take j).map λx=>cp ((m3:Int)+x)),C.sl fw.length (ints fw),()),(C.sl bs.length (ik .u8 bs),(j5:Int),()),())) 0 (((l5.length:Nat):Int),((0:Int),C.nl,C.nl,()),((n:Int),ints (l5.map λx=>cp ((m3:Int)+x)),C.sl fw.length (ints fw),()),(C.sl bs.length (ik .u8 bs),(j5:Int),()),()) l5.length ?_ ?_ ?_ (by omega)]
 ·have htk:List.take l5.length (ints (l5.map λx=>cp ((m3:Int)+x)))=ints (l5.map λx=>cp ((m3:Int)+x)):=List.take_of_length_le (by rw[Zf,List.length_map];exact Nat.le_refl _);simp(disch:=omega)only[Zc,QM,QD,Zf,Nat.div_one,Nat.mul_one,Nat.zero_add,List.length_map,htk];unfold stC;rw[List.length_map]
 ·rfl
 ·intro j hj;have hia:=ints_at l5 hj;have hx:=Wc hw5 hj;have hsn:ints ((l5.take j).map λx=>cp ((m3:Int)+x))++[C.v (.int .i64 (cp ((m3:Int)+l5[j])))]=ints ((l5.take (j+1)).map λx=>cp ((m3:Int)+x)):=by
   rw[List.take_succ_eq_append_getElem hj,List.map_append,Yu];rfl
  generalize l5[j]=x at*
  simp(disch:=omega)only[Zc,QM,QD,Int.toNat_natCast,Nat.mul_one,hia,hcl,Zf,Nat.div_one,List.length_map,List.length_take,Nat.min_eq_left,hsn];rfl
 ·rw[List.take_length];simp(disch:=omega)only[Zc,QM,QD,Zf,Nat.div_one,Nat.mul_one,List.length_map]
end
end Go.Proofs.YtjmempcalaliiaaGreatDoor
/- Edges as the program hands them out, checks of states, degrees. -/
namespace Go.Proofs.YtjmempcalaliiaaGreatDoor
open Go Go.PM Go.Grid
attribute [local congr] Zr Zs Zt Ya Zu Zv Yb Yc Yd Ye Zw Zx Yf Y5 Y6 Y7 Y8 Y9 Xb Xc Xd Xe Xa Zz Z0 Xf Z1 Z2 Zm Z3 Zy
def at0 (l:List Int) (i:Nat):Int:=l.getD i 0
theorem Ud {l:List Int} {i:Nat} (h:i<l.length):at0 l i=l[i]:=by
 unfold at0;rw[List.getD_eq_getElem?_getD,List.getElem?_eq_getElem h];rfl
theorem Zk (l:List Int) {i:Nat} (h:i<l.length):(ints l).drop i=C.v (.int .i64 (at0 l i))::ints (l.drop (i+1)):=by
 rw[ints_at l h,Ud h]
theorem Jc (l:List Int) {i:Nat} (h:i<l.length) (v:Int):putAt (ints l) i [C.v (.int .i64 v)]=ints (l.set i v):=by
 unfold putAt;rw[List.set_eq_take_append_cons_drop,if_pos h,Np,Nn];simp[ik]
def bump1 (l:List Int) (i:Nat) (v:Int):List Int:=l.set i (at0 l i+v)
theorem Yp (l:List Int) (i:Nat) (v:Int):(bump1 l i v).length=l.length:=by simp[bump1]
theorem Sg (l:List Int) (i:Nat) (v:Int) (k:Nat):at0 (bump1 l i v) k=at0 l k+if k=i/\i<l.length then v else 0:=by
 unfold bump1 at0;rw[List.getD_eq_getElem?_getD,List.getElem?_set];by_cases h:i=k
 ·subst h;by_cases hl:i<l.length
  ·simp[hl,List.getD_eq_getElem?_getD]
  ·rw[if_pos rfl,if_neg hl,if_neg (λe=>hl e.2),List.getD_eq_getElem?_getD,List.getElem?_eq_none (by omega)];rfl
 ·rw[if_neg h,if_neg (λe=>h e.1.symm),List.getD_eq_getElem?_getD];simp
theorem Qn (l:List Int) {i:Nat} (h:i<l.length) (v:Int):putAt (ints l) i [C.v (.int .i64 (at0 l i+v))]=ints (bump1 l i v):=Jc l h _
def outB (lo hi:Int) (l:List Int):Bool:=l.any λv=> !(decide (lo<=v)&&decide (v<=hi))
theorem Ym {lo hi:Int} {l:List Int}:outB lo hi l=false↔wid lo hi l:=by
 unfold outB wid;rw[List.any_eq_false];simp
theorem Ub (n:Nat):(edgesL n).length=(edg n).length:=by simp[edgesL]
theorem Wd (n:Nat) {j:Nat} (h':j<(edg n).length):(edgesL n)[j]? =some [I ((j:Nat):Int),V.agg [C.v (.int .i64 (edg n)[j].1),C.v (.int .i64 (edg n)[j].2)]]:=by
 unfold edgesL;rw[List.getElem?_map,List.getElem?_zipIdx,List.getElem?_eq_getElem h'];simp
theorem Sw (n:Nat) {j:Nat} (h:j<(edgesL n).length) (h':j<(edg n).length):(edgesL n)[j]=[I ((j:Nat):Int),V.agg [C.v (.int .i64 (edg n)[j].1),C.v (.int .i64 (edg n)[j].2)]]:=by
 have:=Wd n h';rw[List.getElem?_eq_getElem h]at this;exact Option.some.inj this
theorem C5 (n:Nat) {j:Nat} (h:j<(edg n).length):(edgesL n).drop j=[I ((j:Nat):Int),V.agg [C.v (.int .i64 (edg n)[j].1),C.v (.int .i64 (edg n)[j].2)]]::(edgesL n).drop (j+1):=by
 rw[List.drop_eq_getElem_cons (by rw[Ub];exact h),Sw n _ h]
section
variable (fu d:Nat) (hf:18446744073709551616<=fu)
theorem Gc (v lo hi:Int):cl fu (d+1) fn_flux_within [I v,I lo,I hi] []=OK (B (decide (lo<=v)&&decide (v<=hi))):=by
 rw[eq_flux_within];by_cases h:lo<=v
 ·simp(disch:=omega)only[Zc,QM,QD]
 ·simp(disch:=omega)only[Zc,QM,QD]
theorem F9 (v lo hi:Int):cl fu (d+2) fn_flux_outside_1 [I v,V.c (C.cp [C.v (.int .i64 lo)]),V.c (C.cp [C.v (.int .i64 hi)])] []=OK (B (!(decide (lo<=v)&&decide (v<=hi)))):=by
 have e:=Gc fu d v lo hi;generalize (decide (lo<=v)&&decide (v<=hi))=b at*
 rw[eq_flux_outside_1];simp only[Zc,QM,e]
include hf
theorem Ug (l:List Int) (hl:l.length<=1000000) (lo hi:Int):cl fu (d+5) fn_flux_outside [V.c (C.sl l.length (ints l)),I lo,I hi] []=OK (B (outB lo hi l)):=by
 have h1:=λv=>F9 fu d v lo hi;rw[eq_flux_outside,eq2_slices_ContainsFunc_sint_int,eq2_slices_IndexFunc_sint_int];rcases Ua (λj=> ∃h:j<l.length,(!(decide (lo<=l[j])&&decide (l[j]<=hi)))=true) l.length with hn|⟨k,hk,⟨hk2,hb⟩,hn⟩
 ·have hall:outB lo hi l=false:=by
   unfold outB;rw[List.any_eq_false];intro v hv;obtain⟨j,hj,rfl⟩:=List.getElem_of_mem hv;exact λe=>hn j hj ⟨hj,e⟩
  rw[hall,Zh (λj:Nat=>((0:Int),(j:Int),())) 0 ((0:Int),((l.length:Nat):Int),()) l.length ?_ ?_ ?_ (by omega)]
  ·simp(disch:=omega)only[Zc,QM,QD]
  ·rfl
  ·intro j hj;have hia:=ints_at l hj;have hv:=hn j hj;have hv:(!(decide (lo<=l[j])&&decide (l[j]<=hi)))=false:=by
    cases e:(!(decide (lo<=l[j])&&decide (l[j]<=hi)))
    ·rfl
    ·exact absurd ⟨hj,e⟩ hv
   have h1:=h1 l[j];rw[hv]at h1;simp(disch:=omega)only[Zc,QM,QD,Int.toNat_natCast,Nat.mul_one,hia,h1];rfl
  ·simp(disch:=omega)only[Zc,QM,QD]
 ·have hall:outB lo hi l=true:=by
   unfold outB;rw[List.any_eq_true];exact⟨l[k],List.getElem_mem hk2,hb⟩
  rw[hall,Zh (λj:Nat=>((0:Int),(j:Int),())) 1 ((k:Int),(k:Int),()) k ?_ ?_ ?_ (by omega)]
  ·simp(disch:=omega)only[Zc,QM,QD]
  ·rfl
  ·intro j hj;have hjl:j<l.length:=by omega
   have hia:=ints_at l hjl;have hv:=hn j hj;have hv:(!(decide (lo<=l[j])&&decide (l[j]<=hi)))=false:=by
    cases e:(!(decide (lo<=l[j])&&decide (l[j]<=hi)))
    ·rfl
    ·exact absurd ⟨hjl,e⟩ hv
   have h1:=h1 l[j];rw[hv]at h1;simp(disch:=omega)only[Zc,QM,QD,Int.toNat_natCast,Nat.mul_one,hia,h1];rfl
  ·have hia:=ints_at l hk2;have h1:=h1 l[k];rw[hb]at h1;simp(disch:=omega)only[Zc,QM,QD,Int.toNat_natCast,Nat.mul_one,hia,h1]
omit hf in
theorem sp_freq (n:Nat) (h:freq n):cl fu (d+1) fn_mesh_Frequency [I n] []=OK (B true):=by
 unfold freq at h;rw[eq_mesh_Frequency];simp(disch:=omega)only[Zc,QM,QD]
omit hf in
theorem U3 (n:Nat) (h:freq n):cl fu (d+2) fn_grid_Count [I n] []=OK (I ((nodes n).length:Int)):=by
 rw[Xo h,eq_grid_Count,sp_freq fu d n h];simp only[Zc,QM];rcases X0 h with rfl|rfl|rfl|rfl|rfl|rfl|rfl|rfl<;>(show @Eq (Option Out) _ _;kernel_rfl)
theorem Xv (n:Nat) (h:freq n):cl fu (d+9) fn_grid_Edges [I n] []=OK (V.tup [V.c (C.sl (edg n).length (fl edC (edg n))),I 0]):=by
 obtain⟨c,e⟩:=sp_Build fu d hf n h;have e0:=sp_freq fu (d+7) n h;generalize edg n=E at*
 generalize (nodes n).length=N at*
 generalize fl plc (nodes n)=nc at*
 generalize esn 0 (nodes n)=es at*
 generalize nxt n=nx at*
 rw[eq_grid_Edges,e0];simp(disch:=omega)only[Zc,QM,QD,e,out0,Nf,List.length_cons,List.length_nil,Nat.zero_add,Nat.reduceAdd]
theorem Sx (n:Nat) (h:freq n) (dp fw:List Int) (h1:dp.length=(nodes n).length) (h2:fw.length=(edg n).length) (h3:wid 0 16777216 dp) (h4:wid (-16777216) 16777216 fw):
  cl fu (d+10) fn_flux_Check [V.agg (stC n dp fw)] []=OK (I 0):=by
 have hNl:=Z7 h;have heL:=Xw h;have e1:=Xv fu d hf n h;have e2:=U3 fu (d+7) n h;have e3:=Ug fu (d+4) hf dp (by omega) 0 16777216;have e4:=Ug fu (d+4) hf fw (by omega) (-16777216) 16777216;rw[Ym.2 h3]at e3;rw[Ym.2 h4]at e4;generalize edg n=E at*
 generalize (nodes n).length=N at*
 unfold stC;rw[eq_flux_Check];simp(disch:=omega)only[Zc,QM,QD,e1,e2,e3,e4]
theorem edges_ok (n:Nat) (h:freq n) (l:Nat) (go:Nat->Bool) (r:List C): ∃out lg,cl fu (d+10) fn_flux_edges_1 [V.c (C.yl l go (edgesL n)),V.c (C.cp (C.v (.int .i64 (n:Int))::r))] []=some out/\out.log=some lg/\(lg.st=true\/lg.rest=[]):=by
 have e1:=Xv fu d hf n h;have heL:=Xw h;have hed:=λ{j:Nat} (hj:j<(edg n).length)=>C5 n hj;have hell:=Ub n;rw[eq_flux_edges_1];simp(disch:=omega)only[Zc,QM,QD,e1];generalize edgesL n=EL at*
 generalize edg n=E at*
 refine Q2 (A:=Int×Log×Unit) (B:=Out) (fu:=fu) (λo=> ∃out lg,o=some out/\out.log=some lg/\(lg.st=true\/lg.rest=[]))
  (λs=> ∃i:Nat,i<=E.length/\s=((i:Int),⟨l,go,i,EL.drop i,false⟩,())) (λs=>E.length-s.1.toNat) (λ_ z=>z.2.1.st=true\/z.2.1.rest=[]) ⟨0,by omega,rfl⟩ ?_ ?_ ?_
 ·show E.length-(0:Int).toNat<fu;omega
 ·rintro y ⟨i,hi,rfl⟩
  by_cases hlt:i<E.length
  ·have hd:=hed hlt;have hat:=Pi Yh hlt;cases hg:go i with
   |true=>
    refine .inl ⟨(((i+1:Nat):Int),⟨l,go,i+1,EL.drop (i+1),false⟩,()), ?_,⟨i+1,by omega,rfl⟩, ?_⟩
    ·simp(disch:=omega)only[Zc,QM,QD,Int.toNat_natCast,hat,edC,List.cons_append,List.nil_append,hd,Ce,Cf,hg,Int.natCast_add,Int.natCast_one]
    ·show E.length-((i+1:Nat):Int).toNat<E.length-(i:Int).toNat;omega
   |false=>
    refine .inr ⟨1,((i:Int),⟨l,go,i+1,EL.drop (i+1),true⟩,()), ?_, .inl rfl⟩;simp(disch:=omega)only[Zc,QM,QD,Int.toNat_natCast,hat,edC,List.cons_append,List.nil_append,hd,Ce,Cf,hg]
  ·refine .inr ⟨0,((i:Int),⟨l,go,i,EL.drop i,false⟩,()), ?_, .inr ?_⟩
   ·simp(disch:=omega)only[Zc,QM,QD]
   ·show EL.drop i=[];rw[List.drop_eq_nil_iff];omega
 ·rintro e z hz
  refine⟨⟨V.tup [],[],some z.2.1⟩,z.2.1, ?_,rfl,hz⟩;cases e<;>rfl
omit d in
theorem iterOk:IterOk Tryz.prog prim laid fu:=by
 intro d f caps xs h l go;replace h:(bif Nat.ble 10 d then iterC f caps else none)=some xs:=h;cases hd:Nat.ble 10 d with
 |false=>rw[hd]at h;cases h
 |true=>
  rw[hd]at h;replace h:iterC f caps=some xs:=h;have hd:=Nat.le_of_ble_eq_true hd;obtain⟨d',rfl⟩: ∃d',d=d'+10:=⟨d-10,by omega⟩;unfold iterC at h;cases hfq:Nat.beq f fn_flux_edges_1 with
  |false=>rw[hfq]at h;cases h
  |true=>
   have hfe:=Nat.eq_of_beq_eq_true hfq;subst hfe;rw[hfq]at h;simp only[ct]at h;split at h
   ·rename_i c;unfold asP at h;split at h
    ·rename_i cs;cases cs with
     |nil=>cases h
     |cons c r=>
      replace h:asI .i64 c (λn=>need (decide (1<=n)&&decide (n<=8)) (some (edgesL n.toNat)))=some xs:=h;unfold asI at h;split at h
      ·split at h
       ·rename_i kd i hk;subst hk;obtain⟨hc,h⟩:=Za h;rw[Bool.and_eq_true]at hc;have h1:=of_decide_eq_true hc.1;have h2:=of_decide_eq_true hc.2;cases h;obtain⟨n,rfl⟩: ∃n:Nat,i=n:=⟨i.toNat,by omega⟩;exact edges_ok fu d' hf n (by unfold freq;omega) l go r
       ·cases h
      ·cases h
    ·cases h
   ·cases h
omit hf in
theorem Ro (n:Nat) (h:freq n):prim.iter (d+10) fn_flux_edges_1 [C.cp [C.v (.int .i64 (n:Int))]]=some (edgesL n):=by
 show(bif Nat.ble 10 (d+10)then iterC fn_flux_edges_1 [C.cp [C.v (.int .i64 (n:Int))]]else none)=_;unfold freq at h;rw[show Nat.ble 10 (d+10)=true from Nat.ble_eq_true_of_le (by omega)];show need (decide (1<=(n:Int))&&decide ((n:Int)<=8)) (some (edgesL (n:Int).toNat))=_;rw[decide_eq_true (show 1<=(n:Int) by omega),decide_eq_true (show(n:Int)<=8 by omega),Int.toNat_natCast];rfl
end
end Go.Proofs.YtjmempcalaliiaaGreatDoor
/- Degrees, amounts, moves. -/
namespace Go.Proofs.YtjmempcalaliiaaGreatDoor
open Go Go.PM Go.Grid
attribute [local congr] Zr Zs Zt Ya Zu Zv Yb Yc Yd Ye Zw Zx Yf Y5 Y6 Y7 Y8 Y9 Xb Xc Xd Xe Xa Zz Z0 Xf Z1 Z2 Zm Z3 Zy
def mv1 (l:List Int) (e:Int×Int) (u v:Int):List Int:=bump1 (bump1 l e.1.toNat u) e.2.toNat v
def degS (N:Nat) (E:List (Int×Int)):List Int:=E.foldl (λl e=>mv1 l e 1 1) (List.replicate N 0)
def movS (l:List Int) (P:List ((Int×Int)×Int)):List Int:=P.foldl (λl p=>mv1 l p.1 (-p.2) p.2) l
theorem Q4 (l:List Int) (e:Int×Int) (u v:Int):(mv1 l e u v).length=l.length:=by unfold mv1;rw[Yp,Yp]
theorem degS_snoc (N:Nat) (E:List (Int×Int)) (e:Int×Int):degS N (E++[e])=mv1 (degS N E) e 1 1:=by simp[degS]
theorem Gd (l:List Int) (P:List ((Int×Int)×Int)) (p:(Int×Int)×Int):movS l (P++[p])=mv1 (movS l P) p.1 (-p.2) p.2:=by simp[movS]
theorem Qb (P:List ((Int×Int)×Int)): ∀l,(movS l P).length=l.length:=by
 induction P with
 |nil=>intro l;rfl
 |cons p P ih=>intro l;show(movS (mv1 l p.1 (-p.2) p.2) P).length=_;rw[ih,Q4]
theorem Ea (l:List Int) (e:Int×Int) (u v:Int) (k:Nat):at0 (mv1 l e u v) k=at0 l k+(if k=e.1.toNat/\k<l.length then u else 0)+if k=e.2.toNat/\k<l.length then v else 0:=by
 unfold mv1;rw[Sg,Sg,Yp]
 congr 1
 ·congr 1
  by_cases h:k=e.1.toNat
  ·subst h;rfl
  ·rw[if_neg (λq=>h q.1),if_neg (λq=>h q.1)]
 ·by_cases h:k=e.2.toNat
  ·subst h;rfl
  ·rw[if_neg (λq=>h q.1),if_neg (λq=>h q.1)]
theorem Eb (N:Nat) (i:Nat):at0 (List.replicate N 0) i=0:=by
 unfold at0;rw[List.getD_eq_getElem?_getD,List.getElem?_replicate];split<;>rfl
theorem Vg (N:Nat) (E:List (Int×Int)):(degS N E).length=N:=by
 have key: ∀(E:List (Int×Int)) (l:List Int),(E.foldl (λl e=>mv1 l e 1 1) l).length=l.length:=by
  intro E
  induction E with
  |nil=>intro l;rfl
  |cons e E ih=>intro l;rw[List.foldl_cons,ih,Q4]
 unfold degS;rw[key];simp
theorem C6 (E:List (Int×Int)): ∀(l:List Int) (k:Nat),at0 l k<=at0 (E.foldl (λl e=>mv1 l e 1 1) l) k/\at0 (E.foldl (λl e=>mv1 l e 1 1) l) k<=at0 l k+2*E.length/\((∃e∈E,k=e.1.toNat\/k=e.2.toNat)->k<l.length->at0 l k+1<=at0 (E.foldl (λl e=>mv1 l e 1 1) l) k):=by
 induction E with
 |nil=>intro l k;exact⟨Int.le_refl _,by simp,λ⟨e,he,_⟩=>by cases he⟩
 |cons e E ih=>
  intro l k;rw[List.foldl_cons];obtain⟨h1,h2,h3⟩:=ih (mv1 l e 1 1) k;have hm:=Ea l e 1 1 k;rw[List.length_cons];refine⟨?_, ?_, ?_⟩
  ·split at hm<;>split at hm<;>omega
  ·split at hm<;>split at hm<;>omega
  ·rintro ⟨e',he,hk⟩ hlt
   rcases List.mem_cons.1 he with rfl|he
   ·rcases hk with hk|hk
    ·rw[if_pos ⟨hk,hlt⟩]at hm;split at hm<;>omega
    ·rw[if_pos (c:=k=e'.2.toNat/\k<l.length) ⟨hk,hlt⟩]at hm;split at hm<;>omega
   ·have:=h3 ⟨e',he,hk⟩ (by rw[Q4];exact hlt);split at hm<;>split at hm<;>omega
theorem degS_le (N:Nat) (E:List (Int×Int)) (k:Nat):0<=at0 (degS N E) k/\at0 (degS N E) k<=2*E.length:=by
 obtain⟨h1,h2,_⟩:=C6 E (List.replicate N 0) k;rw[Eb]at h1 h2;exact⟨h1,by unfold degS;omega⟩
theorem Pu {N:Nat} {E:List (Int×Int)} {k:Nat} (h: ∃e∈E,k=e.1.toNat\/k=e.2.toNat) (hk:k<N):1<=at0 (degS N E) k:=by
 obtain⟨_,_,h3⟩:=C6 E (List.replicate N 0) k;have:=h3 h (by simpa using hk);rw[Eb]at this;unfold degS;omega
theorem movS_bd {m:Int} (hm:0<=m) (P:List ((Int×Int)×Int)): ∀(l:List Int) (b:Int),(∀k,-b<=at0 l k/\at0 l k<=b)->(∀p∈P,-m<=p.2/\p.2<=m)-> ∀k,-(b+2*m*P.length)<=at0 (movS l P) k/\at0 (movS l P) k<=b+2*m*P.length:=by
 induction P with
 |nil=>intro l b h _ k;have:=h k;simp only[movS,List.foldl_nil,List.length_nil];simpa using this
 |cons p P ih=>
  intro l b h hp k;have h2:=ih (mv1 l p.1 (-p.2) p.2) (b+2*m) (λk=>by
   have:=h k;have hp:=hp p (List.mem_cons_self ..);rw[Ea];split<;>split<;>omega) (λq hq=>hp q (List.mem_cons_of_mem _ hq)) k
  have e:b+2*m+2*m*(P.length:Int)=b+2*m*((p::P).length:Int):=by
   rw[List.length_cons,Int.natCast_add,Int.mul_add];omega
  rw[e]at h2;exact h2
section
variable (fu d:Nat) (hf:18446744073709551616<=fu)
theorem Jd (n:Nat) (h:freq n):cl fu (d+11) fn_flux_Degrees [I n] []=OK (V.tup [V.c (C.sl (nodes n).length (ints (degS (nodes n).length (edg n)))),I 0]):=by
 have hn:=h;unfold freq at hn;have hNl:=Z7 h;have heL:=Xw h;have e1:=Gc fu (d+9) (n:Int) 1 8;rw[decide_eq_true (show 1<=(n:Int) by omega),decide_eq_true (show(n:Int)<=8 by omega)]at e1;have e2:=U3 fu (d+8) n h;have e3:=Ro d n h;have e4:=eq_flux_edges fu (d+9) (n:Int);have hel:=Ub n;have hea:=λ{j:Nat} (h1:j<(edgesL n).length) (h2:j<(edg n).length)=>Sw n h1 h2;have hin:=Te h;generalize edgesL n=EL at*
 generalize edg n=E at*
 generalize (nodes n).length=N at*
 have hr0:reps N [C.v (.int .i64 0)]=ints (degS N []):=by
  unfold degS reps;simp[ik]
 have hdl:=Vg N;rw[eq_flux_Degrees];simp(disch:=omega)only[Zc,QM,QD,e1,e2,e4,Int.toNat_natCast,Nat.mul_one,hr0,Zf,hdl];rw[show prim.iter (d+10) fn_flux_edges_1 [C.cp [C.v (.int .i64 (n:Int))]]=some EL from e3];simp(disch:=omega)only[Zc,QM,QD,Int.toNat_natCast,Nat.mul_one,hr0,Zf,hdl];have hov:=Hu (body:=(λit (y:(List C×Unit)×Unit)=>
    uncV it λx r=>
    rC x λc3=>
    asI .i64 c3 λi1=>
    uncV r λx1 r1=>
    rA x1 λcs1=>
    need (Nat.beq cs1.length 2)<|
    unc cs1 λc4 r2=>
    asI .i64 c4 λi2=>
    unc r2 λc5 _=>
    asI .i64 c5 λi3=>
    nilV r1<|
    need (inR i2 (y.1.1.length/1))<|
    unc (List.drop (0+(i2.toNat*1)) y.1.1) λc6 _=>
    asI .i64 c6 λi4=>
    need (inR i2 (y.1.1.length/1))<|
    need (((Nat.ble 0 (0+(i2.toNat*1)))&&(Nat.ble ((0+(i2.toNat*1))+1) y.1.1.length))&&true)<|
    need (inR i3 (y.1.1.length/1))<|
    unc (List.drop (0+(i3.toNat*1)) (putAt y.1.1 (0+(i2.toNat*1)) ([C.v (.int .i64 (IntKind.i64.wrap (i4+1)))]))) λc7 _=>
    asI .i64 c7 λi5=>
    need (inR i3 (y.1.1.length/1))<|
    need (((Nat.ble 0 (0+(i3.toNat*1)))&&(Nat.ble ((0+(i3.toNat*1))+1) ((putAt y.1.1 (0+(i2.toNat*1)) ([C.v (.int .i64 (IntKind.i64.wrap (i4+1)))])).length)))&&true)<|
    bd (putAt (putAt y.1.1 (0+(i2.toNat*1)) ([C.v (.int .i64 (IntKind.i64.wrap (i4+1)))])) (0+(i3.toNat*1)) ([C.v (.int .i64 (IntKind.i64.wrap (i5+1)))])) λcs2=>
    need (((Nat.beq ((y.1.1.length/1)*1) cs2.length)&&true)&&true)<|
    some (0,((cs2,()),())))) EL (λj:Nat=>((ints (degS N (E.take j)),()),())) (by
   intro j hj;have hj':j<E.length:=by omega
   have hia:=hea hj hj';have hin:=hin E[j] (List.getElem_mem hj');have hst:degS N (E.take (j+1))=mv1 (degS N (E.take j)) E[j] 1 1:=by rw[List.take_succ_eq_append_getElem hj',degS_snoc]
   have hbd:=degS_le N (E.take j);have htl:(E.take j).length<=15000:=by rw[List.length_take];omega
   have hD:=hdl (E.take j);rw[hia,hst];generalize degS N (E.take j)=D at*
   generalize E[j]=e at*
   obtain⟨ea,eb⟩:=e;simp only at hin⊢;obtain⟨x,rfl⟩: ∃x:Nat,ea=x:=⟨ea.toNat,by omega⟩;obtain⟨y,rfl⟩: ∃y:Nat,eb=y:=⟨eb.toNat,by omega⟩;have d1:=Zk D (i:=x) (by omega);have b1:=hbd x;have p1:=Qn D (i:=x) (by omega) 1;have hB:=Yp D x 1;have hBa:=Sg D x 1 y;have hm:mv1 D ((x:Int),(y:Int)) 1 1=bump1 (bump1 D x 1) y 1:=by unfold mv1;rw[Int.toNat_natCast,Int.toNat_natCast]
   rw[hm];have b2:0<=at0 (bump1 D x 1) y/\at0 (bump1 D x 1) y<=40000:=by
    have:=hbd y;split at hBa<;>omega
   generalize bump1 D x 1=D1 at*
   have d2:=Zk D1 (i:=y) (by omega);have p2:=Qn D1 (i:=y) (by omega) 1;have hB2:=Yp D1 y 1;generalize bump1 D1 y 1=D2 at*
   simp(disch:=omega)only[Zc,QM,QD,List.length_cons,List.length_nil,Nat.zero_add,Nat.reduceAdd,Int.toNat_natCast,Nat.mul_one,Nat.div_one,Zf,hD,d1,p1,hB,d2,p2,hB2])
 rw[hel,List.take_length]at hov;rw[show overK _ EL ((ints (degS N []),()),())=_ from hov];have htk:List.take N (ints (degS N E))=ints (degS N E):=List.take_of_length_le (by rw[Zf,hdl];exact Nat.le_refl _);simp(disch:=omega)only[Zc,QM,QD,Nat.zero_add,Nat.mul_one,Nat.div_one,Zf,hdl,htk]
end
end Go.Proofs.YtjmempcalaliiaaGreatDoor
/- Amounts over edges, and what moving them comes to. -/
namespace Go.Proofs.YtjmempcalaliiaaGreatDoor
open Go Go.PM Go.Grid
attribute [local congr] Zr Zs Zt Ya Zu Zv Yb Yc Yd Ye Zw Zx Yf Y5 Y6 Y7 Y8 Y9 Xb Xc Xd Xe Xa Zz Z0 Xf Z1 Z2 Zm Z3 Zy
theorem Je {I' A:Type} {body:I' ->A->Option (Nat×A)} {xs:List I'} {x:A} (f:Nat->A) (z:A) (hx:x=f 0) (h: ∀j (h:j<xs.length),body xs[j] (f j)=some (0,f (j+1))) (hz:f xs.length=z):overK body xs x=some (0,z):=by
 rw[hx,<-hz];exact Hu xs f h
def lim (dp dg:List Int) (k:Int):Int:=Int.tdiv (at0 dp k.toNat) (at0 dg k.toNat)
def shr (w:Int) (s:Nat):Int:=Int.fdiv w (2^s)
def amt (w p q:Int):Int:=if w>p then p else if w< -q then -q else w
def brn (w p q:Int):Int:=if w>p then 1 else if w< -q then -1 else 0
def amE (dp dg fw:List Int) (s:Nat) (E:List (Int×Int)) (j:Nat):Int:=amt (shr (at0 fw j) s) (lim dp dg (E.getD j (0,0)).1) (lim dp dg (E.getD j (0,0)).2)
def brE (dp dg fw:List Int) (s:Nat) (E:List (Int×Int)) (j:Nat):Int:=brn (shr (at0 fw j) s) (lim dp dg (E.getD j (0,0)).1) (lim dp dg (E.getD j (0,0)).2)
def amL (dp dg fw:List Int) (s:Nat) (E:List (Int×Int)) (k:Nat):List Int:=(List.range k).map (amE dp dg fw s E)
def brL (dp dg fw:List Int) (s:Nat) (E:List (Int×Int)) (k:Nat):List Int:=(List.range k).map (brE dp dg fw s E)
theorem Jf (dp dg fw:List Int) (s:Nat) (E:List (Int×Int)) (k:Nat):(amL dp dg fw s E k).length=k:=by simp[amL]
theorem Jg (dp dg fw:List Int) (s:Nat) (E:List (Int×Int)) (k:Nat):(brL dp dg fw s E k).length=k:=by simp[brL]
theorem amL_snoc (dp dg fw:List Int) (s:Nat) (E:List (Int×Int)) (k:Nat):amL dp dg fw s E (k+1)=amL dp dg fw s E k++[amE dp dg fw s E k]:=by simp[amL,List.range_succ]
theorem brL_snoc (dp dg fw:List Int) (s:Nat) (E:List (Int×Int)) (k:Nat):brL dp dg fw s E (k+1)=brL dp dg fw s E k++[brE dp dg fw s E k]:=by simp[brL,List.range_succ]
theorem Q5 (E:List (Int×Int)) {j:Nat} (h:j<E.length):E.getD j (0,0)=E[j]:=by
 rw[List.getD_eq_getElem?_getD,List.getElem?_eq_getElem h];rfl
theorem Ee {dp dg:List Int} {k:Int} {m:Int} (h:0<=at0 dp k.toNat/\at0 dp k.toNat<=m) (hd:1<=at0 dg k.toNat):0<=lim dp dg k/\lim dp dg k<=at0 dp k.toNat:=by
 unfold lim;generalize at0 dp k.toNat=a at*
 generalize at0 dg k.toNat=b at*
 rw[Int.tdiv_eq_ediv_of_nonneg h.1];exact⟨Int.ediv_nonneg h.1 (by omega),Int.ediv_le_self _ h.1⟩
theorem Z6 {lo hi:Int} {l:List Int} (h:wid lo hi l) (h0:lo<=0/\0<=hi) (k:Nat):lo<=at0 l k/\at0 l k<=hi:=by
 by_cases hk:k<l.length
 ·rw[Ud hk];exact Wc h hk
 ·unfold at0;rw[List.getD_eq_getElem?_getD,List.getElem?_eq_none (by omega)];exact h0
theorem amt_bd {w p q:Int} (hp:0<=p) (hq:0<=q): -q<=amt w p q/\amt w p q<=p:=by
 unfold amt;split
 ·omega
 ·split<;>omega
section
variable (fu d:Nat) (hf:18446744073709551616<=fu)
include hf
theorem Q6 (a b c:Nat) (ha:1<=a/\a<=4) (hb:1<=b/\b<=4) (hc:1<=c/\c<=4):cl fu (d+6) fn_flux_CheckScheme [V.agg [C.v (.int .i64 (a:Int)),C.v (.int .i64 (b:Int)),C.v (.int .i64 (c:Int))]] []=OK (I 0):=by
 have e:=Ug fu d hf [(a:Int),(b:Int),(c:Int)] (by simp) 1 4;rw[Ym.2 (by intro v hv;simp only[List.mem_cons,List.mem_nil_iff,or_false]at hv;omega)]at e;replace e:cl fu (d+5) fn_flux_outside [V.c (C.sl 3 [C.v (.int .i64 (a:Int)),C.v (.int .i64 (b:Int)),C.v (.int .i64 (c:Int))]),I 1,I 4] []=OK (B false):=e;rw[eq_flux_CheckScheme];simp only[Zc,QM,e]
set_option maxHeartbeats 4000000 in
theorem We (n:Nat) (h:freq n) (dp fw:List Int) (h1:dp.length=(nodes n).length) (h2:fw.length=(edg n).length) (h3:wid 0 16777216 dp) (h4:wid (-16777216) 16777216 fw)
  (a b c:Nat) (ha:1<=a/\a<=4) (hb:1<=b/\b<=4) (hc:1<=c/\c<=4):
  cl fu (d+12) fn_flux_Amounts [V.agg [C.v (.int .i64 (a:Int)),C.v (.int .i64 (b:Int)),C.v (.int .i64 (c:Int))],V.agg (stC n dp fw)] []=OK (V.tup [V.c (C.sl (edg n).length (ints (amL dp (degS (nodes n).length (edg n)) fw c (edg n) (edg n).length))),V.c (C.sl (edg n).length (ints (brL dp (degS (nodes n).length (edg n)) fw c (edg n) (edg n).length))),I 0]):=by
 have hNl:=Z7 h;have heL:=Xw h;have e1:=Q6 fu (d+5) hf a b c ha hb hc;have e2:=Sx fu (d+1) hf n h dp fw h1 h2 h3 h4;have e3:=Jd fu d n h;have e4:=eq_flux_edges fu (d+10) (n:Int);have e5:prim.iter (d+11) fn_flux_edges_1 [C.cp [C.v (.int .i64 (n:Int))]]=some (edgesL n):=Ro (d+1) n h;have hel:=Ub n;have hea:=λ{j:Nat} (h1:j<(edgesL n).length) (h2:j<(edg n).length)=>Sw n h1 h2;have hin:=Te h;have hdl:=Vg (nodes n).length (edg n);have hdp: ∀e∈edg n,1<=at0 (degS (nodes n).length (edg n)) e.1.toNat/\1<=at0 (degS (nodes n).length (edg n)) e.2.toNat:=λe he=>⟨Pu ⟨e,he, .inl rfl⟩ (by have:=hin e he;omega),Pu ⟨e,he, .inr rfl⟩ (by have:=hin e he;omega)⟩;have hdb:=λk=>degS_le (nodes n).length (edg n) k;unfold stC at*
 generalize degS (nodes n).length (edg n)=dg at*
 generalize edgesL n=EL at*
 generalize edg n=E at*
 generalize (nodes n).length=N at*
 have hml:=λk=>Jf dp dg fw c E k;have hbl:=λk=>Jg dp dg fw c E k;have hsh:min c (IntKind.bits .i64)=c:=by show min c 64=c;omega
 rw[eq_flux_Amounts];simp(disch:=omega)only[Zc,QM,QD,e1,e2,e3,e4];rw[e5];simp only[Zc,QM];rw[Je (λj:Nat=>((ints (amL dp dg fw c E j),()),(ints (brL dp dg fw c E j),()),())) ((ints (amL dp dg fw c E E.length),()),(ints (brL dp dg fw c E E.length),()),()) ?_ ?_ ?_]
 ·have htk: ∀l:List Int,l.length=E.length->List.take E.length (ints l)=ints l:=λl hl=>List.take_of_length_le (by rw[Zf];omega);simp(disch:=omega)only[Zc,QM,QD,Nat.zero_add,Nat.mul_one,Nat.div_one,Zf,hml,hbl,htk _ (hml E.length),htk _ (hbl E.length)]
 ·rfl
 ·intro j hj;have hj':j<E.length:=by omega
  have hia:=hea hj hj';have hin:=hin E[j] (List.getElem_mem hj');have hdp:=hdp E[j] (List.getElem_mem hj');have hfj:j<fw.length:=by omega
  have hfi:=Zk fw hfj;have hwA:=Z6 h3 (by omega) E[j].1.toNat;have hwB:=Z6 h3 (by omega) E[j].2.toNat;have lA:=Ee (k:=E[j].1) hwA hdp.1;have lB:=Ee (k:=E[j].2) hwB hdp.2;have hst:=amL_snoc dp dg fw c E j;have hsb:=brL_snoc dp dg fw c E j;unfold amE at hst;unfold brE at hsb;rw[Q5 E hj']at hst hsb;rw[hia,hst,hsb];have hml:=hml j;have hbl:=hbl j;generalize amL dp dg fw c E j=A at*
  generalize brL dp dg fw c E j=B at*
  generalize E[j]=e at*
  obtain⟨ea,eb⟩:=e;simp only at hin hdp lA lB⊢;obtain⟨x,rfl⟩: ∃x:Nat,ea=x:=⟨ea.toNat,by omega⟩;obtain⟨y,rfl⟩: ∃y:Nat,eb=y:=⟨eb.toNat,by omega⟩;simp only[Int.toNat_natCast]at hdp hwA hwB lA lB;have d1:=Zk dp (i:=x) (by omega);have d2:=Zk dp (i:=y) (by omega);have g1:=Zk dg (i:=x) (by omega);have g2:=Zk dg (i:=y) (by omega);have lA':lim dp dg (x:Int)=Int.tdiv (at0 dp x) (at0 dg x):=by unfold lim;rw[Int.toNat_natCast]
  have lB':lim dp dg (y:Int)=Int.tdiv (at0 dp y) (at0 dg y):=by unfold lim;rw[Int.toNat_natCast]
  have sh':shr (at0 fw j) c=Int.fdiv (at0 fw j) (2^c):=rfl;generalize lim dp dg (x:Int)=p at*
  generalize lim dp dg (y:Int)=q at*
  generalize shr (at0 fw j) c=w at*
  by_cases c1:w>p
  ·rw[show amt w p q=p from if_pos c1,show brn w p q=1 from if_pos c1];simp(disch:=omega)only[Zc,QM,QD,List.length_cons,List.length_nil,Nat.zero_add,Nat.reduceAdd,Int.toNat_natCast,Nat.mul_one,Nat.div_one,d1,d2,g1,g2,hfi,<-lA',<-lB',hsh,<-sh',Zf,hml,hbl,Yu,List.length_append]
  ·by_cases c2:w< -q
   ·rw[show amt w p q= -q from by unfold amt;rw[if_neg c1,if_pos c2],show brn w p q= -1 from by unfold brn;rw[if_neg c1,if_pos c2]];have e0:(0:Int)-q= -q:=by omega
    simp(disch:=omega)only[Zc,QM,QD,List.length_cons,List.length_nil,Nat.zero_add,Nat.reduceAdd,Int.toNat_natCast,Nat.mul_one,Nat.div_one,d1,d2,g1,g2,hfi,<-lA',<-lB',hsh,<-sh',e0,Zf,hml,hbl,Yu,List.length_append]
   ·rw[show amt w p q=w from by unfold amt;rw[if_neg c1,if_neg c2],show brn w p q=0 from by unfold brn;rw[if_neg c1,if_neg c2]];have e0:(0:Int)-q= -q:=by omega
    simp(disch:=omega)only[Zc,QM,QD,List.length_cons,List.length_nil,Nat.zero_add,Nat.reduceAdd,Int.toNat_natCast,Nat.mul_one,Nat.div_one,d1,d2,g1,g2,hfi,<-lA',<-lB',hsh,<-sh',e0,Zf,hml,hbl,Yu,List.length_append]
 ·rw[hel]
omit hf in
theorem Q7 (l:List Int) (h0:0<l.length) (hl:l.length<=1000000):cl fu (d+1) fn_slices_Clone_sint_int [V.c (C.sl l.length (ints l))] []=some ⟨V.own 1000000 0 l.length,[.sb ty_int 0 (ints l)],none⟩:=by
 have hb:Nat.beq l.length 0=false:=by
  cases e:Nat.beq l.length 0
  ·rfl
  ·have:=Nat.eq_of_beq_eq_true e;omega
 have htk:List.take l.length (ints l)=ints l:=List.take_of_length_le (by rw[Zf];exact Nat.le_refl _);rw[eq_slices_Clone_sint_int,hb];simp(disch:=omega)only[Zc,QM,QD,Zf,Nat.mul_one,Nat.zero_add,htk]
theorem sp_Move (n:Nat) (h:freq n) (dp fw:List Int) (h1:dp.length=(nodes n).length) (h2:fw.length=(edg n).length) (h3:wid 0 16777216 dp) (h4:wid (-16777216) 16777216 fw)
  (am:List Int) (h5:am.length=(edg n).length) (h6:wid (-16777216) 16777216 am):
  cl fu (d+12) fn_flux_Move [V.agg (stC n dp fw),V.c (C.sl am.length (ints am))] []=bif outB 0 16777216 (movS dp ((edg n).zip am))then OK (V.tup [V.agg [C.v (.int .i64 0),C.nl,C.nl],I 7])else OK (V.tup [V.agg (stC n (movS dp ((edg n).zip am)) fw),I 0]):=by
 have hNl:=Z7 h;have heL:=Xw h;have hN0:0<(nodes n).length:=by rw[Xo h];omega
 have hE0:0<(edg n).length:=by
  have:(nodes n).length≠0:=by omega
  have hm:tc n (pt n 0 1 0) (pt n 0 0 1) (pt n 0 0 0)∈tri n:=by
   have hn:=h;unfold freq at hn;unfold tri faceC rowC cellsAt;simp only[List.mem_flatMap,List.mem_range];exact⟨0,by omega,0,by omega,0,by omega,List.mem_cons_self ..⟩
  have:=(F7 n _).2 ((Ja n _).2 ⟨_,hm,List.mem_cons_self ..⟩);exact List.length_pos_of_mem this
 have e2:=Sx fu (d+1) hf n h dp fw h1 h2 h3 h4;have e3:=Ug fu (d+6) hf am (by omega) (-16777216) 16777216;rw[Ym.2 h6]at e3;have k1:=Q7 fu (d+10) dp (by omega) (by omega);have k2:=Q7 fu (d+10) fw (by omega) (by omega);have e4:=eq_flux_edges fu (d+10) (n:Int);have e5:prim.iter (d+11) fn_flux_edges_1 [C.cp [C.v (.int .i64 (n:Int))]]=some (edgesL n):=Ro (d+1) n h;have hel:=Ub n;have hea:=λ{j:Nat} (h1:j<(edgesL n).length) (h2:j<(edg n).length)=>Sw n h1 h2;have hin:=Te h;have hML:=λP=>Qb P dp;have e6:=Ug fu (d+6) hf (movS dp ((edg n).zip am)) (by rw[hML];omega) 0 16777216;rw[hML]at e6;have hbd:=λ(k:Nat) (i:Nat)=>movS_bd (m:=16777216) (by omega) (((edg n).zip am).take k) dp 16777216 (λi=>by have:=Z6 h3 (by omega) i;omega) (λp hp=>h6 p.2 (by
  have:=List.mem_of_mem_take hp;exact(List.of_mem_zip this).2)) i
 unfold stC at*
 generalize edgesL n=EL at*
 generalize edg n=E at*
 generalize (nodes n).length=N at*
 rw[eq_flux_Move];simp(disch:=omega)only[Zc,QM,QD,e2,e3,k1,k2,e4,out0,Zf,Nat.mul_one];rw[e5];simp(disch:=omega)only[Zc,QM,QD,Zf,Nat.mul_one];rw[Je (λj:Nat=>(((0:Int),C.nl,C.nl,()),((n:Int),ints (movS dp ((E.zip am).take j)),ints fw,()),())) (((0:Int),C.nl,C.nl,()),((n:Int),ints (movS dp (E.zip am)),ints fw,()),()) ?_ ?_ ?_]
 ·have htk1:List.take dp.length (ints (movS dp (E.zip am)))=ints (movS dp (E.zip am)):=List.take_of_length_le (by rw[Zf,hML];exact Nat.le_refl _);have htk2:List.take fw.length (ints fw)=ints fw:=List.take_of_length_le (by rw[Zf];exact Nat.le_refl _);have hML:=hML (E.zip am);cases hb:outB 0 16777216 (movS dp (E.zip am))with
  |true=>
   rw[hb]at e6;simp(disch:=omega)only[Zc,QM,QD,Zf,Nat.mul_one,Nat.div_one,Nat.zero_add,hML,htk1,e6]
  |false=>
   rw[hb]at e6;simp(disch:=omega)only[Zc,QM,QD,Zf,Nat.mul_one,Nat.div_one,Nat.zero_add,hML,htk1,htk2,e6]
 ·rfl
 ·intro j hj;have hj':j<E.length:=by omega
  have hz:j<(E.zip am).length:=by rw[List.length_zip];omega
  have hja:j<am.length:=by omega
  have hia:=hea hj hj';have hin:=hin E[j] (List.getElem_mem hj');have hai:=ints_at am hja;have haw:=Wc h6 hja;have hst:movS dp ((E.zip am).take (j+1))=mv1 (movS dp ((E.zip am).take j)) E[j] (-am[j]) am[j]:=by rw[List.take_succ_eq_append_getElem hz,Gd,List.getElem_zip]
  have hbd:=hbd j;have htl:((E.zip am).take j).length<=15000:=by rw[List.length_take];omega
  have hD:=hML ((E.zip am).take j);rw[hia,hst];generalize movS dp ((E.zip am).take j)=D at*
  generalize E[j]=e at*
  generalize am[j]=v at*
  obtain⟨ea,eb⟩:=e;simp only at hin⊢;obtain⟨x,rfl⟩: ∃x:Nat,ea=x:=⟨ea.toNat,by omega⟩;obtain⟨y,rfl⟩: ∃y:Nat,eb=y:=⟨eb.toNat,by omega⟩;have d1:=Zk D (i:=x) (by omega);have b1:=hbd x;have p1:=Qn D (i:=x) (by omega) (-v);have hB:=Yp D x (-v);have hBa:=Sg D x (-v) y;have hm:mv1 D ((x:Int),(y:Int)) (-v) v=bump1 (bump1 D x (-v)) y v:=by unfold mv1;rw[Int.toNat_natCast,Int.toNat_natCast]
  rw[hm];have b2:=hbd y;have b3: -1000000000000<=at0 (bump1 D x (-v)) y/\at0 (bump1 D x (-v)) y<=1000000000000:=by
   split at hBa<;>omega
  generalize bump1 D x (-v)=D1 at*
  have d2:=Zk D1 (i:=y) (by omega);have p2:=Qn D1 (i:=y) (by omega) v;have hB2:=Yp D1 y v;generalize bump1 D1 y v=D2 at*
  have e0:at0 D x-v=at0 D x+ -v:=by omega
  simp(disch:=omega)only[Zc,QM,QD,List.length_cons,List.length_nil,Nat.zero_add,Nat.reduceAdd,Int.toNat_natCast,Nat.mul_one,Nat.div_one,Zf,hD,d1,hai,e0,p1,hB,d2,p2,hB2]
 ·show(((0:Int),C.nl,C.nl,()),((n:Int),ints (movS dp ((E.zip am).take EL.length)),ints fw,()),())=_;rw[hel,List.take_of_length_le (by rw[List.length_zip];omega)]
end
end Go.Proofs.YtjmempcalaliiaaGreatDoor
/- What is moved and moved back; masses; lists that are compared. -/
namespace Go.Proofs.YtjmempcalaliiaaGreatDoor
open Go Go.PM Go.Grid
attribute [local congr] Zr Zs Zt Ya Zu Zv Yb Yc Yd Ye Zw Zx Yf Y5 Y6 Y7 Y8 Y9 Xb Xc Xd Xe Xa Zz Z0 Xf Z1 Z2 Zm Z3 Zy
theorem M7 {l m:List Int} (hl:l.length=m.length) (h: ∀k,k<l.length->at0 l k=at0 m k):l=m:=by
 refine List.ext_getElem hl λk h1 h2=> ?_;rw[<-Ud h1,<-Ud h2];exact h k h1
def net (P:List ((Int×Int)×Int)) (k:Nat):Int:=(P.map λp=>(if k=p.1.1.toNat then -p.2 else 0)+(if k=p.1.2.toNat then p.2 else 0)).sum
theorem C7 (p:(Int×Int)×Int) (P:List ((Int×Int)×Int)) (k:Nat):net (p::P) k=(if k=p.1.1.toNat then -p.2 else 0)+(if k=p.1.2.toNat then p.2 else 0)+net P k:=by unfold net;rw[List.map_cons,List.sum_cons]
theorem movS_cons (l:List Int) (p:(Int×Int)×Int) (P:List ((Int×Int)×Int)):movS l (p::P)=movS (mv1 l p.1 (-p.2) p.2) P:=rfl
theorem Pv: ∀(P:List ((Int×Int)×Int)) (l:List Int) (k:Nat),k<l.length->at0 (movS l P) k=at0 l k+net P k
 | [],l,k,_=>by simp[movS,net]
 |p::P,l,k,h=>by
  rw[movS_cons,Pv P _ k (by rw[Q4];exact h),Ea,C7];by_cases h1:k=p.1.1.toNat<;>by_cases h2:k=p.1.2.toNat<;>simp only[h,h1,h2,and_true,if_true,if_false,false_and,true_and]<;>omega
def isL (c:C) (l:List Int):Prop:=nrm c=C.sl l.length (ints l)/\ ∀{R:Type} (k:Nat->List C->Option R),asSl c k=k l.length (ints l)
theorem Ns (l:List Int):isL (C.sl l.length (ints l)) l:=⟨by rw[nrm_sl],λk=>by rw[W4]⟩
section
variable (fu d:Nat) (hf:18446744073709551616<=fu)
include hf
theorem Ef (a b:List Int) (ha:a.length<=1000000) (hb:b.length<=1000000):cl fu (d+1) fn_synopticref25_Ints [V.c (C.sl a.length (ints a)),V.c (C.sl b.length (ints b))] []=OK (B (decide (a=b))):=by
 rw[eq_synopticref25_Ints];by_cases hl:a.length=b.length
 ·rcases Ua (λj=>at0 a j≠at0 b j) a.length with hn|⟨k,hk,hne,hlt⟩
  ·rw[decide_eq_true (M7 hl λk hk=>Classical.not_not.1 (hn k hk))];simp(disch:=omega)only[Zc,QM,QD];rw[Zh (λj:Nat=>(false,((j:Nat):Int),())) 0 (false,((a.length:Nat):Int),()) a.length ?_ ?_ ?_ (by omega)]
   ·simp(disch:=omega)only[Zc,QM,QD]
   ·rfl
   ·intro j hj;have e1:=Zk a hj;have e2:=Zk b (i:=j) (by omega);have e3:=Classical.not_not.1 (hn j hj);rw[<-e3]at e2;simp(disch:=omega)only[Zc,QM,QD,Int.toNat_natCast,Nat.mul_one,e1,e2];rfl
   ·simp(disch:=omega)only[Zc,QM,QD]
  ·rw[decide_eq_false (λe:a=b=>hne (by rw[e]))];simp(disch:=omega)only[Zc,QM,QD];rw[Zh (λj:Nat=>(false,((j:Nat):Int),())) 1 (false,((k:Nat):Int),()) k ?_ ?_ ?_ (by omega)]
   ·simp(disch:=omega)only[Zc,QM,QD]
   ·rfl
   ·intro j hj;have e1:=Zk a (i:=j) (by omega);have e2:=Zk b (i:=j) (by omega);have e3:=Classical.not_not.1 (hlt j hj);rw[<-e3]at e2;simp(disch:=omega)only[Zc,QM,QD,Int.toNat_natCast,Nat.mul_one,e1,e2];rfl
   ·have e1:=Zk a (i:=k) (by omega);have e2:=Zk b (i:=k) (by omega);simp(disch:=omega)only[Zc,QM,QD,Int.toNat_natCast,Nat.mul_one,e1,e2]
 ·rw[decide_eq_false (λe:a=b=>hl (by rw[e]))];simp(disch:=omega)only[Zc,QM,QD]
theorem sp_Same29 (n m:Int) (c1 c2 c3 c4:C) {a b a' b':List Int} (h1:isL c1 a) (h2:isL c2 b) (h3:isL c3 a') (h4:isL c4 b') (l1:a.length<=1000000) (l2:b.length<=1000000) (l3:a'.length<=1000000) (l4:b'.length<=1000000):
  cl fu (d+2) fn_synopticref29_Same [V.agg [C.v (.int .i64 n),c1,c2],V.agg [C.v (.int .i64 m),c3,c4]] []=OK (B (decide (n=m/\a=a'/\b=b'))):=by
 have e1:=Ef fu d hf a a' l1 l3;have e2:=Ef fu d hf b b' l2 l4;rw[eq_synopticref29_Same,h1.1,h2.1,h3.1,h4.1];by_cases q1:n=m
 ·by_cases q2:a=a'
  ·rw[decide_eq_true q2]at e1;rw[show decide (n=m/\a=a'/\b=b')=decide (b=b') from decide_eq_decide.2 ⟨λq=>q.2.2,λq=>⟨q1,q2,q⟩⟩];simp(disch:=omega)only[Zc,QM,QD,e1,e2]
  ·rw[decide_eq_false q2]at e1;rw[decide_eq_false (λq:n=m/\a=a'/\b=b'=>q2 q.2.1)];simp(disch:=omega)only[Zc,QM,QD,e1]
 ·rw[decide_eq_false (λq:n=m/\a=a'/\b=b'=>q1 q.1)];simp(disch:=omega)only[Zc,QM,QD]
omit hf in
theorem wid_rep {lo hi:Int} {n:Nat} {v:Int} (h:lo<=v/\v<=hi):wid lo hi (List.replicate n v):=λx hx=>by rw[List.eq_of_mem_replicate hx];exact h
end
end Go.Proofs.YtjmempcalaliiaaGreatDoor
/- Amounts, neighbours: what laws of several chapters lean on. -/
namespace Go.Proofs.YtjmempcalaliiaaGreatDoor
open Go Go.PM Go.Grid
attribute [local congr] Zr Zs Zt Ya Zu Zv Yb Yc Yd Ye Zw Zx Yf Y5 Y6 Y7 Y8 Y9 Xb Xc Xd Xe Xa Zz Z0 Xf Z1 Z2 Zm Z3 Zy
theorem Wg {l:List Int} (h: ∀x∈l,0<=x/\x<=255) {k:Nat} (hk:k<=1000):bytes (l.take k):=⟨λx hx=>h x (List.mem_of_mem_take hx),by rw[List.length_take];omega⟩
def rs (dp:List Int) (r:List Int):Int:=(r.map λk=>at0 dp k.toNat).sum
theorem zip_range {E:List (Int×Int)} {am:List Int} (h:am.length=E.length):E.zip am=(List.range E.length).map λj=>(E.getD j (0,0),at0 am j):=by
 refine List.ext_getElem (by rw[List.length_zip,List.length_map,List.length_range];omega) λj h1 h2=> ?_;rw[List.length_zip]at h1;rw[List.getElem_zip,List.getElem_map,List.getElem_range,Q5 E (by omega),Ud (by omega)]
theorem amL_wid {E:List (Int×Int)} {dp fw:List Int} {dg:List Int} (c:Nat) (hw:wid 0 16777216 dp) (hd: ∀e∈E,1<=at0 dg e.1.toNat/\1<=at0 dg e.2.toNat):wid (-16777216) 16777216 (amL dp dg fw c E E.length):=by
 intro v hv;unfold amL at hv;obtain⟨j,hj,rfl⟩:=List.mem_map.1 hv;have hj:=List.mem_range.1 hj;have hd:=hd (E.getD j (0,0)) (by rw[Q5 E hj];exact List.getElem_mem hj);unfold amE;generalize E.getD j (0,0)=e at*
 have L1:=Ee (dp:=dp) (dg:=dg) (k:=e.1) (m:=16777216) (Z6 hw (by omega) _) hd.1;have L2:=Ee (dp:=dp) (dg:=dg) (k:=e.2) (m:=16777216) (Z6 hw (by omega) _) hd.2;have L3:=amt_bd (w:=shr (at0 fw j) c) L1.1 L2.1;have:=Z6 hw (by omega) e.1.toNat;have:=Z6 hw (by omega) e.2.toNat;omega
theorem Eg {n:Nat} (h:freq n):0<(edg n).length:=by
 have hm:tc n (pt n 0 1 0) (pt n 0 0 1) (pt n 0 0 0)∈tri n:=by
  have hn:=h;unfold freq at hn;unfold tri faceC rowC cellsAt;simp only[List.mem_flatMap,List.mem_range];exact⟨0,by omega,0,by omega,0,by omega,List.mem_cons_self ..⟩
 exact List.length_pos_of_mem ((F7 n _).2 ((Ja n _).2 ⟨_,hm,List.mem_cons_self ..⟩))
structure Vst (n:Nat) (dp fw:List Int):Prop where
 dl:dp.length=(nodes n).length
 fl:fw.length=(edg n).length
 dw:wid 0 16777216 dp
 fw:wid (-16777216) 16777216 fw
theorem StOk.vst {n:Nat} {dp fw:List Int} (h:StOk n dp fw):Vst n dp fw:=⟨h.dl,h.fl,h.dw,Q3 h.fw (by omega) (by omega)⟩
theorem deg_pos {n:Nat} (h:freq n): ∀e∈edg n,1<=at0 (degS (nodes n).length (edg n)) e.1.toNat/\1<=at0 (degS (nodes n).length (edg n)) e.2.toNat:=λe he=>by
 have:=Te h e he;exact⟨Pu ⟨e,he, .inl rfl⟩ (by omega),Pu ⟨e,he, .inr rfl⟩ (by omega)⟩
theorem outB_t {lo hi:Int} {l:List Int} {k:Nat} (hk:k<l.length) (h: ¬(lo<=at0 l k/\at0 l k<=hi)):outB lo hi l=true:=by
 cases e:outB lo hi l with
 |true=>rfl
 |false=>
  rw[Ud hk]at h;exact absurd (Ym.1 e _ (List.getElem_mem hk)) h
theorem wid_all {lo hi:Int} {l:List Int} (h: ∀k,k<l.length->lo<=at0 l k/\at0 l k<=hi):wid lo hi l:=λv hv=>by
 obtain⟨k,hk,rfl⟩:=List.mem_iff_getElem.1 hv;rw[<-Ud hk];exact h k hk
theorem Rp {n:Nat} (h:freq n):0<(nodes n).length:=by rw[Xo h];omega
section
variable (fu d:Nat) (hf:18446744073709551616<=fu)
end
end Go.Proofs.YtjmempcalaliiaaGreatDoor
/- Slopes, accelerated flows, steps. -/
namespace Go.Proofs.YtjmempcalaliiaaGreatDoor
open Go Go.PM Go.Grid
attribute [local congr] Zr Zs Zt Ya Zu Zv Yb Yc Yd Ye Zw Zx Yf Y5 Y6 Y7 Y8 Y9 Xb Xc Xd Xe Xa Zz Z0 Xf Z1 Z2 Zm Z3 Zy
def clp (x:Int):Int:=if 16777216<(if -16777216>x then -16777216 else x)then 16777216 else if -16777216>x then -16777216 else x
theorem clp_bd (x:Int): -16777216<=clp x/\clp x<=16777216:=by
 unfold clp
 repeat' split
 all_goals omega
theorem clp_in {x:Int} (h: -16777216<=x/\x<=16777216):clp x=x:=by
 unfold clp
 repeat' split
 all_goals omega
def slE (dp:List Int) (E:List (Int×Int)) (j:Nat):Int:=at0 dp (E.getD j (0,0)).1.toNat-at0 dp (E.getD j (0,0)).2.toNat
def slp (dp:List Int) (E:List (Int×Int)) (k:Nat):List Int:=(List.range k).map (slE dp E)
def acc1 (a b:Nat) (f s:Int):Int:=clp (f+(shr s b-shr f a))
def accE (a b:Nat) (dp fw:List Int) (E:List (Int×Int)) (j:Nat):Int:=acc1 a b (at0 fw j) (slE dp E j)
def accL (a b:Nat) (dp fw:List Int) (E:List (Int×Int)) (k:Nat):List Int:=(List.range k).map (accE a b dp fw E)
theorem Jh (dp:List Int) (E:List (Int×Int)) (k:Nat):(slp dp E k).length=k:=by simp[slp]
theorem Mo (a b:Nat) (dp fw:List Int) (E:List (Int×Int)) (k:Nat):(accL a b dp fw E k).length=k:=by simp[accL]
theorem slp_snoc (dp:List Int) (E:List (Int×Int)) (k:Nat):slp dp E (k+1)=slp dp E k++[slE dp E k]:=by simp[slp,List.range_succ]
theorem accL_snoc (a b:Nat) (dp fw:List Int) (E:List (Int×Int)) (k:Nat):accL a b dp fw E (k+1)=accL a b dp fw E k++[accE a b dp fw E k]:=by simp[accL,List.range_succ]
theorem Yw (f:Nat->Int) (n:Nat) {j:Nat} (h:j<n):at0 ((List.range n).map f) j=f j:=by
 unfold at0;rw[List.getD_eq_getElem?_getD,List.getElem?_map,List.getElem?_range h];rfl
theorem slE_bd {dp:List Int} (h:wid 0 16777216 dp) (E:List (Int×Int)) (j:Nat): -16777216<=slE dp E j/\slE dp E j<=16777216:=by
 unfold slE;have h1:=Z6 h (by omega) (E.getD j (0,0)).1.toNat;have h2:=Z6 h (by omega) (E.getD j (0,0)).2.toNat;omega
theorem C8 (a b:Nat) (dp fw:List Int) (E:List (Int×Int)) (k:Nat):wid (-16777216) 16777216 (accL a b dp fw E k):=λv hv=>by
 unfold accL at hv;obtain⟨j,_,rfl⟩:=List.mem_map.1 hv;exact clp_bd _
theorem Wh {w:Int} (s:Nat) {m:Int} (hm:0<=m) (h: -m<=w/\w<=m): -m-1<=shr w s/\shr w s<=m:=by
 unfold shr;have hp:(1:Int)<=2^s:=by
  have:0<2^s:=Nat.pow_pos (by omega);have e:((2^s:Nat):Int)=(2:Int)^s:=by push_cast;rfl
  omega
 generalize (2:Int)^s=q at*
 rw[Int.fdiv_eq_ediv_of_nonneg _ (by omega)];constructor
 ·refine Int.le_ediv_of_mul_le (by omega) ?_;have:(-m-1)*q<=(-m-1)*1:=Int.mul_le_mul_of_nonpos_left (by omega) hp;omega
 ·have h1:w/q<=m/q:=Int.ediv_le_ediv (by omega) h.2;have h2:m/q<=m:=Int.ediv_le_self _ hm;omega
section
variable (fu d:Nat) (hf:18446744073709551616<=fu)
include hf
set_option maxHeartbeats 4000000 in
theorem sp_Slopes (n:Nat) (h:freq n) (dp fw:List Int) (h1:dp.length=(nodes n).length) (h2:fw.length=(edg n).length) (h3:wid 0 16777216 dp) (h4:wid (-16777216) 16777216 fw):
  cl fu (d+11) fn_model_Slopes [V.agg (stC n dp fw)] []=OK (V.tup [V.c (C.sl (edg n).length (ints (slp dp (edg n) (edg n).length))),I 0]):=by
 have hNl:=Z7 h;have heL:=Xw h;have e1:=Sx fu d hf n h dp fw h1 h2 h3 h4;have e2:=Xv fu (d+1) hf n h;have hin:=Te h;have hsl:=λk=>Jh dp (edg n) k;have hbd:=λj=>slE_bd h3 (edg n) j;have hls:=λk=>slp_snoc dp (edg n) k;unfold stC at*
 generalize hE:edg n=E at*
 generalize (nodes n).length=N at*
 rw[eq_model_Slopes];simp(disch:=omega)only[Zc,QM,QD,e1,e2];rw[Zh (λj:Nat=>(ints (slp dp E j),((j:Nat):Int),())) 0 (ints (slp dp E E.length),((E.length:Nat):Int),()) E.length ?_ ?_ ?_ (by omega)]
 ·have htk:List.take E.length (ints (slp dp E E.length))=ints (slp dp E E.length):=List.take_of_length_le (by rw[Zf,hsl];exact Nat.le_refl _);simp(disch:=omega)only[Zc,QM,QD,Zf,hsl,Nat.div_one,Nat.mul_one,Nat.zero_add,htk]
 ·rfl
 ·intro j hj;have hea:=Pi Yh hj;have hin:=hin E[j] (List.getElem_mem hj);have hgd:=Q5 E hj;have hsE:slE dp E j=at0 dp E[j].1.toNat-at0 dp E[j].2.toNat:=by unfold slE;rw[hgd]
  have hbd:=hbd j;have hls:=hls j;have hslj:=hsl j;generalize slE dp E j=z at*
  generalize E[j]=e at*
  obtain⟨ea,eb⟩:=e;simp only at hin hsE;obtain⟨x,rfl⟩: ∃x:Nat,ea=x:=⟨ea.toNat,by omega⟩;obtain⟨y,rfl⟩: ∃y:Nat,eb=y:=⟨eb.toNat,by omega⟩;rw[Int.toNat_natCast,Int.toNat_natCast]at hsE;have g1:=Zk dp (i:=x) (by omega);have g2:=Zk dp (i:=y) (by omega);have b1:=Z6 h3 (by omega) x;have b2:=Z6 h3 (by omega) y;have edx:edC ((x:Int),(y:Int))=[C.v (.int .i64 (x:Int)),C.v (.int .i64 (y:Int))]:=rfl;rw[edx]at hea;rw[hls];simp(disch:=omega)only[Zc,QM,QD,List.cons_append,List.nil_append,Int.toNat_natCast,Nat.mul_one,Nat.div_one,hea,g1,g2,<-hsE,Zf,hslj,List.length_append,List.length_cons,List.length_nil,Nat.zero_add,Yu];rfl
 ·simp(disch:=omega)only[Zc,QM,QD,Zf,hsl,Nat.div_one,Nat.mul_one]
end
end Go.Proofs.YtjmempcalaliiaaGreatDoor
/- Steps of the model, one after the other. -/
namespace Go.Proofs.YtjmempcalaliiaaGreatDoor
open Go Go.PM Go.Grid
attribute [local congr] Zr Zs Zt Ya Zu Zv Yb Yc Yd Ye Zw Zx Yf Y5 Y6 Y7 Y8 Y9 Xb Xc Xd Xe Xa Zz Z0 Xf Z1 Z2 Zm Z3 Zy
def stF (n a b:Nat) (dp fw:List Int):List Int:=accL a b dp fw (edg n) (edg n).length
def stA (n a b c:Nat) (dp fw:List Int):List Int:=amL dp (degS (nodes n).length (edg n)) (stF n a b dp fw) c (edg n) (edg n).length
def stD (n a b c:Nat) (dp fw:List Int):List Int:=movS dp ((edg n).zip (stA n a b c dp fw))
def stB (n a b c:Nat) (dp fw:List Int):List Int:=brL dp (degS (nodes n).length (edg n)) (stF n a b dp fw) c (edg n) (edg n).length
def stBad (n a b c:Nat) (dp fw:List Int):Bool:=outB 0 16777216 (stD n a b c dp fw)
theorem Xq (n a b:Nat) (dp fw:List Int):(stF n a b dp fw).length=(edg n).length:=Mo ..
theorem Ji (n a b c:Nat) (dp fw:List Int):(stA n a b c dp fw).length=(edg n).length:=Jf ..
theorem Rq (n a b c:Nat) (dp fw:List Int):(stB n a b c dp fw).length=(edg n).length:=Jg ..
theorem Uh (n a b c:Nat) (dp fw:List Int):(stD n a b c dp fw).length=dp.length:=Qb ..
theorem Vst.acc {n:Nat} {dp fw:List Int} (h:Vst n dp fw) (a b:Nat):Vst n dp (stF n a b dp fw):=⟨h.dl,Xq ..,h.dw,C8 _ _ _ _ _ _⟩
theorem Vst.step {n:Nat} {dp fw:List Int} (h:Vst n dp fw) {a b c:Nat} (ho:stBad n a b c dp fw=false):Vst n (stD n a b c dp fw) (stF n a b dp fw):=⟨by rw[Uh];exact h.dl,Xq ..,Ym.1 ho,C8 _ _ _ _ _ _⟩
theorem stA_wid {n:Nat} (hn:freq n) {dp fw:List Int} (h:Vst n dp fw) (a b c:Nat):wid (-16777216) 16777216 (stA n a b c dp fw):=amL_wid c h.dw (deg_pos hn)
theorem Wi (n a b:Nat) (dp fw:List Int) {j:Nat} (h:j<(edg n).length):at0 (stF n a b dp fw) j=accE a b dp fw (edg n) j:=Yw _ _ h
theorem stB_at (n a b c:Nat) (dp fw:List Int) {j:Nat} (h:j<(edg n).length):at0 (stB n a b c dp fw) j=brE dp (degS (nodes n).length (edg n)) (stF n a b dp fw) c (edg n) j:=Yw _ _ h
def stpO (n a b c:Nat) (dp fw:List Int):Option Out:=bif stBad n a b c dp fw then OK (V.tup [V.agg [C.v (.int .i64 0),C.nl,C.nl],V.c C.nl,I 7])else OK (V.tup [V.agg (stC n (stD n a b c dp fw) (stF n a b dp fw)),V.c (C.sl (stB n a b c dp fw).length (ints (stB n a b c dp fw))),I 0])
section
variable (fu d:Nat) (hf:18446744073709551616<=fu)
include hf
set_option maxHeartbeats 4000000 in
theorem S8 (n:Nat) (h:freq n) (dp fw:List Int) (hv:Vst n dp fw) (a b c:Nat) (ha:1<=a/\a<=4) (hb:1<=b/\b<=4) (hc:1<=c/\c<=4):
  cl fu (d+12) fn_model_Accelerate [V.agg [C.v (.int .i64 (a:Int)),C.v (.int .i64 (b:Int)),C.v (.int .i64 (c:Int))],V.agg (stC n dp fw)] []=OK (V.tup [V.agg (stC n dp (stF n a b dp fw)),I 0]):=by
 have hNl:=Z7 h;have heL:=Xw h;have hN0:0<(nodes n).length:=by rw[Xo h];omega
 have h1:=hv.dl;have h2:=hv.fl;have h3:=hv.dw;have e1:=Q6 fu (d+5) hf a b c ha hb hc;have e2:=sp_Slopes fu d hf n h dp fw h1 h2 h3 hv.fw;have k1:=Q7 fu (d+10) dp (by omega) (by omega);have hal:=λk=>Mo a b dp fw (edg n) k;have has:=λk=>accL_snoc a b dp fw (edg n) k;have hsl:=Jh dp (edg n) (edg n).length;have hsa: ∀{j:Nat},j<(edg n).length->at0 (slp dp (edg n) (edg n).length) j=slE dp (edg n) j:=λhj=>Yw _ _ hj;have hbd:=λj=>slE_bd h3 (edg n) j;have ma:min a (IntKind.bits .i64)=a:=by show min a 64=a;omega
 have mb:min b (IntKind.bits .i64)=b:=by show min b 64=b;omega
 unfold stF;unfold stC at*
 rw[hal];have hac: ∀j,accE a b dp fw (edg n) j=clp (at0 fw j+(shr (slE dp (edg n) j) b-shr (at0 fw j) a)):=λj=>rfl;generalize slp dp (edg n) (edg n).length=sl at*
 generalize hE:edg n=E at*
 generalize (nodes n).length=N at*
 rw[eq_model_Accelerate];simp(disch:=omega)only[Zc,QM,QD,e1,e2,k1,out0,Nf,Zf,Nat.mul_one];rw[Zh (λj:Nat=>(((j:Nat):Int),((0:Int),C.nl,C.nl,()),((n:Int),ints dp,ints (accL a b dp fw E j),()),())) 0 (((fw.length:Nat):Int),((0:Int),C.nl,C.nl,()),((n:Int),ints dp,ints (accL a b dp fw E E.length),()),()) fw.length ?_ ?_ ?_ (by omega)]
 ·have htk1:List.take dp.length (ints dp)=ints dp:=List.take_of_length_le (by rw[Zf];exact Nat.le_refl _);have htk2:List.take E.length (ints (accL a b dp fw E E.length))=ints (accL a b dp fw E E.length):=List.take_of_length_le (by rw[Zf,hal];exact Nat.le_refl _);simp(disch:=omega)only[Zc,QM,QD,Zf,hal,Nat.div_one,Nat.mul_one,Nat.zero_add,htk1,htk2]
 ·rfl
 ·intro j hj;have hjE:j<E.length:=by omega
  have i1:=Zk fw hj;have i2:=Zk sl (i:=j) (by omega);have b1:=Z6 hv.fw (by omega) j;have b2:=hbd j;have hac:=hac j;have has:=has j;have halj:=hal j;rw[hsa hjE]at i2;rw[has];have q1:=Wh b (by omega:(0:Int)<=16777216) b2;have q2:=Wh a (by omega:(0:Int)<=16777216) b1;have f1:Int.fdiv (slE dp E j) (2^b)=shr (slE dp E j) b:=rfl;have f2:Int.fdiv (at0 fw j) (2^a)=shr (at0 fw j) a:=rfl;generalize accE a b dp fw E j=z at*
  generalize shr (slE dp E j) b=p at*
  generalize shr (at0 fw j) a=q at*
  generalize slE dp E j=s at*
  generalize at0 fw j=f at*
  have hz:(if 16777216<(if -16777216>f+(p-q)then -16777216 else f+(p-q))then 16777216 else if -16777216>f+(p-q)then -16777216 else f+(p-q))=z:=hac.symm;simp(disch:=omega)only[Zc,QM,QD,Int.toNat_natCast,Nat.mul_one,Nat.div_one,i1,i2,ma,mb,f1,f2,hz,Zf,halj,List.length_append,List.length_cons,List.length_nil,Nat.zero_add,Yu];rfl
 ·have e0:fw.length=E.length:=h2;rw[e0];simp(disch:=omega)only[Zc,QM,QD,Zf,hal,Nat.div_one,Nat.mul_one]
theorem sp_Step (n:Nat) (h:freq n) (dp fw:List Int) (hv:Vst n dp fw) (a b c:Nat) (ha:1<=a/\a<=4) (hb:1<=b/\b<=4) (hc:1<=c/\c<=4):
  cl fu (d+15) fn_model_Step [V.agg [C.v (.int .i64 (a:Int)),C.v (.int .i64 (b:Int)),C.v (.int .i64 (c:Int))],V.agg (stC n dp fw)] []=stpO n a b c dp fw:=by
 have e1:=S8 fu d hf n h dp fw hv a b c ha hb hc;have v2:=hv.acc a b;have e2:=We fu d hf n h dp (stF n a b dp fw) v2.dl v2.fl v2.dw v2.fw a b c ha hb hc;have e3:=sp_Move fu d hf n h dp (stF n a b dp fw) v2.dl v2.fl v2.dw v2.fw (stA n a b c dp fw) (Ji ..) (stA_wid h hv a b c);have hlA:=Ji n a b c dp fw;have hlB:=Rq n a b c dp fw;have hA:amL dp (degS (nodes n).length (edg n)) (stF n a b dp fw) c (edg n) (edg n).length=stA n a b c dp fw:=rfl;have hB:brL dp (degS (nodes n).length (edg n)) (stF n a b dp fw) c (edg n) (edg n).length=stB n a b c dp fw:=rfl;have hD:movS dp ((edg n).zip (stA n a b c dp fw))=stD n a b c dp fw:=rfl;rw[hA,hB]at e2;rw[hD,hlA]at e3;unfold stpO stBad;rw[hlB];unfold stC at*
 generalize stA n a b c dp fw=am at*
 generalize stB n a b c dp fw=br at*
 generalize stD n a b c dp fw=D at*
 generalize stF n a b dp fw=F at*
 rw[eq_model_Step];have f1:=eq_model_accelerate fu (d+13) (a:Int) (b:Int) (c:Int);have f2:=eq_model_move fu (d+13) (a:Int) (b:Int) (c:Int);have g1:=eq_model_accelerate_1 fu (d+12) (n:Int) (C.sl dp.length (ints dp)) (C.sl fw.length (ints fw)) C.nl [C.v (.int .i64 (a:Int)),C.v (.int .i64 (b:Int)),C.v (.int .i64 (c:Int))];have g2:=eq_model_move_1 fu (d+12) (n:Int) (C.sl dp.length (ints dp)) (C.sl F.length (ints F)) C.nl [C.v (.int .i64 (a:Int)),C.v (.int .i64 (b:Int)),C.v (.int .i64 (c:Int))];simp(disch:=omega)only[Zc,QM,QD,e1,List.length_cons,List.length_nil,Nat.zero_add,Nat.reduceAdd]at g1;cases ho:outB 0 16777216 D with
 |true=>
  rw[ho]at e3;simp(disch:=omega)only[Zc,QM,QD,e2,e3,List.length_cons,List.length_nil,Nat.zero_add,Nat.reduceAdd]at g2;simp(disch:=omega)only[Zc,QM,QD,f1,f2];rw[eq_model_chain_model_progress_do];simp(disch:=omega)only[Zc,QM,QD,g1,g2,List.length_cons,List.length_nil,Nat.zero_add,Nat.reduceAdd]
 |false=>
  rw[ho]at e3;simp(disch:=omega)only[Zc,QM,QD,e2,e3,List.length_cons,List.length_nil,Nat.zero_add,Nat.reduceAdd]at g2;simp(disch:=omega)only[Zc,QM,QD,f1,f2];rw[eq_model_chain_model_progress_do];simp(disch:=omega)only[Zc,QM,QD,g1,g2,List.length_cons,List.length_nil,Nat.zero_add,Nat.reduceAdd]
end
end Go.Proofs.YtjmempcalaliiaaGreatDoor
/- The linearised step: plain laws. -/
namespace Go.Proofs.YtjmempcalaliiaaGreatDoor
open Go Go.PM Go.Grid
def sc (a b c:Nat):Nat:=30*2^(max a b+c)
def scA (a b c:Nat):Nat:=30*2^(max a b+c-a)
def scB (a b c:Nat):Nat:=30*2^(max a b+c-b)
def tp (a b:Nat):Nat:=30*2^max a b-30*2^(max a b-a)
def tr (a b:Nat):Nat:=30*2^(max a b-b)
theorem pw (m k s:Nat) (h:s<=m) (e:k=m-s):30*2^m=30*2^k*2^s:=by
 rw[Nat.mul_assoc,<-Nat.pow_add,e,Nat.sub_add_cancel h]
theorem sc_a (a b c:Nat):sc a b c=scA a b c*2^a:=pw _ _ _ (by omega) rfl
theorem sc_b (a b c:Nat):sc a b c=scB a b c*2^b:=pw _ _ _ (by omega) rfl
theorem scB_c (a b c:Nat):scB a b c=tr a b*2^c:=pw _ _ _ (by omega) (by omega)
theorem Wj (a b c:Nat):scA a b c<=sc a b c:=by
 unfold scA sc;exact Nat.mul_le_mul_left _ (Nat.pow_le_pow_right (by omega) (by omega))
theorem scB_le (a b c:Nat):scB a b c<=sc a b c:=by
 unfold scB sc;exact Nat.mul_le_mul_left _ (Nat.pow_le_pow_right (by omega) (by omega))
theorem scD_c (a b c:Nat):sc a b c-scA a b c=tp a b*2^c:=by
 have h1:sc a b c=30*2^max a b*2^c:=pw _ _ _ (by omega) (by omega);have h2:scA a b c=30*2^(max a b-a)*2^c:=pw _ _ _ (by omega) (by omega);rw[h1,h2,tp,Nat.sub_mul]
theorem C9 {a b c:Nat} (ha:a<=4) (hb:b<=4) (hc:c<=4):sc a b c<=7680:=by
 have h:2^(max a b+c)<=2^8:=Nat.pow_le_pow_right (by omega) (by omega);unfold sc;omega
theorem M8 (x q:Int) (s:Nat):shr (x+q*2^s) s=shr x s+q:=by
 unfold shr;have hp:(0:Int)<2^s:=Int.pow_pos (by omega);rw[Int.fdiv_eq_ediv_of_nonneg _ (by omega),Int.fdiv_eq_ediv_of_nonneg _ (by omega),Int.add_mul_ediv_right _ _ (by omega)]
theorem M9 (q:Int) (s:Nat):shr (q*2^s) s=q:=by
 have:=M8 0 q s;rw[Int.zero_add]at this;rw[this];unfold shr;rw[Int.zero_fdiv];omega
theorem Sy (s:Nat):((2^s:Nat):Int)=2^s:=by simp
theorem sc_aI (a b c:Nat):((sc a b c:Nat):Int)=(scA a b c:Int)*2^a:=by rw[sc_a,Int.natCast_mul,Sy]
theorem sc_bI (a b c:Nat):((sc a b c:Nat):Int)=(scB a b c:Int)*2^b:=by rw[sc_b,Int.natCast_mul,Sy]
theorem scB_cI (a b c:Nat):((scB a b c:Nat):Int)=(tr a b:Int)*2^c:=by rw[scB_c,Int.natCast_mul,Sy]
theorem scD_cI (a b c:Nat):((sc a b c:Nat):Int)-(scA a b c:Int)=(tp a b:Int)*2^c:=by
 have h1:=Wj a b c;have h2:=congrArg (λn:Nat=>(n:Int)) (scD_c a b c);simp only[Int.natCast_mul,Sy]at h2;omega
def tF (a b c:Nat) (hd hf:List Int) (E:List (Int×Int)) (j:Nat):Int:=((sc a b c:Int)-scA a b c)*at0 hf j+(scB a b c:Int)*(at0 hd (E.getD j (0,0)).1.toNat-at0 hd (E.getD j (0,0)).2.toNat)
def tG (a b:Nat) (hd hf:List Int) (E:List (Int×Int)) (j:Nat):Int:=(tp a b:Int)*at0 hf j+(tr a b:Int)*(at0 hd (E.getD j (0,0)).1.toNat-at0 hd (E.getD j (0,0)).2.toNat)
theorem Jj (a b c:Nat) (hd hf:List Int) (E:List (Int×Int)) (j:Nat):tF a b c hd hf E j=tG a b hd hf E j*2^c:=by
 unfold tF tG;rw[scD_cI,scB_cI,Int.add_mul]
 congr 1
 ·rw[Int.mul_assoc,Int.mul_comm (2^c),<-Int.mul_assoc]
 ·rw[Int.mul_assoc,Int.mul_comm (2^c),<-Int.mul_assoc]
def tAm (a b c:Nat) (dg br hd hf:List Int) (E:List (Int×Int)) (j:Nat):Int:=
 if at0 br j=1 then Int.tdiv (sc a b c) (at0 dg (E.getD j (0,0)).1.toNat)*at0 hd (E.getD j (0,0)).1.toNat
 else if at0 br j= -1 then -(Int.tdiv (sc a b c) (at0 dg (E.getD j (0,0)).2.toNat)*at0 hd (E.getD j (0,0)).2.toNat)
 else tG a b hd hf E j
def tFL (a b c:Nat) (hd hf:List Int) (E:List (Int×Int)) (k:Nat):List Int:=(List.range k).map (tF a b c hd hf E)
def tAL (a b c:Nat) (dg br hd hf:List Int) (E:List (Int×Int)) (k:Nat):List Int:=(List.range k).map (tAm a b c dg br hd hf E)
def tDL (a b c:Nat) (dg br hd hf:List Int) (E:List (Int×Int)):List Int:=movS (hd.map λx=>(sc a b c:Int)*x) (E.zip (tAL a b c dg br hd hf E E.length))
theorem Tg (a b c:Nat) (hd hf:List Int) (E:List (Int×Int)) (k:Nat):(tFL a b c hd hf E k).length=k:=by simp[tFL]
theorem Jk (a b c:Nat) (dg br hd hf:List Int) (E:List (Int×Int)) (k:Nat):(tAL a b c dg br hd hf E k).length=k:=by simp[tAL]
theorem Ti (a b c:Nat) (dg br hd hf:List Int) (E:List (Int×Int)):(tDL a b c dg br hd hf E).length=hd.length:=by unfold tDL;rw[Qb,List.length_map]
theorem Vh (f:Int->Int) (h0:f 0=0) (l:List Int) (k:Nat):at0 (l.map f) k=f (at0 l k):=by
 unfold at0;rw[List.getD_eq_getElem?_getD,List.getElem?_map,List.getD_eq_getElem?_getD];cases l[k]? with
 |none=>exact h0.symm
 |some v=>rfl
theorem Eh {E:List (Int×Int)} (f:Nat->Int) (i:Nat):net (E.zip ((List.range E.length).map f)) i=((List.range E.length).map λj=>(if i=(E.getD j (0,0)).1.toNat then -(f j)else 0)+(if i=(E.getD j (0,0)).2.toNat then f j else 0)).sum:=by
 rw[zip_range (by simp)];unfold net;rw[List.map_map];refine congrArg List.sum (List.map_congr_left λj hj=> ?_);have hj:=List.mem_range.1 hj;show(if i=(E.getD j (0,0)).1.toNat then -(at0 ((List.range E.length).map f) j)else 0)+(if i=(E.getD j (0,0)).2.toNat then at0 ((List.range E.length).map f) j else 0)=_;rw[Yw f _ hj]
theorem sum_add (f g:Nat->Int): ∀n,((List.range n).map λj=>f j+g j).sum=((List.range n).map f).sum+((List.range n).map g).sum
 |0=>rfl
 |n+1=>by
  simp only[List.range_succ,List.map_append,List.sum_append,sum_add f g n,List.map_cons,List.map_nil,List.sum_cons,List.sum_nil];omega
theorem Ba (k:Int) (f:Nat->Int): ∀n,((List.range n).map λj=>k*f j).sum=k*((List.range n).map f).sum
 |0=>by simp
 |n+1=>by
  simp only[List.range_succ,List.map_append,List.sum_append,Ba k f n,List.map_cons,List.map_nil,List.sum_cons,List.sum_nil,Int.mul_add,Int.mul_zero]
theorem net_lin {E:List (Int×Int)} (k:Int) (f g w:Nat->Int) (i:Nat) (h: ∀j,j<E.length->w j=f j+k*g j):net (E.zip ((List.range E.length).map w)) i=net (E.zip ((List.range E.length).map f)) i+k*net (E.zip ((List.range E.length).map g)) i:=by
 rw[Eh,Eh,Eh,<-Ba,<-sum_add];refine congrArg List.sum (List.map_congr_left λj hj=> ?_);have e:=h j (List.mem_range.1 hj);rw[e];generalize f j=x;generalize g j=y;have m1:k* -y= -(k*y):=Int.mul_neg ..;by_cases q1:i=(E.getD j (0,0)).1.toNat<;>by_cases q2:i=(E.getD j (0,0)).2.toNat
 ·rw[if_pos q1,if_pos q2,if_pos q1,if_pos q2,if_pos q1,if_pos q2,Int.mul_add,m1];omega
 ·rw[if_pos q1,if_neg q2,if_pos q1,if_neg q2,if_pos q1,if_neg q2,Int.mul_add,m1];omega
 ·rw[if_neg q1,if_pos q2,if_neg q1,if_pos q2,if_neg q1,if_pos q2,Int.mul_add];omega
 ·rw[if_neg q1,if_neg q2,if_neg q1,if_neg q2,if_neg q1,if_neg q2,Int.mul_add];omega
theorem lin2 (p k x y:Int):p*(x+k*y)=p*x+k*(p*y):=by rw[Int.mul_add,Int.mul_left_comm]
theorem tG_lin (a b:Nat) {gd gf hd hf sd sf:List Int} (E:List (Int×Int)) (k:Int) (h1: ∀i,at0 sd i=at0 gd i+k*at0 hd i) (h2: ∀i,at0 sf i=at0 gf i+k*at0 hf i) (j:Nat):tG a b sd sf E j=tG a b gd gf E j+k*tG a b hd hf E j:=by
 unfold tG;rw[h1,h1,h2];generalize at0 gd (E.getD j (0,0)).1.toNat=x1;generalize at0 gd (E.getD j (0,0)).2.toNat=x2;generalize at0 hd (E.getD j (0,0)).1.toNat=y1;generalize at0 hd (E.getD j (0,0)).2.toNat=y2;have e:x1+k*y1-(x2+k*y2)=(x1-x2)+k*(y1-y2):=by rw[Int.mul_sub];omega
 rw[e,lin2,lin2,Int.mul_add];omega
theorem tAm_lin (a b c:Nat) {dg br gd gf hd hf sd sf:List Int} (E:List (Int×Int)) (k:Int) (h1: ∀i,at0 sd i=at0 gd i+k*at0 hd i) (h2: ∀i,at0 sf i=at0 gf i+k*at0 hf i) (j:Nat):tAm a b c dg br sd sf E j=tAm a b c dg br gd gf E j+k*tAm a b c dg br hd hf E j:=by
 unfold tAm;split
 ·rw[h1,lin2]
 ·split
  ·rw[h1,lin2,Int.mul_neg];omega
  ·exact tG_lin a b E k h1 h2 j
theorem tF_lin (a b c:Nat) {gd gf hd hf sd sf:List Int} (E:List (Int×Int)) (k:Int) (h1: ∀i,at0 sd i=at0 gd i+k*at0 hd i) (h2: ∀i,at0 sf i=at0 gf i+k*at0 hf i) (j:Nat):tF a b c sd sf E j=tF a b c gd gf E j+k*tF a b c hd hf E j:=by
 rw[Jj,Jj,Jj,tG_lin a b E k h1 h2,Int.add_mul,Int.mul_assoc]
theorem Ej (a b c:Nat) (dg br hd hf:List Int) (E:List (Int×Int)) {i:Nat} (hi:i<hd.length):at0 (tDL a b c dg br hd hf E) i=(sc a b c:Int)*at0 hd i+net (E.zip (tAL a b c dg br hd hf E E.length)) i:=by
 unfold tDL;rw[Pv _ _ _ (by rw[List.length_map];exact hi),Vh (λx=>(sc a b c:Int)*x) (Int.mul_zero _)]
theorem tDL_lin (a b c:Nat) {dg br gd gf hd hf sd sf:List Int} (E:List (Int×Int)) (k:Int) (h1: ∀i,at0 sd i=at0 gd i+k*at0 hd i) (h2: ∀i,at0 sf i=at0 gf i+k*at0 hf i) {i:Nat} (g1:i<gd.length) (g2:i<hd.length) (g3:i<sd.length):
  at0 (tDL a b c dg br sd sf E) i=at0 (tDL a b c dg br gd gf E) i+k*at0 (tDL a b c dg br hd hf E) i:=by
 rw[Ej _ _ _ _ _ _ _ _ g3,Ej _ _ _ _ _ _ _ _ g1,Ej _ _ _ _ _ _ _ _ g2];have e:=net_lin (E:=E) k (tAm a b c dg br gd gf E) (tAm a b c dg br hd hf E) (tAm a b c dg br sd sf E) i λj _=>tAm_lin a b c E k h1 h2 j;unfold tAL;rw[e,h1,lin2,Int.mul_add];omega
theorem acc_lin {a b c:Nat} {dp fw dp' fw' hd hf:List Int} {E:List (Int×Int)} {j:Nat} (h1: ∀i,at0 dp' i=at0 dp i+(sc a b c:Int)*at0 hd i) (h2: ∀i,at0 fw' i=at0 fw i+(sc a b c:Int)*at0 hf i)
  (c1: -16777216<accE a b dp fw E j/\accE a b dp fw E j<16777216) (c2: -16777216<accE a b dp' fw' E j/\accE a b dp' fw' E j<16777216):accE a b dp' fw' E j=accE a b dp fw E j+tF a b c hd hf E j:=by
 have un: ∀x:Int,-16777216<clp x/\clp x<16777216->clp x=x:=λx hx=>clp_in (by
  unfold clp at hx
  repeat' split at hx
  all_goals omega)
 unfold accE acc1 slE at*
 rw[un _ c1,un _ c2,h1,h1,h2];unfold tF;generalize at0 dp (E.getD j (0,0)).1.toNat=x1;generalize at0 dp (E.getD j (0,0)).2.toNat=x2;generalize at0 hd (E.getD j (0,0)).1.toNat=y1;generalize at0 hd (E.getD j (0,0)).2.toNat=y2;generalize at0 fw j=f;generalize at0 hf j=g;have e1:x1+(sc a b c:Int)*y1-(x2+(sc a b c:Int)*y2)=(x1-x2)+((scB a b c:Int)*(y1-y2))*2^b:=by
  rw[Int.mul_assoc,Int.mul_comm (y1-y2),<-Int.mul_assoc,<-sc_bI,Int.mul_sub];omega
 have e2:f+(sc a b c:Int)*g=f+((scA a b c:Int)*g)*2^a:=by
  rw[Int.mul_assoc (scA a b c:Int),Int.mul_comm g,<-Int.mul_assoc,<-sc_aI]
 rw[e1,M8]
 conv=>lhs;rw[show shr (f+(sc a b c:Int)*g) a=shr f a+(scA a b c:Int)*g from by rw[e2,M8]]
 rw[Int.sub_mul];omega
theorem brn_amt (w p q:Int):amt w p q=if brn w p q=1 then p else if brn w p q= -1 then -q else w:=by
 unfold amt brn;split
 ·simp
 ·split
  ·simp
  ·simp
theorem lim_lin {dg dp dp' hd:List Int} {s:Int} {k:Int} (h:at0 dp' k.toNat=at0 dp k.toNat+s*at0 hd k.toNat) (hd1:0<at0 dg k.toNat) (hdv:s=Int.tdiv s (at0 dg k.toNat)*at0 dg k.toNat) (p1:0<=at0 dp k.toNat) (p2:0<=at0 dp' k.toNat):lim dp' dg k=lim dp dg k+Int.tdiv s (at0 dg k.toNat)*at0 hd k.toNat:=by
 unfold lim;rw[Int.tdiv_eq_ediv_of_nonneg p1,Int.tdiv_eq_ediv_of_nonneg p2,h];generalize at0 dg k.toNat=m at*
 generalize Int.tdiv s m=q at*
 generalize at0 hd k.toNat=y;rw[hdv,Int.mul_assoc,Int.mul_comm m,<-Int.mul_assoc,Int.add_mul_ediv_right _ _ (by omega)]
theorem amE_lin {a b c:Nat} {dg dp dp' fa fa' hd hf:List Int} {E:List (Int×Int)} {j:Nat} (hj:j<E.length) (h1: ∀i,at0 dp' i=at0 dp i+(sc a b c:Int)*at0 hd i) (hF:at0 fa' j=at0 fa j+tF a b c hd hf E j)
  (hb:brE dp' dg fa' c E j=brE dp dg fa c E j) (hdg: ∀e∈E,(0<at0 dg e.1.toNat/\(sc a b c:Int)=Int.tdiv (sc a b c) (at0 dg e.1.toNat)*at0 dg e.1.toNat)/\0<at0 dg e.2.toNat/\(sc a b c:Int)=Int.tdiv (sc a b c) (at0 dg e.2.toNat)*at0 dg e.2.toNat)
  (p1: ∀i,0<=at0 dp i) (p2: ∀i,0<=at0 dp' i) {br:List Int} (hbr:at0 br j=brE dp dg fa c E j):amE dp' dg fa' c E j=amE dp dg fa c E j+tAm a b c dg br hd hf E j:=by
 have hdg:=hdg (E.getD j (0,0)) (by rw[Q5 E hj];exact List.getElem_mem hj);unfold tAm;rw[hbr];unfold amE;rw[brn_amt,brn_amt (shr (at0 fa j) c)];unfold brE at hb⊢;rw[hb];have l1:=lim_lin (dg:=dg) (s:=(sc a b c:Int)) (k:=(E.getD j (0,0)).1) (h1 _) hdg.1.1 hdg.1.2 (p1 _) (p2 _);have l2:=lim_lin (dg:=dg) (s:=(sc a b c:Int)) (k:=(E.getD j (0,0)).2) (h1 _) hdg.2.1 hdg.2.2 (p1 _) (p2 _);have l3:shr (at0 fa' j) c=shr (at0 fa j) c+tG a b hd hf E j:=by rw[hF,Jj,M8]
 split
 ·exact l1
 ·split
  ·rw[l2];omega
  ·exact l3
end Go.Proofs.YtjmempcalaliiaaGreatDoor
/- Changes, branches, the linearised step's function. -/
namespace Go.Proofs.YtjmempcalaliiaaGreatDoor
open Go Go.PM Go.Grid
attribute [local congr] Zr Zs Zt Ya Zu Zv Yb Yc Yd Ye Zw Zx Yf Y5 Y6 Y7 Y8 Y9 Xb Xc Xd Xe Xa Zz Z0 Xf Z1 Z2 Zm Z3 Zy
def cntE (E:List (Int×Int)) (k:Nat):Int:=(E.map λe=>(if k=e.1.toNat then(1:Int)else 0)+(if k=e.2.toNat then 1 else 0)).sum
theorem Vx (e:Int×Int) (E:List (Int×Int)) (k:Nat):cntE (e::E) k=(if k=e.1.toNat then(1:Int)else 0)+(if k=e.2.toNat then 1 else 0)+cntE E k:=by unfold cntE;rw[List.map_cons,List.sum_cons]
theorem Ek (k:Nat): ∀E,0<=cntE E k
 | []=>by simp[cntE]
 |e::E=>by
  rw[Vx];have:=Ek k E
  repeat' split
  all_goals omega
theorem Ge (k:Nat): ∀(E:List (Int×Int)) (j:Nat),cntE (E.take j) k<=cntE E k
 | [],j=>by simp
 |e::E,0=>by rw[List.take_zero];exact Ek k _
 |e::E,j+1=>by
  rw[List.take_succ_cons,Vx,Vx];have:=Ge k E j;omega
theorem deg_at (k:Nat): ∀(E:List (Int×Int)) (l:List Int),k<l.length->at0 (E.foldl (λl e=>mv1 l e 1 1) l) k=at0 l k+cntE E k
 | [],l,_=>by simp[cntE]
 |e::E,l,h=>by
  rw[List.foldl_cons,deg_at k E _ (by rw[Q4];exact h),Ea,Vx];by_cases h1:k=e.1.toNat<;>by_cases h2:k=e.2.toNat<;>simp only[h,h1,h2,and_true,if_true,if_false,false_and,true_and]<;>omega
theorem degS_cnt {N:Nat} (E:List (Int×Int)) {k:Nat} (hk:k<N):at0 (degS N E) k=cntE E k:=by
 unfold degS;rw[deg_at k E _ (by rw[List.length_replicate];exact hk),Eb];omega
theorem net_abs {m:Int} (hm:0<=m) (k:Nat): ∀P:List ((Int×Int)×Int),(∀p∈P,-m<=p.2/\p.2<=m)-> -(m*cntE (P.map (·.1)) k)<=net P k/\net P k<=m*cntE (P.map (·.1)) k
 | [],_=>by simp[net,cntE]
 |p::P,h=>by
  have h1:=h p (List.mem_cons_self ..);have h2:=net_abs hm k P λq hq=>h q (List.mem_cons_of_mem _ hq);rw[List.map_cons,Vx,C7,Int.mul_add,Int.mul_add];by_cases q1:k=p.1.1.toNat<;>by_cases q2:k=p.1.2.toNat
  ·rw[if_pos q1,if_pos q2,if_pos q1,if_pos q2,Int.mul_one];omega
  ·rw[if_pos q1,if_neg q2,if_pos q1,if_neg q2,Int.mul_one,Int.mul_zero];omega
  ·rw[if_neg q1,if_pos q2,if_neg q1,if_pos q2,Int.mul_one,Int.mul_zero];omega
  ·rw[if_neg q1,if_neg q2,if_neg q1,if_neg q2,Int.mul_zero];omega
theorem El (E:List (Int×Int)) (am:List Int) (h:am.length=E.length) (j:Nat):((E.zip am).take j).map (·.1)=E.take j:=by
 rw[List.map_take,List.map_fst_zip (by omega)]
theorem deg_56 {n:Nat} (hn:n=1\/n=2): ∀v∈degS (nodes n).length (edg n),v=5\/v=6:=by
 have h:((degS (nodes n).length (edg n)).all λv=>decide (v=5\/v=6))=true:=by rcases hn with rfl|rfl<;>kernel_rfl
 intro v hv;exact of_decide_eq_true (List.all_eq_true.1 h v hv)
theorem Vy {n:Nat} (hn:n=1\/n=2) {k:Nat} (hk:k<(nodes n).length):at0 (degS (nodes n).length (edg n)) k=5\/at0 (degS (nodes n).length (edg n)) k=6:=by
 rw[Ud (by rw[Vg];exact hk)];exact deg_56 hn _ (List.getElem_mem _)
theorem Jl (a b c:Nat) {v:Int} (h:v=5\/v=6):(sc a b c:Int)=Int.tdiv (sc a b c) v*v/\0<=Int.tdiv (sc a b c) v/\Int.tdiv (sc a b c) v<=sc a b c:=by
 unfold sc;generalize 2^(max a b+c)=x;rw[Int.tdiv_eq_ediv_of_nonneg (by omega)];rcases h with rfl|rfl<;>omega
theorem Uq {p x m:Int} {P:Int} (hp:0<=p/\p<=P) (hx: -m<=x/\x<=m) (hm:0<=m): -(P*m)<=p*x/\p*x<=P*m:=by
 have h1:p*x<=p*m:=Int.mul_le_mul_of_nonneg_left hx.2 hp.1;have h2:p* -m<=p*x:=Int.mul_le_mul_of_nonneg_left hx.1 hp.1;have h3:p*m<=P*m:=Int.mul_le_mul_of_nonneg_right hp.2 hm;rw[Int.mul_neg]at h2;omega
theorem tF_bd {a b c:Nat} (ha:a<=4) (hb:b<=4) (hc:c<=4) {hd hf:List Int} {E:List (Int×Int)} {m:Int} (hm:0<=m) (h1: ∀i,-m<=at0 hd i/\at0 hd i<=m) (h2: ∀i,-m<=at0 hf i/\at0 hf i<=m) (j:Nat): -(23040*m)<=tF a b c hd hf E j/\tF a b c hd hf E j<=23040*m:=by
 unfold tF;have s1:=C9 ha hb hc;have s2:=Wj a b c;have s3:=scB_le a b c;have x1:=h1 (E.getD j (0,0)).1.toNat;have x2:=h1 (E.getD j (0,0)).2.toNat;have m1:=Uq (p:=(sc a b c:Int)-scA a b c) (P:=7680) (by omega) (h2 j) hm;have m2:=Uq (p:=(scB a b c:Int)) (P:=7680) (x:=at0 hd (E.getD j (0,0)).1.toNat-at0 hd (E.getD j (0,0)).2.toNat) (m:=2*m) (by omega) (by omega) (by omega);omega
theorem tAm_bd {a b c:Nat} (ha:a<=4) (hb:b<=4) (hc:c<=4) {n:Nat} (hn:n=1\/n=2) {br hd hf:List Int} {m:Int} (hm:0<=m) (h1: ∀i,-m<=at0 hd i/\at0 hd i<=m) (h2: ∀i,-m<=at0 hf i/\at0 hf i<=m) {j:Nat} (hj:j<(edg n).length):
  -(23040*m)<=tAm a b c (degS (nodes n).length (edg n)) br hd hf (edg n) j/\tAm a b c (degS (nodes n).length (edg n)) br hd hf (edg n) j<=23040*m:=by
 have hin:=Te (Pt hn) _ (List.getElem_mem hj);have s1:=C9 ha hb hc;have q1:=Jl a b c (Vy hn (k:=(edg n)[j].1.toNat) (by omega));have q2:=Jl a b c (Vy hn (k:=(edg n)[j].2.toNat) (by omega));have m1:=Uq (P:=7680) ⟨q1.2.1,by omega⟩ (h1 (edg n)[j].1.toNat) hm;have m2:=Uq (P:=7680) ⟨q2.2.1,by omega⟩ (h1 (edg n)[j].2.toNat) hm;have m3:=tF_bd ha hb hc (E:=edg n) hm h1 h2 j;have e3:tG a b hd hf (edg n) j=shr (tF a b c hd hf (edg n) j) c:=by rw[Jj,M9]
 have m4:=Wh c (m:=23040*m) (by omega) m3;have m5: -(23040*m)<=tG a b hd hf (edg n) j:=by
  have h0:tG a b hd hf (edg n) j*2^c=tF a b c hd hf (edg n) j:=(Jj ..).symm;have hp:(1:Int)<=2^c:=by
   have:=Nat.pow_pos (n:=c) (show 0<2 by omega);have e:=Sy c;omega
  by_cases hneg:tG a b hd hf (edg n) j<0
  ·have:tG a b hd hf (edg n) j*2^c<=tG a b hd hf (edg n) j*1:=Int.mul_le_mul_of_nonpos_left (by omega) hp;omega
  ·omega
 unfold tAm;rw[Q5 _ hj];split
 ·omega
 ·split
  ·omega
  ·rw[e3]at m5⊢;omega
section
variable (fu d:Nat) (hf:18446744073709551616<=fu)
theorem Jm (v lo hi:Int):cl fu (d+1) fn_tangent_within [I v,I lo,I hi] []=OK (B (decide (lo<=v)&&decide (v<=hi))):=by
 rw[eq_tangent_within];by_cases h:lo<=v
 ·simp(disch:=omega)only[Zc,QM,QD]
 ·simp(disch:=omega)only[Zc,QM,QD]
theorem Jy (v:Int) (m:Nat) (hm:m<=1000000000000000000):cl fu (d+2) fn_tangent_outside_1 [I v,V.c (C.cp [C.v (.int .i64 (m:Int))])] []=OK (B (!(decide (-(m:Int)<=v)&&decide (v<=(m:Int))))):=by
 have e:=Jm fu d v (-(m:Int)) m;have w0:IntKind.i64.wrap (0-(m:Int))= -(m:Int):=by rw[X6 (by omega) (by omega)];omega
 generalize (decide (-(m:Int)<=v)&&decide (v<=(m:Int)))=b at*
 rw[eq_tangent_outside_1];simp only[Zc,QM,w0,e]
include hf
theorem Qc (l:List Int) (hl:l.length<=1000000) (m:Nat) (hm:m<=1000000000000000000):cl fu (d+5) fn_tangent_outside [V.c (C.sl l.length (ints l)),I (m:Int)] []=OK (B (outB (-(m:Int)) m l)):=by
 have h1:=λv=>Jy fu d v m hm;rw[eq_tangent_outside,eq1_slices_ContainsFunc_sint_int,eq1_slices_IndexFunc_sint_int];rcases Ua (λj=> ∃h:j<l.length,(!(decide (-(m:Int)<=l[j])&&decide (l[j]<=(m:Int))))=true) l.length with hn|⟨k,hk,⟨hk2,hb⟩,hn⟩
 ·have hall:outB (-(m:Int)) m l=false:=by
   unfold outB;rw[List.any_eq_false];intro v hv;obtain⟨j,hj,rfl⟩:=List.getElem_of_mem hv;exact λe=>hn j hj ⟨hj,e⟩
  rw[hall,Zh (λj:Nat=>((0:Int),(j:Int),())) 0 ((0:Int),((l.length:Nat):Int),()) l.length ?_ ?_ ?_ (by omega)]
  ·simp(disch:=omega)only[Zc,QM,QD]
  ·rfl
  ·intro j hj;have hia:=ints_at l hj;have hv:=hn j hj;have hv:(!(decide (-(m:Int)<=l[j])&&decide (l[j]<=(m:Int))))=false:=by
    cases e:(!(decide (-(m:Int)<=l[j])&&decide (l[j]<=(m:Int))))
    ·rfl
    ·exact absurd ⟨hj,e⟩ hv
   have h1:=h1 l[j];rw[hv]at h1;simp(disch:=omega)only[Zc,QM,QD,Int.toNat_natCast,Nat.mul_one,hia,h1];rfl
  ·simp(disch:=omega)only[Zc,QM,QD]
 ·have hall:outB (-(m:Int)) m l=true:=by
   unfold outB;rw[List.any_eq_true];exact⟨l[k],List.getElem_mem hk2,hb⟩
  rw[hall,Zh (λj:Nat=>((0:Int),(j:Int),())) 1 ((k:Int),(k:Int),()) k ?_ ?_ ?_ (by omega)]
  ·simp(disch:=omega)only[Zc,QM,QD]
  ·rfl
  ·intro j hj;have hjl:j<l.length:=by omega
   have hia:=ints_at l hjl;have hv:=hn j hj;have hv:(!(decide (-(m:Int)<=l[j])&&decide (l[j]<=(m:Int))))=false:=by
    cases e:(!(decide (-(m:Int)<=l[j])&&decide (l[j]<=(m:Int))))
    ·rfl
    ·exact absurd ⟨hjl,e⟩ hv
   have h1:=h1 l[j];rw[hv]at h1;simp(disch:=omega)only[Zc,QM,QD,Int.toNat_natCast,Nat.mul_one,hia,h1];rfl
  ·have hia:=ints_at l hk2;have h1:=h1 l[k];rw[hb]at h1;simp(disch:=omega)only[Zc,QM,QD,Int.toNat_natCast,Nat.mul_one,hia,h1]
theorem sp_Change {bs:List Int} (hb:bytes bs) {i:Nat} (hi:i<=1000) (n:Nat) (h:freq n) (most:Nat) (hm:most<=10000000000000) (top:Int) (ht:(most:Int)<=top/\9<=top):
  ∃(hd hf:List Int) (j:Nat),hd.length=(nodes n).length/\hf.length=(edg n).length/\wid (-top) top hd/\wid (-top) top hf/\j<=1000/\cl fu (d+10) fn_synopticfield_Codes_Change [V.ptr 1000000 0,I n,I most] [codesO bs i]=some ⟨V.agg [C.sl hd.length (ints hd),C.sl hf.length (ints hf)],[codesO bs j],none⟩:=by
 have hE:=Ps fu d hf n h;have heL:=Xw h;have hNl:=Z7 h;have hN22:=Jb fu (d+8) n h;obtain⟨l1,j1,hl1,hw1,hj1,e1⟩:=Sv fu (d+5) hf hb hi (nodes n).length most (by omega) hm top ht;obtain⟨l2,j2,hl2,hw2,hj2,e2⟩:=Sv fu (d+5) hf hb hj1 (edg n).length most (by omega) hm top ht;refine⟨l1,l2,j2,hl1,hl2,hw1,hw2,hj2, ?_⟩;unfold codesO at*
 generalize edg n=E at*
 generalize (nodes n).length=N at*
 rw[eq_synopticfield_Codes_Change,hE];simp(disch:=omega)only[Zc,QM,QD,hN22,e1,e2,List.length_cons,List.length_nil,Nat.zero_add,Nat.reduceAdd]
theorem Jn (a b c:Nat) (ha:1<=a/\a<=4) (hb:1<=b/\b<=4) (hc:1<=c/\c<=4):cl fu (d+7) fn_tangent_Scale [V.agg [C.v (.int .i64 (a:Int)),C.v (.int .i64 (b:Int)),C.v (.int .i64 (c:Int))]] []=OK (V.tup [I (sc a b c:Int),I 0]):=by
 have e1:=Q6 fu d hf a b c ha hb hc;have hs:=C9 ha.2 hb.2 hc.2;have em:(if(b:Int)>(a:Int)then(b:Int)else(a:Int))=((max a b:Nat):Int):=by split<;>omega
 have hw:IntKind.i64.wrap (((max a b:Nat):Int)+(c:Int))=((max a b+c:Nat):Int):=by rw[X6 (by omega) (by omega)];rfl
 have hmin:min (max a b+c) (IntKind.bits .i64)=max a b+c:=by show min _ 64=_;omega
 have hsc:(30:Int)*2^(max a b+c)=(sc a b c:Int):=by unfold sc;rw[Int.natCast_mul,Sy];rfl
 rw[eq_tangent_Scale];simp(disch:=omega)only[Zc,QM,QD,e1,em,hw,Int.toNat_natCast,hmin,hsc]
theorem sp_CheckT (n:Nat) (h:freq n) (br hd hfl:List Int) (l1:br.length=(edg n).length) (l2:hd.length=(nodes n).length) (l3:hfl.length=(edg n).length) (w1:wid (-1) 1 br) (w2:wid (-1099511627776) 1099511627776 hd) (w3:wid (-1099511627776) 1099511627776 hfl):
  cl fu (d+10) fn_tangent_Check [I n,V.c (C.sl br.length (ints br)),V.agg [C.sl hd.length (ints hd),C.sl hfl.length (ints hfl)]] []=OK (I 0):=by
 have hNl:=Z7 h;have heL:=Xw h;have e1:=Xv fu d hf n h;have e2:=U3 fu (d+7) n h;have e3:=Qc fu (d+4) hf br (by omega) 1 (by omega);have e4:=Qc fu (d+4) hf hd (by omega) 1099511627776 (by omega);have e5:=Qc fu (d+4) hf hfl (by omega) 1099511627776 (by omega);replace e3:cl fu (d+9) fn_tangent_outside [V.c (C.sl br.length (ints br)),I 1] []=OK (B (outB (-1) 1 br)):=e3;replace e4:cl fu (d+9) fn_tangent_outside [V.c (C.sl hd.length (ints hd)),I 1099511627776] []=OK (B (outB (-1099511627776) 1099511627776 hd)):=e4;replace e5:cl fu (d+9) fn_tangent_outside [V.c (C.sl hfl.length (ints hfl)),I 1099511627776] []=OK (B (outB (-1099511627776) 1099511627776 hfl)):=e5;rw[Ym.2 w1]at e3;rw[Ym.2 w2]at e4;rw[Ym.2 w3]at e5;generalize edg n=E at*
 generalize (nodes n).length=N at*
 rw[eq_tangent_Check];simp(disch:=omega)only[Zc,QM,QD,e1,e2,e3,e4,e5]
end
end Go.Proofs.YtjmempcalaliiaaGreatDoor
