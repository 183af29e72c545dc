/- Parts put together: W, Gc, Gd, Ge, Ea, H, Eb, Ec, Ed, Ee, Ef, Eg, Eh, Ei, Ej, Ek, El, Fa, Fb, Fc, Fd, Fe, Ff, Fp, Nb, Nc, Pa, Pb, Pc, Pd, Fi, Pe, Pi, Pj, Fs, Pk, Pl, Pm, Iy. -/
import Derived.Test.YtjmempcalaliiaaGreatDoorJ5
import Derived.Test.YtjmempcalaliiaaGreatDoorEq
import Derived.Test.YtjmempcalaliiaaGreatDoorJ6
set_option linter.defProp false
set_option linter.unusedSimpArgs false
set_option linter.unusedVariables false
/- Rules whose conditions simp can have shown by omega; lists of records as cells. -/
namespace Go.PM
open Go
theorem Uk {x:Int} (h1: -9223372036854775808<=x) (h2:x<=9223372036854775807):IntKind.i64.wrap x=x:=IntWalk.i64_in x ⟨by omega,by omega⟩
theorem dlt_t {a b:Int} (h:a<b):decide (a<b)=true:=decide_eq_true h
theorem dlt_f {a b:Int} (h:b<=a):decide (a<b)=false:=decide_eq_false (by omega)
theorem dle_t {a b:Int} (h:a<=b):decide (a<=b)=true:=decide_eq_true h
theorem dle_f {a b:Int} (h:b<a):decide (a<=b)=false:=decide_eq_false (by omega)
theorem dgt_t {a b:Int} (h:b<a):decide (a>b)=true:=decide_eq_true h
theorem dgt_f {a b:Int} (h:a<=b):decide (a>b)=false:=decide_eq_false (by omega)
theorem dge_t {a b:Int} (h:b<=a):decide (a≥b)=true:=decide_eq_true h
theorem dge_f {a b:Int} (h:a<b):decide (a≥b)=false:=decide_eq_false (by omega)
theorem ibeq_t {a b:Int} (h:a=b):(a==b)=true:=beq_iff_eq.2 h
theorem Hc {a b:Int} (h:a≠b):(a==b)=false:=beq_eq_false_iff_ne.2 h
theorem ibne_t {a b:Int} (h:a≠b):(a !=b)=true:=bne_iff_ne.2 h
theorem ibne_f {a b:Int} (h:a=b):(a !=b)=false:=by subst h;simp
def fl {A:Type} (e:A->List C) (l:List A):List C:=l.flatMap e
section
variable {A:Type} {e:A->List C} {m:Nat}
@[simp] theorem fl_nil:fl e []=[]:=rfl
theorem Rh (x:A) (l:List A):fl e (x::l)=e x++fl e l:=by simp[fl]
theorem Hd (l l':List A):fl e (l++l')=fl e l++fl e l':=by simp[fl]
theorem Ja (l:List A) (x:A):fl e l++e x=fl e (l++[x]):=by simp[fl]
theorem Zh (h: ∀x,(e x).length=m): ∀l:List A,(fl e l).length=l.length*m
 | []=>by simp[fl]
 |x::l=>by rw[Rh,List.length_append,h,Zh h l,List.length_cons,Nat.succ_mul];omega
theorem Fs (h: ∀x,(e x).length=m): ∀(k:Nat) (l:List A),(fl e l).drop (k*m)=fl e (l.drop k)
 |0,l=>by simp
 |k+1,[]=>by simp[fl]
 |k+1,x::l=>by
  rw[Rh,Nat.succ_mul,Nat.add_comm,List.drop_append];rw[show(e x).drop (m+k*m)=[] from List.drop_eq_nil_of_le (by rw[h];omega),h,Nat.add_sub_cancel_left,List.nil_append,Fs h k l];rfl
theorem fl_take (h: ∀x,(e x).length=m): ∀(k:Nat) (l:List A),(fl e l).take (k*m)=fl e (l.take k)
 |0,l=>by simp
 |k+1,[]=>by simp[fl]
 |k+1,x::l=>by
  rw[Rh,Nat.succ_mul,Nat.add_comm,List.take_append];rw[List.take_of_length_le (by rw[h];omega),h,Nat.add_sub_cancel_left,fl_take h k l,List.take_succ_cons,Rh]
theorem Jb (h: ∀x,(e x).length=m) {k:Nat} {l:List A} (hk:k<l.length):(fl e l).drop (k*m)=e l[k]++fl e (l.drop (k+1)):=by
 rw[Fs h,List.drop_eq_getElem_cons hk,Rh]
end
theorem Qh (P:Nat->Prop) [DecidablePred P] (n:Nat):(∀j,j<n-> ¬P j)\/ ∃k,k<n/\P k/\ ∀j,j<k-> ¬P j:=by
 induction n with
 |zero=>left;intro j hj;omega
 |succ n ih=>
  rcases ih with ih|⟨k,h1,h2,h3⟩
  ·by_cases h:P n
   ·exact .inr ⟨n,by omega,h,ih⟩
   ·left;intro j hj;by_cases e:j=n
    ·subst e;exact h
    ·exact ih j (by omega)
  ·exact .inr ⟨k,by omega,h2,h3⟩
theorem Zl {A:Type} {body:A->Option (Nat×A)} {x:A} {fu:Nat} (f:Nat->A) (e:Nat) (z:A) (k:Nat) (hx:x=f 0) (h: ∀j,j<k->body (f j)=some (0,f (j+1))) (he:body (f k)=some (e+1,z)) (hf:k<fu):iter body fu x=some (e,z):=by
 rw[hx];exact K5 f e z k 0 fu (λj _ hj=>h j (by omega)) (by rw[Nat.zero_add];exact he) hf
theorem iter_measx {A:Type} {body:A->Option (Nat×A)} {x:A} {fu:Nat} (J:A->Prop) (m:A->Nat) (e:Nat) (z:A) (hx:J x) (hm:m x<fu) (h: ∀y,J y->(∃y',body y=some (0,y')/\J y'/\m y'<m y)\/body y=some (e+1,z)):iter body fu x=some (e,z):=by
 obtain⟨e',z',h1,h2,h3⟩:=Ha (body:=body) J m (λe' z'=>e'=e/\z'=z) (λy hy=>(h y hy).imp id λhh=>⟨e,z,hh,rfl,rfl⟩) fu x hx hm;rw[h1,h2,h3]
theorem S2 {A:Type} (body:A->Option (Nat×A)) (n:Nat) (x:A):iter body (n+1) x=(body x).bind λp=>natD p.1 (iter body n p.2) λm=>some (m,p.2):=by
 simp only[iter]
 congr 1
def QM:=And.intro @obs (And.intro @rC_c (And.intro @rA_agg (And.intro @rT_tup (And.intro @rP_ptr (And.intro @rW_own (And.intro @rS_sb (And.intro @rF_sb (And.intro @uncV_cons (And.intro @uncO_cons (And.intro @nilV_nil (And.intro @rO_ob (And.intro @rN_ob (And.intro @unc_cons (And.intro @asI_int (And.intro @asB_bool (And.intro @asS_string (And.intro @asSl_sl (And.intro @asSl_nl (And.intro @asFn_fn (And.intro @asP_cp (And.intro @nrm_sl (And.intro @nrm_nl (And.intro @Ae (And.intro @ct (And.intro @cf (And.intro @bd_eq (And.intro @natD_zero (And.intro @natD_succ (And.intro @natD_one (And.intro @noYl_v (And.intro @noYl_sl (And.intro @noYl_nl (And.intro @noYl_cp (And.intro @noYl_fn (And.intro @Bool.and_true (And.intro @Bool.true_and (And.intro @Bool.and_self (And.intro @beqN_self (And.intro @Bool.not_true (And.intro @Bool.not_false (And.intro @Bool.and_false (And.intro @Bool.false_and (And.intro @Bool.or_false (And.intro @Bool.false_or (And.intro @Bool.or_true @Bool.true_or)))))))))))))))))))))))))))))))))))))))))))))
def QD:=And.intro @Uk (And.intro @dlt_t (And.intro @dlt_f (And.intro @dle_t (And.intro @dle_f (And.intro @dgt_t (And.intro @dgt_f (And.intro @dge_t (And.intro @dge_f (And.intro @ibeq_t (And.intro @Hc (And.intro @ibne_t (And.intro @ibne_f (And.intro @inR_int (And.intro @beqN_eq @bleN_le))))))))))))))
end Go.PM
/- Places: what the functions of the program and of the reference come to. -/
namespace Go.Proofs.YtjmempcalaliiaaGreatDoor
open Go Go.PM Go.Grid
def plc (p:Pl):List C:=[.v (.int .i64 p.f), .v (.int .i64 p.a), .v (.int .i64 p.b), .v (.int .i64 p.c)]
theorem Zq (p:Pl):(plc p).length=4:=rfl
def wcs (w:Nat->Nat):List C:=(List.range 12).map λv=> .v (.int .i64 (w v))
abbrev OK (r:V):Option Out:=some ⟨r,[],none⟩
def Xz (f a b c:Int):Bool:=decide (0<=f/\f<20/\0<=a/\a<=840/\0<=b/\b<=840/\0<=c/\c<=840/\a+b+c=840)
theorem Am {p:Pl} (h:p.ok):Xz p.f p.a p.b p.c=true:=by
 obtain⟨h1,h2⟩:=h;exact decide_eq_true (by omega)
theorem sp_ref_Valid (fu d:Nat) (f a b c:Int):cl fu (d+1) fn_synopticref02_Valid [V.agg [.v (.int .i64 f), .v (.int .i64 a), .v (.int .i64 b), .v (.int .i64 c)]] []=OK (B (Xz f a b c)):=by
 rw[eq_synopticref02_Valid];by_cases h1:0<=f
 case neg=>rw[show Xz f a b c=false from decide_eq_false (by omega)];simp(disch:=omega)only[QM,QD]
 by_cases h2:f<20
 case neg=>rw[show Xz f a b c=false from decide_eq_false (by omega)];simp(disch:=omega)only[QM,QD]
 by_cases h3:0<=a
 case neg=>rw[show Xz f a b c=false from decide_eq_false (by omega)];simp(disch:=omega)only[QM,QD]
 by_cases h4:a<=840
 case neg=>rw[show Xz f a b c=false from decide_eq_false (by omega)];simp(disch:=omega)only[QM,QD]
 by_cases h5:0<=b
 case neg=>rw[show Xz f a b c=false from decide_eq_false (by omega)];simp(disch:=omega)only[QM,QD]
 by_cases h6:b<=840
 case neg=>rw[show Xz f a b c=false from decide_eq_false (by omega)];simp(disch:=omega)only[QM,QD]
 by_cases h7:0<=c
 case neg=>rw[show Xz f a b c=false from decide_eq_false (by omega)];simp(disch:=omega)only[QM,QD]
 by_cases h8:c<=840
 case neg=>rw[show Xz f a b c=false from decide_eq_false (by omega)];simp(disch:=omega)only[QM,QD]
 by_cases h9:a+b+c=840
 ·rw[show Xz f a b c=true from decide_eq_true (by omega)];simp(disch:=omega)only[QM,QD]
 ·rw[show Xz f a b c=false from decide_eq_false (by omega)];simp(disch:=omega)only[QM,QD]
theorem twenty {f:Nat} (h:f<20):f=0\/f=1\/f=2\/f=3\/f=4\/f=5\/f=6\/f=7\/f=8\/f=9\/f=10\/f=11\/f=12\/f=13\/f=14\/f=15\/f=16\/f=17\/f=18\/f=19:=by omega
theorem N8 (fu d f:Nat) (h:f<20):cl fu (d+1) fn_synopticref02_Corners [I f] []=OK (V.tup [V.agg [.v (.int .i64 (crn f).1), .v (.int .i64 (crn f).2.1), .v (.int .i64 (crn f).2.2)],I 0]):=by
 rw[eq_synopticref02_Corners];rcases twenty h with rfl|rfl|rfl|rfl|rfl|rfl|rfl|rfl|rfl|rfl|rfl|rfl|rfl|rfl|rfl|rfl|rfl|rfl|rfl|rfl<;>(show @Eq (Option Out) _ _;kernel_rfl)
theorem D8 (fu d:Nat) (p:Pl) (h:p.ok):cl fu (d+2) fn_synopticref02_Weights [V.agg (plc p)] []=OK (V.agg (wcs (wt p))):=by
 obtain⟨f,a,b,c⟩:=p;unfold plc;rw[eq_synopticref02_Weights];simp only;rw[N8 fu d f h.1];have hf:f<20:=h.1;rcases twenty hf with rfl|rfl|rfl|rfl|rfl|rfl|rfl|rfl|rfl|rfl|rfl|rfl|rfl|rfl|rfl|rfl|rfl|rfl|rfl|rfl<;>(show @Eq (Option Out) _ _;kernel_rfl)
theorem sp_ref_On (fu d:Nat) (w:Nat->Nat) (hw: ∀v,w v<=840) (f:Nat) (h:f<20):cl fu (d+2) fn_synopticref02_On [I f,V.agg (wcs w)] []=OK (V.tup [V.agg (plc (onW w f)),B (onW w f).full]):=by
 have e:cl fu (d+2) fn_synopticref02_On [I f,V.agg (wcs w)] []=OK (V.tup [V.agg (plc (onW w f)),B (IntKind.i64.wrap (IntKind.i64.wrap ((w (crn f).1:Int)+(w (crn f).2.1:Int))+(w (crn f).2.2:Int))==840)]):=by
  rw[eq_synopticref02_On,N8 fu d f h];rcases twenty h with rfl|rfl|rfl|rfl|rfl|rfl|rfl|rfl|rfl|rfl|rfl|rfl|rfl|rfl|rfl|rfl|rfl|rfl|rfl|rfl<;>(show @Eq (Option Out) _ _;kernel_rfl)
 rw[e];have h1:=hw (crn f).1;have h2:=hw (crn f).2.1;have h3:=hw (crn f).2.2;simp(disch:=omega)only[Uk];have e2:((w (crn f).1:Int)+(w (crn f).2.1:Int)+(w (crn f).2.2:Int)==840)=(onW w f).full:=by
  rw[Bool.eq_iff_iff,N7,beq_iff_eq];show _↔w (crn f).1+w (crn f).2.1+w (crn f).2.2=840;omega
 rw[e2]
def Vw (w:Nat->Nat) (j:Nat):List Pl:=((List.range j).map (onW w)).filter Pl.full
theorem Sc (w:Nat->Nat) (j:Nat):Vw w (j+1)=if(onW w j).full then Vw w j++[onW w j]else Vw w j:=by
 unfold Vw;rw[List.range_succ,List.map_append,List.filter_append];simp only[List.map_cons,List.map_nil,List.filter_cons,List.filter_nil];split<;>simp
theorem D9 (w:Nat->Nat) (j:Nat):(Vw w j).length<=j:=by
 unfold Vw;refine Nat.le_trans (List.length_filter_le _ _) ?_;simp
theorem wt_le {p:Pl} (h:p.ok) (v:Nat):wt p v<=840:=by
 have h2:=h.2;unfold wt wt3
 (repeat' split)<;>omega
theorem pl_snoc (l:List Pl) (q:Pl):fl plc l++[.v (.int .i64 q.f), .v (.int .i64 q.a), .v (.int .i64 q.b), .v (.int .i64 q.c)]=fl plc (l++[q]):=Ja l q
theorem Xt (l:List Pl):l.length*4/4=l.length:=Nat.mul_div_cancel _ (by omega)
theorem wcs_put (w:Nat->Nat):putAt [C.v (.int .i64 0),C.v (.int .i64 0),C.v (.int .i64 0),C.v (.int .i64 0),C.v (.int .i64 0),C.v (.int .i64 0),C.v (.int .i64 0),C.v (.int .i64 0),C.v (.int .i64 0),C.v (.int .i64 0),C.v (.int .i64 0),C.v (.int .i64 0)] 0 (wcs w)=wcs w:=id rfl
theorem wcs_take (w:Nat->Nat):List.take 12 (wcs w)=wcs w:=id rfl
theorem Ca (w:Nat->Nat):(wcs w).length=12:=id rfl
theorem He (fu d:Nat) (hf:18446744073709551616<=fu) (p:Pl) (h:p.ok):
  cl fu (d+3) fn_synopticref02_Addresses [V.agg (plc p)] []=OK (V.tup [V.c (C.sl (Sy p).length (fl plc (Sy p))),I 0]):=by
 have e1:=D8 fu d p h;have hv:=Am h;unfold plc at e1⊢;rw[eq_synopticref02_Addresses,sp_ref_Valid,hv,e1];simp only[QM,wcs_put,wcs_take,Ca,Nat.zero_add,show Nat.ble 12 12=true from rfl];rw[show(([]:List C),(0:Int),())=(λj:Nat=>(fl plc (Vw (wt p) j),(j:Int),())) 0 from rfl,K5 (λj:Nat=>(fl plc (Vw (wt p) j),(j:Int),())) 0 (fl plc (Vw (wt p) 20),(20:Int),()) 20 0 fu ?_ ?_ (by omega)]
 ·simp(disch:=omega)only[QM,QD,Zh Zq,Xt,Nat.zero_add];rw[List.take_of_length_le (by rw[Zh Zq];omega)];rfl
 ·intro j _ hj;have hl:=D9 (wt p) j;rw[Sc];have e2:=sp_ref_On fu d (wt p) (wt_le h) j (by omega);unfold plc at e2;simp(disch:=omega)only[QM,QD,e2,Zh Zq,Xt,List.length_cons,List.length_nil,Nat.zero_add,Nat.reduceAdd];cases hfull:(onW (wt p) j).full with
  |true=>
   simp(disch:=omega)only[QM,QD,pl_snoc,Zh Zq,List.length_append,List.length_cons,List.length_nil,Nat.zero_add,if_true,Int.natCast_add,Int.natCast_one]
  |false=>
   simp(disch:=omega)only[QM,QD,Bool.false_eq_true,if_false,Int.natCast_add,Int.natCast_one]
 ·simp(disch:=omega)only[QM,QD,Zh Zq,Xt,Nat.zero_add];rfl
end Go.Proofs.YtjmempcalaliiaaGreatDoor
/- Places, continued: the normal place; the program's functions. -/
namespace Go.Proofs.YtjmempcalaliiaaGreatDoor
open Go Go.PM Go.Grid
theorem M6 (fu d:Nat) (hf:18446744073709551616<=fu) (p:Pl) (h:p.ok):cl fu (d+4) fn_synopticref02_Normal [V.agg (plc p)] []=OK (V.tup [V.agg (plc (norm p)),I 0]):=by
 have e1:=He fu d hf p h;obtain⟨r,hr⟩:=Ml h;rw[hr]at e1;unfold plc at e1⊢;rw[eq_synopticref02_Normal,e1];simp(disch:=omega)only[QM,QD,Rh,plc,List.cons_append,List.nil_append,List.length_cons]
theorem plc_eqb (p q:Pl):((p.f:Int)==q.f&&((p.a:Int)==q.a&&((p.b:Int)==q.b&&(p.c:Int)==q.c)))=decide (p=q):=by
 obtain⟨f,a,b,c⟩:=p;obtain⟨f',a',b',c'⟩:=q;rw[Bool.eq_iff_iff];simp only[Bool.and_eq_true,beq_iff_eq,decide_eq_true_eq,Pl.mk.injEq];omega
theorem G6 (fu d:Nat) (hf:18446744073709551616<=fu) (p:Pl) (h:p.ok):cl fu (d+5) fn_synopticref02_IsNormal [V.agg (plc p)] []=OK (B (isN p)):=by
 have e1:=M6 fu d hf p h;unfold plc at e1⊢;rw[eq_synopticref02_IsNormal,e1];simp(disch:=omega)only[QM,QD,List.length_cons,List.length_nil,plc_eqb,Nat.reduceAdd];unfold isN;rw[show decide (p=norm p)=decide (norm p=p) from by rw[Bool.eq_iff_iff];simp[eq_comm]]
theorem sp_face (fu d:Nat) (f:Int):cl fu (d+1) fn_place_face [I f] []=OK (B (decide (0<=f/\f<20))):=by
 rw[eq_place_face];by_cases h1:0<=f
 ·simp(disch:=omega)only[QM,QD];by_cases h2:f<20
  ·rw[dlt_t h2,decide_eq_true ⟨h1,h2⟩]
  ·rw[dlt_f (by omega),decide_eq_false (by omega)]
 ·rw[decide_eq_false (by omega: ¬(0<=f/\f<20))];simp(disch:=omega)only[QM,QD]
theorem sp_Valid (fu d:Nat) (hf:18446744073709551616<=fu) (f a b c:Int):cl fu (d+2) fn_place_Valid [V.agg [.v (.int .i64 f), .v (.int .i64 a), .v (.int .i64 b), .v (.int .i64 c)]] []=OK (B (Xz f a b c)):=by
 rw[eq_place_Valid,sp_face];obtain⟨fu',rfl⟩: ∃n,fu=n+4:=⟨fu-4,by omega⟩;by_cases h3:0<=a
 case neg=>rw[show Xz f a b c=false from decide_eq_false (by omega)];rw[S2];simp(disch:=omega)only[QM,QD,Int.toNat_zero,Nat.zero_mul,List.drop_zero]
 by_cases h4:a<=840
 case neg=>rw[show Xz f a b c=false from decide_eq_false (by omega)];rw[S2];simp(disch:=omega)only[QM,QD,Int.toNat_zero,Nat.zero_mul,List.drop_zero]
 by_cases h5:0<=b
 case neg=>rw[show Xz f a b c=false from decide_eq_false (by omega)];rw[S2];simp(disch:=omega)only[QM,QD,Int.toNat_zero,Nat.zero_mul,List.drop_zero,Int.zero_add,S2,Int.toNat_one,Nat.one_mul,List.drop_succ_cons]
 by_cases h6:b<=840
 case neg=>rw[show Xz f a b c=false from decide_eq_false (by omega)];rw[S2];simp(disch:=omega)only[QM,QD,Int.toNat_zero,Nat.zero_mul,List.drop_zero,Int.zero_add,S2,Int.toNat_one,Nat.one_mul,List.drop_succ_cons]
 by_cases h7:0<=c
 case neg=>rw[show Xz f a b c=false from decide_eq_false (by omega)];rw[S2];simp(disch:=omega)only[QM,QD,Int.toNat_zero,Nat.zero_mul,List.drop_zero,Int.zero_add,S2,Int.toNat_one,Nat.one_mul,List.drop_succ_cons,Int.reduceAdd,Int.reduceToNat]
 by_cases h8:c<=840
 case neg=>rw[show Xz f a b c=false from decide_eq_false (by omega)];rw[S2];simp(disch:=omega)only[QM,QD,Int.toNat_zero,Nat.zero_mul,List.drop_zero,Int.zero_add,S2,Int.toNat_one,Nat.one_mul,List.drop_succ_cons,Int.reduceAdd,Int.reduceToNat]
 simp(disch:=omega)only[QM,QD,Int.toNat_zero,Nat.zero_mul,List.drop_zero,Int.zero_add,S2,Int.toNat_one,Nat.one_mul,List.drop_succ_cons,Int.reduceAdd,Int.reduceToNat];by_cases h1:0<=f/\f<20
 ·rw[decide_eq_true h1];by_cases h9:a+b+c=840
  ·rw[show Xz f a b c=true from decide_eq_true (by omega)];simp(disch:=omega)only[QM,QD]
  ·rw[show Xz f a b c=false from decide_eq_false (by omega)];simp(disch:=omega)only[QM,QD]
 ·rw[decide_eq_false h1,show Xz f a b c=false from decide_eq_false (by omega)];simp(disch:=omega)only[QM,QD]
theorem sp_of (fu d:Nat) (p:Pl) (h:p.ok):cl fu (d+1) fn_place_of [V.agg (plc p)] []=OK (V.agg (wcs (wt p))):=by
 obtain⟨f,a,b,c⟩:=p;unfold plc;rw[eq_place_of];have hf:f<20:=h.1;rcases twenty hf with rfl|rfl|rfl|rfl|rfl|rfl|rfl|rfl|rfl|rfl|rfl|rfl|rfl|rfl|rfl|rfl|rfl|rfl|rfl|rfl<;>(show @Eq (Option Out) _ _;kernel_rfl)
theorem validI_onW {w:Nat->Nat} (hw: ∀v,w v<=840) {f:Nat} (h:f<20):Xz (onW w f).f (onW w f).a (onW w f).b (onW w f).c=(onW w f).full:=by
 have h1:=hw (crn f).1;have h2:=hw (crn f).2.1;have h3:=hw (crn f).2.2;rw[Bool.eq_iff_iff,N7];unfold Xz;rw[decide_eq_true_eq];show(0:Int)<=(f:Nat)/\((f:Nat):Int)<20/\(0:Int)<=((w (crn f).1:Nat):Int)/\((w (crn f).1:Nat):Int)<=840/\(0:Int)<=((w (crn f).2.1:Nat):Int)/\((w (crn f).2.1:Nat):Int)<=840/\(0:Int)<=((w (crn f).2.2:Nat):Int)/\((w (crn f).2.2:Nat):Int)<=840/\((w (crn f).1:Nat):Int)+((w (crn f).2.1:Nat):Int)+((w (crn f).2.2:Nat):Int)=840↔w (crn f).1+w (crn f).2.1+w (crn f).2.2=840;omega
theorem sp_on (fu d:Nat) (hf:18446744073709551616<=fu) (w:Nat->Nat) (hw: ∀v,w v<=840) (f:Nat) (h:f<20):cl fu (d+3) fn_place_on [I f,V.agg (wcs w)] []=OK (V.tup [V.agg (plc (onW w f)),B (onW w f).full]):=by
 have e:cl fu (d+3) fn_place_on [I f,V.agg (wcs w)] []=((cl fu (d+2) fn_place_Valid [V.agg (plc (onW w f))] []).bind λout=>rC out.r λc6=>asB c6 λb=>OK (V.tup [V.agg (plc (onW w f)),B b])):=by
  rw[eq_place_on];rcases twenty h with rfl|rfl|rfl|rfl|rfl|rfl|rfl|rfl|rfl|rfl|rfl|rfl|rfl|rfl|rfl|rfl|rfl|rfl|rfl|rfl<;>(show @Eq (Option Out) _ _;kernel_rfl)
 rw[e];unfold plc;rw[sp_Valid fu d hf,validI_onW hw h];simp only[QM]
theorem Jc {w:Nat->Nat}: ∀{k:Nat},(∀j,j<k->(onW w j).full=false)->Vw w k=[]
 |0,_=>rfl
 |k+1,h=>by rw[Sc,h k (by omega),Jc (λj hj=>h j (by omega))];rfl
theorem M7 {w:Nat->Nat} {k:Nat} (hk:(onW w k).full=true) (h: ∀j,j<k->(onW w j).full=false): ∀n,k<n-> ∃r,Vw w n=onW w k::r
 |0,hn=>by omega
 |n+1,hn=>by
  by_cases e:k=n
  ·subst e;exact⟨[],by rw[Sc,hk,Jc h];rfl⟩
  ·obtain⟨r,hr⟩:=M7 hk h n (by omega);rw[Sc,hr];split
   ·exact⟨r++[onW w n],rfl⟩
   ·exact⟨r,rfl⟩
theorem An (fu d:Nat) (hf:18446744073709551616<=fu) (p:Pl) (h:p.ok):cl fu (d+4) fn_place_Normal [V.agg (plc p)] []=OK (V.tup [V.agg (plc (norm p)),I 0]):=by
 have e1:=sp_of fu (d+2) p h;have hv:=Am h;unfold plc at e1⊢;rw[eq_place_Normal,sp_Valid fu (d+1) hf,hv,e1];simp only[QM,wcs_put,wcs_take,Ca,Nat.zero_add,show Nat.ble 12 12=true from rfl];obtain⟨r,hr⟩:=Ml h;have hm:=K8 h;obtain⟨k,hk,hke,hkl⟩: ∃k,k<20/\onW (wt p) k=norm p/\ ∀j,j<k->(onW (wt p) j).full=false:=by
  rcases Qh (λj=>(onW (wt p) j).full=true) 20 with h0|⟨k,h1,h2,h3⟩
  ·exfalso;obtain⟨g,g1,g2,g3⟩:=Mk.1 hm;exact h0 g g1 (by rw[g2];exact N7.2 g3)
  ·refine⟨k,h1, ?_,λj hj=>by simpa using h3 j hj⟩;obtain⟨r',this⟩:=M7 h2 (λj hj=>by simpa using h3 j hj) 20 h1;have this:Sy p=onW (wt p) k::r':=this;rw[hr]at this;exact(List.cons.inj this).1.symm
 rw[show((0:Int),(0:Int),((0:Int),(0:Int),(0:Int),(0:Int),()),())=(λj:Nat=>((0:Int),(j:Int),((0:Int),(0:Int),(0:Int),(0:Int),()),())) 0 from rfl,K5 (λj:Nat=>((0:Int),(j:Int),((0:Int),(0:Int),(0:Int),(0:Int),()),())) 1 (0,(k:Int),((norm p).f,(norm p).a,(norm p).b,(norm p).c,()),()) k 0 fu ?_ ?_ (by omega)]
 ·simp only[QM]
 ·intro j _ hj;have e2:=sp_on fu d hf (wt p) (wt_le h) j (by omega);rw[hkl j (by omega)]at e2;unfold plc at e2;simp(disch:=omega)only[QM,QD,e2,List.length_cons,List.length_nil,Nat.zero_add,Nat.reduceAdd,Int.natCast_add,Int.natCast_one]
 ·have e2:=sp_on fu d hf (wt p) (wt_le h) k hk;rw[hke,N7.2 (Fl h).2]at e2;unfold plc at e2;simp(disch:=omega)only[QM,QD,e2,List.length_cons,List.length_nil,Nat.zero_add,Nat.reduceAdd]
end Go.Proofs.YtjmempcalaliiaaGreatDoor
/- The nodes of the grids as they are collected; a map from the nodes to their numbers: plain laws. -/
namespace Go.Grid
def pre (n f i j:Nat):List Pl:=(List.range f).flatMap (face n)++((List.range i).flatMap (row n f)++(List.range j).map (pt n f i))
def X4 (n f i j:Nat):List Pl:=(pre n f i j).filter isN
theorem pre_j (n f i j:Nat):pre n f i (j+1)=pre n f i j++[pt n f i j]:=by
 unfold pre;rw[List.range_succ,List.map_append];simp[List.append_assoc]
theorem pre_i (n f i:Nat):pre n f i (n+1-i)=pre n f (i+1) 0:=by
 unfold pre;rw[List.range_succ,List.flatMap_append];simp[row]
theorem pre_f (n f:Nat):pre n f (n+1) 0=pre n (f+1) 0 0:=by
 unfold pre;rw[List.range_succ (n:=f),List.flatMap_append];simp[face]
theorem pre_end (n:Nat):pre n 20 0 0=pts n:=by unfold pre pts;simp
theorem upTo_j (n f i j:Nat):X4 n f i (j+1)=if norm (pt n f i j)=pt n f i j then X4 n f i j++[pt n f i j]else X4 n f i j:=by
 unfold X4;rw[pre_j,List.filter_append];simp only[List.filter_cons,List.filter_nil,isN,decide_eq_true_eq];split<;>simp
theorem pre_lt {n f i j:Nat} (h:Yc n) {q:Pl} (hq:q∈pre n f i j):plt q (pt n f i j):=by
 have hst:=Q4 h;have hmul: ∀{i j:Nat},i<j->i*(840/n)<j*(840/n):=λhij=>Nat.mul_lt_mul_of_pos_right hij (by omega);simp only[pre,List.mem_append,List.mem_flatMap,List.mem_range,List.mem_map,face,row]at hq;rcases hq with⟨f',h1,i',_,j',_,rfl⟩|⟨i',h1,j',_,rfl⟩|⟨j',h1,rfl⟩
 ·exact .inl h1
 ·exact .inr ⟨rfl, .inl (hmul h1)⟩
 ·exact .inr ⟨rfl, .inr ⟨rfl,hmul h1⟩⟩
theorem upTo_not {n f i j:Nat} (h:Yc n):pt n f i j∉X4 n f i j:=λhm=>Lz _ (pre_lt h (List.mem_filter.1 hm).1)
theorem U8 {B:Type} {g:Nat->List B} {m:Nat} (h: ∀x,(g x).length<=m): ∀k,((List.range k).flatMap g).length<=k*m
 |0=>by simp
 |k+1=>by
  rw[List.range_succ,List.flatMap_append,List.length_append,Nat.succ_mul];have:=U8 h k;have:=h k;simp only[List.flatMap_cons,List.flatMap_nil,List.append_nil];omega
theorem row_le (n f i:Nat) (h:n<=8):(row n f i).length<=9:=by unfold row;simp;omega
theorem face_le (n f:Nat) (h:n<=8):(face n f).length<=81:=by
 unfold face;have:=U8 (g:=row n f) (λi=>row_le n f i h) (n+1);omega
theorem Ul {n f i j:Nat} (h:Yc n) (hf:f<=20) (hi:i<=9) (hj:j<=9):(X4 n f i j).length<=2000:=by
 refine Nat.le_trans (List.length_filter_le _ _) ?_;unfold pre;rw[List.length_append,List.length_append,List.length_map,List.length_range];have h1:=U8 (g:=face n) (λf=>face_le n f h.2) f;have h2:=U8 (g:=row n f) (λi=>row_le n f i h.2) i;omega
theorem upTo_end (n:Nat):X4 n 20 0 0=Zg n:=by unfold X4;rw[pre_end];rfl
theorem isN_inner {p:Pl} (h:p.ok) (ha:0<p.a) (hb:0<p.b) (hc:0<p.c):isN p=true:=decide_eq_true (norm_inner h ha hb hc)
end Go.Grid
/- The nodes of a grid where the net is handed out as a new object. -/
namespace Go.Proofs.YtjmempcalaliiaaGreatDoor
open Go Go.PM Go.Grid
theorem Ao (p q:Pl):eqT Tryz.prog 20 ty_api_Place (plc p) (plc q)=some (decide (p=q)):=by
 have:eqT Tryz.prog 20 ty_api_Place (plc p) (plc q)=some ((p.f:Int)==q.f&&((p.a:Int)==q.a&&((p.b:Int)==q.b&&((p.c:Int)==q.c&&true)))):=by kernel_rfl
 rw[this,Bool.and_true,plc_eqb]
def esn:Nat->List Pl->List (List C×List C)
 |_,[]=>[]
 |k,p::r=>(plc p,[.v (.int .i64 k)])::esn (k+1) r
theorem esn_snoc (p:Pl): ∀(l:List Pl) (k:Nat),esn k l++[(plc p,[.v (.int .i64 ((k+l.length:Nat):Int))])]=esn k (l++[p])
 | [],k=>by simp[esn]
 |q::l,k=>by
  simp only[esn,List.cons_append,List.length_cons];rw[<-esn_snoc p l (k+1),show k+(l.length+1)=k+1+l.length by omega]
theorem ceqs_plc (p:Pl):ceqs (plc p) (plc p)=true:=by simp[plc,ceqs,ceq]
theorem mfd_not {p:Pl}: ∀(l:List Pl) (k i:Nat),p∉l->mfind Tryz.prog ty_api_Place (plc p) (esn k l) i=some none
 | [],k,i,_=>by simp[esn,mfind]
 |q::l,k,i,h=>by
  simp only[esn,mfind,Ao];rw[decide_eq_false (λe=>h (by simp[e]))];simp only[cf];exact mfd_not l (k+1) (i+1) (λe=>h (by simp[e]))
theorem mfd_mem {p:Pl}: ∀(l:List Pl) (k i:Nat),p∈l->mfind Tryz.prog ty_api_Place (plc p) (esn k l) i=some (some (i+l.idxOf p,[.v (.int .i64 ((k+l.idxOf p:Nat):Int))]))
 | [],k,i,h=>by cases h
 |q::l,k,i,h=>by
  simp only[esn,mfind,Ao];by_cases e:p=q
  ·subst e;rw[decide_eq_true rfl];simp[ceqs_plc,need]
  ·rw[decide_eq_false e];simp only[cf];have hm:p∈l:=by rcases List.mem_cons.1 h with h|h;exact absurd h e;exact h
   rw[mfd_mem l (k+1) (i+1) hm,List.idxOf_cons];have:(q==p)=false:=by simpa using Ne.symm e
   rw[this];simp only[cond_false];rw[show i+1+l.idxOf p=i+(l.idxOf p+1) by omega,show k+1+l.idxOf p=k+(l.idxOf p+1) by omega]
theorem mput_none (es:List (List C×List C)) (k v:List C):mput es none k v=es++[(k,v)]:=id rfl
abbrev netC (n:Nat) (l:List Pl):List C:=[.v (.int .i64 n), .v (.int .i64 ((840/n:Nat):Int)),C.sl l.length (fl plc l),C.mp ty_api_Place ty_int (some 4) none (esn 0 l),C.nl,C.nl,C.nl]
abbrev netS (n:Nat) (l:List Pl):Int×Int×List C×List (List C×List C)×C×C×C×Unit:=((n:Int),((840/n:Nat):Int),fl plc l,esn 0 l,C.nl,C.nl,C.nl,())
theorem Cb {n:Nat} (h:Yc n):IntKind.i64.wrap (Int.tdiv 840 n)=((840/n:Nat):Int):=by
 rcases Qn h with rfl|rfl|rfl|rfl|rfl|rfl|rfl|rfl<;>rfl
theorem N9 {n i:Nat} (h:Yc n) (hi:i<=n):i*(840/n)<=840:=by
 have:=Nat.mul_le_mul_right (840/n) hi;rw[Sz h]at this;exact this
theorem R7 {n i:Nat} (h:Yc n) (hi:i<=n):IntKind.i64.wrap ((i:Int)*((840/n:Nat):Int))=((i*(840/n):Nat):Int):=by
 have:=N9 h hi;rw[show((i:Int)*((840/n:Nat):Int))=((i*(840/n):Nat):Int) from(Int.natCast_mul _ _).symm];exact Uk (Int.le_trans (by decide) (Int.natCast_nonneg _)) (Int.le_trans (Int.ofNat_le.2 this) (by decide))
theorem Ma (l:List Pl) (f a b c:Nat):fl plc l++[.v (.int .i64 f), .v (.int .i64 a), .v (.int .i64 b), .v (.int .i64 c)]=fl plc (l++[⟨f,a,b,c⟩]):=Ja l ⟨f,a,b,c⟩
theorem esn_snoc' (l:List Pl) (f a b c:Nat):esn 0 l++[([.v (.int .i64 f), .v (.int .i64 a), .v (.int .i64 b), .v (.int .i64 c)],[.v (.int .i64 (l.length:Int))])]=esn 0 (l++[⟨f,a,b,c⟩]):=by
 have:=esn_snoc ⟨f,a,b,c⟩ l 0;rw[Nat.zero_add]at this;exact this
theorem sp_PointsP (fu d:Nat) (hf:18446744073709551616<=fu) (n:Nat) (h:Yc n):cl fu (d+5) fn_mesh_Points [I n] []=some ⟨V.ptr 1000000 0,[.ob ty_mesh_Net 0 (netC n (Zg n))],none⟩:=by
 have hn:=h;unfold Yc at hn;rw[eq_mesh_Points,Cb h,show(!((n:Int)==0))=true from by rw[Hc (by omega)];rfl,Ae];rw[Zl (λf:Nat=>((f:Int),netS n (X4 n f 0 0),())) 0 ((20:Int),netS n (X4 n 20 0 0),()) 20 ?_ ?_ ?_ (by omega)]
 ·rw[upTo_end];simp(disch:=omega)only[QM,QD,Zh Zq,Xt,Nat.zero_add];rw[List.take_of_length_le (by rw[Zh Zq];omega)]
 ·rfl
 ·intro f hf';have hl:(X4 n f 0 0).length<=2000:=Ul h (by omega) (by omega) (by omega);simp(disch:=omega)only[QM,QD,Zh Zq,Xt];rw[Zl (λi:Nat=>((i:Int),netS n (X4 n f i 0),())) 0 (((n+1:Nat):Int),netS n (X4 n f (n+1) 0),()) (n+1) ?_ ?_ ?_ (by omega)]
  ·have hl:(X4 n f (n+1) 0).length<=2000:=Ul h (by omega) (by omega) (by omega);simp(disch:=omega)only[QM,QD,Zh Zq,Xt,Int.natCast_add,Int.natCast_one];unfold X4;rw[pre_f]
  ·rfl
  ·intro i hi;have hl:(X4 n f i 0).length<=2000:=Ul h (by omega) (by omega) (by omega);simp(disch:=omega)only[QM,QD,Zh Zq,Xt];rw[Zl (λj:Nat=>((j:Int),netS n (X4 n f i j),())) 0 (((n+1-i:Nat):Int),netS n (X4 n f i (n+1-i)),()) (n+1-i) ?_ ?_ ?_ (by omega)]
   ·have hl:(X4 n f i (n+1-i)).length<=2000:=Ul h (by omega) (by omega) (by omega);simp(disch:=omega)only[QM,QD,Zh Zq,Xt,Int.natCast_add,Int.natCast_one];unfold X4;rw[pre_i]
   ·rfl
   ·intro j hj;have hl:(X4 n f i j).length<=2000:=Ul h (by omega) (by omega) (by omega);have hnot:=upTo_not (f:=f) (i:=i) (j:=j) h;have hc:IntKind.i64.wrap (((n:Int)-(i:Int)-(j:Int))*((840/n:Nat):Int))=(((n-i-j)*(840/n):Nat):Int):=by
     rw[show(n:Int)-i-j=((n-i-j:Nat):Int) by omega,R7 h (by omega)]
    have e2:=An fu d hf (pt n f i j) (pt_ok h hf' (by omega));have e3:=mfd_not (X4 n f i j) 0 0 hnot;have e4:=plc_eqb (norm (pt n f i j)) (pt n f i j);have e5:=upTo_j n f i j;generalize hz:decide (norm (pt n f i j)=pt n f i j)=z at e4;replace e5:X4 n f i (j+1)=bif z then X4 n f i j++[pt n f i j]else X4 n f i j:=by
     cases z with
     |true=>rw[e5,if_pos (of_decide_eq_true hz)];rfl
     |false=>rw[e5,if_neg (of_decide_eq_false hz)];rfl
    clear hz;simp only[plc]at e2 e3;generalize norm (pt n f i j)=q at e2 e4 e5;simp only[pt]at e2 e3 e4 e5;simp(disch:=omega)only[QM,QD,hc,R7 h (show i<=n by omega),R7 h (show j<=n by omega),e2,e4,List.length_cons,List.length_nil,Nat.zero_add,Nat.reduceAdd,Zh Zq,Xt];rw[e5];cases z with
    |true=>
     simp(disch:=omega)only[QM,QD,mfd,e3,mput_none,Ma,esn_snoc',Zh Zq,Xt,List.length_append,List.length_cons,List.length_nil,Nat.zero_add,Int.natCast_add,Int.natCast_one]
    |false=>
     simp(disch:=omega)only[QM,QD,Int.natCast_add,Int.natCast_one]
   ·have hl:(X4 n f i (n+1-i)).length<=2000:=Ul h (by omega) (by omega) (by omega);simp(disch:=omega)only[QM,QD,Zh Zq,Xt]
  ·have hl:(X4 n f (n+1) 0).length<=2000:=Ul h (by omega) (by omega) (by omega);simp(disch:=omega)only[QM,QD,Zh Zq,Xt]
 ·have hl:(X4 n 20 0 0).length<=2000:=Ul h (by omega) (by omega) (by omega);simp(disch:=omega)only[QM,QD,Zh Zq,Xt];rfl
end Go.Proofs.YtjmempcalaliiaaGreatDoor
/- Rules that keep simp at what comes first: nothing behind it is looked at (attribute [local congr] in the texts that use them). -/
namespace Go.PM
open Go
def hdt {A:Type} (x:A):A:=x
theorem Zb {A:Type} (x:A):hdt x=x:=id rfl
theorem out0:Nat.beq 1000000 (OUT+0)=true:=id rfl
theorem out1:Nat.beq 1000001 (OUT+1)=true:=id rfl
theorem out2:Nat.beq 1000002 (OUT+2)=true:=id rfl
section
variable {R A B':Type}
theorem Zy {x x':Option A} {k:A->Option B'} (h:hdt x=x'):x.bind k=x'.bind k:=by rw[<-h];rfl
theorem Zz {b b':Bool} {k:Option R} (h:hdt b=b'):need b k=need b' k:=by rw[<-h];rfl
theorem Z0 {b b':Bool} {x y:R} (h:hdt b=b'):(bif b then x else y)=(bif b' then x else y):=by rw[<-h];rfl
theorem Yg {c c':List C} {k:C->List C->Option R} (h:hdt c=c'):unc c k=unc c' k:=by rw[<-h];rfl
theorem Z1 {c c':List V} {k:V->List V->Option R} (h:hdt c=c'):uncV c k=uncV c' k:=by rw[<-h];rfl
theorem Z2 {c c':List PM.Obj} {k:PM.Obj->List PM.Obj->Option R} (h:hdt c=c'):uncO c k=uncO c' k:=by rw[<-h];rfl
theorem Yh {c c':List (List V)} {k:List V->List (List V)->Option R} (h:hdt c=c'):unI c k=unI c' k:=by rw[<-h];rfl
theorem Yi {kd:IntKind} {c c':C} {k:Int->Option R} (h:hdt c=c'):asI kd c k=asI kd c' k:=by rw[<-h];rfl
theorem Yj {c c':C} {k:Bool->Option R} (h:hdt c=c'):asB c k=asB c' k:=by rw[<-h];rfl
theorem Yk {c c':C} {k:ByteArray->Option R} (h:hdt c=c'):asS c k=asS c' k:=by rw[<-h];rfl
theorem Z3 {c c':C} {k:Nat->List C->Option R} (h:hdt c=c'):asSl c k=asSl c' k:=by rw[<-h];rfl
theorem Z4 {c c':C} {k:FuncId->List C->Option R} (h:hdt c=c'):asFn c k=asFn c' k:=by rw[<-h];rfl
theorem Yl {c c':C} {k:List C->Option R} (h:hdt c=c'):asP c k=asP c' k:=by rw[<-h];rfl
theorem Z5 {c c':C} {ky:Nat->Option R} {k:FuncId->List C->Option R} (h:hdt c=c'):A9 c ky k=A9 c' ky k:=by rw[<-h];rfl
theorem Y5 {x x':V} {k:C->Option R} (h:hdt x=x'):rC x k=rC x' k:=by rw[<-h];rfl
theorem Y6 {x x':V} {k:List C->Option R} (h:hdt x=x'):rA x k=rA x' k:=by rw[<-h];rfl
theorem Y7 {x x':V} {k:List V->Option R} (h:hdt x=x'):rT x k=rT x' k:=by rw[<-h];rfl
theorem Y8 {x x':V} {k:List V->Option R} (h:hdt x=x'):rG x k=rG x' k:=by rw[<-h];rfl
theorem Y9 {x x':V} {m:Nat} {k:Option R} (h:hdt x=x'):rP x m k=rP x' m k:=by rw[<-h];rfl
theorem Xa {x x':V} {m:Nat} {k:Nat->Option R} (h:hdt x=x'):rW x m k=rW x' m k:=by rw[<-h];rfl
theorem Xb {o o':PM.Obj} {t fz:Nat} {k:List C->Option R} (h:hdt o=o'):rO o t fz k=rO o' t fz k:=by rw[<-h];rfl
theorem Xc {o o':PM.Obj} {t n:Nat} {k:List C->Option R} (h:hdt o=o'):rN o t n k=rN o' t n k:=by rw[<-h];rfl
theorem Xd {o o':PM.Obj} {t:Nat} {k:Nat->List C->Option R} (h:hdt o=o'):rF o t k=rF o' t k:=by rw[<-h];rfl
theorem Xe {o o':PM.Obj} {t fz:Nat} {k:List C->Option R} (h:hdt o=o'):rS o t fz k=rS o' t fz k:=by rw[<-h];rfl
theorem Z6 {x x':List V} {k:Option R} (h:hdt x=x'):nilV x k=nilV x' k:=by rw[<-h];rfl
theorem Z7 {n n':Nat} {a:Option R} {b:Nat->Option R} (h:hdt n=n'):natD n a b=natD n' a b:=by rw[<-h];rfl
theorem Xf {x x':A} {k:A->Option R} (h:hdt x=x'):bd x k=bd x' k:=by rw[<-h];rfl
theorem Z8 {body:A->Option (Nat×A)} {fu:Nat} {x x':A} (h:hdt x=x'):iter body fu x=iter body fu x':=by rw[<-h];rfl
theorem Z9 {I:Type} {body:I->A->Option (Nat×A)} {l l':List I} {x x':A} (h1:hdt l=l') (h:hdt x=x'):overK body l x=overK body l' x':=by rw[<-h,<-h1];rfl
theorem Zn {sz:Nat} {lo lo' hi hi':Option V} {c c':C} {k:C->Option R} (h1:hdt lo=lo') (h2:hdt hi=hi') (h:hdt c=c'):sliceC sz lo hi c k=sliceC sz lo' hi' c' k:=by rw[<-h,<-h1,<-h2];rfl
theorem Ya {c c':C} {kt et:TypeId} {ka va:Option Nat} {k:List (List C×List C)->Option R} (h:hdt c=c'):asMp c kt et ka va k=asMp c' kt et ka va k:=by rw[<-h];rfl
end
end Go.PM
/- A grid's cells: what the functions that add them come to. -/
namespace Go.PM
open Go
theorem rPk_ps {R:Type} (g t:Nat) (ps:List PC) (k:List PC->Option R):rPk (.pk g t (.ps ps) none) t k=k ps:=by
 show need (Nat.beq t t) (k ps)=_;rw[show Nat.beq t t=true from Nat.beq_refl t];rfl
theorem uncP_cons {R:Type} (p:PC) (ps:List PC) (k:PC->List PC->Option R):uncP (p::ps) k=k p ps:=id rfl
theorem asPc_c {R:Type} (c:C) (k:C->Option R):asPc (.c c) k=k c:=id rfl
theorem asRw_r {R:Type} (te:TypeId) (row:List C) (k:List C->Option R):asRw te (.r te row) k=k row:=by
 show need (Nat.beq te te) (k row)=_;rw[show Nat.beq te te=true from Nat.beq_refl te];rfl
theorem asRow_r {R:Type} (te:TypeId) (row:List C) (k:List C->Option R):asRow te (.r te row) k=k row:=by
 show need (Nat.beq te te) (k row)=_;rw[show Nat.beq te te=true from Nat.beq_refl te];rfl
theorem asRow_nl {R:Type} (te:TypeId) (k:List C->Option R):asRow te (.c .nl) k=k []:=id rfl
theorem nilP_nil {R:Type} (k:Option R):nilP [] k=k:=id rfl
theorem Hf {R:Type} (te:TypeId) (row cs:List C) (k:List C->Option R) (h:cs.length=row.length):rowBack te row false [.sb te 0 cs] k=k cs:=by
 show need (Nat.beq te te&&Nat.beq cs.length row.length&&Nat.beq 0 0) (k cs)=_;rw[show Nat.beq te te=true from Nat.beq_refl te,h,show Nat.beq row.length row.length=true from Nat.beq_refl _];rfl
theorem rowBack_t {R:Type} (te:TypeId) (row cs:List C) (k:List C->Option R) (h:cs.length=row.length):rowBack te row true [.sb te row.length cs] k=k cs:=by
 show need (Nat.beq te te&&Nat.beq cs.length row.length&&Nat.beq row.length cs.length) (k cs)=_;rw[show Nat.beq te te=true from Nat.beq_refl te,h,show Nat.beq row.length row.length=true from Nat.beq_refl _];rfl
set_option linter.defProp false in
def QE:=And.intro @rPk_ps (And.intro @uncP_cons (And.intro @asPc_c (And.intro @asRw_r (And.intro @asRow_r (And.intro @asRow_nl @nilP_nil)))))
end Go.PM
namespace Go.Proofs.YtjmempcalaliiaaGreatDoor
open Go Go.PM Go.Grid
attribute [local congr] Zy Zz Z0 Yg Z1 Z2 Yh Yi Yj Yk Z3 Z4 Yl Y5 Y6 Y7 Y8 Y9 Xb Xc Xd Xe Xa Z6 Z7 Xf Z8 Z9 Zn Ya Z5
abbrev netP (n:Nat) (cs:List C):List PC:=[PC.c (C.v (.int .i64 n)),PC.c (C.v (.int .i64 ((840/n:Nat):Int))),PC.c (C.sl (Zg n).length (fl plc (Zg n))),PC.c (C.mp ty_api_Place ty_int (some 4) none (esn 0 (Zg n))),PC.r ty_api_Cell cs,PC.c .nl,PC.c .nl]
abbrev Mu (g n:Nat) (cs:List C):PM.Obj:= .pk g ty_mesh_Net (.ps (netP n cs)) none
theorem Xv {n:Nat} (h:Yc n):(Zg n).length<=700:=by
 rw[Vv h];rcases Qn h with rfl|rfl|rfl|rfl|rfl|rfl|rfl|rfl<;>decide
section
variable (fu d:Nat) (hf:18446744073709551616<=fu)
theorem S3 (f a b c:Nat) (x y z:Int) (h:a<=10000/\b<=10000/\c<=10000) (hx: -10000<=x/\x<=10000) (hy: -10000<=y/\y<=10000) (hz: -10000<=z/\z<=10000):
  cl fu (d+1) fn_mesh_moved [V.agg (plc ⟨f,a,b,c⟩),I x,I y,I z] []=OK (V.agg [C.v (.int .i64 f),C.v (.int .i64 (a+x)),C.v (.int .i64 (b+y)),C.v (.int .i64 (c+z))]):=by
 simp only[plc];rw[eq_mesh_moved,Uk (by omega) (by omega),Uk (by omega) (by omega),Uk (by omega) (by omega)]
include hf
theorem sp_atP (g n:Nat) (h:Yc n) (p:Pl) (hp:p∈pts n) (cs:List C):
  cl fu (d+5) fn_mesh_Net_at [V.ptr 1000000 0,V.agg (plc p)] [Mu g n cs]=some ⟨I (idx n p),[Mu g n cs],none⟩:=by
 have hok:=D5 h hp;have e1:=An fu d hf p hok;have e2:=mfd_mem (Zg n) 0 0 (norm_pts h hp);simp only[plc]at e1 e2⊢;rw[eqp_mesh_Net_at];simp(disch:=omega)only[Zb,QM,QD,e1,mfd,e2,orZ,List.length_cons,List.length_nil,Nat.zero_add,Nat.reduceAdd];rfl
omit hf in
theorem Jd {α:Type} {le:α->α->Prop} (anti: ∀a b,le a b->le b a->a=b): ∀{p q:List α},p.Perm q->p.Pairwise le->q.Pairwise le->p=q
 | [],q,h,_,_=>(List.nil_perm.1 h).symm
 |a::p,[],h,_,_=>by have:=h.length_eq;simp at this
 |a::p,b::q,h,hp,hq=>by
  rw[List.pairwise_cons]at hp hq;have e:a=b:=by
   have h1:a∈b::q:=h.mem_iff.1 (List.mem_cons_self ..);have h2:b∈a::p:=h.mem_iff.2 (List.mem_cons_self ..);rcases List.mem_cons.1 h1 with h1|h1
   ·exact h1
   ·rcases List.mem_cons.1 h2 with h2|h2
    ·exact h2.symm
    ·exact anti a b (hp.1 b h2) (hq.1 a h1)
  subst e;rw[Jd anti h.cons_inv hp.2 hq.2]
omit hf in
theorem sortI_perm (l:List Int):(Q3 l).Perm l:=List.mergeSort_perm ..
omit hf in
theorem sortI_asc (l:List Int):(Q3 l).Pairwise (λa b=>a<=b):=by
 have:=List.pairwise_mergeSort (le:=λx y:Int=>decide (x<=y)) (λa b c h1 h2=>by simp at*;omega) (λa b=>by simp;omega) l;exact this.imp λh=>by simpa using h
omit hf in
theorem sortI_eq {l m:List Int} (hp:m.Perm l) (hs:m.Pairwise (λa b=>a<=b)):Q3 l=m:=
 Jd (λa b h1 h2=>Int.le_antisymm h1 h2) ((sortI_perm l).trans hp.symm) (sortI_asc l) hs
omit hf in
theorem sortI_3 (i j k:Nat):Q3 [(i:Int),j,k]=[((Xk i j k).1:Int),((Xk i j k).2.1:Int),((Xk i j k).2.2:Int)]:=by
 unfold Xk;split<;>split<;>try split
 all_goals
  refine sortI_eq ?_ (by simp;omega);first
  |exact .refl _
  |exact .swap _ _ _
  |exact(List.Perm.swap _ _ _).cons _
  |exact(List.Perm.swap _ _ _).trans ((List.Perm.swap _ _ _).cons _)
  |exact((List.Perm.swap _ _ _).cons _).trans (.swap _ _ _)
  |exact((List.Perm.swap _ _ _).trans ((List.Perm.swap _ _ _).cons _)).trans (.swap _ _ _)
end
end Go.Proofs.YtjmempcalaliiaaGreatDoor
/- A grid's cells, one place after the other. -/
namespace Go.Proofs.YtjmempcalaliiaaGreatDoor
open Go Go.PM Go.Grid
attribute [local congr] Zy Zz Z0 Yg Z1 Z2 Yh Yi Yj Yk Z3 Z4 Yl Y5 Y6 Y7 Y8 Y9 Xb Xc Xd Xe Xa Z6 Z7 Xf Z8 Z9 Zn Ya Z5
abbrev pl3 (p q r:Pl):List C:=[.v (.int .i64 p.f), .v (.int .i64 p.a), .v (.int .i64 p.b), .v (.int .i64 p.c), .v (.int .i64 q.f), .v (.int .i64 q.a), .v (.int .i64 q.b), .v (.int .i64 q.c), .v (.int .i64 r.f), .v (.int .i64 r.a), .v (.int .i64 r.b), .v (.int .i64 r.c)]
def trC (t:Nat×Nat×Nat):List C:=[.v (.int .i64 t.1), .v (.int .i64 t.2.1), .v (.int .i64 t.2.2)]
theorem Ye (t:Nat×Nat×Nat):(trC t).length=3:=rfl
section
variable (fu d:Nat) (hf:18446744073709551616<=fu)
theorem sp_upward (g n f a b c:Nat) (h:Yc n) (hb:a<=840/\b<=840/\c<=840) (cs:List C):
  cl fu (d+2) fn_mesh_Net_upward [V.ptr 1000000 0,V.agg (plc ⟨f,a,b,c⟩)] [Mu g n cs]=some ⟨V.agg (pl3 ⟨f,a+840/n,b,c⟩ ⟨f,a,b+840/n,c⟩ ⟨f,a,b,c+840/n⟩),[Mu g n cs],none⟩:=by
 have hs:=Q4 h;have m1:=S3 fu d f a b c ((840/n:Nat):Int) 0 0 (by omega) (by omega) (by omega) (by omega);have m2:=S3 fu d f a b c 0 ((840/n:Nat):Int) 0 (by omega) (by omega) (by omega) (by omega);have m3:=S3 fu d f a b c 0 0 ((840/n:Nat):Int) (by omega) (by omega) (by omega) (by omega);simp only[plc]at m1 m2 m3⊢;rw[eqp_mesh_Net_upward];simp(disch:=omega)only[Zb,QM,QD,m1,m2,m3,List.length_cons,List.length_nil,Nat.zero_add,Nat.reduceAdd,Int.add_zero];rfl
theorem sp_downward (g n f a b c:Nat) (h:Yc n) (hb:a<=840/\b<=840/\c<=840) (cs:List C):
  cl fu (d+2) fn_mesh_Net_downward [V.ptr 1000000 0,V.agg (plc ⟨f,a,b,c⟩)] [Mu g n cs]=some ⟨V.agg (pl3 ⟨f,a,b+840/n,c+840/n⟩ ⟨f,a+840/n,b,c+840/n⟩ ⟨f,a+840/n,b+840/n,c⟩),[Mu g n cs],none⟩:=by
 have hs:=Q4 h;have m1:=S3 fu d f a b c 0 ((840/n:Nat):Int) ((840/n:Nat):Int) (by omega) (by omega) (by omega) (by omega);have m2:=S3 fu d f a b c ((840/n:Nat):Int) 0 ((840/n:Nat):Int) (by omega) (by omega) (by omega) (by omega);have m3:=S3 fu d f a b c ((840/n:Nat):Int) ((840/n:Nat):Int) 0 (by omega) (by omega) (by omega) (by omega);simp only[plc]at m1 m2 m3⊢;rw[eqp_mesh_Net_downward];simp(disch:=omega)only[Zb,QM,QD,m1,m2,m3,List.length_cons,List.length_nil,Nat.zero_add,Nat.reduceAdd,Int.add_zero];rfl
theorem pr_sort3 (i j k:Nat):cl fu (d+1) fn_slices_Sort_sint_int [V.ws 1000000 3] [.ob ty_3_int 0 [.v (.int .i64 i), .v (.int .i64 j), .v (.int .i64 k)]]=some ⟨.tup [],[.ob ty_3_int 0 (trC (Xk i j k))],none⟩:=by
 have e:cl fu (d+1) fn_slices_Sort_sint_int [V.ws 1000000 3] [.ob ty_3_int 0 [.v (.int .i64 i), .v (.int .i64 j), .v (.int .i64 k)]]=some ⟨.tup [],[.ob ty_3_int 0 (ints (Q3 [(i:Int),j,k]))],none⟩:=by kernel_rfl
 rw[e,sortI_3];rfl
include hf
theorem sp_cell (g n:Nat) (h:Yc n) (p q r:Pl) (hp:p∈pts n) (hq:q∈pts n) (hr:r∈pts n) (L:List (Nat×Nat×Nat)) (hL:L.length<=100000):
  cl fu (d+6) fn_mesh_Net_cell [V.ptr 1000000 0,V.agg (pl3 p q r)] [Mu g n (fl trC L)]=some ⟨V.tup [],[Mu 1 n (fl trC (L++[tc n p q r]))],none⟩:=by
 have hfl:=Zh Ye L;have hdv:L.length*3/3=L.length:=by omega
 have a1:=sp_atP fu d hf 0 n h p hp (fl trC L);have a2:=sp_atP fu d hf 0 n h q hq (fl trC L);have a3:=sp_atP fu d hf 0 n h r hr (fl trC L);have hsn:fl trC L++[.v (.int .i64 (tc n p q r).1), .v (.int .i64 (tc n p q r).2.1), .v (.int .i64 (tc n p q r).2.2)]=fl trC (L++[tc n p q r]):=Ja L _;have hfl2:(fl trC (L++[tc n p q r])).length=(L.length+1)*3:=by rw[Zh Ye,List.length_append];rfl
 have hs:=pr_sort3 fu (d+4) (idx n p) (idx n q) (idx n r);generalize hi:idx n p=ip at*
 generalize hj:idx n q=iq at*
 generalize hk:idx n r=ir at*
 unfold tc at hsn hfl2⊢;rw[hi,hj,hk]at hsn hfl2⊢;simp only[plc]at a1 a2 a3;unfold Mu netP at a1 a2 a3⊢;rw[eqp_mesh_Net_cell];generalize (Zg n).length=nl at*
 generalize fl plc (Zg n)=nc at*
 generalize esn 0 (Zg n)=es at*
 simp(disch:=omega)only[Zb,QM,QD,List.length_cons,List.length_nil,Nat.zero_add,Nat.reduceAdd];rw[Zl (λj:Nat=>(((j:Nat):Int),(match j with|0=>[C.v (.int .i64 0),C.v (.int .i64 0),C.v (.int .i64 0)]|1=>[C.v (.int .i64 ip),C.v (.int .i64 0),C.v (.int .i64 0)]|2=>[C.v (.int .i64 ip),C.v (.int .i64 iq),C.v (.int .i64 0)]|_=>[C.v (.int .i64 ip),C.v (.int .i64 iq),C.v (.int .i64 ir)]),((n:Int),(((840/n:Nat):Int)),C.sl nl nc,C.mp ty_api_Place ty_int (some 4) none es,fl trC L,C.nl,C.nl,()),())) 0
  ((3:Int),[C.v (.int .i64 ip),C.v (.int .i64 iq),C.v (.int .i64 ir)],((n:Int),(((840/n:Nat):Int)),C.sl nl nc,C.mp ty_api_Place ty_int (some 4) none es,fl trC L,C.nl,C.nl,()),()) 3 ?_ ?_ ?_ (by omega)]
 ·simp(disch:=omega)only[Zb,QM,QD,hs,trC,List.length_cons,List.length_nil,Nat.zero_add,Nat.reduceAdd,hfl,hdv,List.drop_succ_cons,List.drop_zero,hsn,hfl2]
 ·rfl
 ·intro j hj;rcases(show j=0\/j=1\/j=2 by omega)with rfl|rfl|rfl
  ·simp(disch:=omega)only[Zb,QM,QD,QE,a1,Nat.reduceMul,Int.toNat_natCast,Int.ofNat_zero,Int.toNat_zero,show Int.toNat 1=1 from rfl,show Int.toNat 2=2 from rfl,show((1:Nat):Int)=1 from rfl,show((2:Nat):Int)=2 from rfl,Nat.zero_mul,Nat.one_mul,List.take_succ_cons,List.take_zero,List.drop_zero,List.drop_succ_cons,List.length_cons,List.length_nil,Nat.zero_add,Nat.reduceAdd];rfl
  ·simp(disch:=omega)only[Zb,QM,QD,QE,a2,Nat.reduceMul,Int.toNat_natCast,Int.ofNat_zero,Int.toNat_zero,show Int.toNat 1=1 from rfl,show Int.toNat 2=2 from rfl,show((1:Nat):Int)=1 from rfl,show((2:Nat):Int)=2 from rfl,Nat.zero_mul,Nat.one_mul,List.take_succ_cons,List.take_zero,List.drop_zero,List.drop_succ_cons,List.length_cons,List.length_nil,Nat.zero_add,Nat.reduceAdd];rfl
  ·simp(disch:=omega)only[Zb,QM,QD,QE,a3,Nat.reduceMul,Int.toNat_natCast,Int.ofNat_zero,Int.toNat_zero,show Int.toNat 1=1 from rfl,show Int.toNat 2=2 from rfl,show((1:Nat):Int)=1 from rfl,show((2:Nat):Int)=2 from rfl,Nat.zero_mul,Nat.one_mul,List.take_succ_cons,List.take_zero,List.drop_zero,List.drop_succ_cons,List.length_cons,List.length_nil,Nat.zero_add,Nat.reduceAdd];rfl
 ·rfl
end
end Go.Proofs.YtjmempcalaliiaaGreatDoor
/- All of a grid's cells. -/
namespace Go.Proofs.YtjmempcalaliiaaGreatDoor
open Go Go.PM Go.Grid
attribute [local congr] Zy Zz Z0 Yg Z1 Z2 Yh Yi Yj Yk Z3 Z4 Yl Y5 Y6 Y7 Y8 Y9 Xb Xc Xd Xe Xa Z6 Z7 Xf Z8 Z9 Zn Ya Z5
def Ui (n f a b:Nat):List (Nat×Nat×Nat):=(List.range f).flatMap (K9 n)++((List.range a).flatMap (rowC n f)++(List.range b).flatMap (Xy n f a))
theorem preC_b (n f a b:Nat):Ui n f a b++Xy n f a b=Ui n f a (b+1):=by
 unfold Ui;rw[List.range_succ,List.flatMap_append];simp[List.append_assoc]
theorem preC_a (n f a:Nat):Ui n f a (n-a)=Ui n f (a+1) 0:=by
 unfold Ui;rw[List.range_succ (n:=a),List.flatMap_append];simp[rowC]
theorem preC_f (n f:Nat):Ui n f n 0=Ui n (f+1) 0 0:=by
 unfold Ui;rw[List.range_succ (n:=f),List.flatMap_append];simp[K9]
theorem Cd (n:Nat):Ui n 20 0 0=tri n:=by unfold Ui tri;simp
theorem Ce (n f a b:Nat):(Xy n f a b).length<=2:=by unfold Xy;split<;>simp
theorem rowC_le (n f a:Nat) (h:n<=8):(rowC n f a).length<=16:=by
 have:=U8 (g:=Xy n f a) (λb=>Ce n f a b) (n-a);unfold rowC;omega
theorem faceC_le (n f:Nat) (h:n<=8):(K9 n f).length<=128:=by
 have:=U8 (g:=rowC n f) (λa=>rowC_le n f a h) n;unfold K9;omega
theorem preC_le {n f a b:Nat} (h:n<=8) (hf:f<=20) (ha:a<=9) (hb:b<=9):(Ui n f a b).length<=5000:=by
 have h1:=U8 (g:=K9 n) (λa=>faceC_le n a h) f;have h2:=U8 (g:=rowC n f) (λa=>rowC_le n f a h) a;have h3:=U8 (g:=Xy n f a) (λb=>Ce n f a b) b;unfold Ui;rw[List.length_append,List.length_append];omega
theorem Je {n f i j:Nat} (hf:f<20) (h:i+j<=n):pt n f i j∈pts n:=Fp.2 ⟨f,i,j,hf,h,rfl⟩
section
variable (fu d:Nat) (hf:18446744073709551616<=fu)
include hf
theorem sp_cells (g n:Nat) (h:Yc n) (f a b:Nat) (hf':f<20) (hab:a+b<n) (L:List (Nat×Nat×Nat)) (hL:L.length<=50000):
  ∃g',cl fu (d+7) fn_mesh_Net_cells [V.ptr 1000000 0,V.agg [.v (.int .i64 f), .v (.int .i64 ((a*(840/n):Nat):Int)), .v (.int .i64 ((b*(840/n):Nat):Int)), .v (.int .i64 (((n-1-a-b)*(840/n):Nat):Int))]] [Mu g n (fl trC L)]=some ⟨V.tup [],[Mu g' n (fl trC (L++Xy n f a b))],none⟩:=by
 have hs:=Q4 h;have hn:=h;unfold Yc at hn;have ha:a*(840/n)<=840:=N9 h (by omega);have hb:b*(840/n)<=840:=N9 h (by omega);have hc:(n-1-a-b)*(840/n)<=840:=N9 h (by omega);have u1:=sp_upward fu (d+4) g n f (a*(840/n)) (b*(840/n)) ((n-1-a-b)*(840/n)) h ⟨ha,hb,hc⟩ (fl trC L);have e1:(⟨f,a*(840/n)+840/n,b*(840/n),(n-1-a-b)*(840/n)⟩:Pl)=pt n f (a+1) b:=by
  unfold pt;rw[Nat.succ_mul,show n-1-a-b=n-(a+1)-b by omega]
 have e2:(⟨f,a*(840/n),b*(840/n)+840/n,(n-1-a-b)*(840/n)⟩:Pl)=pt n f a (b+1):=by
  unfold pt;rw[Nat.succ_mul,show n-1-a-b=n-a-(b+1) by omega]
 have e3:(⟨f,a*(840/n),b*(840/n),(n-1-a-b)*(840/n)+840/n⟩:Pl)=pt n f a b:=by
  unfold pt;rw[<-Nat.succ_mul,show(n-1-a-b).succ=n-a-b by omega]
 rw[e1,e2,e3]at u1;have p1:=Je (n:=n) (i:=a+1) (j:=b) hf' (by omega);have p2:=Je (n:=n) (i:=a) (j:=b+1) hf' (by omega);have p3:=Je (n:=n) (i:=a) (j:=b) hf' (by omega);have c1:=sp_cell fu d hf (Nat.succ g) n h _ _ _ p1 p2 p3 L (by omega);by_cases hd:a+b+1<n
 ·have e4:((n-1-a-b)*(840/n))=(n-2-a-b)*(840/n)+840/n:=by rw[<-Nat.succ_mul,show(n-2-a-b).succ=n-1-a-b by omega]
  have hc2:(n-2-a-b)*(840/n)<=840:=by omega
  have m1:=S3 fu (d+5) f (a*(840/n)) (b*(840/n)) ((n-1-a-b)*(840/n)) 0 0 (0-((840/n:Nat):Int)) (by omega) (by omega) (by omega) (by omega);have e5:((((n-1-a-b)*(840/n):Nat):Int)+(0-((840/n:Nat):Int)))=(((n-2-a-b)*(840/n):Nat):Int):=by omega
  rw[e5]at m1;have u2:=sp_downward fu (d+4) (Nat.succ (Nat.succ g)) n f (a*(840/n)) (b*(840/n)) ((n-2-a-b)*(840/n)) h ⟨ha,hb,hc2⟩ (fl trC (L++[tc n (pt n f (a+1) b) (pt n f a (b+1)) (pt n f a b)]));have e6:(⟨f,a*(840/n),b*(840/n)+840/n,(n-2-a-b)*(840/n)+840/n⟩:Pl)=pt n f a (b+1):=by rw[<-e4];exact e2
  have e7:(⟨f,a*(840/n)+840/n,b*(840/n),(n-2-a-b)*(840/n)+840/n⟩:Pl)=pt n f (a+1) b:=by rw[<-e4];exact e1
  have e8:(⟨f,a*(840/n)+840/n,b*(840/n)+840/n,(n-2-a-b)*(840/n)⟩:Pl)=pt n f (a+1) (b+1):=by
   unfold pt;rw[Nat.succ_mul,Nat.succ_mul,show n-2-a-b=n-(a+1)-(b+1) by omega]
  rw[e6,e7,e8]at u2;have p4:=Je (n:=n) (i:=a+1) (j:=b+1) hf' (by omega);have c2:=sp_cell fu d hf (Nat.succ (Nat.succ (Nat.succ g))) n h _ _ _ p2 p1 p4 (L++[tc n (pt n f (a+1) b) (pt n f a (b+1)) (pt n f a b)]) (by simp;omega);have hge:((840/n:Nat):Int)<=(((n-1-a-b)*(840/n):Nat):Int):=by omega
  have hL2:L++Xy n f a b=(L++[tc n (pt n f (a+1) b) (pt n f a (b+1)) (pt n f a b)])++[tc n (pt n f a (b+1)) (pt n f (a+1) b) (pt n f (a+1) (b+1))]:=by
   unfold Xy;rw[if_pos hd];simp
  rw[hL2];generalize tc n (pt n f (a+1) b) (pt n f a (b+1)) (pt n f a b)=t1 at*
  generalize tc n (pt n f a (b+1)) (pt n f (a+1) b) (pt n f (a+1) (b+1))=t2 at*
  simp only[plc,Int.add_zero]at u1 u2 m1;generalize pt n f (a+1) b=q1 at*
  generalize pt n f a (b+1)=q2 at*
  generalize pt n f a b=q3 at*
  generalize pt n f (a+1) (b+1)=q4 at*
  unfold Mu netP at u1 u2 c1 c2⊢;refine⟨Nat.succ (Nat.succ (Nat.succ (Nat.succ g))), ?_⟩;rw[eqp_mesh_Net_cells];generalize (Zg n).length=nl at*
  generalize fl plc (Zg n)=nc at*
  generalize esn 0 (Zg n)=es at*
  generalize a*(840/n)=x at*
  generalize b*(840/n)=y at*
  generalize (n-1-a-b)*(840/n)=z at*
  generalize (n-2-a-b)*(840/n)=z2 at*
  simp(disch:=omega)only[Zb,QM,QD,QE,u1,c1,m1,u2,c2,List.length_cons,List.length_nil,Nat.zero_add,Nat.reduceAdd]
 ·have hz:n-1-a-b=0:=by omega
  have hlt:(((n-1-a-b)*(840/n):Nat):Int)<((840/n:Nat):Int):=by rw[hz,Nat.zero_mul];omega
  have hL2:L++Xy n f a b=L++[tc n (pt n f (a+1) b) (pt n f a (b+1)) (pt n f a b)]:=by
   unfold Xy;rw[if_neg hd]
  rw[hL2];generalize tc n (pt n f (a+1) b) (pt n f a (b+1)) (pt n f a b)=t1 at*
  simp only[plc]at u1;generalize pt n f (a+1) b=q1 at*
  generalize pt n f a (b+1)=q2 at*
  generalize pt n f a b=q3 at*
  unfold Mu netP at u1 c1⊢;refine⟨Nat.succ (Nat.succ g), ?_⟩;rw[eqp_mesh_Net_cells];generalize (Zg n).length=nl at*
  generalize fl plc (Zg n)=nc at*
  generalize esn 0 (Zg n)=es at*
  generalize a*(840/n)=x at*
  generalize b*(840/n)=y at*
  generalize (n-1-a-b)*(840/n)=z at*
  simp(disch:=omega)only[Zb,QM,QD,QE,u1,c1,List.length_cons,List.length_nil,Nat.zero_add,Nat.reduceAdd]
end
end Go.Proofs.YtjmempcalaliiaaGreatDoor
/- A grid's cells and edges, sorted; equal edges once. -/
namespace Go.Proofs.YtjmempcalaliiaaGreatDoor
open Go Go.PM Go.Grid
attribute [local congr] Zy Zz Z0 Yg Z1 Z2 Yh Yi Yj Yk Z3 Z4 Yl Y5 Y6 Y7 Y8 Y9 Xb Xc Xd Xe Xa Z6 Z7 Xf Z8 Z9 Zn Ya Z5
section
variable {α:Type} (le:α->α->Bool)
theorem Hg (x:α): ∀l,(insS le x l).Perm (x::l)
 | []=> .refl _
 |y::l=>by
  unfold insS;split
  ·exact .refl _
  ·exact((Hg x l).cons y).trans (.swap x y l)
theorem Xi: ∀l,(S1 le l).Perm l
 | []=> .refl _
 |x::l=>(Hg le x (S1 le l)).trans ((Xi l).cons x)
variable {le} (ht: ∀a b,le a b=true\/le b a=true) (htr: ∀a b c,le a b=true->le b c=true->le a c=true)
include ht htr
theorem insS_asc (x:α): ∀{l:List α},l.Pairwise (λa b=>le a b=true)->(insS le x l).Pairwise (λa b=>le a b=true)
 | [],_=>by simp[insS]
 |y::l,h=>by
  unfold insS;rw[List.pairwise_cons]at h;split
  ·rename_i hxy;rw[List.pairwise_cons,List.pairwise_cons];exact⟨λz hz=>(List.mem_cons.1 hz).elim (λe=>e▸hxy) λhz=>htr _ _ _ hxy (h.1 z hz),h⟩
  ·rename_i hxy;rw[List.pairwise_cons];refine⟨λz hz=> ?_,insS_asc x h.2⟩;rcases List.mem_cons.1 ((Hg le x l).mem_iff.1 hz)with rfl|hz
   ·exact(ht _ _).resolve_left hxy
   ·exact h.1 z hz
theorem Mm: ∀l,(S1 le l).Pairwise (λa b=>le a b=true)
 | []=> .nil
 |x::l=>insS_asc ht htr x (Mm l)
end
theorem Jf {a b:Nat×Nat×Nat}:leT a b=true↔a.1<b.1\/a.1=b.1/\(a.2.1<b.2.1\/a.2.1=b.2.1/\a.2.2<=b.2.2):=by simp[leT]
theorem Tm {a b:Ed}:leZ a b=true↔a.1<b.1\/a.1=b.1/\a.2<=b.2:=by simp[leZ]
def trI (t:Nat×Nat×Nat):List Int:=[(t.1:Int),(t.2.1:Int),(t.2.2:Int)]
def edI (e:Ed):List Int:=[e.1,e.2]
def edC (e:Ed):List C:=[.v (.int .i64 e.1), .v (.int .i64 e.2)]
theorem Xj (e:Ed):(edC e).length=2:=rfl
theorem tr_ints (L:List (Nat×Nat×Nat)):fl trC L=ints (L.flatMap trI):=by
 induction L with
 |nil=>rfl
 |cons x L ih=>rw[Rh,ih,List.flatMap_cons];rfl
theorem Jg (L:List Ed):fl edC L=ints (Uh L):=by
 induction L with
 |nil=>rfl
 |cons x L ih=>rw[Rh,ih,Px];rfl
theorem leT_lex (a b:Nat×Nat×Nat):(¬lexZ [0,1,2] (trI b) (trI a)<0)↔leT a b=true:=by
 rw[Jf,T1,T1,T1];simp only[trI,lexZ,List.getD_cons_zero,List.getD_cons_succ];omega
theorem leZ_lex (a b:Ed):(¬lexZ [0,1] (edI b) (edI a)<0)↔leZ a b=true:=by
 rw[Tm,T1,T1];simp only[edI,lexZ,List.getD_cons_zero,List.getD_cons_succ];omega
theorem leT_anti (a b:Nat×Nat×Nat) (h:leT a b=true) (h':leT b a=true):a=b:=by
 rw[Jf]at h h';obtain⟨a1,a2,a3⟩:=a;obtain⟨b1,b2,b3⟩:=b;simp only at h h';have e1:a1=b1:=by omega
 have e2:a2=b2:=by omega
 have e3:a3=b3:=by omega
 rw[e1,e2,e3]
theorem leZ_anti (a b:Ed) (h:leZ a b=true) (h':leZ b a=true):a=b:=by
 rw[Tm]at h h';obtain⟨a1,a2⟩:=a;obtain⟨b1,b2⟩:=b;simp only at h h';have e1:a1=b1:=by omega
 have e2:a2=b2:=by omega
 rw[e1,e2]
section
variable (fu d:Nat)
theorem pr_sortT (L:List (Nat×Nat×Nat)) (hl:L.length<=1000000):cl fu (d+1) fn_slices_SortFunc_sapi_Cell_api_Cell [V.own 1000000 0 L.length,V.c (C.fn fn_mesh_Build_1 [])] [.sb ty_api_Cell 0 (fl trC L)]=
  some ⟨.tup [],[.sb ty_api_Cell 0 (fl trC (S1 leT L))],none⟩:=by
 have e:cl fu (d+1) fn_slices_SortFunc_sapi_Cell_api_Cell [V.own 1000000 0 L.length,V.c (C.fn fn_mesh_Build_1 [])] [.sb ty_api_Cell 0 (fl trC L)]=(Td (fl trC L)).bind λzs=>need (Nat.beq 1000000 OUT&&Nat.beq 0 0&&Nat.beq fn_mesh_Build_1 fn_mesh_Build_1&&Nat.beq ty_api_Cell ty_api_Cell&&Nat.beq 0 0&&Nat.beq zs.length (L.length*3)&&Nat.ble L.length 4611686018427387903) (some ⟨.tup [],[.sb ty_api_Cell 0 (ints (Rf 3 (P8 3 (lexZ [0,1,2]) L.length zs)))],none⟩):=by kernel_rfl
 have hlen:(L.flatMap trI).length=L.length*3:=by
  have:=Zh Ye L;rw[tr_ints]at this;simpa using this
 have e1:Nat.beq 1000000 OUT=true:=rfl;obtain⟨l',h1,h2,h3⟩:=Dx (k:=3) (g:=trI) (λ_=>rfl) (lexZ_swo [0,1,2]) L;have h4:l'=S1 leT L:=Jd leT_anti (h1.trans (Xi leT L).symm) (h2.imp λ{a b} h=>(leT_lex a b).1 h) (Mm (λa b=>by rw[Jf,Jf];omega) (λa b c h h'=>by rw[Jf]at h h'⊢;omega) L);rw[e,tr_ints,Re];simp(disch:=omega)only[Zb,QM,QD,hlen,e1];rw[h3,h4,tr_ints]
theorem pr_sortZ (L:List Ed) (hl:L.length<=1000000):cl fu (d+1) fn_slices_SortFunc_sapi_Edge_api_Edge [V.own 1000000 0 L.length,V.c (C.fn fn_mesh_Build_2 [])] [.sb ty_api_Edge 0 (fl edC L)]=
  some ⟨.tup [],[.sb ty_api_Edge 0 (fl edC (S1 leZ L))],none⟩:=by
 have e:cl fu (d+1) fn_slices_SortFunc_sapi_Edge_api_Edge [V.own 1000000 0 L.length,V.c (C.fn fn_mesh_Build_2 [])] [.sb ty_api_Edge 0 (fl edC L)]=(Td (fl edC L)).bind λzs=>need (Nat.beq 1000000 OUT&&Nat.beq 0 0&&Nat.beq fn_mesh_Build_2 fn_mesh_Build_2&&Nat.beq ty_api_Edge ty_api_Edge&&Nat.beq 0 0&&Nat.beq zs.length (L.length*2)&&Nat.ble L.length 4611686018427387903) (some ⟨.tup [],[.sb ty_api_Edge 0 (ints (Rf 2 (P8 2 (lexZ [0,1]) L.length zs)))],none⟩):=by kernel_rfl
 have hlen:(Uh L).length=L.length*2:=Qs L;have e1:Nat.beq 1000000 OUT=true:=rfl;obtain⟨l',h1,h2,h3⟩:=Dx (k:=2) (g:=edI) (λ_=>rfl) (lexZ_swo [0,1]) L;have h4:l'=S1 leZ L:=Jd leZ_anti (h1.trans (Xi leZ L).symm) (h2.imp λ{a b} h=>(leZ_lex a b).1 h) (Mm (λa b=>by rw[Tm,Tm];omega) (λa b c h h'=>by rw[Tm]at h h'⊢;omega) L);have h5: ∀l:List Ed,l.flatMap edI=Uh l:=λl=>rfl;rw[e,Jg,Re];simp(disch:=omega)only[Zb,QM,QD,hlen,e1];rw[h5,h5]at h3;rw[h3,h4,Jg]
theorem Cf {α:Type} [Inhabited α] [DecidableEq α] (l:List α):(Lib.compact l).length<=l.length:=by
 unfold Lib.compact Lib.compactUpTo;rw[List.length_map];exact Nat.le_trans (List.length_filter_le ..) (by simp)
theorem Gp {α:Type} [Inhabited α] [DecidableEq α] {l:List α} {x:α} (h:x∈Lib.compact l):x∈l:=by
 unfold Lib.compact Lib.compactUpTo at h;obtain⟨j,hj,rfl⟩:=List.mem_map.1 h;have:=List.mem_range.1 (List.mem_filter.1 hj).1;rw[getElem!_pos l.toArray j (by simpa using this)];simp
theorem pr_compact (L:List Ed) (hl:L.length<=1000000): ∃pad:List Ed,pad.length=L.length/\cl fu (d+1) fn_slices_Compact_sapi_Edge_api_Edge [V.own 1000000 0 L.length] [.sb ty_api_Edge 0 (fl edC L)]=
  some ⟨V.c (C.sl (Lib.compact L).length (fl edC (Lib.compact L))),[.sb ty_api_Edge (fl edC L).length (fl edC pad)],none⟩:=by
 have e:cl fu (d+1) fn_slices_Compact_sapi_Edge_api_Edge [V.own 1000000 0 L.length] [.sb ty_api_Edge 0 (fl edC L)]=(Td (fl edC L)).bind λzs=>(N6 zs).bind λl=>need (Nat.beq 1000000 OUT&&Nat.beq 0 0&&Nat.beq ty_api_Edge ty_api_Edge&&Nat.beq 0 0&&Nat.beq l.length L.length&&Nat.ble L.length 4611686018427387903&&Nat.ble (Lib.compact l).length L.length)
   (some ⟨.c (.sl (Lib.compact l).length (ints (Uh (Lib.compact l)))),[.sb ty_api_Edge (fl edC L).length (ints (Uh (padE l L.length)))],none⟩):=by kernel_rfl
 have e1:Nat.beq 1000000 OUT=true:=rfl;have hle:=Cf L;refine⟨padE L L.length,Gm hle, ?_⟩;rw[e,Jg,Re,Jg,Jg];show(N6 (Uh L)).bind _=_;rw[pairs_flat];simp(disch:=omega)only[Zb,QM,QD,e1]
end
end Go.Proofs.YtjmempcalaliiaaGreatDoor
/- A grid: what mesh.Build comes to. -/
namespace Go.Proofs.YtjmempcalaliiaaGreatDoor
open Go Go.PM Go.Grid
attribute [local congr] Zy Zz Z0 Yg Z1 Z2 Yh Yi Yj Yk Z3 Z4 Yl Y5 Y6 Y7 Y8 Y9 Xb Xc Xd Xe Xa Z6 Z7 Xf Z8 Z9 Zn Ya Z5
theorem blt_t {a b:Nat} (h:a<b):Nat.blt a b=true:=Nat.ble_eq_true_of_le h
def R8 (R:List (List Int)) (i:Nat) (z:Int):List (List Int):=R.set i (R.getD i []++[z])
def Cg (R:List (List Int)) (e:Ed):List (List Int):=R8 (R8 R e.1.toNat e.2) e.2.toNat e.1
def Vx (N:Nat) (E:List Ed):List (List Int):=E.foldl Cg (List.replicate N [])
noncomputable def nxt (n:Nat):List (List Int):=(Vx (Zg n).length (edg n)).map Q3
theorem Ap (P:Nat->Prop) {i j k:Nat} (h1:P i) (h2:P j) (h3:P k):P (Xk i j k).1/\P (Xk i j k).2.1/\P (Xk i j k).2.2:=by
 unfold Xk;split<;>split<;>try split
 all_goals exact⟨by assumption,by assumption,by assumption⟩
theorem tri_in {n:Nat} (h:Yc n): ∀t∈tri n,t.1<(Zg n).length/\t.2.1<(Zg n).length/\t.2.2<(Zg n).length:=by
 intro t ht;unfold tri K9 rowC at ht;simp only[List.mem_flatMap,List.mem_range]at ht;obtain⟨f,hf,a,ha,b,hb,ht⟩:=ht;have hp: ∀i j,i+j<=n->idx n (pt n f i j)<(Zg n).length:=λi j hij=>D6 h (Je hf hij);unfold Xy at ht;rcases List.mem_cons.1 ht with rfl|ht
 ·exact Ap (λx=>x<(Zg n).length) (hp _ _ (by omega)) (hp _ _ (by omega)) (hp _ _ (by omega))
 ·split at ht
  ·rename_i hd;obtain rfl:=List.mem_singleton.1 ht;exact Ap (λx=>x<(Zg n).length) (hp _ _ (by omega)) (hp _ _ (by omega)) (hp _ _ (by omega))
  ·cases ht
theorem rawE_in {n:Nat} (h:Yc n): ∀e∈D7 n,(0<=e.1/\e.1<((Zg n).length:Nat))/\(0<=e.2/\e.2<((Zg n).length:Nat)):=by
 intro e he;obtain⟨t,ht,he⟩:=List.mem_flatMap.1 he;obtain⟨h1,h2,h3⟩:=tri_in h t ((Xi leT _).mem_iff.1 ht);simp only[L3,List.mem_cons,List.mem_nil_iff,or_false]at he;rcases he with rfl|rfl|rfl<;>(simp only;omega)
theorem Hh {n:Nat} (h:Yc n): ∀e∈edg n,(0<=e.1/\e.1<((Zg n).length:Nat))/\(0<=e.2/\e.2<((Zg n).length:Nat)):=
 λe he=>rawE_in h e ((Xi leZ _).mem_iff.1 (Gp he))
theorem Ch {n:Nat} (h:Yc n):(tri n).length<=5000:=by
 unfold Yc at h;rw[<-Cd];exact preC_le (by omega) (by omega) (by omega) (by omega)
theorem L4 (L:List (Nat×Nat×Nat)):(L.flatMap L3).length=L.length*3:=by
 induction L with
 |nil=>rfl
 |cons x L ih=>rw[List.flatMap_cons,List.length_append,ih,List.length_cons];simp only[L3,List.length_cons,List.length_nil];omega
theorem rawE_le {n:Nat} (h:Yc n):(D7 n).length<=15000:=by
 unfold D7;rw[L4,(Xi leT _).length_eq];have:=Ch h;omega
theorem Vd {n:Nat} (h:Yc n):(edg n).length<=15000:=
 Nat.le_trans (Cf _) (by rw[(Xi leZ _).length_eq];exact rawE_le h)
theorem Sd (R:List (List Int)) (i:Nat) (z:Int):(R8 R i z).length=R.length:=by simp[R8]
theorem getD_le {R:List (List Int)} {m:Nat} (h: ∀r∈R,r.length<=m) (i:Nat):(R.getD i []).length<=m:=by
 rw[List.getD_eq_getElem?_getD];cases hi:R[i]? with
 |none=>simp
 |some r=>exact h r (List.mem_of_getElem? hi)
theorem Ci {R:List (List Int)} {m:Nat} (h: ∀r∈R,r.length<=m) (i:Nat) (z:Int): ∀r∈R8 R i z,r.length<=m+1:=by
 intro r hr;rcases List.mem_or_eq_of_mem_set hr with hr|rfl
 ·have:=h r hr;omega
 ·have:=getD_le h i;rw[List.length_append,List.length_cons,List.length_nil];omega
theorem set_ints (R:List (List Int)) (i:Nat) (r:List Int):(R.map ints).set i (ints r)=(R.set i r).map ints:=List.map_set.symm
theorem Aq (R:List (List Int)) (i:Nat):(R.map ints).getD i []=ints (R.getD i []):=by
 rw[List.getD_eq_getElem?_getD,List.getD_eq_getElem?_getD,List.getElem?_map];cases R[i]? <;>rfl
theorem Qu (r:List Int) (z:Int):ints r++[C.v (.int .i64 z)]=ints (r++[z]):=by simp[ik]
theorem pushed_snoc (N:Nat) (E:List Ed) (e:Ed):Vx N (E++[e])=Cg (Vx N E) e:=by simp[Vx]
theorem M8 (N:Nat) (E:List Ed):(Vx N E).length=N:=by
 have key: ∀(E:List Ed) (R:List (List Int)),(E.foldl Cg R).length=R.length:=by
  intro E
  induction E with
  |nil=>intro R;rfl
  |cons e E ih=>intro R;rw[List.foldl_cons,ih];unfold Cg;rw[Sd,Sd]
 unfold Vx;rw[key];simp
theorem Ar (N:Nat) (E:List Ed): ∀r∈Vx N E,r.length<=2*E.length:=by
 have key: ∀(E:List Ed) (R:List (List Int)) (m:Nat),(∀r∈R,r.length<=m)-> ∀r∈E.foldl Cg R,r.length<=m+2*E.length:=by
  intro E
  induction E with
  |nil=>intro R m h r hr;have:=h r hr;simp;omega
  |cons e E ih=>
   intro R m h r hr;rw[List.foldl_cons]at hr;have:=ih _ (m+1+1) (Ci (Ci h _ _) _ _) r hr;rw[List.length_cons];omega
 intro r hr;have:=key E _ 0 (λr hr=>by rw[List.eq_of_mem_replicate hr];simp) r hr;omega
theorem eds_fl (t:Nat×Nat×Nat):fl edC (L3 t)=[C.v (.int .i64 t.1),C.v (.int .i64 t.2.1),C.v (.int .i64 t.1),C.v (.int .i64 t.2.2),C.v (.int .i64 t.2.1),C.v (.int .i64 t.2.2)]:=rfl
def G7 (R:List (List Int)) (j:Nat):List (List Int):=(R.take j).map Q3++R.drop j
theorem Gq (R:List (List Int)) (j:Nat):(G7 R j).length=R.length:=by
 unfold G7;rw[List.length_append,List.length_map,<-List.length_append,List.take_append_drop]
theorem mixS_get {R:List (List Int)} {j:Nat} (hj:j<R.length):(G7 R j).getD j []=R[j]:=by
 unfold G7;rw[List.getD_eq_getElem?_getD,List.getElem?_append_right (by simp;omega)];simp[Nat.min_eq_left (Nat.le_of_lt hj),hj]
theorem mixS_set {R:List (List Int)} {j:Nat} (hj:j<R.length):(G7 R j).set j (Q3 R[j])=G7 R (j+1):=by
 unfold G7;have h1:((R.take j).map Q3).length=j:=by simp;omega
 rw[List.set_append_right _ _ (by omega),h1,Nat.sub_self,List.drop_eq_getElem_cons hj,List.set_cons_zero,List.take_succ_eq_append_getElem hj,List.map_append,List.append_assoc];rfl
theorem mixS_zero (R:List (List Int)):G7 R 0=R:=by simp[G7]
theorem mixS_all (R:List (List Int)):G7 R R.length=R.map Q3:=by simp[G7]
section
variable (fu d:Nat)
theorem pr_sortI (r:List Int) (h:r.length<=1000000):cl fu (d+1) fn_slices_Sort_sint_int [V.own 1000000 0 r.length] [.sb ty_int 0 (ints r)]=some ⟨.tup [],[.sb ty_int 0 (ints (Q3 r))],none⟩:=by
 have e:cl fu (d+1) fn_slices_Sort_sint_int [V.own 1000000 0 r.length] [.sb ty_int 0 (ints r)]=orP (sortP ty_int) (sortWsP ty_3_int) [.own 1000000 0 r.length] [.sb ty_int 0 (ints r)]:=by kernel_rfl
 have hw:=wholeI_of (t:=ty_int) (l:=r) (by omega);have hs:sortP ty_int [.own 1000000 0 r.length] [.sb ty_int 0 (ints r)]=some ⟨.tup [],[.sb ty_int 0 (ints (Q3 r))],none⟩:=by
  rw[sortP,hw];exact Option.map_some ..
 rw[e,orP,hs]
variable (hf:18446744073709551616<=fu)
include hf
theorem cells_pre (n:Nat) (h:Yc n) (f a b:Nat) (hf':f<20) (hab:a+b<n): ∃g',cl fu (d+7) fn_mesh_Net_cells [V.ptr 1000000 0,V.agg [.v (.int .i64 f), .v (.int .i64 ((a*(840/n):Nat):Int)), .v (.int .i64 ((b*(840/n):Nat):Int)), .v (.int .i64 (((n-1-a-b)*(840/n):Nat):Int))]] [Mu 0 n (fl trC (Ui n f a b))]=some ⟨V.tup [],[Mu g' n (fl trC (Ui n f a (b+1)))],none⟩:=by
 have hn:=h;unfold Yc at hn;have h5:(Ui n f a b).length<=5000:=preC_le hn.2 (Nat.le_of_lt hf') (show a<=9 by omega) (show b<=9 by omega);have h6:=sp_cells fu d hf 0 n h f a b hf' hab (Ui n f a b) (Nat.le_trans h5 (Nat.le_of_ble_eq_true rfl));rw[preC_b]at h6;exact h6
set_option maxHeartbeats 8000000 in
set_option maxRecDepth 4000 in
theorem sp_Build (n:Nat) (h:Yc n): ∃c:C,cl fu (d+8) fn_mesh_Build [I n] []=some ⟨V.ptr 1000000 0,[.ob ty_mesh_Net 0 [C.v (.int .i64 n),C.v (.int .i64 ((840/n:Nat):Int)),C.sl (Zg n).length (fl plc (Zg n)),C.mp ty_api_Place ty_int (some 4) none (esn 0 (Zg n)),c,C.sl (edg n).length (fl edC (edg n)),C.sl (nxt n).length ((nxt n).map λr=>C.sl r.length (ints r))]],none⟩:=by
 have hn:=h;unfold Yc at hn;have hs:=Q4 h;have hP:=sp_PointsP fu (d+2) hf n h;have hC:=cells_pre fu d hf n h;have hNl:=Xv h;have hlT:=Ch h;unfold Mu netP at hC;unfold netC at hP;have heI:=Hh h;have heL:=Vd h;have hrL:=rawE_le h;unfold nxt;generalize hE:edg n=E at*
 generalize hNl2:(Zg n).length=N at*
 generalize fl plc (Zg n)=nc at*
 generalize esn 0 (Zg n)=es at*
 have eO0:Nat.beq 1000000 (OUT+0)=true:=rfl;refine⟨C.sl (S1 leT (tri n)).length (fl trC (S1 leT (tri n))), ?_⟩;rw[eq_mesh_Build,hP];simp(disch:=omega)only[Zb,QM,QD,QE,eO0,List.length_cons,List.length_nil,Nat.zero_add,Nat.reduceAdd];rw[Zl (λf:Nat=>(((f:Nat):Int),((n:Int),(((840/n:Nat):Int)),C.sl N nc,C.mp ty_api_Place ty_int (some 4) none es,fl trC (Ui n f 0 0),C.nl,C.nl,()),())) 0
  ((20:Int),((n:Int),(((840/n:Nat):Int)),C.sl N nc,C.mp ty_api_Place ty_int (some 4) none es,fl trC (tri n),C.nl,C.nl,()),()) 20 ?_ ?_ ?_ (by omega)]
 ·generalize hT0:tri n=T0 at*
  generalize hT:S1 leT T0=T at*
  have hTl:T.length=T0.length:=by rw[<-hT];exact(Xi leT T0).length_eq
  have hfl0:=Zh Ye T0;have hflT:=Zh Ye T;have hdv0:T0.length*3/3=T0.length:=by omega
  have hdvT:T.length*3/3=T.length:=by omega
  have s1:=pr_sortT fu (d+6) T0 (by omega);rw[hT]at s1;have b1: ∀{R:Type} (k:List C->Option R),rowBack ty_api_Cell (fl trC T0) false [.sb ty_api_Cell 0 (fl trC T)] k=k (fl trC T):=λk=>Hf _ _ _ k (by omega);simp(disch:=omega)only[Zb,QM,QD,QE,hfl0,hdv0,s1,b1,hflT,hdvT];rw[Zl (λj:Nat=>(((j:Nat):Int),((n:Int),(((840/n:Nat):Int)),C.sl N nc,C.mp ty_api_Place ty_int (some 4) none es,C.sl T.length (fl trC T),fl edC ((T.take j).flatMap L3),C.nl,()),())) 0
   (((T.length:Nat):Int),((n:Int),(((840/n:Nat):Int)),C.sl N nc,C.mp ty_api_Place ty_int (some 4) none es,C.sl T.length (fl trC T),fl edC (T.flatMap L3),C.nl,()),()) T.length ?_ ?_ ?_ (by omega)]
  rotate_left
  ·rfl
  ·intro j hj;have hat:=Jb Ye hj;have hln:(fl edC ((T.take j).flatMap L3)).length=(j*3)*2:=by rw[Zh Xj,L4,List.length_take,Nat.min_eq_left (by omega)]
   have hdl:(j*3)*2/2=j*3:=by omega
   have happ:fl edC ((T.take j).flatMap L3)++[C.v (.int .i64 T[j].1),C.v (.int .i64 T[j].2.1),C.v (.int .i64 T[j].1),C.v (.int .i64 T[j].2.2),C.v (.int .i64 T[j].2.1),C.v (.int .i64 T[j].2.2)]=fl edC ((T.take (j+1)).flatMap L3):=by
    rw[<-eds_fl,<-Hd,List.take_succ_eq_append_getElem hj,List.flatMap_append];simp
   have hln2:(fl edC ((T.take (j+1)).flatMap L3)).length=(j*3+3)*2:=by rw[Zh Xj,L4,List.length_take,Nat.min_eq_left (by omega)];omega
   simp(disch:=omega)only[Zb,QM,QD,Int.toNat_natCast,hat,trC,List.cons_append,List.nil_append,hln,hdl,happ,hln2];rfl
  ·rw[List.take_length];simp(disch:=omega)only[Zb,QM,QD]
  have hraw:T.flatMap L3=D7 n:=by unfold D7;rw[hT0,hT]
  rw[hraw];have hEd:Lib.compact (S1 leZ (D7 n))=E:=hE;generalize D7 n=W at*
  have hflW:=Zh Xj W;have hdvW:W.length*2/2=W.length:=by omega
  have s2:=pr_sortZ fu (d+6) W (by omega);have hZl:(S1 leZ W).length=W.length:=(Xi leZ W).length_eq;generalize S1 leZ W=Z at*
  have hflZ:=Zh Xj Z;have hdvZ:Z.length*2/2=Z.length:=by omega
  have b2: ∀{R:Type} (k:List C->Option R),rowBack ty_api_Edge (fl edC W) false [.sb ty_api_Edge 0 (fl edC Z)] k=k (fl edC Z):=λk=>Hf _ _ _ k (by omega);obtain⟨pad,hpad,s3⟩:=pr_compact fu (d+6) Z (by omega);rw[hEd]at s3;have hflP:=Zh Xj pad;have b3: ∀{R:Type} (k:List C->Option R),rowBack ty_api_Edge (fl edC Z) true [.sb ty_api_Edge (Z.length*2) (fl edC pad)] k=k (fl edC pad):=λk=>by rw[<-hflZ];exact rowBack_t _ _ _ k (by omega)
  have hflE:=Zh Xj E;simp(disch:=omega)only[Zb,QM,QD,QE,hflW,hdvW,s2,b2,hflZ,hdvZ,s3,b3,Int.toNat_natCast,List.length_replicate,decide_true];rw[Zl (λj:Nat=>(((j:Nat):Int),((n:Int),(((840/n:Nat):Int)),C.sl N nc,C.mp ty_api_Place ty_int (some 4) none es,C.sl T.length (fl trC T),C.sl E.length (fl edC E),(Vx N (E.take j)).map ints,()),())) 0
   (((E.length:Nat):Int),((n:Int),(((840/n:Nat):Int)),C.sl N nc,C.mp ty_api_Place ty_int (some 4) none es,C.sl T.length (fl trC T),C.sl E.length (fl edC E),(Vx N E).map ints,()),()) E.length ?_ ?_ ?_ (by omega)]
  rotate_left
  ·show _=(((0:Nat):Int),_,());simp only[List.take_zero,Vx,List.foldl_nil,List.map_replicate];rfl
  ·intro j hj;have hat:=Jb Xj hj;have hin:=heI E[j] (List.getElem_mem hj);have hps:Vx N (E.take (j+1))=Cg (Vx N (E.take j)) E[j]:=by rw[List.take_succ_eq_append_getElem hj,pushed_snoc]
   have hRl:=M8 N (E.take j);have hRb:=Ar N (E.take j);rw[List.length_take,Nat.min_eq_left (by omega)]at hRb;rw[hps];generalize Vx N (E.take j)=R at*
   generalize E[j]=e at*
   obtain⟨ea,eb⟩:=e
   dsimp only at hin
   obtain⟨x,rfl⟩: ∃x:Nat,ea=x:=⟨ea.toNat,by omega⟩;obtain⟨y,rfl⟩: ∃y:Nat,eb=y:=⟨eb.toNat,by omega⟩;have hg1:=getD_le hRb x;have hg2:=getD_le (Ci hRb x (y:Int)) y;have hl1:=Sd R x (y:Int);have hpe:Cg R ((x:Int),(y:Int))=R8 (R8 R x (y:Int)) y (x:Int):=rfl;have hp1: ∀i z,R.set i (R.getD i []++[z])=R8 R i z:=λi z=>rfl;have hp2: ∀i z,(R8 R x (y:Int)).set i ((R8 R x (y:Int)).getD i []++[z])=R8 (R8 R x (y:Int)) i z:=λi z=>rfl;have hl2:=Sd (R8 R x (y:Int)) y (x:Int);rw[hpe];simp(disch:=omega)only[Zb,QM,QD,blt_t,Zf,hat,edC,List.cons_append,List.nil_append,Int.toNat_natCast,Nat.mul_one,Nat.div_one,List.length_map,Aq,Qu,set_ints,hp1,hp2,hRl,hl1,hl2,List.length_append,List.length_cons,List.length_nil,Nat.zero_add];rfl
  ·rw[List.take_length];simp(disch:=omega)only[Zb,QM,QD]
  have hRl:=M8 N E;have hRb:=Ar N E;generalize Vx N E=R at*
  simp(disch:=omega)only[Zb,QM,QD,List.length_map];rw[Zl (λj:Nat=>(((j:Nat):Int),((n:Int),(((840/n:Nat):Int)),C.sl N nc,C.mp ty_api_Place ty_int (some 4) none es,C.sl T.length (fl trC T),C.sl E.length (fl edC E),(G7 R j).map ints,()),())) 0
   (((R.length:Nat):Int),((n:Int),(((840/n:Nat):Int)),C.sl N nc,C.mp ty_api_Place ty_int (some 4) none es,C.sl T.length (fl trC T),C.sl E.length (fl edC E),(R.map Q3).map ints,()),()) R.length ?_ ?_ ?_ (by omega)]
  rotate_left
  ·rw[mixS_zero];rfl
  ·intro j hj;have hml:=Gq R j;have hgt:=mixS_get hj;have hst:=mixS_set hj;have hml2:=Gq R (j+1);have hrl:=hRb R[j] (List.getElem_mem hj);have s4:=pr_sortI fu (d+6) R[j] (by omega);have hsl:=sortI_length R[j];generalize R[j]=r at*
   have b4: ∀{R:Type} (k:List C->Option R),rowBack ty_int (ints r) false [.sb ty_int 0 (ints (Q3 r))] k=k (ints (Q3 r)):=λk=>Hf _ _ _ k (by rw[Zf,Zf];exact hsl);simp(disch:=omega)only[Zb,QM,QD,blt_t,Int.toNat_natCast,Nat.mul_one,Nat.div_one,List.length_map,Aq,hgt,Zf,s4,b4,set_ints,hst,hml,hml2];rfl
  ·rw[mixS_all];simp(disch:=omega)only[Zb,QM,QD,List.length_map]
  have hmm:List.map (λ(r:List C)=>C.sl (r.length/1) r) ((R.map Q3).map ints)=(R.map Q3).map λr=>C.sl r.length (ints r):=by
   rw[List.map_map];apply List.map_congr_left;intro r _;show C.sl ((ints r).length/1) (ints r)=_;rw[Zf,Nat.div_one]
  simp(disch:=omega)only[Zb,QM,QD,List.length_map,hmm]
 ·rfl
 ·intro f hf';simp(disch:=omega)only[Zb,QM,QD];rw[Zl (λa:Nat=>(((a:Nat):Int),((n:Int),(((840/n:Nat):Int)),C.sl N nc,C.mp ty_api_Place ty_int (some 4) none es,fl trC (Ui n f a 0),C.nl,C.nl,()),())) 0
   ((n:Int),((n:Int),(((840/n:Nat):Int)),C.sl N nc,C.mp ty_api_Place ty_int (some 4) none es,fl trC (Ui n f n 0),C.nl,C.nl,()),()) n ?_ ?_ ?_ (by omega)]
  ·simp(disch:=omega)only[Zb,QM,QD];rw[preC_f];rfl
  ·rfl
  ·intro a ha;simp(disch:=omega)only[Zb,QM,QD];rw[Zl (λb:Nat=>(((b:Nat):Int),((n:Int),(((840/n:Nat):Int)),C.sl N nc,C.mp ty_api_Place ty_int (some 4) none es,fl trC (Ui n f a b),C.nl,C.nl,()),())) 0
    (((n-a:Nat):Int),((n:Int),(((840/n:Nat):Int)),C.sl N nc,C.mp ty_api_Place ty_int (some 4) none es,fl trC (Ui n f a (n-a)),C.nl,C.nl,()),()) (n-a) ?_ ?_ ?_ (by omega)]
   ·simp(disch:=omega)only[Zb,QM,QD];rw[preC_a];rfl
   ·rfl
   ·intro b hb;obtain⟨g',hC⟩:=hC f a b hf' (by omega);have w1:IntKind.i64.wrap ((a:Int)*((840/n:Nat):Int))=((a*(840/n):Nat):Int):=R7 h (by omega);have w2:IntKind.i64.wrap ((b:Int)*((840/n:Nat):Int))=((b*(840/n):Nat):Int):=R7 h (by omega);have w3:IntKind.i64.wrap (((n:Int)-1-(a:Int)-(b:Int))*((840/n:Nat):Int))=(((n-1-a-b)*(840/n):Nat):Int):=by
     rw[show(n:Int)-1-(a:Int)-(b:Int)=((n-1-a-b:Nat):Int) by omega];exact R7 h (by omega)
    simp(disch:=omega)only[Zb,QM,QD,QE,w1,w2,w3,hC];rfl
   ·simp(disch:=omega)only[Zb,QM,QD]
  ·simp(disch:=omega)only[Zb,QM,QD]
 ·rw[Cd];simp(disch:=omega)only[Zb,QM,QD];rfl
end
end Go.Proofs.YtjmempcalaliiaaGreatDoor
/- The reference's nodes and the index of a place. -/
namespace Go.Proofs.YtjmempcalaliiaaGreatDoor
open Go Go.PM Go.Grid
theorem Py (fu d n:Nat) (h:Yc n):cl fu (d+1) fn_synopticref03_Count [I n] []=OK (I ((10*n*n+2:Nat):Int)):=by
 rw[eq_synopticref03_Count];rcases Qn h with rfl|rfl|rfl|rfl|rfl|rfl|rfl|rfl<;>(show @Eq (Option Out) _ _;kernel_rfl)
theorem upTo_jb (n f i j:Nat):X4 n f i (j+1)=bif isN (pt n f i j)then X4 n f i j++[pt n f i j]else X4 n f i j:=by
 rw[upTo_j];unfold isN;by_cases h:norm (pt n f i j)=pt n f i j
 ·rw[if_pos h,decide_eq_true h];rfl
 ·rw[if_neg h,decide_eq_false h];rfl
theorem count_ne {n:Nat}:((10*n*n+2:Nat):Int)≠0:=by omega
theorem sp_ref_Nodes (fu d:Nat) (hf:18446744073709551616<=fu) (n:Nat) (h:Yc n):cl fu (d+6) fn_synopticref03_Nodes [I n] []=OK (V.tup [V.c (C.sl (Zg n).length (fl plc (Zg n))),I 0]):=by
 have hn:=h;unfold Yc at hn;have hst:=Q4 h;rw[eq_synopticref03_Nodes,Py fu (d+4) n h,Cb h];simp only[QM];rw[Hc count_ne,Hc (show(n:Int)≠0 by omega)];simp only[QM];rw[Zl (λf:Nat=>(fl plc (X4 n f 0 0),(f:Int),())) 0 (fl plc (X4 n 20 0 0),(20:Int),()) 20 ?_ ?_ ?_ (by omega)]
 ·rw[upTo_end];simp(disch:=omega)only[QM,QD,Zh Zq,Xt,Nat.zero_add];rw[List.take_of_length_le (by rw[Zh Zq];omega)]
 ·rfl
 ·intro f hf';have hl:(X4 n f 0 0).length<=2000:=Ul h (by omega) (by omega) (by omega);simp(disch:=omega)only[QM,QD,Zh Zq,Xt];rw[Zl (λi:Nat=>(fl plc (X4 n f i 0),((i*(840/n):Nat):Int),())) 0 (fl plc (X4 n f (n+1) 0),(((n+1)*(840/n):Nat):Int),()) (n+1) ?_ ?_ ?_ (by omega)]
  ·have hl:(X4 n f (n+1) 0).length<=2000:=Ul h (by omega) (by omega) (by omega);simp(disch:=omega)only[QM,QD,Zh Zq,Xt,Int.natCast_add,Int.natCast_one];unfold X4;rw[pre_f]
  ·simp only[Nat.zero_mul];rfl
  ·intro i hi;have hl:(X4 n f i 0).length<=2000:=Ul h (by omega) (by omega) (by omega);have hA:=N9 h (show i<=n by omega);have hA1:(i+1)*(840/n)=i*(840/n)+840/n:=Nat.succ_mul _ _;rw[hA1];generalize hAe:i*(840/n)=A at hA⊢;simp(disch:=omega)only[QM,QD,Zh Zq,Xt];rw[Zl (λj:Nat=>(fl plc (X4 n f i j),((j*(840/n):Nat):Int),())) 0 (fl plc (X4 n f i (n+1-i)),(((n+1-i)*(840/n):Nat):Int),()) (n+1-i) ?_ ?_ ?_ (by omega)]
   ·have hl:(X4 n f i (n+1-i)).length<=2000:=Ul h (by omega) (by omega) (by omega);generalize hst':840/n=s at*
    simp(disch:=omega)only[QM,QD,Zh Zq,Xt,Int.natCast_add];unfold X4;rw[pre_i]
   ·simp only[Nat.zero_mul];rfl
   ·intro j hj;have hl:(X4 n f i j).length<=2000:=Ul h (by omega) (by omega) (by omega);have hs:=pt_sum (n:=n) (i:=i) (j:=j) h (by omega);have hB1:(j+1)*(840/n)=j*(840/n)+840/n:=Nat.succ_mul _ _;have hok:=pt_ok (f:=f) h hf' (show i+j<=n by omega);have hN:=G6 fu d hf (pt n f i j) hok;have hin:0<A->0<j*(840/n)->0<(n-i-j)*(840/n)->isN (pt n f i j)=true:=λh1 h2 h3=>isN_inner hok (by show 0<i*(840/n);omega) h2 h3;have hup:=upTo_jb n f i j;rw[hB1];simp only[plc]at hN;generalize isN (pt n f i j)=z at hN hin hup;simp only[pt]at hN hup;rw[hAe]at hs hN hup;generalize j*(840/n)=B at*
    generalize (n-i-j)*(840/n)=D at*
    generalize 840/n=s at*
    have hD:(840:Int)-A-B=(D:Int):=by omega
    rw[hup];by_cases c1:0<A
    ·by_cases c2:0<B
     ·by_cases c3:0<D
      ·rw[hin c1 c2 c3];simp(disch:=omega)only[QM,QD,hD,Ma,Zh Zq,Xt,List.length_append,List.length_cons,List.length_nil,Nat.zero_add,Int.natCast_add]
      ·cases z<;>simp(disch:=omega)only[QM,QD,hD,hN,Ma,Zh Zq,Xt,List.length_append,List.length_cons,List.length_nil,Nat.zero_add,Int.natCast_add]
     ·cases z<;>simp(disch:=omega)only[QM,QD,hD,hN,Ma,Zh Zq,Xt,List.length_append,List.length_cons,List.length_nil,Nat.zero_add,Int.natCast_add]
    ·cases z<;>simp(disch:=omega)only[QM,QD,hD,hN,Ma,Zh Zq,Xt,List.length_append,List.length_cons,List.length_nil,Nat.zero_add,Int.natCast_add]
   ·have hl:(X4 n f i (n+1-i)).length<=2000:=Ul h (by omega) (by omega) (by omega);have hs:=pt_sum (n:=n) (i:=i) (j:=n-i) h (by omega);have h1:(n+1-i)*(840/n)=(n-i)*(840/n)+840/n:=by rw[show n+1-i=n-i+1 by omega,Nat.succ_mul]
    rw[hAe,show n-i-(n-i)=0 by omega]at hs;rw[h1];generalize (n-i)*(840/n)=B at*
    generalize 840/n=s at*
    simp(disch:=omega)only[QM,QD,Zh Zq,Xt,Int.natCast_add]
  ·have hl:(X4 n f (n+1) 0).length<=2000:=Ul h (by omega) (by omega) (by omega);have h1:(n+1)*(840/n)=840+840/n:=by rw[Nat.succ_mul,Sz h]
   rw[h1];generalize 840/n=s at*
   simp(disch:=omega)only[QM,QD,Zh Zq,Xt,Int.natCast_add]
 ·have hl:(X4 n 20 0 0).length<=2000:=Ul h (by omega) (by omega) (by omega);simp(disch:=omega)only[QM,QD,Zh Zq,Xt];rfl
theorem sp_less (fu d:Nat) (p q:Pl):cl fu (d+1) fn_synopticref03_less [V.agg (plc p),V.agg (plc q)] []=OK (B (decide (plt p q))):=by
 unfold plc;rw[eq_synopticref03_less];by_cases h1:p.f=q.f
 ·by_cases h2:p.a=q.a
  ·by_cases h3:p.b<q.b
   ·rw[decide_eq_true (show plt p q from .inr ⟨h1, .inr ⟨h2,h3⟩⟩)];simp(disch:=omega)only[QM,QD]
   ·rw[decide_eq_false (show ¬plt p q from by unfold plt;omega)];simp(disch:=omega)only[QM,QD]
  ·by_cases h3:p.a<q.a
   ·rw[decide_eq_true (show plt p q from .inr ⟨h1, .inl h3⟩)];simp(disch:=omega)only[QM,QD]
   ·rw[decide_eq_false (show ¬plt p q from by unfold plt;omega)];simp(disch:=omega)only[QM,QD]
 ·by_cases h3:p.f<q.f
  ·rw[decide_eq_true (show plt p q from .inl h3)];simp(disch:=omega)only[QM,QD]
  ·rw[decide_eq_false (show ¬plt p q from by unfold plt;omega)];simp(disch:=omega)only[QM,QD]
theorem Jh {l:List Pl} (h:l.Pairwise plt) {i j:Nat} (hi:i<l.length) (hj:j<l.length) (hij:i<j):plt l[i] l[j]:=List.pairwise_iff_getElem.1 h i j hi hj hij
theorem sp_find (fu d:Nat) (hf:18446744073709551616<=fu) (l:List Pl) (hl:l.length<=1000000) (hs:l.Pairwise plt) (k:Nat) (hk:k<l.length):
  cl fu (d+2) fn_synopticref03_find [V.c (C.sl l.length (fl plc l)),V.agg (plc l[k])] []=OK (I k):=by
 have hq:plc l[k]=[.v (.int .i64 l[k].f), .v (.int .i64 l[k].a), .v (.int .i64 l[k].b), .v (.int .i64 l[k].c)]:=rfl;rw[hq,eq_synopticref03_find];rw[iter_measx (λy:Int×Int×Unit=> ∃lo hi:Nat,y=((lo:Int),(hi:Int),())/\lo<=k/\k<=hi/\hi<=l.length) (λy=>(y.2.1-y.1).toNat) 0 ((k:Int),(k:Int),()) ?_ ?_ ?_]
 ·have hd:=Jb Zq hk;simp(disch:=omega)only[QM,QD,Int.toNat_natCast,hd,plc,List.cons_append,List.nil_append,ibeq_t]
 ·exact⟨0,l.length,rfl,Nat.zero_le _,by omega,Nat.le_refl _⟩
 ·simp only[];omega
 ·rintro _ ⟨lo,hi,rfl,g1,g2,g3⟩
  by_cases hlt:lo<hi
  ·left;have hm:Int.tdiv ((lo:Int)+(hi:Int)) 2=(((lo+hi)/2:Nat):Int):=by
    rw[show((lo:Int)+(hi:Int))=((lo+hi:Nat):Int) from by omega];rfl
   have hml:(lo+hi)/2<l.length:=by omega
   have hd:=Jb Zq hml;have hless:=sp_less fu d l[(lo+hi)/2] l[k];simp only[plc]at hless;by_cases hmk:(lo+hi)/2<k
   ·rw[decide_eq_true (Jh hs hml hk hmk)]at hless;refine⟨((((lo+hi)/2+1:Nat):Int),(hi:Int),()), ?_,⟨(lo+hi)/2+1,hi,rfl,by omega,g2,g3⟩, ?_⟩
    ·simp(disch:=omega)only[QM,QD,hm,Int.toNat_natCast,hd,plc,List.cons_append,List.nil_append,hless,Int.natCast_add,Int.natCast_one]
    ·simp only[];omega
   ·have hn: ¬plt l[(lo+hi)/2] l[k]:=by
     rcases Nat.lt_or_ge k ((lo+hi)/2)with h|h
     ·exact λh'=>Lz _ (plt_trans h' (Jh hs hk hml h))
     ·have:(lo+hi)/2=k:=by omega
      simp only[this];exact Lz _
    rw[decide_eq_false hn]at hless;refine⟨((lo:Int),(((lo+hi)/2:Nat):Int),()), ?_,⟨lo,(lo+hi)/2,rfl,g1,by omega,by omega⟩, ?_⟩
    ·simp(disch:=omega)only[QM,QD,hm,Int.toNat_natCast,hd,plc,List.cons_append,List.nil_append,hless]
    ·simp only[];omega
  ·right;have e1:lo=k:=by omega
   have e2:hi=k:=by omega
   subst e1 e2;simp(disch:=omega)only[QM,QD]
theorem sp_ref_at (fu d:Nat) (hf:18446744073709551616<=fu) (n:Nat) (h:Yc n) (p:Pl) (hp:p∈pts n):
  cl fu (d+5) fn_synopticref03_at [V.c (C.sl (Zg n).length (fl plc (Zg n))),I p.f,I p.a,I p.b] []=OK (I (idx n p)):=by
 have hok:=D5 h hp;have hs:=hok.2;have e1:=M6 fu d hf p hok;have e2:=sp_find fu (d+2) hf (Zg n) (by have:=Xv h;omega) (nodes_sorted h) (idx n p) (D6 h hp);rw[idx_at h hp]at e2;have hc:(840:Int)-p.a-p.b=p.c:=by omega
 simp only[plc]at e1 e2;rw[eq_synopticref03_at];simp(disch:=omega)only[QM,QD,hc,e1,e2,List.length_cons,List.length_nil,Nat.zero_add,Nat.reduceAdd]
end Go.Proofs.YtjmempcalaliiaaGreatDoor
/- The reference's cells: what they come to. -/
namespace Go.Proofs.YtjmempcalaliiaaGreatDoor
open Go Go.PM Go.Grid
attribute [local congr] Zy Zz Z0 Yg Z1 Z2 Yh Yi Yj Yk Z3 Z4 Yl Y5 Y6 Y7 Y8 Y9 Xb Xc Xd Xe Xa Z6 Z7 Xf Z8 Z9 Zn Ya Z5
theorem Qo {A B:Type} {body:A->Option (Nat×A)} {fu:Nat} {x:A} {K:Nat×A->Option B} (R:Option B->Prop) (J:A->Prop) (m:A->Nat) (Q:Nat->A->Prop) (hx:J x) (hm:m x<fu)
  (h: ∀y,J y->(∃y',body y=some (0,y')/\J y'/\m y'<m y)\/ ∃e z,body y=some (e+1,z)/\Q e z) (hK: ∀e z,Q e z->R (K (e,z))):R ((iter body fu x).bind K):=by
 obtain⟨e,z,h1,h2⟩:=Ha (body:=body) J m Q h fu x hx hm;rw[h1];exact hK e z h2
theorem sort3_sum (i j k:Nat):(Xk i j k).1+(Xk i j k).2.1+(Xk i j k).2.2=i+j+k:=by
 unfold Xk;split<;>split<;>try split
 all_goals first|rfl|(simp only;omega)|omega
theorem sort3_min (i j k:Nat):(if(k:Int)<(if(j:Int)<i then(j:Int)else i)then(k:Int)else(if(j:Int)<i then(j:Int)else i))=((Xk i j k).1:Int):=by
 unfold Xk
 repeat' split
 all_goals first|(simp only at*;done)|(simp only at*;omega)|omega
theorem sort3_max (i j k:Nat):(if(k:Int)>(if(j:Int)>i then(j:Int)else i)then(k:Int)else(if(j:Int)>i then(j:Int)else i))=((Xk i j k).2.2:Int):=by
 unfold Xk
 repeat' split
 all_goals first|(simp only at*;done)|(simp only at*;omega)|omega
theorem fl_putL {A:Type} {e:A->List C} {m:Nat} (hm: ∀x,(e x).length=m) (L B:List A) (i:Nat):putAt (fl e L) (i*m) (fl e B)=fl e (L.take i++B++L.drop (i+B.length)):=by
 unfold putAt;rw[fl_take hm,Zh hm,<-Nat.add_mul,Fs hm,Hd,Hd]
section
variable (fu d:Nat) (hf:18446744073709551616<=fu)
theorem sp_cell3 (i j k:Nat) (hi:i<=1000000) (hj:j<=1000000) (hk:k<=1000000):cl fu (d+1) fn_synopticref03_cell [I i,I j,I k] []=OK (V.agg (trC (Xk i j k))):=by
 have h1:=sort3_min i j k;have h2:=sort3_max i j k;have h3:=sort3_sum i j k;have e1:IntKind.i64.wrap (IntKind.i64.wrap ((i:Int)+j)+k)=(i:Int)+j+k:=by rw[Uk (x:=(i:Int)+j) (by omega) (by omega),Uk (by omega) (by omega)]
 have e2:(i:Int)+j+k-((Xk i j k).1:Int)-((Xk i j k).2.2:Int)=((Xk i j k).2.1:Int):=by omega
 rw[eq_synopticref03_cell,h1,h2,e1];simp(disch:=omega)only[Zb,QM,QD,e2];rfl
include hf
theorem sp_insert (L:List (Nat×Nat×Nat)) (hL:L.length<=100000) (x:Nat×Nat×Nat): ∃k,k<=L.length/\
  cl fu (d+1) fn_synopticref03_insert [V.own 1000000 0 L.length,V.agg (trC x)] [.sb ty_api_Cell 0 (fl trC L)]=some ⟨V.own 1000001 0 (L.length+1),[.dead, .sb ty_api_Cell 0 (fl trC (L.take k++x::L.drop k))],none⟩:=by
 have hfl:=Zh Ye L;have hz:fl trC L++[C.v (.int .i64 0),C.v (.int .i64 0),C.v (.int .i64 0)]=fl trC (L++[(0,0,0)]):=Ja L (0,0,0);have hflz:(fl trC (L++[(0,0,0)])).length=(L.length+1)*3:=by rw[Zh Ye,List.length_append];rfl
 unfold trC;rw[eq_synopticref03_insert];refine Qo (A:=(Nat×List C)×Int×Unit) (B:=Out) (fu:=fu) (λo=> ∃k,k<=L.length/\o=some ⟨V.own 1000001 0 (L.length+1),[.dead, .sb ty_api_Cell 0 (fl trC (L.take k++x::L.drop k))],none⟩)
  (λy=> ∃k:Nat,k<=L.length/\y=((L.length,fl trC L),(k:Int),())) (λy=>y.2.1.toNat) (λe y=>e=0/\ ∃k:Nat,k<=L.length/\y=((L.length,fl trC L),(k:Int),())) ?_ ?_ ?_ ?_
 ·exact⟨L.length,Nat.le_refl _,rfl⟩
 ·show((L.length:Nat):Int).toNat<fu;omega
 ·rintro y ⟨k,hk,rfl⟩
  cases k with
  |zero=>
   refine .inr ⟨0,_, ?_,rfl,0,hk,rfl⟩;simp(disch:=omega)only[Zb,QM,QD]
  |succ k=>
   have hat:=Jb Ye (l:=L) (k:=k) (by omega);have hk1:((k+1:Nat):Int)-1=(k:Int):=by omega
   have go: ∀{b:Option (Nat×((Nat×List C)×Int×Unit))},b=some (0,((L.length,fl trC L),(k:Int),()))\/b=some (1,((L.length,fl trC L),((k+1:Nat):Int),()))->
     (∃y',b=some (0,y')/\(∃k:Nat,k<=L.length/\y'=((L.length,fl trC L),(k:Int),()))/\y'.2.1.toNat<((k+1:Nat):Int).toNat)\/ ∃e z,b=some (e+1,z)/\e=0/\ ∃k:Nat,k<=L.length/\z=((L.length,fl trC L),(k:Int),()):=by
    intro b hb;rcases hb with rfl|rfl
    ·exact .inl ⟨_,rfl,⟨k,by omega,rfl⟩,by show(k:Int).toNat<_;omega⟩
    ·exact .inr ⟨0,_,rfl,rfl,k+1,hk,rfl⟩
   refine go ?_;have hat1:List.drop (k*3+1) (fl trC L)=C.v (.int .i64 L[k].2.1)::C.v (.int .i64 L[k].2.2)::fl trC (L.drop (k+1)):=by rw[<-List.drop_drop,hat];rfl
   have hat2:List.drop (k*3+2) (fl trC L)=C.v (.int .i64 L[k].2.2)::fl trC (L.drop (k+1)):=by rw[<-List.drop_drop,hat];rfl
   generalize L[k]=t at*
   obtain⟨t1,t2,t3⟩:=t;obtain⟨x1,x2,x3⟩:=x;simp only at hat hat1 hat2⊢;by_cases q1:x1<t1
   ·simp(disch:=omega)only[Zb,QM,QD,hk1,Nat.zero_add,Int.toNat_natCast,hat,hat1,hat2,trC,List.cons_append,List.nil_append];exact .inl trivial
   by_cases q2:x1=t1
   ·by_cases q3:x2<t2
    ·simp(disch:=omega)only[Zb,QM,QD,hk1,Nat.zero_add,Int.toNat_natCast,hat,hat1,hat2,trC,List.cons_append,List.nil_append];exact .inl trivial
    by_cases q4:x2=t2
    ·by_cases q5:x3<t3
     ·simp(disch:=omega)only[Zb,QM,QD,hk1,Nat.zero_add,Int.toNat_natCast,hat,hat1,hat2,trC,List.cons_append,List.nil_append];exact .inl trivial
     ·simp(disch:=omega)only[Zb,QM,QD,hk1,Nat.zero_add,Int.toNat_natCast,hat,hat1,hat2,trC,List.cons_append,List.nil_append];exact .inr trivial
    ·simp(disch:=omega)only[Zb,QM,QD,hk1,Nat.zero_add,Int.toNat_natCast,hat,hat1,hat2,trC,List.cons_append,List.nil_append];exact .inr trivial
   ·simp(disch:=omega)only[Zb,QM,QD,hk1,Nat.zero_add,Int.toNat_natCast,hat,hat1,hat2,trC,List.cons_append,List.nil_append];exact .inr trivial
 ·rintro e z ⟨rfl,k,hk,rfl⟩
  refine⟨k,hk, ?_⟩;have hx1:[C.v (.int .i64 x.1),C.v (.int .i64 x.2.1),C.v (.int .i64 x.2.2)]=fl trC [x]:=by simp[fl,trC]
  have hput:putAt (fl trC (L++[(0,0,0)])) (k*3) (fl trC [x])=fl trC ((L++[(0,0,0)]).take k++[x]++(L++[(0,0,0)]).drop (k+1)):=fl_putL Ye _ [x] k;by_cases hkl:k=L.length
  ·subst hkl;have hres:(L++[(0,0,0)]).take L.length++[x]++(L++[(0,0,0)]).drop (L.length+1)=L.take L.length++x::L.drop L.length:=by simp
   rw[hres]at hput;have hfl2:(fl trC (L.take L.length++x::L.drop L.length)).length=(L.length+1)*3:=by rw[Zh Ye];simp
   have htk:List.take ((L.length+1)*3) (fl trC (L.take L.length++x::L.drop L.length))=fl trC (L.take L.length++x::L.drop L.length):=List.take_of_length_le (by omega);have hmin:Nat.min (L.length+1-L.length) (L.length+1-(L.length+1))=0:=by simp
   have hc1:((L.length:Nat):Int)+1=((L.length+1:Nat):Int):=by omega
   simp(disch:=omega)only[Zb,QM,QD,hfl,hz,hflz,hc1,Int.toNat_natCast,hmin,Nat.zero_add,hx1,hput,hfl2,htk]
  ·have hcp:List.take ((L.length-k)*3) (List.drop (k*3) (fl trC (L++[(0,0,0)])))=fl trC (L.drop k):=by
    rw[Fs Ye,fl_take Ye]
    congr 1
    rw[List.drop_append_of_le_length hk,List.take_append_of_le_length (by simp),List.take_of_length_le (by simp)]
   have hput1:putAt (fl trC (L++[(0,0,0)])) ((k+1)*3) (fl trC (L.drop k))=fl trC ((L++[(0,0,0)]).take (k+1)++L.drop k):=by
    rw[fl_putL Ye,List.length_drop,show List.drop (k+1+(L.length-k)) (L++[((0,0,0):Nat×Nat×Nat)])=[] from List.drop_eq_nil_of_le (by rw[List.length_append,List.length_singleton];omega),List.append_nil]
   have hflc:(fl trC ((L++[(0,0,0)]).take (k+1)++L.drop k)).length=(L.length+1)*3:=by rw[Zh Ye];simp;omega
   have hput2:putAt (fl trC ((L++[(0,0,0)]).take (k+1)++L.drop k)) (k*3) (fl trC [x])=fl trC (L.take k++x::L.drop k):=by
    rw[fl_putL Ye]
    congr 1
    have e1:((L++[(0,0,0)]).take (k+1)++L.drop k).take k=L.take k:=by
     rw[List.take_append_of_le_length (by simp;omega),List.take_take,Nat.min_eq_left (by omega),List.take_append_of_le_length hk]
    have e2:((L++[(0,0,0)]).take (k+1)++L.drop k).drop (k+[x].length)=L.drop k:=by
     rw[List.drop_append,List.drop_eq_nil_of_le (by simp;omega)];simp[Nat.min_eq_left (show k+1<=L.length+1 by omega)]
    rw[e1,e2];simp
   have hfl2:(fl trC (L.take k++x::L.drop k)).length=(L.length+1)*3:=by rw[Zh Ye];simp;omega
   have htk:List.take ((L.length+1)*3) (fl trC (L.take k++x::L.drop k))=fl trC (L.take k++x::L.drop k):=List.take_of_length_le (by omega);obtain⟨q,hq⟩: ∃q,L.length-k=q+1:=⟨L.length-k-1,by omega⟩;have hmin:Nat.min (L.length+1-k) (L.length+1-(k+1))=q+1:=by
    show min _ _=_;omega
   have hc1:((k:Nat):Int)+1=((k+1:Nat):Int):=by omega
   rw[hq]at hcp;simp(disch:=omega)only[Zb,QM,QD,hfl,hz,hflz,hc1,Int.toNat_natCast,hmin,Nat.zero_add,hcp,hput1,hflc,hx1,hput2,hfl2,htk]
end
end Go.Proofs.YtjmempcalaliiaaGreatDoor
/- The reference's cells: the same as the grid's, in another order. -/
namespace Go.Proofs.YtjmempcalaliiaaGreatDoor
open Go Go.PM Go.Grid
attribute [local congr] Zy Zz Z0 Yg Z1 Z2 Yh Yi Yj Yk Z3 Z4 Yl Y5 Y6 Y7 Y8 Y9 Xb Xc Xd Xe Xa Z6 Z7 Xf Z8 Z9 Zn Ya Z5
abbrev T3:=Nat×Nat×Nat
def Mv (K:List T3×T3->Nat) (L:List T3) (x:T3):List T3:=L.take (K (L,x))++x::L.drop (K (L,x))
def Ve (K:List T3×T3->Nat) (l:List T3):List T3:=l.foldl (Mv K) []
theorem Hi (K:List T3×T3->Nat) (l:List T3) (x:T3):Ve K (l++[x])=Mv K (Ve K l) x:=by simp[Ve]
theorem As (K:List T3×T3->Nat) (L:List T3) (x:T3):(Mv K L x).Perm (x::L):=by
 unfold Mv;refine List.perm_middle.trans ?_;rw[List.take_append_drop]
theorem Au (K:List T3×T3->Nat) (l:List T3):(Ve K l).Perm l:=by
 have key: ∀(l acc:List T3),(l.foldl (Mv K) acc).Perm (acc++l):=by
  intro l
  induction l with
  |nil=>intro acc;simp
  |cons x l ih=>
   intro acc;rw[List.foldl_cons];refine(ih _).trans (((As K acc x).append_right l).trans ?_);exact(List.perm_middle (l₁:=acc) (a:=x) (l₂:=l)).symm
 exact key l []
theorem Gr (K:List T3×T3->Nat) (l:List T3):(Ve K l).length=l.length:=(Au K l).length_eq
section
variable (fu d:Nat) (hf:18446744073709551616<=fu)
include hf
theorem sp_atR (n:Nat) (h:Yc n) (f i j:Nat) (hf':f<20) (hij:i+j<=n) (x y:Int) (hx:x=((i*(840/n):Nat):Int)) (hy:y=((j*(840/n):Nat):Int)):
  cl fu (d+5) fn_synopticref03_at [V.c (C.sl (Zg n).length (fl plc (Zg n))),I f,I x,I y] []=OK (I (idx n (pt n f i j))):=by
 subst hx hy;have:=sp_ref_at fu d hf n h (pt n f i j) (Je hf' hij);generalize idx n (pt n f i j)=k at*
 simp only[pt]at this;exact this
set_option maxHeartbeats 8000000 in
theorem sp_ref_Cells (n:Nat) (h:Yc n): ∃L:List T3,L.Perm (tri n)/\cl fu (d+7) fn_synopticref03_Cells [I n] []=OK (V.tup [V.c (C.sl L.length (fl trC L)),I 0]):=by
 have hn:=h;unfold Yc at hn;have hst:=Q4 h;obtain⟨K,hK⟩: ∃K:List T3×T3->Nat,∀p:List T3×T3,p.1.length<=100000->cl fu (d+6) fn_synopticref03_insert [V.own 1000000 0 p.1.length,V.agg (trC p.2)] [.sb ty_api_Cell 0 (fl trC p.1)]=some ⟨V.own 1000001 0 (p.1.length+1),[.dead, .sb ty_api_Cell 0 (fl trC (p.1.take (K p)++p.2::p.1.drop (K p)))],none⟩:=by
  refine Classical.axiomOfChoice (r:=λ(p:List T3×T3) (k:Nat)=>p.1.length<=100000->cl fu (d+6) fn_synopticref03_insert [V.own 1000000 0 p.1.length,V.agg (trC p.2)] [.sb ty_api_Cell 0 (fl trC p.1)]=some ⟨V.own 1000001 0 (p.1.length+1),[.dead, .sb ty_api_Cell 0 (fl trC (p.1.take k++p.2::p.1.drop k))],none⟩) λp=> ?_;by_cases hp:p.1.length<=100000
  ·obtain⟨k,_,hk⟩:=sp_insert fu (d+5) hf p.1 hp p.2;exact⟨k,λ_=>hk⟩
  ·exact⟨0,λh=>absurd h hp⟩
 have hK: ∀L x,L.length<=100000->cl fu (d+6) fn_synopticref03_insert [V.own 1000000 0 L.length,V.agg (trC x)] [.sb ty_api_Cell 0 (fl trC L)]=some ⟨V.own 1000001 0 (L.length+1),[.dead, .sb ty_api_Cell 0 (fl trC (Mv K L x))],none⟩:=λL x hl=>hK (L,x) hl;have hpl: ∀L x,(Mv K L x).length=L.length+1:=λL x=>by rw[(As K L x).length_eq];rfl
 refine⟨Ve K (tri n),Au K (tri n), ?_⟩;have hle: ∀{f a b:Nat},f<=20->a<=9->b<=9->(Ve K (Ui n f a b)).length<=5000:=λh1 h2 h3=>by rw[Gr];exact preC_le hn.2 h1 h2 h3
 have hdv: ∀L:List T3,L.length*3/3=L.length:=λL=>by omega
 have hfl: ∀L:List T3,(fl trC L).length=L.length*3:=λL=>Zh Ye L;have hat:=λf i j hf' hij x y hx hy=>sp_atR fu (d+1) hf n h f i j hf' hij x y hx hy;have hN:=sp_ref_Nodes fu d hf n h;have hNl:=Xv h;have hidx: ∀{f i j:Nat},f<20->i+j<=n->idx n (pt n f i j)<=1000000:=λh1 h2=>by have:=D6 h (Je (n:=n) h1 h2);omega
 rw[eq_synopticref03_Cells,hN,Cb h];generalize (Zg n).length=N at*
 generalize fl plc (Zg n)=nc at*
 simp only[Zb,QM];rw[ibne_f rfl,Hc (show(n:Int)≠0 by omega)];simp only[Zb,QM];rw[Zl (λf:Nat=>(fl trC (Ve K (Ui n f 0 0)),(f:Int),())) 0 (fl trC (Ve K (tri n)),(20:Int),()) 20 ?_ ?_ ?_ (by omega)]
 ·have h1:(Ve K (tri n)).length<=5000:=by rw[Gr];exact Ch h
  have htk:List.take ((Ve K (tri n)).length*3) (fl trC (Ve K (tri n)))=fl trC (Ve K (tri n)):=List.take_of_length_le (by rw[hfl];omega);simp(disch:=omega)only[Zb,QM,QD,hdv,hfl,Nat.zero_add,htk]
 ·rfl
 ·intro f hf';have h1:=hle (f:=f) (a:=0) (b:=0) (by omega) (by omega) (by omega);simp(disch:=omega)only[Zb,QM,QD,hdv,hfl];rw[Zl (λi:Nat=>(fl trC (Ve K (Ui n f i 0)),((i*(840/n):Nat):Int),())) 0 (fl trC (Ve K (Ui n f n 0)),((n*(840/n):Nat):Int),()) n ?_ ?_ ?_ (by omega)]
  ·simp(disch:=omega)only[Zb,QM,QD,hdv,hfl];rw[preC_f];rfl
  ·simp only[Nat.zero_mul];rfl
  ·intro i hi;have h1:=hle (f:=f) (a:=i) (b:=0) (by omega) (by omega) (by omega);have hA:=N9 h (show i+1<=n by omega);have hA1:(i+1)*(840/n)=i*(840/n)+840/n:=Nat.succ_mul _ _;rw[hA1]at hA⊢;simp(disch:=omega)only[Zb,QM,QD,hdv,hfl];rw[Zl (λj:Nat=>(fl trC (Ve K (Ui n f i j)),((j*(840/n):Nat):Int),())) 0 (fl trC (Ve K (Ui n f i (n-i))),(((n-i)*(840/n):Nat):Int),()) (n-i) ?_ ?_ ?_ (by omega)]
   ·simp(disch:=omega)only[Zb,QM,QD,hdv,hfl];rw[preC_a];simp only[Int.natCast_add]
   ·simp only[Nat.zero_mul];rfl
   ·intro j hj;have h1:=hle (f:=f) (a:=i) (b:=j) (by omega) (by omega) (by omega);have hB1:(j+1)*(840/n)=j*(840/n)+840/n:=Nat.succ_mul _ _;have hAB:=N9 h (show i+j+1<=n by omega);have hAB1:(i+j+1)*(840/n)=i*(840/n)+j*(840/n)+840/n:=by rw[Nat.succ_mul,Nat.add_mul]
    rw[hAB1]at hAB;have a1:=hat f (i+1) j hf' (by omega) (((i*(840/n):Nat):Int)+((840/n:Nat):Int)) ((j*(840/n):Nat):Int) (by rw[hA1];omega) rfl;have a2:=hat f i (j+1) hf' (by omega) ((i*(840/n):Nat):Int) (((j*(840/n):Nat):Int)+((840/n:Nat):Int)) rfl (by rw[hB1];omega);have a3:=hat f i j hf' (by omega) ((i*(840/n):Nat):Int) ((j*(840/n):Nat):Int) rfl rfl;have i1:=hidx (f:=f) (i:=i+1) (j:=j) hf' (by omega);have i2:=hidx (f:=f) (i:=i) (j:=j+1) hf' (by omega);have i3:=hidx (f:=f) (i:=i) (j:=j) hf' (by omega);have c1:=sp_cell3 fu (d+5) _ _ _ i1 i2 i3;have n1:=hK (Ve K (Ui n f i j)) (Xk (idx n (pt n f (i+1) j)) (idx n (pt n f i (j+1))) (idx n (pt n f i j))) (by omega);rw[hB1];by_cases hd:i+j+1<n
    ·have hAB2:=N9 h (show i+j+2<=n by omega);have hAB3:(i+j+2)*(840/n)=i*(840/n)+j*(840/n)+840/n+840/n:=by rw[Nat.succ_mul,hAB1]
     rw[hAB3]at hAB2;have a4:=hat f (i+1) (j+1) hf' (by omega) (((i*(840/n):Nat):Int)+((840/n:Nat):Int)) (((j*(840/n):Nat):Int)+((840/n:Nat):Int)) (by rw[hA1];omega) (by rw[hB1];omega);have i4:=hidx (f:=f) (i:=i+1) (j:=j+1) hf' (by omega);have c2:=sp_cell3 fu (d+5) _ _ _ i2 i1 i4;have n2:=hK (Mv K (Ve K (Ui n f i j)) (Xk (idx n (pt n f (i+1) j)) (idx n (pt n f i (j+1))) (idx n (pt n f i j)))) (Xk (idx n (pt n f i (j+1))) (idx n (pt n f (i+1) j)) (idx n (pt n f (i+1) (j+1)))) (by rw[hpl];omega);have hL:Ve K (Ui n f i (j+1))=Mv K (Mv K (Ve K (Ui n f i j)) (Xk (idx n (pt n f (i+1) j)) (idx n (pt n f i (j+1))) (idx n (pt n f i j)))) (Xk (idx n (pt n f i (j+1))) (idx n (pt n f (i+1) j)) (idx n (pt n f (i+1) (j+1)))):=by
      rw[<-preC_b,show Xy n f i j=[tc n (pt n f (i+1) j) (pt n f i (j+1)) (pt n f i j)]++[tc n (pt n f i (j+1)) (pt n f (i+1) j) (pt n f (i+1) (j+1))] by unfold Xy;rw[if_pos hd];rfl,<-List.append_assoc,Hi,Hi];rfl
     rw[hL];generalize idx n (pt n f (i+1) j)=q1 at*
     generalize idx n (pt n f i (j+1))=q2 at*
     generalize idx n (pt n f i j)=q3 at*
     generalize idx n (pt n f (i+1) (j+1))=q4 at*
     generalize Xk q1 q2 q3=t1 at*
     generalize Xk q2 q1 q4=t2 at*
     have l1:=hpl (Ve K (Ui n f i j)) t1;rw[l1]at n2;have l2:=hpl (Mv K (Ve K (Ui n f i j)) t1) t2;generalize Mv K (Mv K (Ve K (Ui n f i j)) t1) t2=L2 at*
     generalize Mv K (Ve K (Ui n f i j)) t1=L1 at*
     generalize Ve K (Ui n f i j)=L0 at*
     generalize i*(840/n)=A at*
     generalize j*(840/n)=B at*
     generalize 840/n=s at*
     obtain⟨t11,t12,t13⟩:=t1;obtain⟨t21,t22,t23⟩:=t2;simp only[trC]at c1 n1 c2 n2;simp(disch:=omega)only[Zb,QM,QD,a1,a2,a3,a4,c1,n1,c2,n2,out1,hdv,hfl,l1,l2,List.length_cons,List.length_nil,Nat.zero_add,Nat.reduceAdd,Int.natCast_add]
    ·have hnn:i+j+1=n:=by omega
     have hL:Ve K (Ui n f i (j+1))=Mv K (Ve K (Ui n f i j)) (Xk (idx n (pt n f (i+1) j)) (idx n (pt n f i (j+1))) (idx n (pt n f i j))):=by
      rw[<-preC_b,show Xy n f i j=[tc n (pt n f (i+1) j) (pt n f i (j+1)) (pt n f i j)] by unfold Xy;rw[if_neg hd],Hi];rfl
     have hAB4:i*(840/n)+j*(840/n)+840/n=840:=by rw[<-hAB1,hnn];exact Sz h
     rw[hL];generalize idx n (pt n f (i+1) j)=q1 at*
     generalize idx n (pt n f i (j+1))=q2 at*
     generalize idx n (pt n f i j)=q3 at*
     generalize Xk q1 q2 q3=t1 at*
     have l1:=hpl (Ve K (Ui n f i j)) t1;generalize Mv K (Ve K (Ui n f i j)) t1=L1 at*
     generalize Ve K (Ui n f i j)=L0 at*
     generalize i*(840/n)=A at*
     generalize j*(840/n)=B at*
     generalize 840/n=s at*
     obtain⟨t11,t12,t13⟩:=t1;simp only[trC]at c1 n1;simp(disch:=omega)only[Zb,QM,QD,a1,a2,a3,c1,n1,out1,hdv,hfl,l1,List.length_cons,List.length_nil,Nat.zero_add,Nat.reduceAdd,Int.natCast_add]
   ·have hend:i*(840/n)+(n-i)*(840/n)=840:=by rw[<-Nat.add_mul,show i+(n-i)=n by omega];exact Sz h
    have h1:=hle (f:=f) (a:=i) (b:=n-i) (by omega) (by omega) (by omega);generalize (n-i)*(840/n)=B at*
    simp(disch:=omega)only[Zb,QM,QD,hdv,hfl]
  ·have h1:=hle (f:=f) (a:=n) (b:=0) (by omega) (by omega) (by omega);have hend:=Sz h;generalize n*(840/n)=B at*
   simp(disch:=omega)only[Zb,QM,QD,hdv,hfl]
 ·have h1:=hle (f:=20) (a:=0) (b:=0) (by omega) (by omega) (by omega);simp(disch:=omega)only[Zb,QM,QD,hdv,hfl];rw[Cd];rfl
end
end Go.Proofs.YtjmempcalaliiaaGreatDoor
/- The reference's neighbours. -/
namespace Go.Proofs.YtjmempcalaliiaaGreatDoor
open Go Go.PM Go.Grid
attribute [local congr] Zy Zz Z0 Yg Z1 Z2 Yh Yi Yj Yk Z3 Z4 Yl Y5 Y6 Y7 Y8 Y9 Xb Xc Xd Xe Xa Z6 Z7 Xf Z8 Z9 Zn Ya Z5
def S4 (z:Int):List Int->List Int
 | []=>[z]
 |y::l=>if y<z then y::S4 z l else if y=z then y::l else z::y::l
theorem Cj {z x:Int}: ∀{l:List Int},x∈S4 z l↔x=z\/x∈l
 | []=>by simp[S4]
 |y::l=>by
  unfold S4;split
  ·rw[List.mem_cons,Cj,List.mem_cons];exact⟨λh=>h.elim (λh=> .inr (.inl h)) λh=>h.elim .inl λh=> .inr (.inr h),λh=>h.elim (λh=> .inr (.inl h)) λh=>h.elim .inl λh=> .inr (.inr h)⟩
  ·split
   ·rename_i h1 h2;subst h2;simp
   ·simp
theorem insU_asc {z:Int}: ∀{l:List Int},l.Pairwise (λa b=>a<b)->(S4 z l).Pairwise (λa b=>a<b)
 | [],h=>by simp[S4]
 |y::l,h=>by
  rw[List.pairwise_cons]at h;unfold S4;split
  ·rename_i h1;rw[List.pairwise_cons];refine⟨λx hx=> ?_,insU_asc h.2⟩;rcases Cj.1 hx with rfl|hx
   ·exact h1
   ·exact h.1 x hx
  ·split
   ·rw[List.pairwise_cons];exact h
   ·rename_i h1 h2;rw[List.pairwise_cons,List.pairwise_cons];refine⟨λx hx=> ?_,h⟩;rcases List.mem_cons.1 hx with rfl|hx
    ·omega
    ·have:=h.1 x hx;omega
theorem Gs (z:Int): ∀l,(S4 z l).length<=l.length+1
 | []=>by simp[S4]
 |y::l=>by
  unfold S4;have:=Gs z l;split
  ·simp;omega
  ·split<;>simp
theorem insU_at (z:Int): ∀l:List Int,∃k,k<=l.length/\(∀j (h:j<l.length),j<k->l[j]<z)/\(∀h:k<l.length,¬l[k]<z)/\((∀h:k<l.length,l[k]≠z)->S4 z l=l.take k++z::l.drop k)/\ ∀h:k<l.length,l[k]=z->S4 z l=l
 | []=>⟨0,by simp,by simp,by simp,by simp[S4],by simp⟩
 |y::l=>by
  obtain⟨k,h1,h2,h3,h4,h5⟩:=insU_at z l;by_cases hy:y<z
  ·refine⟨k+1,by simp;omega,λj hj hjk=> ?_,λh=>h3 (by simp at h;omega),λh=> ?_,λh e=> ?_⟩
   ·cases j with
    |zero=>exact hy
    |succ j=>exact h2 j (by simp at hj;omega) (by omega)
   ·unfold S4;rw[if_pos hy,h4 λh'=>h (by simp;omega)];rfl
   ·unfold S4;rw[if_pos hy,h5 (by simp at h;omega) e]
  ·refine⟨0,by simp,λj hj hjk=>by omega,λ_=>hy,λh=> ?_,λh e=> ?_⟩
   ·have:y≠z:=h (by simp);unfold S4;rw[if_neg hy,if_neg this];rfl
   ·have e:y=z:=e;unfold S4;rw[if_neg hy,if_pos e]
def rC1 (r:List Int):C:=match r with| []=> .nl|_::_=> .sl r.length (ints r)
theorem Vy {R:Type} (r:List Int) (k:Nat->List C->Option R):asSl (rC1 r) k=k r.length (ints r):=by cases r<;>rfl
theorem rC1_ne {r:List Int} (h:r≠[]):rC1 r= .sl r.length (ints r):=by cases r with|nil=>exact absurd rfl h|cons x r=>rfl
theorem Hj (r:List Int) (k:Nat):(ints r).drop k=ints (r.drop k):=(List.map_drop).symm
theorem Hk (r:List Int) (k:Nat):(ints r).take k=ints (r.take k):=(List.map_take).symm
theorem slice_rC1 (r:List Int) (k:Nat) (hk:k<=r.length): ∃c:C,(∀{R:Type} (k':C->Option R),sliceC 1 (some (I k)) none (rC1 r) k'=k' c)/\ ∀{R:Type} (k':Nat->List C->Option R),asSl c k'=k' (r.length-k) (ints (r.drop k)):=by
 cases r with
 |nil=>
  have:k=0:=by simpa using hk
  subst this;exact⟨.nl,λk'=>rfl,λk'=>rfl⟩
 |cons x r=>
  refine⟨.sl ((x::r).length-k) (ints ((x::r).drop k)),λk'=> ?_,λk'=>rfl⟩;have h1:decide ((0:Int)<=(k:Int))=true:=decide_eq_true (by omega);have h2:decide ((k:Int)<=(((x::r).length:Nat):Int))=true:=decide_eq_true (by omega);have h3:((k:Int)).toNat=k:=Int.toNat_natCast k;show bound none (x::r).length (x::r).length (λh=>bound (some (I k)) 0 h λa=>k' (.sl (h-a) (((ints (x::r)).drop (a*1)).take ((h-a)*1))))=_;show need (decide ((0:Int)<=(k:Int))&&decide ((k:Int)<=(((x::r).length:Nat):Int))) (k' (.sl ((x::r).length-(k:Int).toNat) (((ints (x::r)).drop ((k:Int).toNat*1)).take (((x::r).length-(k:Int).toNat)*1))))=_;rw[h1,h2,h3,Nat.mul_one,Nat.mul_one,Hj,List.take_of_length_le (by rw[Zf,List.length_drop];omega)];rfl
theorem Av (R:List (List Int)) {i:Nat} (hi:i<R.length):(R.map rC1).drop i=rC1 (R.getD i [])::(R.map rC1).drop (i+1):=by
 rw[List.drop_eq_getElem_cons (by simpa using hi),List.getElem_map,List.getD_eq_getElem?_getD,List.getElem?_eq_getElem hi];rfl
theorem rows_put (R:List (List Int)) {i:Nat} (hi:i<R.length) (r:List Int):putAt (R.map rC1) i [rC1 r]=(R.set i r).map rC1:=by
 unfold putAt;rw[List.map_set,List.set_eq_take_append_cons_drop,if_pos (by simpa using hi)];simp
theorem reps_nl (N:Nat):reps N [C.nl]=(List.replicate N ([]:List Int)).map rC1:=by
 induction N with
 |zero=>rfl
 |succ N ih=>rw[List.replicate_succ,List.map_cons,<-ih];unfold reps;rw[List.replicate_succ,List.flatten_cons];rfl
def Nf (R:List (List Int)) (p:Nat×Nat):List (List Int):=R.set p.1 (S4 p.2 (R.getD p.1 []))
def prs (t:T3):List (Nat×Nat):=[(t.1,t.2.1),(t.1,t.2.2),(t.2.1,t.2.2),(t.2.1,t.1),(t.2.2,t.1),(t.2.2,t.2.1)]
theorem Mb (R:List (List Int)) (p:Nat×Nat):(Nf R p).length=R.length:=by simp[Nf]
theorem C6 (l:List (Nat×Nat)): ∀R,(l.foldl Nf R).length=R.length:=by
 induction l with
 |nil=>intro R;rfl
 |cons p l ih=>intro R;rw[List.foldl_cons,ih,Mb]
theorem addP_getD (R:List (List Int)) (p:Nat×Nat) (i:Nat):(Nf R p).getD i []=if i=p.1/\i<R.length then S4 p.2 (R.getD i [])else R.getD i []:=by
 unfold Nf;rw[List.getD_eq_getElem?_getD,List.getElem?_set];by_cases h:p.1=i
 ·subst h;by_cases hl:p.1<R.length
  ·simp[hl]
  ·rw[if_pos rfl,if_neg hl,if_neg (λe=>hl e.2),List.getD_eq_getElem?_getD,List.getElem?_eq_none (by omega)]
 ·rw[if_neg h,if_neg (λe=>h e.1.symm),List.getD_eq_getElem?_getD]
theorem addP_same {R:List (List Int)} {p:Nat×Nat} (h:S4 p.2 (R.getD p.1 [])=R.getD p.1 []):Nf R p=R:=by
 unfold Nf;rw[h];by_cases hl:p.1<R.length
 ·rw[List.getD_eq_getElem?_getD,List.getElem?_eq_getElem hl];exact List.set_getElem_self hl
 ·exact List.set_eq_of_length_le (by omega)
theorem addAll_row (l:List (Nat×Nat)): ∀(R:List (List Int)) (i:Nat),(∀r,R.getD i []=r->r.Pairwise (λa b=>a<b))->((l.foldl Nf R).getD i []).Pairwise (λa b=>a<b)/\(i<R.length-> ∀x,x∈(l.foldl Nf R).getD i []↔x∈R.getD i []\/ ∃k:Nat,x=k/\(i,k)∈l)/\((l.foldl Nf R).getD i []).length<=(R.getD i []).length+l.length:=by
 induction l with
 |nil=>intro R i h;exact⟨h _ rfl,λ_ x=>by simp,by simp⟩
 |cons p l ih=>
  intro R i h;rw[List.foldl_cons];have hg:=addP_getD R p i;obtain⟨a1,a2,a3⟩:=ih (Nf R p) i (λr hr=>by
   subst hr;rw[hg];split
   ·exact insU_asc (h _ rfl)
   ·exact h _ rfl)
  refine⟨a1,λhi x=> ?_, ?_⟩
  ·rw[a2 (by rw[Mb];exact hi),hg];by_cases hp:i=p.1
   ·subst hp;rw[if_pos ⟨rfl,hi⟩,Cj];constructor
    ·rintro ((rfl|h1)|⟨k,h1,h2⟩)
     ·exact .inr ⟨p.2,rfl,List.mem_cons_self ..⟩
     ·exact .inl h1
     ·exact .inr ⟨k,h1,List.mem_cons_of_mem _ h2⟩
    ·rintro (h1|⟨k,h1,h2⟩)
     ·exact .inl (.inr h1)
     ·rcases List.mem_cons.1 h2 with h2|h2
      ·have e:k=p.2:=congrArg Prod.snd h2;exact .inl (.inl (h1.trans (by rw[e])))
      ·exact .inr ⟨k,h1,h2⟩
   ·rw[if_neg (λe=>hp e.1)];constructor
    ·rintro (h1|⟨k,h1,h2⟩)
     ·exact .inl h1
     ·exact .inr ⟨k,h1,List.mem_cons_of_mem _ h2⟩
    ·rintro (h1|⟨k,h1,h2⟩)
     ·exact .inl h1
     ·rcases List.mem_cons.1 h2 with h2|h2
      ·subst h2;exact absurd rfl hp
      ·exact .inr ⟨k,h1,h2⟩
  ·rw[hg]at a3;rw[List.length_cons];split at a3
   ·have:=Gs p.2 (R.getD i []);omega
   ·omega
theorem prs_length (L:List T3):(L.flatMap prs).length=L.length*6:=by
 induction L with
 |nil=>rfl
 |cons x L ih=>rw[List.flatMap_cons,List.length_append,ih,List.length_cons];simp only[prs,List.length_cons,List.length_nil];omega
theorem Hl (N i:Nat):(List.replicate N ([]:List Int)).getD i []=[]:=by
 rw[List.getD_eq_getElem?_getD,List.getElem?_replicate];split<;>rfl
theorem R9 {N:Nat} {l:List (Nat×Nat)} (i:Nat):((l.foldl Nf (List.replicate N [])).getD i []).Pairwise (λa b=>a<b)/\(i<N-> ∀x,x∈(l.foldl Nf (List.replicate N [])).getD i []↔ ∃k:Nat,x=k/\(i,k)∈l)/\((l.foldl Nf (List.replicate N [])).getD i []).length<=l.length:=by
 obtain⟨h1,h2,h3⟩:=addAll_row l (List.replicate N []) i (λr hr=>by rw[Hl]at hr;subst hr;exact .nil);refine⟨h1,λhi x=> ?_, ?_⟩
 ·rw[h2 (by simpa using hi),Hl];simp
 ·rw[Hl]at h3;simpa using h3
end Go.Proofs.YtjmempcalaliiaaGreatDoor
/- The reference's neighbours: what the function comes to. -/
namespace Go.Proofs.YtjmempcalaliiaaGreatDoor
open Go Go.PM Go.Grid
attribute [local congr] Zy Zz Z0 Yg Z1 Z2 Yh Yi Yj Yk Z3 Z4 Yl Y5 Y6 Y7 Y8 Y9 Xb Xc Xd Xe Xa Z6 Z7 Xf Z8 Z9 Zn Ya Z5
def Rr (N:Nat) (l:List (Nat×Nat)):List (List Int):=l.foldl Nf (List.replicate N [])
theorem accR_snoc (N:Nat) (l:List (Nat×Nat)) (p:Nat×Nat):Rr N (l++[p])=Nf (Rr N l) p:=by simp[Rr]
theorem Gt (N:Nat) (l:List (Nat×Nat)):(Rr N l).length=N:=by unfold Rr;rw[C6];simp
theorem put2 (a b:C):putAt [C.v (.int .i64 0),C.v (.int .i64 0)] 0 [a,b]=[a,b]:=rfl
theorem ints_at (r:List Int) {m:Nat} (h:m<r.length):(ints r).drop m=C.v (.int .i64 r[m])::ints (r.drop (m+1)):=by
 rw[Hj,List.drop_eq_getElem_cons h];rfl
section
variable (fu d:Nat) (hf:18446744073709551616<=fu)
include hf
set_option maxHeartbeats 8000000 in
theorem C7 (n:Nat) (h:Yc n): ∃L:List T3,L.Perm (tri n)/\cl fu (d+8) fn_synopticref03_around [I n] []=OK (V.c (C.sl (Zg n).length ((Rr (Zg n).length (L.flatMap prs)).map rC1))):=by
 have hn:=h;unfold Yc at hn;obtain⟨L,hp,hC⟩:=sp_ref_Cells fu d hf n h;have hN:=Vv h;have hNl:=Xv h;have hcnt:=Py fu (d+6) n h;rw[<-hN]at hcnt;have hin: ∀t∈L,t.1<(Zg n).length/\t.2.1<(Zg n).length/\t.2.2<(Zg n).length:=λt ht=>tri_in h t (hp.mem_iff.1 ht);have hLl:L.length<=5000:=by rw[hp.length_eq];exact Ch h
 refine⟨L,hp, ?_⟩;generalize (Zg n).length=N at*
 have hR0:(Rr N []).map rC1=reps N [C.nl]:=by rw[reps_nl];rfl
 have hRl:=Gt N;have hrow: ∀l i,((Rr N l).getD i []).length<=l.length:=λl i=>(R9 (N:=N) (l:=l) i).2.2;rw[eq_synopticref03_around,hC];simp(disch:=omega)only[Zb,QM,QD,hcnt,Int.toNat_natCast,Ql,List.length_cons,List.length_nil,Nat.zero_add,Nat.mul_one];rw[Zl (λj:Nat=>((Rr N ((L.take j).flatMap prs)).map rC1,(j:Int),())) 0 ((Rr N (L.flatMap prs)).map rC1,((L.length:Nat):Int),()) L.length ?_ ?_ ?_ (by omega)]
 ·have htk:List.take N ((Rr N (L.flatMap prs)).map rC1)=(Rr N (L.flatMap prs)).map rC1:=List.take_of_length_le (by rw[List.length_map,hRl];exact Nat.le_refl _);simp(disch:=omega)only[Zb,QM,QD,List.length_map,hRl,Nat.div_one,Nat.mul_one,Nat.zero_add,htk]
 ·rw[<-hR0];rfl
 ·intro j hj;have hat:=Jb Ye hj;have hts:=hin L[j] (List.getElem_mem hj);have hnx:(L.take (j+1)).flatMap prs=(L.take j).flatMap prs++prs L[j]:=by rw[List.take_succ_eq_append_getElem hj,List.flatMap_append];simp
  have hl0:((L.take j).flatMap prs).length=j*6:=by rw[prs_length,List.length_take,Nat.min_eq_left (by omega)]
  rw[hnx];generalize (L.take j).flatMap prs=l0 at*
  generalize L[j]=t at*
  obtain⟨x,y,z⟩:=t;simp only[trC]at hat hts;simp(disch:=omega)only[Zb,QM,QD,Int.toNat_natCast,hat,List.cons_append,List.nil_append,List.length_map,hRl,Nat.div_one,Nat.mul_one];rw[Zl (λq:Nat=>((Rr N (l0++(prs (x,y,z)).take q)).map rC1,(q:Int),())) 0 ((Rr N (l0++prs (x,y,z))).map rC1,(6:Int),()) 6 ?_ ?_ ?_ (by omega)]
  ·simp(disch:=omega)only[Zb,QM,QD,List.length_map,hRl,Nat.div_one,Nat.mul_one];rfl
  ·simp only[List.take_zero,List.append_nil];rfl
  ·intro q hq;have hpl:(prs (x,y,z)).length=6:=rfl;have hq':q<(prs (x,y,z)).length:=hq;have hnx2:l0++(prs (x,y,z)).take (q+1)=(l0++(prs (x,y,z)).take q)++[(prs (x,y,z))[q]]:=by rw[List.take_succ_eq_append_getElem hq',List.append_assoc]
   have hl1:(l0++(prs (x,y,z)).take q).length<=30000:=by rw[List.length_append,List.length_take,hl0];omega
   have h12:List.take 2 (List.drop (q*2) [C.v (.int .i64 (x:Int)),C.v (.int .i64 (y:Int)),C.v (.int .i64 (x:Int)),C.v (.int .i64 (z:Int)),C.v (.int .i64 (y:Int)),C.v (.int .i64 (z:Int)),C.v (.int .i64 (y:Int)),C.v (.int .i64 (x:Int)),C.v (.int .i64 (z:Int)),C.v (.int .i64 (x:Int)),C.v (.int .i64 (z:Int)),C.v (.int .i64 (y:Int))])=[C.v (.int .i64 ((prs (x,y,z))[q].1:Int)),C.v (.int .i64 ((prs (x,y,z))[q].2:Int))]:=by
    rcases(show q=0\/q=1\/q=2\/q=3\/q=4\/q=5 by omega)with rfl|rfl|rfl|rfl|rfl|rfl<;>rfl
   have hpin:(prs (x,y,z))[q].1<N:=by
    rcases(show q=0\/q=1\/q=2\/q=3\/q=4\/q=5 by omega)with rfl|rfl|rfl|rfl|rfl|rfl<;>(simp only[prs,List.getElem_cons_zero,List.getElem_cons_succ];omega)
   rw[hnx2,accR_snoc];generalize (prs (x,y,z))[q]=pr at*
   generalize l0++(prs (x,y,z)).take q=l1 at*
   obtain⟨a,b⟩:=pr;simp only at hpin h12;have hrl:=hrow l1 a;have hRN:=hRl l1;generalize Rr N l1=R at*
   have hdr:=Av R (show a<R.length by omega);have hput:=rows_put R (show a<R.length by omega);obtain⟨k,k1,k2,k3,k4,k5⟩:=insU_at (b:Int) (R.getD a []);obtain⟨c,c1,c2⟩:=slice_rC1 (R.getD a []) k k1;have hadd:Nf R (a,b)=R.set a (S4 (b:Int) (R.getD a [])):=rfl;have hsame:=addP_same (R:=R) (p:=(a,b));simp only at hsame;have hal:=Mb R (a,b);generalize R.getD a []=row at*
   simp(disch:=omega)only[Zb,QM,QD,Int.toNat_natCast,List.length_drop,List.length_cons,List.length_nil,Nat.zero_add,Nat.reduceAdd,h12,List.length_map,hRN,Nat.div_one,Nat.mul_one,put2];rw[Zl (λm:Nat=>(R.map rC1,(m:Int),[C.v (.int .i64 (a:Int)),C.v (.int .i64 (b:Int))],())) 0 (R.map rC1,(k:Int),[C.v (.int .i64 (a:Int)),C.v (.int .i64 (b:Int))],()) k ?_ ?_ ?_ (by omega)]
   ·have hnew:S4 (b:Int) row=row.take k++(b:Int)::row.drop k->putAt (R.map rC1) a [C.sl (k+(1+(row.length-k))) (ints (row.take k)++([C.v (.int .i64 (b:Int))]++ints (row.drop k)))]=(Nf R (a,b)).map rC1:=by
     intro e;have e1:(row.take k++(b:Int)::row.drop k).length=k+(1+(row.length-k)):=by rw[List.length_append,List.length_cons,List.length_drop,List.length_take,Nat.min_eq_left k1];omega
     have e2:ints (row.take k++(b:Int)::row.drop k)=ints (row.take k)++([C.v (.int .i64 (b:Int))]++ints (row.drop k)):=by simp[ik]
     rw[hadd,e,<-hput,rC1_ne (by simp),e1,e2]
    have e0:List.drop 1 [C.v (.int .i64 (a:Int)),C.v (.int .i64 (b:Int))]=[C.v (.int .i64 (b:Int))]:=rfl;by_cases hk:k<row.length
    ·have hia:=ints_at row hk;by_cases hb:row[k]=(b:Int)
     ·rw[hsame (k5 hk hb)];simp(disch:=omega)only[Zb,QM,QD,Nat.zero_add,Nat.mul_one,Nat.div_one,Int.toNat_natCast,hdr,Vy,hia,e0,List.length_map,hRN];rfl
     ·have hnew:=hnew (k4 λ_=>hb);have hnl:(putAt (R.map rC1) a [C.sl (k+(1+(row.length-k))) (ints (row.take k)++([C.v (.int .i64 (b:Int))]++ints (row.drop k)))]).length=N:=by rw[hnew,List.length_map,hal,hRN]
      simp(disch:=omega)only[Zb,QM,QD,Nat.zero_add,Nat.mul_one,Nat.div_one,Int.toNat_natCast,hdr,Vy,hia,e0,c1,c2,List.length_map,hRN,Zf,Hk,List.length_append,List.length_cons,List.length_nil,List.length_drop,List.length_take,Nat.min_eq_left,hnl,decide_true];rw[hnew];rfl
    ·have hnew:=hnew (k4 λh=>absurd h hk);have hnl:(putAt (R.map rC1) a [C.sl (k+(1+(row.length-k))) (ints (row.take k)++([C.v (.int .i64 (b:Int))]++ints (row.drop k)))]).length=N:=by rw[hnew,List.length_map,hal,hRN]
     simp(disch:=omega)only[Zb,QM,QD,Nat.zero_add,Nat.mul_one,Nat.div_one,Int.toNat_natCast,hdr,Vy,e0,c1,c2,List.length_map,hRN,Zf,Hk,List.length_append,List.length_cons,List.length_nil,List.length_drop,List.length_take,Nat.min_eq_left,hnl,decide_true];rw[hnew];rfl
   ·rfl
   ·intro m hm;have hml:m<row.length:=by omega
    have hlt:=k2 m hml hm;have hia:=ints_at row hml;have e0:List.drop 1 [C.v (.int .i64 (a:Int)),C.v (.int .i64 (b:Int))]=[C.v (.int .i64 (b:Int))]:=rfl;simp(disch:=omega)only[Zb,QM,QD,Nat.zero_add,Nat.mul_one,Nat.div_one,Int.toNat_natCast,hdr,Vy,hia,e0,List.length_map,hRN];rfl
   ·have e0:List.drop 1 [C.v (.int .i64 (a:Int)),C.v (.int .i64 (b:Int))]=[C.v (.int .i64 (b:Int))]:=rfl;by_cases hk:k<row.length
    ·have hge:=k3 hk;have hia:=ints_at row hk;simp(disch:=omega)only[Zb,QM,QD,Nat.zero_add,Nat.mul_one,Nat.div_one,Int.toNat_natCast,hdr,Vy,hia,e0,List.length_map,hRN]
    ·simp(disch:=omega)only[Zb,QM,QD,Nat.zero_add,Nat.mul_one,Nat.div_one,Int.toNat_natCast,hdr,Vy,e0,List.length_map,hRN]
  ·simp(disch:=omega)only[Zb,QM,QD,List.length_map,hRl,Nat.div_one,Nat.mul_one];rfl
 ·rw[List.take_length];simp(disch:=omega)only[Zb,QM,QD,List.length_map,hRl,Nat.div_one,Nat.mul_one]
end
end Go.Proofs.YtjmempcalaliiaaGreatDoor
/- The reference's edges are the grid's. -/
namespace Go.Proofs.YtjmempcalaliiaaGreatDoor
open Go Go.PM Go.Grid
attribute [local congr] Zy Zz Z0 Yg Z1 Z2 Yh Yi Yj Yk Z3 Z4 Yl Y5 Y6 Y7 Y8 Y9 Xb Xc Xd Xe Xa Z6 Z7 Xf Z8 Z9 Zn Ya Z5
def ltE (a b:Ed):Prop:=a.1<b.1\/a.1=b.1/\a.2<b.2
theorem Ck (a:Ed): ¬ltE a a:=by unfold ltE;omega
theorem ltE_asymm {a b:Ed} (h:ltE a b): ¬ltE b a:=by unfold ltE at*;omega
theorem Ji: ∀{p q:List Ed},p.Pairwise ltE->q.Pairwise ltE->(∀x,x∈p↔x∈q)->p=q
 | [],[],_,_,_=>rfl
 | [],b::q,_,_,h=>by have:=(h b).2 (List.mem_cons_self ..);cases this
 |a::p,[],_,_,h=>by have:=(h a).1 (List.mem_cons_self ..);cases this
 |a::p,b::q,hp,hq,h=>by
  rw[List.pairwise_cons]at hp hq;have e:a=b:=by
   rcases List.mem_cons.1 ((h a).1 (List.mem_cons_self ..))with h1|h1
   ·exact h1
   ·rcases List.mem_cons.1 ((h b).2 (List.mem_cons_self ..))with h2|h2
    ·exact h2.symm
    ·exact absurd (hp.1 b h2) (ltE_asymm (hq.1 a h1))
  subst e;have:p=q:=Ji hp.2 hq.2 λx=>by
   constructor
   ·intro hx;rcases List.mem_cons.1 ((h x).1 (List.mem_cons_of_mem _ hx))with h1|h1
    ·subst h1;exact absurd (hp.1 x hx) (Ck x)
    ·exact h1
   ·intro hx;rcases List.mem_cons.1 ((h x).2 (List.mem_cons_of_mem _ hx))with h1|h1
    ·subst h1;exact absurd (hq.1 x hx) (Ck x)
    ·exact h1
  rw[this]
theorem Cl {α:Type} [Inhabited α] (l:List α) {j:Nat} (hj:j<l.length):l.toArray[j]! =l[j]:=by
 rw[getElem!_pos l.toArray j (by simpa using hj)];simp
theorem Hm {α:Type} [Inhabited α] [DecidableEq α] (l:List α) {j:Nat} (hj:j<l.length):Lib.keeps l.toArray j=true↔j=0\/ ∃h:0<j,l[j]≠l[j-1]:=by
 unfold Lib.keeps;rw[Cl l hj,Cl l (show j-1<l.length by omega)];simp;constructor
 ·rintro (h|h)
  ·exact .inl h
  ·by_cases h0:j=0
   ·exact .inl h0
   ·exact .inr ⟨by omega,h⟩
 ·rintro (h|⟨_,h⟩)
  ·exact .inl h
  ·exact .inr h
theorem compact_all {α:Type} [Inhabited α] [DecidableEq α] (l:List α): ∀(j:Nat) (hj:j<l.length),l[j]∈Lib.compact l:=by
 have key: ∀(j:Nat) (hj:j<l.length),Lib.keeps l.toArray j=true->l[j]∈Lib.compact l:=by
  intro j hj hk;unfold Lib.compact Lib.compactUpTo;rw[<-Cl l hj];exact List.mem_map_of_mem (List.mem_filter.2 ⟨List.mem_range.2 hj,hk⟩)
 intro j
 induction j with
 |zero=>intro hj;exact key 0 hj ((Hm l hj).2 (.inl rfl))
 |succ j ih=>
  intro hj;by_cases e:l[j+1]=l[j]
  ·rw[e];exact ih (by omega)
  ·exact key (j+1) hj ((Hm l hj).2 (.inr ⟨by omega,e⟩))
theorem compact_asc (l:List Ed) (h:l.Pairwise λa b=>leZ a b=true):(Lib.compact l).Pairwise ltE:=by
 unfold Lib.compact Lib.compactUpTo;rw[List.pairwise_map,List.pairwise_filter];refine(List.pairwise_lt_range (n:=l.length)).imp_of_mem λ{a b} ha hb hab ka kb=> ?_;have ha:=List.mem_range.1 ha;have hb:=List.mem_range.1 hb;rw[Cl l ha,Cl l hb];rcases(Hm l hb).1 kb with h0|⟨h0,hne⟩
 ·omega
 have g:=List.pairwise_iff_getElem.1 h;have h1:leZ l[a] l[b-1]=true:=by
  by_cases e:a=b-1
  ·subst e;rw[Tm];exact .inr ⟨rfl,by omega⟩
  ·exact g a (b-1) ha (by omega) (by omega)
 have h2:leZ l[b-1] l[b]=true:=g (b-1) b (by omega) hb (by omega);have h3:l[b]≠l[b-1]:=hne;generalize l[a]=u at*
 generalize l[b]=v at*
 generalize l[b-1]=w at*
 have h4: ¬leZ v w=true:=λe=>h3 (leZ_anti _ _ e h2);rw[Tm]at h1 h2 h4;unfold ltE;omega
theorem edg_asc (n:Nat):(edg n).Pairwise ltE:=compact_asc _ (Mm (λa b=>by rw[Tm,Tm];omega) (λa b c h h'=>by rw[Tm]at h h'⊢;omega) _)
theorem edg_mem (n:Nat) (e:Ed):e∈edg n↔e∈D7 n:=by
 constructor
 ·intro h;exact(Xi leZ _).mem_iff.1 (Gp h)
 ·intro h;have h:=(Xi leZ _).mem_iff.2 h;obtain⟨j,hj,rfl⟩:=List.getElem_of_mem h;exact compact_all _ j hj
theorem rawE_mem (n:Nat) (e:Ed):e∈D7 n↔ ∃t∈tri n,e∈L3 t:=by
 unfold D7;rw[List.mem_flatMap];exact⟨λ⟨t,h,h'⟩=>⟨t,(Xi leT _).mem_iff.1 h,h'⟩,λ⟨t,h,h'⟩=>⟨t,(Xi leT _).mem_iff.2 h,h'⟩⟩
theorem sort3_lt {i j k:Nat} (h1:i≠j) (h2:i≠k) (h3:j≠k):(Xk i j k).1<(Xk i j k).2.1/\(Xk i j k).2.1<(Xk i j k).2.2:=by
 unfold Xk;split<;>split<;>try split
 all_goals first|(simp only;omega)|omega
theorem pt_ne {n f a b a' b':Nat} (h:Yc n) (hne:a≠a'\/b≠b'):pt n f a b≠pt n f a' b':=by
 intro e;have hs:=Q4 h;have e1:a*(840/n)=a'*(840/n):=congrArg Pl.a e;have e2:b*(840/n)=b'*(840/n):=congrArg Pl.b e;rcases hne with hne|hne
 ·exact hne (Nat.eq_of_mul_eq_mul_right (by omega) e1)
 ·exact hne (Nat.eq_of_mul_eq_mul_right (by omega) e2)
theorem tri_lt {n:Nat} (h:Yc n): ∀t∈tri n,t.1<t.2.1/\t.2.1<t.2.2:=by
 intro t ht;unfold tri K9 rowC at ht;simp only[List.mem_flatMap,List.mem_range]at ht;obtain⟨f,hf,a,ha,b,hb,ht⟩:=ht;have hp: ∀i j i' j',i+j<=n->i'+j'<=n->(i≠i'\/j≠j')->idx n (pt n f i j)≠idx n (pt n f i' j'):=λi j i' j' h1 h2 h3 e=>pt_ne h h3 (idx_inj h (Je hf h1) (Je hf h2) rfl e);unfold Xy at ht;rcases List.mem_cons.1 ht with rfl|ht
 ·exact sort3_lt (hp _ _ _ _ (by omega) (by omega) (by omega)) (hp _ _ _ _ (by omega) (by omega) (by omega)) (hp _ _ _ _ (by omega) (by omega) (by omega))
 ·split at ht
  ·obtain rfl:=List.mem_singleton.1 ht;exact sort3_lt (hp _ _ _ _ (by omega) (by omega) (by omega)) (hp _ _ _ _ (by omega) (by omega) (by omega)) (hp _ _ _ _ (by omega) (by omega) (by omega))
  ·cases ht
def rowE (i:Nat) (r:List Int):List Ed:=(r.filter λk=>decide ((i:Int)<k)).map λk=>((i:Int),k)
def edgR (N:Nat) (A:List (List Int)):List Ed:=(List.range N).flatMap λi=>rowE i (A.getD i [])
theorem edgR_eq {n:Nat} (h:Yc n) {L:List T3} (hp:L.Perm (tri n)):edgR (Zg n).length (Rr (Zg n).length (L.flatMap prs))=edg n:=by
 refine Ji ?_ (edg_asc n) λe=> ?_
 ·unfold edgR;refine Qt (Q:=λa b=>a<b) List.pairwise_lt_range (λi _=> ?_) λi _ j _ hij u hu v hv=> ?_
  ·unfold rowE;rw[List.pairwise_map];exact((R9 i).1.filter _).imp λ{a b} h=> .inr ⟨rfl,h⟩
  ·unfold rowE at hu hv;obtain⟨x,_,rfl⟩:=List.mem_map.1 hu;obtain⟨y,_,rfl⟩:=List.mem_map.1 hv;refine .inl ?_;show(i:Int)<(j:Int);omega
 ·rw[edg_mem,rawE_mem];unfold edgR;rw[List.mem_flatMap];constructor
  ·rintro ⟨i,hi,he⟩
   have hi:=List.mem_range.1 hi;unfold rowE at he;obtain⟨k,hk,rfl⟩:=List.mem_map.1 he;obtain⟨h1,h2⟩:=List.mem_filter.1 hk;have h2:=of_decide_eq_true h2;obtain⟨k',rfl,h3⟩:=((R9 i).2.1 hi k).1 h1;obtain⟨t,ht,h4⟩:=List.mem_flatMap.1 h3;have ht:=hp.mem_iff.1 ht;obtain⟨l1,l2⟩:=tri_lt h t ht;refine⟨t,ht, ?_⟩;obtain⟨x,y,z⟩:=t;simp only[prs,L3,List.mem_cons,List.mem_nil_iff,or_false,Prod.mk.injEq]at h4 l1 l2⊢;omega
  ·rintro ⟨t,ht,he⟩
   obtain⟨l1,l2⟩:=tri_lt h t ht;obtain⟨b1,b2,b3⟩:=tri_in h t ht;have hL:=hp.mem_iff.2 ht;have key: ∀i k:Nat,(i,k)∈prs t->i<k->i<(Zg n).length->e=((i:Int),(k:Int))-> ∃a,a∈List.range (Zg n).length/\e∈rowE a ((Rr (Zg n).length (L.flatMap prs)).getD a []):=by
    intro i k hik hlt hi e1;refine⟨i,List.mem_range.2 hi, ?_⟩;unfold rowE;rw[e1];refine List.mem_map.2 ⟨(k:Int),List.mem_filter.2 ⟨((R9 i).2.1 hi _).2 ⟨k,rfl,List.mem_flatMap.2 ⟨t,hL,hik⟩⟩,decide_eq_true (by omega)⟩,rfl⟩
   simp only[L3,List.mem_cons,List.mem_nil_iff,or_false]at he;rcases he with e1|e1|e1
   ·exact key t.1 t.2.1 (by simp[prs]) l1 b1 e1
   ·exact key t.1 t.2.2 (by simp[prs]) (by omega) b1 e1
   ·exact key t.2.1 t.2.2 (by simp[prs]) l2 b2 e1
section
variable (fu d:Nat) (hf:18446744073709551616<=fu)
include hf
set_option maxHeartbeats 4000000 in
theorem Qv (n:Nat) (h:Yc n):cl fu (d+9) fn_synopticref03_Edges [I n] []=OK (V.tup [V.c (C.sl (edg n).length (fl edC (edg n))),I 0]):=by
 obtain⟨L,hp,hA⟩:=C7 fu d hf n h;have hE:=edgR_eq h hp;have heL:=Vd h;have hNl:=Xv h;have hcnt:=Py fu (d+7) n h;have hRl:=Gt (Zg n).length (L.flatMap prs);have hin: ∀i,∀k∈(Rr (Zg n).length (L.flatMap prs)).getD i [],i<(Zg n).length->0<=k/\k<=1000:=by
  intro i k hk hi;obtain⟨k',rfl,h3⟩:=((R9 i).2.1 hi k).1 hk;obtain⟨t,ht,h4⟩:=List.mem_flatMap.1 h3;obtain⟨b1,b2,b3⟩:=tri_in h t (hp.mem_iff.1 ht);obtain⟨x,y,z⟩:=t;simp only[prs,List.mem_cons,List.mem_nil_iff,or_false,Prod.mk.injEq]at h4 b1 b2 b3;omega
 have hrl: ∀i,((Rr (Zg n).length (L.flatMap prs)).getD i []).length<=30000:=λi=>by
  have h1:((Rr (Zg n).length (L.flatMap prs)).getD i []).length<=(L.flatMap prs).length:=(R9 i).2.2;have h2:=Ch h;rw[prs_length,hp.length_eq]at h1;omega
 generalize Rr (Zg n).length (L.flatMap prs)=A at*
 unfold edgR at hE;generalize (Zg n).length=N at*
 have hpre: ∀j,j<=N->((List.range j).flatMap λi=>rowE i (A.getD i [])).length<=15000:=by
  intro j hj;rw[<-hE]at heL;refine Nat.le_trans ?_ heL;obtain⟨m,rfl⟩:=Nat.exists_eq_add_of_le hj;rw[List.range_add,List.flatMap_append,List.length_append];omega
 rw[<-hE];rw[eq_synopticref03_Edges,hcnt];simp only[Zb,QM];rw[Hc count_ne,hA];simp only[Zb,QM];rw[Zl (λj:Nat=>(fl edC ((List.range j).flatMap λi=>rowE i (A.getD i [])),(j:Int),())) 0 (fl edC ((List.range N).flatMap λi=>rowE i (A.getD i [])),(N:Int),()) N ?_ ?_ ?_ (by omega)]
 ·have hl:=Zh Xj ((List.range N).flatMap λi=>rowE i (A.getD i []));generalize (List.range N).flatMap (λi=>rowE i (A.getD i []))=E at*
  have hdv:E.length*2/2=E.length:=by omega
  have htk:List.take (E.length*2) (fl edC E)=fl edC E:=List.take_of_length_le (by omega);simp(disch:=omega)only[Zb,QM,QD,hl,hdv,Nat.zero_add,htk]
 ·rfl
 ·intro j hj;have hdr:=Av A (show j<A.length by omega);have hb:=hpre j (by omega);have hb2:=hpre (j+1) (by omega);have hsu:(List.range (j+1)).flatMap (λi=>rowE i (A.getD i []))=(List.range j).flatMap (λi=>rowE i (A.getD i []))++rowE j (A.getD j []):=by rw[List.range_succ,List.flatMap_append];simp
  rw[hsu]at hb2⊢;have hk:=λk hk=>hin j k hk hj;have hrl:=hrl j;generalize (List.range j).flatMap (λi=>rowE i (A.getD i []))=E0 at*
  generalize A.getD j []=row at*
  have hdv: ∀E:List Ed,E.length*2/2=E.length:=λE=>by omega
  have hl:=λE=>Zh Xj E;have hro: ∀m,m<=row.length->(rowE j (row.take m)).length<=m:=by
   intro m hm;unfold rowE;rw[List.length_map];exact Nat.le_trans (List.length_filter_le ..) (by rw[List.length_take];omega)
  simp(disch:=omega)only[Zb,QM,QD,Vy,Int.toNat_natCast,Nat.mul_one,hdr,hl,hdv];rw[Zl (λm:Nat=>(fl edC (E0++rowE j (row.take m)),(m:Int),())) 0 (fl edC (E0++rowE j row),((row.length:Nat):Int),()) row.length ?_ ?_ ?_ (by omega)]
  ·simp(disch:=omega)only[Zb,QM,QD,hl,hdv];rfl
  ·simp only[List.take_zero,rowE,List.filter_nil,List.map_nil,List.append_nil];rfl
  ·intro m hm;have hia:=ints_at row hm;have hkm:=hk row[m] (List.getElem_mem hm);have hr1:=hro m (by omega);have hr2:=hro (m+1) (by omega);have hst:rowE j (row.take (m+1))=rowE j (row.take m)++(if(j:Int)<row[m]then[((j:Int),row[m])]else[]):=by
    unfold rowE;rw[List.take_succ_eq_append_getElem hm,List.filter_append,List.map_append];by_cases hlt:(j:Int)<row[m]
    ·rw[if_pos hlt];simp[hlt]
    ·rw[if_neg hlt];simp[hlt]
   rw[hst]at hr2⊢;generalize row[m]=v at*
   generalize rowE j (row.take m)=E1 at*
   have hEl:(E0++E1).length<=100000:=by rw[List.length_append];omega
   by_cases hlt:(j:Int)<v
   ·rw[if_pos hlt]at hr2⊢;rw[<-List.append_assoc];have hsn:fl edC (E0++E1)++[C.v (.int .i64 (j:Int)),C.v (.int .i64 v)]=fl edC (E0++E1++[((j:Int),v)]):=Ja (E0++E1) ((j:Int),v);have hsl:(E0++E1++[((j:Int),v)]).length=(E0++E1).length+1:=by rw[List.length_append];rfl
    generalize E0++E1++[((j:Int),v)]=E3 at*
    generalize E0++E1=E2 at*
    simp(disch:=omega)only[Zb,QM,QD,Vy,Int.toNat_natCast,Nat.mul_one,hia,hl,hdv,hsn,hsl];rfl
   ·rw[if_neg hlt,List.append_nil];generalize E0++E1=E2 at*
    simp(disch:=omega)only[Zb,QM,QD,Vy,Int.toNat_natCast,Nat.mul_one,hia,hl,hdv];rfl
  ·rw[List.take_length];simp(disch:=omega)only[Zb,QM,QD,hl,hdv]
 ·have hl:=Zh Xj ((List.range N).flatMap λi=>rowE i (A.getD i []));have hle:=hpre N (by omega);generalize (List.range N).flatMap (λi=>rowE i (A.getD i []))=E at*
  have hdv:E.length*2/2=E.length:=by omega
  simp(disch:=omega)only[Zb,QM,QD,hl,hdv]
end
end Go.Proofs.YtjmempcalaliiaaGreatDoor
/- What reading codes comes to: numbers, vectors, states. -/
namespace Go.Proofs.YtjmempcalaliiaaGreatDoor
open Go Go.PM Go.Grid
attribute [local congr] Zy Zz Z0 Yg Z1 Z2 Yh Yi Yj Yk Z3 Z4 Yl Y5 Y6 Y7 Y8 Y9 Xb Xc Xd Xe Xa Z6 Z7 Xf Z8 Z9 Zn Ya Z5
def bytes (bs:List Int):Prop:=(∀x∈bs,0<=x/\x<=255)/\bs.length<=1000
abbrev Yr (bs:List Int) (i:Nat):PM.Obj:= .ob ty_synopticfield_Codes 0 [C.sl bs.length (ik .u8 bs),C.v (.int .i64 (i:Int))]
def wid (lo hi:Int) (l:List Int):Prop:= ∀v∈l,lo<=v/\v<=hi
theorem wid_snoc {lo hi:Int} {l:List Int} {v:Int} (h:wid lo hi l) (hv:lo<=v/\v<=hi):wid lo hi (l++[v]):=by
 intro x hx;rcases List.mem_append.1 hx with hx|hx
 ·exact h x hx
 ·rw[List.mem_singleton.1 hx];exact hv
theorem wid_at {lo hi:Int} {l:List Int} (h:wid lo hi l) {j:Nat} (hj:j<l.length):lo<=l[j]/\l[j]<=hi:=h _ (List.getElem_mem hj)
theorem ik_at (kd:IntKind) (r:List Int) {m:Nat} (h:m<r.length):(ik kd r).drop m=C.v (.int kd r[m])::ik kd (r.drop (m+1)):=by
 unfold ik;rw[<-List.map_drop,List.drop_eq_getElem_cons h,List.map_cons]
theorem or24 {x y:Nat} (hx:x<16777216) (hy:y<16777216): ∃z:Nat,z<16777216/\IntKind.i64.wrap ((BitVec.ofInt (IntKind.bits .i64) (x:Int)|||BitVec.ofInt (IntKind.bits .i64) (y:Int)).toNat:Int)=(z:Int):=by
 have h1: ∀x:Nat,x<16777216->(BitVec.ofInt (IntKind.bits .i64) (x:Int)).toNat=x:=by
  intro x hx;rw[BitVec.toNat_ofInt];show(((x:Int)%((2^64:Nat):Int))).toNat=x;omega
 have h2:(BitVec.ofInt (IntKind.bits .i64) (x:Int)|||BitVec.ofInt (IntKind.bits .i64) (y:Int)).toNat=x|||y:=by rw[BitVec.toNat_or,h1 x hx,h1 y hy]
 have h3:x|||y<2^24:=Nat.or_lt_two_pow (by omega) (by omega)
 refine⟨x|||y,by omega, ?_⟩;rw[h2,Uk (by omega) (by omega)]
section
variable (fu d:Nat) (hf:18446744073709551616<=fu)
theorem sp_Left (bs:List Int) (i:Nat):cl fu (d+1) fn_synopticfield_Codes_Left [V.ptr 1000000 0] [Yr bs i]=some ⟨B (decide (i<bs.length)),[Yr bs i],none⟩:=by
 unfold Yr;rw[eq_synopticfield_Codes_Left];by_cases h:i<bs.length
 ·rw[decide_eq_true h];simp(disch:=omega)only[Zb,QM,QD]
 ·rw[decide_eq_false h];simp(disch:=omega)only[Zb,QM,QD]
theorem Ue {bs:List Int} (hb:bytes bs) {i:Nat} (hi:i<=1000) (n:Nat) (hn:1<=n/\n<=1000000):
  ∃v j:Nat,v<n/\j<=1000/\cl fu (d+2) fn_synopticfield_Codes_Next [V.ptr 1000000 0,I n] [Yr bs i]=some ⟨I v,[Yr bs j],none⟩:=by
 have hL:=sp_Left fu d bs i;obtain⟨hb,hl⟩:=hb;unfold Yr at hL⊢;rw[eq_synopticfield_Codes_Next,hL];by_cases h:i<bs.length
 ·have hx:=hb bs[i] (List.getElem_mem h);have hia:=ik_at .u8 bs h;have e1:IntKind.i64.wrap bs[i]=bs[i]:=Uk (by omega) (by omega);have e2:Int.tmod bs[i] (n:Int)=bs[i]%(n:Int):=IntWalk.rem_in _ _ hx.1;have e3:(i:Int)+1-1=(i:Int):=by omega
  have h1:0<=bs[i]%(n:Int):=Int.emod_nonneg _ (by omega);have h2:bs[i]%(n:Int)<n:=Int.emod_lt_of_pos _ (by omega);rw[decide_eq_true h];refine⟨(bs[i]%(n:Int)).toNat,i+1,by omega,by omega, ?_⟩;rw[Int.toNat_of_nonneg h1];simp(disch:=omega)only[Zb,QM,QD,List.length_cons,List.length_nil,Nat.zero_add,Nat.reduceAdd,e3,Int.toNat_natCast,Nat.mul_one,hia,e1,e2,Int.natCast_add,Int.natCast_one]
 ·rw[decide_eq_false h];refine⟨0,i,by omega,hi, ?_⟩;simp(disch:=omega)only[Zb,QM,QD,List.length_cons,List.length_nil,Nat.zero_add,Nat.reduceAdd];rfl
theorem sp_Frequency {bs:List Int} (hb:bytes bs) {i:Nat} (hi:i<=1000):
  ∃n j:Nat,(n=1\/n=2)/\j<=1000/\cl fu (d+3) fn_synopticfield_Codes_Frequency [V.ptr 1000000 0] [Yr bs i]=some ⟨I n,[Yr bs j],none⟩:=by
 obtain⟨v,j,hv,hj,e⟩:=Ue fu d hb hi 5 (by omega);unfold Yr at e⊢;rw[eq_synopticfield_Codes_Frequency];replace e:cl fu (d+2) fn_synopticfield_Codes_Next [V.ptr 1000000 0,I 5] _=_:=e;have hdr: ∃n:Nat,(n=1\/n=2)/\ ∃r,List.drop v [C.v (.int .i64 1),C.v (.int .i64 1),C.v (.int .i64 1),C.v (.int .i64 1),C.v (.int .i64 2)]=C.v (.int .i64 (n:Int))::r:=by
  rcases(show v=0\/v=1\/v=2\/v=3\/v=4 by omega)with rfl|rfl|rfl|rfl|rfl
  ·exact⟨1, .inl rfl,_,rfl⟩
  ·exact⟨1, .inl rfl,_,rfl⟩
  ·exact⟨1, .inl rfl,_,rfl⟩
  ·exact⟨1, .inl rfl,_,rfl⟩
  ·exact⟨2, .inr rfl,_,rfl⟩
 obtain⟨n,hn,r,hdr⟩:=hdr;refine⟨n,j,hn,hj, ?_⟩;simp(disch:=omega)only[Zb,QM,QD,e,List.length_cons,List.length_nil,Nat.zero_add,Nat.reduceAdd,Int.toNat_natCast,Nat.mul_one,hdr]
theorem sp_Scheme {bs:List Int} (hb:bytes bs) {i:Nat} (hi:i<=1000):
  ∃a b c j:Nat,(1<=a/\a<=4)/\(1<=b/\b<=4)/\(1<=c/\c<=4)/\j<=1000/\cl fu (d+3) fn_synopticfield_Codes_Scheme [V.ptr 1000000 0] [Yr bs i]=some ⟨V.agg [C.v (.int .i64 (a:Int)),C.v (.int .i64 (b:Int)),C.v (.int .i64 (c:Int))],[Yr bs j],none⟩:=by
 obtain⟨v1,j1,hv1,hj1,e1⟩:=Ue fu d hb hi 4 (by omega);obtain⟨v2,j2,hv2,hj2,e2⟩:=Ue fu d hb hj1 4 (by omega);obtain⟨v3,j3,hv3,hj3,e3⟩:=Ue fu d hb hj2 4 (by omega);unfold Yr at e1 e2 e3⊢;replace e1:cl fu (d+2) fn_synopticfield_Codes_Next [V.ptr 1000000 0,I 4] _=_:=e1;replace e2:cl fu (d+2) fn_synopticfield_Codes_Next [V.ptr 1000000 0,I 4] _=_:=e2;replace e3:cl fu (d+2) fn_synopticfield_Codes_Next [V.ptr 1000000 0,I 4] _=_:=e3;refine⟨1+v1,1+v2,1+v3,j3,by omega,by omega,by omega,hj3, ?_⟩;rw[eq_synopticfield_Codes_Scheme];simp(disch:=omega)only[Zb,QM,QD,e1,e2,e3,List.length_cons,List.length_nil,Nat.zero_add,Nat.reduceAdd,Int.natCast_add,Int.natCast_one]
theorem Mn {bs:List Int} (hb:bytes bs) {i:Nat} (hi:i<=1000) (most:Nat) (hm:most<=10000000000000):
  ∃(v:Int) (j:Nat),(-(most:Int)<=v/\v<=most)/\j<=1000/\cl fu (d+3) fn_synopticfield_Codes_Signed [V.ptr 1000000 0,I most] [Yr bs i]=some ⟨I v,[Yr bs j],none⟩:=by
 obtain⟨v1,j1,hv1,hj1,e1⟩:=Ue fu d hb hi 256 (by omega);obtain⟨v2,j2,hv2,hj2,e2⟩:=Ue fu d hb hj1 256 (by omega);obtain⟨v3,j3,hv3,hj3,e3⟩:=Ue fu d hb hj2 256 (by omega);obtain⟨v4,j4,hv4,hj4,e4⟩:=Ue fu d hb hj3 2 (by omega);unfold Yr at e1 e2 e3 e4⊢;replace e1:cl fu (d+2) fn_synopticfield_Codes_Next [V.ptr 1000000 0,I 256] _=_:=e1;replace e2:cl fu (d+2) fn_synopticfield_Codes_Next [V.ptr 1000000 0,I 256] _=_:=e2;replace e3:cl fu (d+2) fn_synopticfield_Codes_Next [V.ptr 1000000 0,I 256] _=_:=e3;replace e4:cl fu (d+2) fn_synopticfield_Codes_Next [V.ptr 1000000 0,I 2] _=_:=e4;have w1:(v1:Int)*2^16=((v1*65536:Nat):Int):=by omega
 have w2:(v2:Int)*2^8=((v2*256:Nat):Int):=by omega
 obtain⟨z,hz,o1⟩:=or24 (x:=v1*65536) (y:=v2*256) (by omega) (by omega);obtain⟨y,hy,o2⟩:=or24 (x:=z) (y:=v3) hz (by omega);have t1:Int.tmod (y:Int) ((most:Int)+1)=((y%(most+1):Nat):Int):=by
  rw[IntWalk.rem_in _ _ (by omega),Int.natCast_emod,Int.natCast_add];rfl
 have hq:y%(most+1)<=most:=by have:=Nat.mod_lt y (show 0<most+1 by omega);omega
 rw[eq_synopticfield_Codes_Signed];simp(disch:=omega)only[Zb,QM,QD,e1,e2,w1,w2,o1,e3,o2,t1,List.length_cons,List.length_nil,Nat.zero_add,Nat.reduceAdd];generalize y%(most+1)=q at*
 by_cases h4:v4=1
 ·refine⟨0-(q:Int),j4,by omega,hj4, ?_⟩;simp(disch:=omega)only[Zb,QM,QD,e4,List.length_cons,List.length_nil,Nat.zero_add,Nat.reduceAdd]
 ·refine⟨(q:Int),j4,by omega,hj4, ?_⟩;simp(disch:=omega)only[Zb,QM,QD,e4,List.length_cons,List.length_nil,Nat.zero_add,Nat.reduceAdd]
theorem sp_NewC (bs:List Int) (k:Nat):cl fu (d+1) fn_synopticfield_New [V.c (C.sl bs.length (ik .u8 bs)),I (k:Int)] []=some ⟨V.ptr 1000000 0,[Yr (bs.take k) 0],none⟩:=by
 rw[eq_synopticfield_New];unfold Yr;by_cases h:k<bs.length
 ·have e1:(ik .u8 bs).take k=ik .u8 (bs.take k):=List.map_take.symm;simp(disch:=omega)only[Zb,QM,QD,Int.toNat_natCast,Nat.mul_one,e1,List.length_take,Nat.min_eq_left];rfl
 ·rw[show bs.take k=bs from List.take_of_length_le (by omega)];simp(disch:=omega)only[Zb,QM,QD];rfl
end
end Go.Proofs.YtjmempcalaliiaaGreatDoor
/- Vectors and states that are made from codes. -/
namespace Go.Proofs.YtjmempcalaliiaaGreatDoor
open Go Go.PM Go.Grid
attribute [local congr] Zy Zz Z0 Yg Z1 Z2 Yh Yi Yj Yk Z3 Z4 Yl Y5 Y6 Y7 Y8 Y9 Xb Xc Xd Xe Xa Z6 Z7 Xf Z8 Z9 Zn Ya Z5
structure StOk (n:Nat) (dp fw:List Int):Prop where
 dl:dp.length=(Zg n).length
 fl:fw.length=(edg n).length
 dw:wid 0 16777216 dp
 fw:wid (-1000000) 1000000 fw
theorem freq_12 {n:Nat} (h:n=1\/n=2):Yc n:=by unfold Yc;omega
section
variable (fu d:Nat) (hf:18446744073709551616<=fu)
include hf
set_option maxHeartbeats 4000000 in
theorem Aw {bs:List Int} (hb:bytes bs) {i:Nat} (hi:i<=1000) (n most:Nat) (hn:n<=1000000) (hm:most<=10000000000000) (top:Int) (ht:(most:Int)<=top/\9<=top):
  ∃(l:List Int) (j:Nat),l.length=n/\wid (-top) top l/\j<=1000/\cl fu (d+4) fn_synopticfield_Codes_Vector [V.ptr 1000000 0,I n,I most] [Yr bs i]=some ⟨V.c (C.sl l.length (ints l)),[Yr bs j],none⟩:=by
 obtain⟨v1,j1,hv1,hj1,e1⟩:=Mn fu d hb hi most (by omega);obtain⟨v2,j2,hv2,hj2,e2⟩:=Mn fu d hb hj1 most (by omega);obtain⟨v3,j3,hv3,hj3,e3⟩:=Mn fu d hb hj2 most (by omega);obtain⟨v4,j4,hv4,hj4,e4⟩:=Mn fu d hb hj3 9 (by omega);have hN:=λ(i:Nat) (hi:i<=1000)=>Ue fu (d+1) hb hi 7 (by omega);replace e4:cl fu (d+3) fn_synopticfield_Codes_Signed [V.ptr 1000000 0,I 9] _=_:=e4;unfold Yr at*
 rw[eq_synopticfield_Codes_Vector];simp(disch:=omega)only[Zb,QM,QD,e1,e2,e3,e4,List.length_cons,List.length_nil,Nat.zero_add,Nat.reduceAdd];refine Qo (A:=List C×Int×(C×Int×Unit)×Unit) (B:=Out) (fu:=fu) (λo=> ∃(l:List Int) (j:Nat),l.length=n/\wid (-top) top l/\j<=1000/\o=some ⟨V.c (C.sl l.length (ints l)),[Yr bs j],none⟩)
  (λy=> ∃(l:List Int) (j:Nat),l.length<=n/\wid (-top) top l/\j<=1000/\y=(ints l,((l.length:Nat):Int),(C.sl bs.length (ik .u8 bs),(j:Int),()),())) (λy=>(n:Int).toNat-y.2.1.toNat)
  (λe y=>e=0/\ ∃(l:List Int) (j:Nat),l.length=n/\wid (-top) top l/\j<=1000/\y=(ints l,((l.length:Nat):Int),(C.sl bs.length (ik .u8 bs),(j:Int),()),())) ?_ ?_ ?_ ?_
 ·exact⟨[],j4,by simp,(by intro v hv;cases hv),hj4,rfl⟩
 ·show(n:Int).toNat-(0:Int).toNat<fu;omega
 ·rintro y ⟨l,j,hl,hw,hj,rfl⟩
  by_cases hlt:l.length<n
  ·obtain⟨v,k,hv,hk,e5⟩:=hN j hj;replace e5:cl fu (d+3) fn_synopticfield_Codes_Next [V.ptr 1000000 0,I 7] _=_:=e5;have w0:IntKind.i64.wrap (0-(most:Int))=0-(most:Int):=Uk (by omega) (by omega);obtain⟨x,r,hx,hdr⟩: ∃(x:Int) (r:List C),(-top<=x/\x<=top)/\List.drop v [C.v (.int .i64 v1),C.v (.int .i64 v2),C.v (.int .i64 v3),C.v (.int .i64 v4),C.v (.int .i64 0),C.v (.int .i64 (most:Int)),C.v (.int .i64 (0-(most:Int)))]=C.v (.int .i64 x)::r:=by
    rcases(show v=0\/v=1\/v=2\/v=3\/v=4\/v=5\/v=6 by omega)with rfl|rfl|rfl|rfl|rfl|rfl|rfl
    ·exact⟨v1,_,by omega,rfl⟩
    ·exact⟨v2,_,by omega,rfl⟩
    ·exact⟨v3,_,by omega,rfl⟩
    ·exact⟨v4,_,by omega,rfl⟩
    ·exact⟨0,_,by omega,rfl⟩
    ·exact⟨(most:Int),_,by omega,rfl⟩
    ·exact⟨0-(most:Int),_,by omega,rfl⟩
   refine .inl ⟨(ints (l++[x]),(((l++[x]).length:Nat):Int),(C.sl bs.length (ik .u8 bs),(k:Int),()),()), ?_,⟨l++[x],k,by simp;omega,wid_snoc hw hx,hk,rfl⟩, ?_⟩
   ·simp(disch:=omega)only[Zb,QM,QD,e5,List.length_cons,List.length_nil,Nat.zero_add,Nat.reduceAdd,w0,Int.toNat_natCast,Nat.mul_one,hdr,Zf,Nat.div_one,Qu,List.length_append,Int.natCast_add,Int.natCast_one]
   ·show(n:Int).toNat-(((l++[x]).length:Nat):Int).toNat<(n:Int).toNat-((l.length:Nat):Int).toNat;rw[List.length_append,List.length_singleton];omega
  ·refine .inr ⟨0,(ints l,((l.length:Nat):Int),(C.sl bs.length (ik .u8 bs),(j:Int),()),()), ?_,rfl,l,j,by omega,hw,hj,rfl⟩;simp(disch:=omega)only[Zb,QM,QD,Zf,Nat.div_one,Nat.mul_one]
 ·rintro e z ⟨rfl,l,j,hl,hw,hj,rfl⟩
  refine⟨l,j,hl,hw,hj, ?_⟩;have htk:List.take l.length (ints l)=ints l:=List.take_of_length_le (by rw[Zf];exact Nat.le_refl _);simp(disch:=omega)only[Zb,QM,QD,Zf,Nat.div_one,Nat.mul_one,Nat.zero_add,htk]
omit hf in
theorem Pz (n:Nat) (h:Yc n):cl fu (d+1) fn_synopticref22_Nodes [I n] []=OK (I ((Zg n).length:Int)):=by
 rw[Vv h,eq_synopticref22_Nodes];rcases Qn h with rfl|rfl|rfl|rfl|rfl|rfl|rfl|rfl<;>(show @Eq (Option Out) _ _;kernel_rfl)
end
end Go.Proofs.YtjmempcalaliiaaGreatDoor
/- Edges as the program hands them out, checks of states, degrees. -/
namespace Go.Proofs.YtjmempcalaliiaaGreatDoor
open Go Go.PM Go.Grid
attribute [local congr] Zy Zz Z0 Yg Z1 Z2 Yh Yi Yj Yk Z3 Z4 Yl Y5 Y6 Y7 Y8 Y9 Xb Xc Xd Xe Xa Z6 Z7 Xf Z8 Z9 Zn Ya Z5
def at0 (l:List Int) (i:Nat):Int:=l.getD i 0
theorem Ri {l:List Int} {i:Nat} (h:i<l.length):at0 l i=l[i]:=by
 unfold at0;rw[List.getD_eq_getElem?_getD,List.getElem?_eq_getElem h];rfl
theorem Zs (l:List Int) {i:Nat} (h:i<l.length):(ints l).drop i=C.v (.int .i64 (at0 l i))::ints (l.drop (i+1)):=by
 rw[ints_at l h,Ri h]
theorem Qd (l:List Int) {i:Nat} (h:i<l.length) (v:Int):putAt (ints l) i [C.v (.int .i64 v)]=ints (l.set i v):=by
 unfold putAt;rw[List.set_eq_take_append_cons_drop,if_pos h,Hk,Hj];simp[ik]
def Vz (l:List Int) (i:Nat) (v:Int):List Int:=l.set i (at0 l i+v)
theorem U9 (l:List Int) (i:Nat) (v:Int):(Vz l i v).length=l.length:=by simp[Vz]
theorem Jj (l:List Int) (i:Nat) (v:Int) (k:Nat):at0 (Vz l i v) k=at0 l k+if k=i/\i<l.length then v else 0:=by
 unfold Vz at0;rw[List.getD_eq_getElem?_getD,List.getElem?_set];by_cases h:i=k
 ·subst h;by_cases hl:i<l.length
  ·simp[hl,List.getD_eq_getElem?_getD]
  ·rw[if_pos rfl,if_neg hl,if_neg (λe=>hl e.2),List.getD_eq_getElem?_getD,List.getElem?_eq_none (by omega)];rfl
 ·rw[if_neg h,if_neg (λe=>h e.1.symm),List.getD_eq_getElem?_getD];simp
theorem Mo (l:List Int) {i:Nat} (h:i<l.length) (v:Int):putAt (ints l) i [C.v (.int .i64 (at0 l i+v))]=ints (Vz l i v):=Qd l h _
def X7 (lo hi:Int) (l:List Int):Bool:=l.any λv=> !(decide (lo<=v)&&decide (v<=hi))
theorem X9 {lo hi:Int} {l:List Int}:X7 lo hi l=false↔wid lo hi l:=by
 unfold X7 wid;rw[List.any_eq_false];simp
theorem Rs (n:Nat):(edgesL n).length=(edg n).length:=by simp[edgesL]
theorem edgesL_get (n:Nat) {j:Nat} (h':j<(edg n).length):(edgesL n)[j]? =some [I ((j:Nat):Int),V.agg [C.v (.int .i64 (edg n)[j].1),C.v (.int .i64 (edg n)[j].2)]]:=by
 unfold edgesL;rw[List.getElem?_map,List.getElem?_zipIdx,List.getElem?_eq_getElem h'];simp
theorem Ax (n:Nat) {j:Nat} (h:j<(edgesL n).length) (h':j<(edg n).length):(edgesL n)[j]=[I ((j:Nat):Int),V.agg [C.v (.int .i64 (edg n)[j].1),C.v (.int .i64 (edg n)[j].2)]]:=by
 have:=edgesL_get n h';rw[List.getElem?_eq_getElem h]at this;exact Option.some.inj this
theorem edgesL_drop (n:Nat) {j:Nat} (h:j<(edg n).length):(edgesL n).drop j=[I ((j:Nat):Int),V.agg [C.v (.int .i64 (edg n)[j].1),C.v (.int .i64 (edg n)[j].2)]]::(edgesL n).drop (j+1):=by
 rw[List.drop_eq_getElem_cons (by rw[Rs];exact h),Ax n _ h]
section
variable (fu d:Nat) (hf:18446744073709551616<=fu)
theorem Ay (v lo hi:Int):cl fu (d+1) fn_flux_within [I v,I lo,I hi] []=OK (B (decide (lo<=v)&&decide (v<=hi))):=by
 rw[eq_flux_within];by_cases h:lo<=v
 ·simp(disch:=omega)only[Zb,QM,QD]
 ·simp(disch:=omega)only[Zb,QM,QD]
theorem sp_outside_1 (v lo hi:Int):cl fu (d+2) fn_flux_outside_1 [I v,V.c (C.cp [C.v (.int .i64 lo)]),V.c (C.cp [C.v (.int .i64 hi)])] []=OK (B (!(decide (lo<=v)&&decide (v<=hi)))):=by
 have e:=Ay fu d v lo hi;generalize (decide (lo<=v)&&decide (v<=hi))=b at*
 rw[eq_flux_outside_1];simp only[Zb,QM,e]
include hf
theorem Cm (l:List Int) (hl:l.length<=1000000) (lo hi:Int):cl fu (d+5) fn_flux_outside [V.c (C.sl l.length (ints l)),I lo,I hi] []=OK (B (X7 lo hi l)):=by
 have h1:=λv=>sp_outside_1 fu d v lo hi;rw[eq_flux_outside,eq2_slices_ContainsFunc_sint_int,eq2_slices_IndexFunc_sint_int];rcases Qh (λj=> ∃h:j<l.length,(!(decide (lo<=l[j])&&decide (l[j]<=hi)))=true) l.length with hn|⟨k,hk,⟨hk2,hb⟩,hn⟩
 ·have hall:X7 lo hi l=false:=by
   unfold X7;rw[List.any_eq_false];intro v hv;obtain⟨j,hj,rfl⟩:=List.getElem_of_mem hv;exact λe=>hn j hj ⟨hj,e⟩
  rw[hall,Zl (λj:Nat=>((0:Int),(j:Int),())) 0 ((0:Int),((l.length:Nat):Int),()) l.length ?_ ?_ ?_ (by omega)]
  ·simp(disch:=omega)only[Zb,QM,QD]
  ·rfl
  ·intro j hj;have hia:=ints_at l hj;have hv:=hn j hj;have hv:(!(decide (lo<=l[j])&&decide (l[j]<=hi)))=false:=by
    cases e:(!(decide (lo<=l[j])&&decide (l[j]<=hi)))
    ·rfl
    ·exact absurd ⟨hj,e⟩ hv
   have h1:=h1 l[j];rw[hv]at h1;simp(disch:=omega)only[Zb,QM,QD,Int.toNat_natCast,Nat.mul_one,hia,h1];rfl
  ·simp(disch:=omega)only[Zb,QM,QD]
 ·have hall:X7 lo hi l=true:=by
   unfold X7;rw[List.any_eq_true];exact⟨l[k],List.getElem_mem hk2,hb⟩
  rw[hall,Zl (λj:Nat=>((0:Int),(j:Int),())) 1 ((k:Int),(k:Int),()) k ?_ ?_ ?_ (by omega)]
  ·simp(disch:=omega)only[Zb,QM,QD]
  ·rfl
  ·intro j hj;have hjl:j<l.length:=by omega
   have hia:=ints_at l hjl;have hv:=hn j hj;have hv:(!(decide (lo<=l[j])&&decide (l[j]<=hi)))=false:=by
    cases e:(!(decide (lo<=l[j])&&decide (l[j]<=hi)))
    ·rfl
    ·exact absurd ⟨hjl,e⟩ hv
   have h1:=h1 l[j];rw[hv]at h1;simp(disch:=omega)only[Zb,QM,QD,Int.toNat_natCast,Nat.mul_one,hia,h1];rfl
  ·have hia:=ints_at l hk2;have h1:=h1 l[k];rw[hb]at h1;simp(disch:=omega)only[Zb,QM,QD,Int.toNat_natCast,Nat.mul_one,hia,h1]
omit hf in
theorem sp_freq (n:Nat) (h:Yc n):cl fu (d+1) fn_mesh_Frequency [I n] []=OK (B true):=by
 unfold Yc at h;rw[eq_mesh_Frequency];simp(disch:=omega)only[Zb,QM,QD]
omit hf in
theorem Tn (n:Nat) (h:Yc n):cl fu (d+2) fn_grid_Count [I n] []=OK (I ((Zg n).length:Int)):=by
 rw[Vv h,eq_grid_Count,sp_freq fu d n h];simp only[Zb,QM];rcases Qn h with rfl|rfl|rfl|rfl|rfl|rfl|rfl|rfl<;>(show @Eq (Option Out) _ _;kernel_rfl)
theorem Q5 (n:Nat) (h:Yc n):cl fu (d+9) fn_grid_Edges [I n] []=OK (V.tup [V.c (C.sl (edg n).length (fl edC (edg n))),I 0]):=by
 obtain⟨c,e⟩:=sp_Build fu d hf n h;have e0:=sp_freq fu (d+7) n h;generalize edg n=E at*
 generalize (Zg n).length=N at*
 generalize fl plc (Zg n)=nc at*
 generalize esn 0 (Zg n)=es at*
 generalize nxt n=nx at*
 rw[eq_grid_Edges,e0];simp(disch:=omega)only[Zb,QM,QD,e,out0,rP_ptr,List.length_cons,List.length_nil,Nat.zero_add,Nat.reduceAdd]
theorem edges_ok (n:Nat) (h:Yc n) (l:Nat) (go:Nat->Bool) (r:List C): ∃out lg,cl fu (d+10) fn_flux_edges_1 [V.c (C.yl l go (edgesL n)),V.c (C.cp (C.v (.int .i64 (n:Int))::r))] []=some out/\out.log=some lg/\(lg.st=true\/lg.rest=[]):=by
 have e1:=Q5 fu d hf n h;have heL:=Vd h;have hed:=λ{j:Nat} (hj:j<(edg n).length)=>edgesL_drop n hj;have hell:=Rs n;rw[eq_flux_edges_1];simp(disch:=omega)only[Zb,QM,QD,e1];generalize edgesL n=EL at*
 generalize edg n=E at*
 refine Qo (A:=Int×Log×Unit) (B:=Out) (fu:=fu) (λo=> ∃out lg,o=some out/\out.log=some lg/\(lg.st=true\/lg.rest=[]))
  (λs=> ∃i:Nat,i<=E.length/\s=((i:Int),⟨l,go,i,EL.drop i,false⟩,())) (λs=>E.length-s.1.toNat) (λ_ z=>z.2.1.st=true\/z.2.1.rest=[]) ⟨0,by omega,rfl⟩ ?_ ?_ ?_
 ·show E.length-(0:Int).toNat<fu;omega
 ·rintro y ⟨i,hi,rfl⟩
  by_cases hlt:i<E.length
  ·have hd:=hed hlt;have hat:=Jb Xj hlt;cases hg:go i with
   |true=>
    refine .inl ⟨(((i+1:Nat):Int),⟨l,go,i+1,EL.drop (i+1),false⟩,()), ?_,⟨i+1,by omega,rfl⟩, ?_⟩
    ·simp(disch:=omega)only[Zb,QM,QD,Int.toNat_natCast,hat,edC,List.cons_append,List.nil_append,hd,K3,K4,hg,Int.natCast_add,Int.natCast_one]
    ·show E.length-((i+1:Nat):Int).toNat<E.length-(i:Int).toNat;omega
   |false=>
    refine .inr ⟨1,((i:Int),⟨l,go,i+1,EL.drop (i+1),true⟩,()), ?_, .inl rfl⟩;simp(disch:=omega)only[Zb,QM,QD,Int.toNat_natCast,hat,edC,List.cons_append,List.nil_append,hd,K3,K4,hg]
  ·refine .inr ⟨0,((i:Int),⟨l,go,i,EL.drop i,false⟩,()), ?_, .inr ?_⟩
   ·simp(disch:=omega)only[Zb,QM,QD]
   ·show EL.drop i=[];rw[List.drop_eq_nil_iff];omega
 ·rintro e z hz
  refine⟨⟨V.tup [],[],some z.2.1⟩,z.2.1, ?_,rfl,hz⟩;cases e<;>rfl
omit hf in
theorem prim_edges (n:Nat) (h:Yc n):prim.iter (d+10) fn_flux_edges_1 [C.cp [C.v (.int .i64 (n:Int))]]=some (edgesL n):=by
 show(bif Nat.ble 10 (d+10)then iterC fn_flux_edges_1 [C.cp [C.v (.int .i64 (n:Int))]]else none)=_;unfold Yc at h;rw[show Nat.ble 10 (d+10)=true from Nat.ble_eq_true_of_le (by omega)];show need (decide (1<=(n:Int))&&decide ((n:Int)<=8)) (some (edgesL (n:Int).toNat))=_;rw[decide_eq_true (show 1<=(n:Int) by omega),decide_eq_true (show(n:Int)<=8 by omega),Int.toNat_natCast];rfl
end
end Go.Proofs.YtjmempcalaliiaaGreatDoor
/- Degrees, amounts, moves. -/
namespace Go.Proofs.YtjmempcalaliiaaGreatDoor
open Go Go.PM Go.Grid
attribute [local congr] Zy Zz Z0 Yg Z1 Z2 Yh Yi Yj Yk Z3 Z4 Yl Y5 Y6 Y7 Y8 Y9 Xb Xc Xd Xe Xa Z6 Z7 Xf Z8 Z9 Zn Ya Z5
def mv1 (l:List Int) (e:Int×Int) (u v:Int):List Int:=Vz (Vz l e.1.toNat u) e.2.toNat v
def X5 (N:Nat) (E:List (Int×Int)):List Int:=E.foldl (λl e=>mv1 l e 1 1) (List.replicate N 0)
def movS (l:List Int) (P:List ((Int×Int)×Int)):List Int:=P.foldl (λl p=>mv1 l p.1 (-p.2) p.2) l
theorem L5 (l:List Int) (e:Int×Int) (u v:Int):(mv1 l e u v).length=l.length:=by unfold mv1;rw[U9,U9]
theorem Az (N:Nat) (E:List (Int×Int)) (e:Int×Int):X5 N (E++[e])=mv1 (X5 N E) e 1 1:=by simp[X5]
theorem movS_length (P:List ((Int×Int)×Int)): ∀l,(movS l P).length=l.length:=by
 induction P with
 |nil=>intro l;rfl
 |cons p P ih=>intro l;show(movS (mv1 l p.1 (-p.2) p.2) P).length=_;rw[ih,L5]
theorem mv1_at (l:List Int) (e:Int×Int) (u v:Int) (k:Nat):at0 (mv1 l e u v) k=at0 l k+(if k=e.1.toNat/\k<l.length then u else 0)+if k=e.2.toNat/\k<l.length then v else 0:=by
 unfold mv1;rw[Jj,Jj,U9]
 congr 1
 ·congr 1
  by_cases h:k=e.1.toNat
  ·subst h;rfl
  ·rw[if_neg (λq=>h q.1),if_neg (λq=>h q.1)]
 ·by_cases h:k=e.2.toNat
  ·subst h;rfl
  ·rw[if_neg (λq=>h q.1),if_neg (λq=>h q.1)]
theorem at0_rep (N:Nat) (i:Nat):at0 (List.replicate N 0) i=0:=by
 unfold at0;rw[List.getD_eq_getElem?_getD,List.getElem?_replicate];split<;>rfl
theorem Rj (N:Nat) (E:List (Int×Int)):(X5 N E).length=N:=by
 have key: ∀(E:List (Int×Int)) (l:List Int),(E.foldl (λl e=>mv1 l e 1 1) l).length=l.length:=by
  intro E
  induction E with
  |nil=>intro l;rfl
  |cons e E ih=>intro l;rw[List.foldl_cons,ih,L5]
 unfold X5;rw[key];simp
theorem deg_step (E:List (Int×Int)): ∀(l:List Int) (k:Nat),at0 l k<=at0 (E.foldl (λl e=>mv1 l e 1 1) l) k/\at0 (E.foldl (λl e=>mv1 l e 1 1) l) k<=at0 l k+2*E.length/\((∃e∈E,k=e.1.toNat\/k=e.2.toNat)->k<l.length->at0 l k+1<=at0 (E.foldl (λl e=>mv1 l e 1 1) l) k):=by
 induction E with
 |nil=>intro l k;exact⟨Int.le_refl _,by simp,λ⟨e,he,_⟩=>by cases he⟩
 |cons e E ih=>
  intro l k;rw[List.foldl_cons];obtain⟨h1,h2,h3⟩:=ih (mv1 l e 1 1) k;have hm:=mv1_at l e 1 1 k;rw[List.length_cons];refine⟨?_, ?_, ?_⟩
  ·split at hm<;>split at hm<;>omega
  ·split at hm<;>split at hm<;>omega
  ·rintro ⟨e',he,hk⟩ hlt
   rcases List.mem_cons.1 he with rfl|he
   ·rcases hk with hk|hk
    ·rw[if_pos ⟨hk,hlt⟩]at hm;split at hm<;>omega
    ·rw[if_pos (c:=k=e'.2.toNat/\k<l.length) ⟨hk,hlt⟩]at hm;split at hm<;>omega
   ·have:=h3 ⟨e',he,hk⟩ (by rw[L5];exact hlt);split at hm<;>split at hm<;>omega
theorem degS_le (N:Nat) (E:List (Int×Int)) (k:Nat):0<=at0 (X5 N E) k/\at0 (X5 N E) k<=2*E.length:=by
 obtain⟨h1,h2,_⟩:=deg_step E (List.replicate N 0) k;rw[at0_rep]at h1 h2;exact⟨h1,by unfold X5;omega⟩
theorem degS_pos {N:Nat} {E:List (Int×Int)} {k:Nat} (h: ∃e∈E,k=e.1.toNat\/k=e.2.toNat) (hk:k<N):1<=at0 (X5 N E) k:=by
 obtain⟨_,_,h3⟩:=deg_step E (List.replicate N 0) k;have:=h3 h (by simpa using hk);rw[at0_rep]at this;unfold X5;omega
section
variable (fu d:Nat) (hf:18446744073709551616<=fu)
theorem sp_Degrees (n:Nat) (h:Yc n):cl fu (d+11) fn_flux_Degrees [I n] []=OK (V.tup [V.c (C.sl (Zg n).length (ints (X5 (Zg n).length (edg n)))),I 0]):=by
 have hn:=h;unfold Yc at hn;have hNl:=Xv h;have heL:=Vd h;have e1:=Ay fu (d+9) (n:Int) 1 8;rw[decide_eq_true (show 1<=(n:Int) by omega),decide_eq_true (show(n:Int)<=8 by omega)]at e1;have e2:=Tn fu (d+8) n h;have e3:=prim_edges d n h;have e4:=eq_flux_edges fu (d+9) (n:Int);have hel:=Rs n;have hea:=λ{j:Nat} (h1:j<(edgesL n).length) (h2:j<(edg n).length)=>Ax n h1 h2;have hin:=Hh h;generalize edgesL n=EL at*
 generalize edg n=E at*
 generalize (Zg n).length=N at*
 have hr0:reps N [C.v (.int .i64 0)]=ints (X5 N []):=by
  unfold X5 reps;simp[ik]
 have hdl:=Rj N;rw[eq_flux_Degrees];simp(disch:=omega)only[Zb,QM,QD,e1,e2,e4,Int.toNat_natCast,Nat.mul_one,hr0,Zf,hdl];rw[show prim.iter (d+10) fn_flux_edges_1 [C.cp [C.v (.int .i64 (n:Int))]]=some EL from e3];simp(disch:=omega)only[Zb,QM,QD,Int.toNat_natCast,Nat.mul_one,hr0,Zf,hdl];have hov:=overK_run (body:=(λit (y:(List C×Unit)×Unit)=>
    uncV it λx r=>
    rC x λc3=>
    asI .i64 c3 λi1=>
    uncV r λx1 r1=>
    rA x1 λcs1=>
    need (Nat.beq cs1.length 2)<|
    unc cs1 λc4 r2=>
    asI .i64 c4 λi2=>
    unc r2 λc5 _=>
    asI .i64 c5 λi3=>
    nilV r1<|
    need (inR i2 (y.1.1.length/1))<|
    unc (List.drop (0+(i2.toNat*1)) y.1.1) λc6 _=>
    asI .i64 c6 λi4=>
    need (inR i2 (y.1.1.length/1))<|
    need (((Nat.ble 0 (0+(i2.toNat*1)))&&(Nat.ble ((0+(i2.toNat*1))+1) y.1.1.length))&&true)<|
    need (inR i3 (y.1.1.length/1))<|
    unc (List.drop (0+(i3.toNat*1)) (putAt y.1.1 (0+(i2.toNat*1)) ([C.v (.int .i64 (IntKind.i64.wrap (i4+1)))]))) λc7 _=>
    asI .i64 c7 λi5=>
    need (inR i3 (y.1.1.length/1))<|
    need (((Nat.ble 0 (0+(i3.toNat*1)))&&(Nat.ble ((0+(i3.toNat*1))+1) ((putAt y.1.1 (0+(i2.toNat*1)) ([C.v (.int .i64 (IntKind.i64.wrap (i4+1)))])).length)))&&true)<|
    bd (putAt (putAt y.1.1 (0+(i2.toNat*1)) ([C.v (.int .i64 (IntKind.i64.wrap (i4+1)))])) (0+(i3.toNat*1)) ([C.v (.int .i64 (IntKind.i64.wrap (i5+1)))])) λcs2=>
    need (((Nat.beq ((y.1.1.length/1)*1) cs2.length)&&true)&&true)<|
    some (0,((cs2,()),())))) EL (λj:Nat=>((ints (X5 N (E.take j)),()),())) (by
   intro j hj;have hj':j<E.length:=by omega
   have hia:=hea hj hj';have hin:=hin E[j] (List.getElem_mem hj');have hst:X5 N (E.take (j+1))=mv1 (X5 N (E.take j)) E[j] 1 1:=by rw[List.take_succ_eq_append_getElem hj',Az]
   have hbd:=degS_le N (E.take j);have htl:(E.take j).length<=15000:=by rw[List.length_take];omega
   have hD:=hdl (E.take j);rw[hia,hst];generalize X5 N (E.take j)=D at*
   generalize E[j]=e at*
   obtain⟨ea,eb⟩:=e;simp only at hin⊢;obtain⟨x,rfl⟩: ∃x:Nat,ea=x:=⟨ea.toNat,by omega⟩;obtain⟨y,rfl⟩: ∃y:Nat,eb=y:=⟨eb.toNat,by omega⟩;have d1:=Zs D (i:=x) (by omega);have b1:=hbd x;have p1:=Mo D (i:=x) (by omega) 1;have hB:=U9 D x 1;have hBa:=Jj D x 1 y;have hm:mv1 D ((x:Int),(y:Int)) 1 1=Vz (Vz D x 1) y 1:=by unfold mv1;rw[Int.toNat_natCast,Int.toNat_natCast]
   rw[hm];have b2:0<=at0 (Vz D x 1) y/\at0 (Vz D x 1) y<=40000:=by
    have:=hbd y;split at hBa<;>omega
   generalize Vz D x 1=D1 at*
   have d2:=Zs D1 (i:=y) (by omega);have p2:=Mo D1 (i:=y) (by omega) 1;have hB2:=U9 D1 y 1;generalize Vz D1 y 1=D2 at*
   simp(disch:=omega)only[Zb,QM,QD,List.length_cons,List.length_nil,Nat.zero_add,Nat.reduceAdd,Int.toNat_natCast,Nat.mul_one,Nat.div_one,Zf,hD,d1,p1,hB,d2,p2,hB2])
 rw[hel,List.take_length]at hov;rw[show overK _ EL ((ints (X5 N []),()),())=_ from hov];have htk:List.take N (ints (X5 N E))=ints (X5 N E):=List.take_of_length_le (by rw[Zf,hdl];exact Nat.le_refl _);simp(disch:=omega)only[Zb,QM,QD,Nat.zero_add,Nat.mul_one,Nat.div_one,Zf,hdl,htk]
end
end Go.Proofs.YtjmempcalaliiaaGreatDoor
/- Amounts over edges, and what moving them comes to. -/
namespace Go.Proofs.YtjmempcalaliiaaGreatDoor
open Go Go.PM Go.Grid
attribute [local congr] Zy Zz Z0 Yg Z1 Z2 Yh Yi Yj Yk Z3 Z4 Yl Y5 Y6 Y7 Y8 Y9 Xb Xc Xd Xe Xa Z6 Z7 Xf Z8 Z9 Zn Ya Z5
def lim (dp dg:List Int) (k:Int):Int:=Int.tdiv (at0 dp k.toNat) (at0 dg k.toNat)
def shr (w:Int) (s:Nat):Int:=Int.fdiv w (2^s)
def amt (w p q:Int):Int:=if w>p then p else if w< -q then -q else w
def amE (dp dg fw:List Int) (s:Nat) (E:List (Int×Int)) (j:Nat):Int:=amt (shr (at0 fw j) s) (lim dp dg (E.getD j (0,0)).1) (lim dp dg (E.getD j (0,0)).2)
def amL (dp dg fw:List Int) (s:Nat) (E:List (Int×Int)) (k:Nat):List Int:=(List.range k).map (amE dp dg fw s E)
theorem getD_get (E:List (Int×Int)) {j:Nat} (h:j<E.length):E.getD j (0,0)=E[j]:=by
 rw[List.getD_eq_getElem?_getD,List.getElem?_eq_getElem h];rfl
theorem wid_at0 {lo hi:Int} {l:List Int} (h:wid lo hi l) (h0:lo<=0/\0<=hi) (k:Nat):lo<=at0 l k/\at0 l k<=hi:=by
 by_cases hk:k<l.length
 ·rw[Ri hk];exact wid_at h hk
 ·unfold at0;rw[List.getD_eq_getElem?_getD,List.getElem?_eq_none (by omega)];exact h0
section
variable (fu d:Nat) (hf:18446744073709551616<=fu)
include hf
theorem Cn (a b c:Nat) (ha:1<=a/\a<=4) (hb:1<=b/\b<=4) (hc:1<=c/\c<=4):cl fu (d+6) fn_flux_CheckScheme [V.agg [C.v (.int .i64 (a:Int)),C.v (.int .i64 (b:Int)),C.v (.int .i64 (c:Int))]] []=OK (I 0):=by
 have e:=Cm fu d hf [(a:Int),(b:Int),(c:Int)] (by simp) 1 4;rw[X9.2 (by intro v hv;simp only[List.mem_cons,List.mem_nil_iff,or_false]at hv;omega)]at e;replace e:cl fu (d+5) fn_flux_outside [V.c (C.sl 3 [C.v (.int .i64 (a:Int)),C.v (.int .i64 (b:Int)),C.v (.int .i64 (c:Int))]),I 1,I 4] []=OK (B false):=e;rw[eq_flux_CheckScheme];simp only[Zb,QM,e]
omit hf in
theorem sp_Clone (l:List Int) (h0:0<l.length) (hl:l.length<=1000000):cl fu (d+1) fn_slices_Clone_sint_int [V.c (C.sl l.length (ints l))] []=some ⟨V.own 1000000 0 l.length,[.sb ty_int 0 (ints l)],none⟩:=by
 have hb:Nat.beq l.length 0=false:=by
  cases e:Nat.beq l.length 0
  ·rfl
  ·have:=Nat.eq_of_beq_eq_true e;omega
 have htk:List.take l.length (ints l)=ints l:=List.take_of_length_le (by rw[Zf];exact Nat.le_refl _);rw[eq_slices_Clone_sint_int,hb];simp(disch:=omega)only[Zb,QM,QD,Zf,Nat.mul_one,Nat.zero_add,htk]
end
end Go.Proofs.YtjmempcalaliiaaGreatDoor
/- What is moved and moved back; masses; lists that are compared. -/
namespace Go.Proofs.YtjmempcalaliiaaGreatDoor
open Go Go.PM Go.Grid
attribute [local congr] Zy Zz Z0 Yg Z1 Z2 Yh Yi Yj Yk Z3 Z4 Yl Y5 Y6 Y7 Y8 Y9 Xb Xc Xd Xe Xa Z6 Z7 Xf Z8 Z9 Zn Ya Z5
theorem ext_at0 {l m:List Int} (hl:l.length=m.length) (h: ∀k,k<l.length->at0 l k=at0 m k):l=m:=by
 refine List.ext_getElem hl λk h1 h2=> ?_;rw[<-Ri h1,<-Ri h2];exact h k h1
def isL (c:C) (l:List Int):Prop:=nrm c=C.sl l.length (ints l)/\ ∀{R:Type} (k:Nat->List C->Option R),asSl c k=k l.length (ints l)
theorem Qa (l:List Int):isL (C.sl l.length (ints l)) l:=⟨by rw[nrm_sl],λk=>by rw[asSl_sl]⟩
theorem Te:isL C.nl []:=⟨by rw[nrm_nl];rfl,λk=>by rw[asSl_nl];rfl⟩
section
variable (fu d:Nat) (hf:18446744073709551616<=fu)
include hf
theorem sp_Ints (a b:List Int) (ha:a.length<=1000000) (hb:b.length<=1000000):cl fu (d+1) fn_synopticref25_Ints [V.c (C.sl a.length (ints a)),V.c (C.sl b.length (ints b))] []=OK (B (decide (a=b))):=by
 rw[eq_synopticref25_Ints];by_cases hl:a.length=b.length
 ·rcases Qh (λj=>at0 a j≠at0 b j) a.length with hn|⟨k,hk,hne,hlt⟩
  ·rw[decide_eq_true (ext_at0 hl λk hk=>Classical.not_not.1 (hn k hk))];simp(disch:=omega)only[Zb,QM,QD];rw[Zl (λj:Nat=>(false,((j:Nat):Int),())) 0 (false,((a.length:Nat):Int),()) a.length ?_ ?_ ?_ (by omega)]
   ·simp(disch:=omega)only[Zb,QM,QD]
   ·rfl
   ·intro j hj;have e1:=Zs a hj;have e2:=Zs b (i:=j) (by omega);have e3:=Classical.not_not.1 (hn j hj);rw[<-e3]at e2;simp(disch:=omega)only[Zb,QM,QD,Int.toNat_natCast,Nat.mul_one,e1,e2];rfl
   ·simp(disch:=omega)only[Zb,QM,QD]
  ·rw[decide_eq_false (λe:a=b=>hne (by rw[e]))];simp(disch:=omega)only[Zb,QM,QD];rw[Zl (λj:Nat=>(false,((j:Nat):Int),())) 1 (false,((k:Nat):Int),()) k ?_ ?_ ?_ (by omega)]
   ·simp(disch:=omega)only[Zb,QM,QD]
   ·rfl
   ·intro j hj;have e1:=Zs a (i:=j) (by omega);have e2:=Zs b (i:=j) (by omega);have e3:=Classical.not_not.1 (hlt j hj);rw[<-e3]at e2;simp(disch:=omega)only[Zb,QM,QD,Int.toNat_natCast,Nat.mul_one,e1,e2];rfl
   ·have e1:=Zs a (i:=k) (by omega);have e2:=Zs b (i:=k) (by omega);simp(disch:=omega)only[Zb,QM,QD,Int.toNat_natCast,Nat.mul_one,e1,e2]
 ·rw[decide_eq_false (λe:a=b=>hl (by rw[e]))];simp(disch:=omega)only[Zb,QM,QD]
end
end Go.Proofs.YtjmempcalaliiaaGreatDoor
/- Amounts, neighbours: what laws of several chapters lean on. -/
namespace Go.Proofs.YtjmempcalaliiaaGreatDoor
open Go Go.PM Go.Grid
attribute [local congr] Zy Zz Z0 Yg Z1 Z2 Yh Yi Yj Yk Z3 Z4 Yl Y5 Y6 Y7 Y8 Y9 Xb Xc Xd Xe Xa Z6 Z7 Xf Z8 Z9 Zn Ya Z5
theorem bytes_take {l:List Int} (h: ∀x∈l,0<=x/\x<=255) {k:Nat} (hk:k<=1000):bytes (l.take k):=⟨λx hx=>h x (List.mem_of_mem_take hx),by rw[List.length_take];omega⟩
def rs (dp:List Int) (r:List Int):Int:=(r.map λk=>at0 dp k.toNat).sum
theorem edg_pos {n:Nat} (h:Yc n):0<(edg n).length:=by
 have hm:tc n (pt n 0 1 0) (pt n 0 0 1) (pt n 0 0 0)∈tri n:=by
  have hn:=h;unfold Yc at hn;unfold tri K9 rowC Xy;simp only[List.mem_flatMap,List.mem_range];exact⟨0,by omega,0,by omega,0,by omega,List.mem_cons_self ..⟩
 exact List.length_pos_of_mem ((edg_mem n _).2 ((rawE_mem n _).2 ⟨_,hm,List.mem_cons_self ..⟩))
structure Vst (n:Nat) (dp fw:List Int):Prop where
 dl:dp.length=(Zg n).length
 fl:fw.length=(edg n).length
 dw:wid 0 16777216 dp
 fw:wid (-16777216) 16777216 fw
theorem deg_pos {n:Nat} (h:Yc n): ∀e∈edg n,1<=at0 (X5 (Zg n).length (edg n)) e.1.toNat/\1<=at0 (X5 (Zg n).length (edg n)) e.2.toNat:=λe he=>by
 have:=Hh h e he;exact⟨degS_pos ⟨e,he, .inl rfl⟩ (by omega),degS_pos ⟨e,he, .inr rfl⟩ (by omega)⟩
theorem outB_t {lo hi:Int} {l:List Int} {k:Nat} (hk:k<l.length) (h: ¬(lo<=at0 l k/\at0 l k<=hi)):X7 lo hi l=true:=by
 cases e:X7 lo hi l with
 |true=>rfl
 |false=>
  rw[Ri hk]at h;exact absurd (X9.1 e _ (List.getElem_mem hk)) h
theorem wid_all {lo hi:Int} {l:List Int} (h: ∀k,k<l.length->lo<=at0 l k/\at0 l k<=hi):wid lo hi l:=λv hv=>by
 obtain⟨k,hk,rfl⟩:=List.mem_iff_getElem.1 hv;rw[<-Ri hk];exact h k hk
theorem L6 {n:Nat} (h:Yc n):0<(Zg n).length:=by rw[Vv h];omega
section
variable (fu d:Nat) (hf:18446744073709551616<=fu)
theorem sp_Mod (x:Int) (n:Nat) (hn:1<=n/\n<=1000000000000): ∃v:Nat,v<n/\cl fu (d+1) fn_synopticfield_Mod [I x,I (n:Int)] []=OK (I (v:Int)):=by
 rw[eq_synopticfield_Mod];have h1:Int.tmod x n=x-n*Int.tdiv x n:=by have:=Int.tmod_add_mul_tdiv x n;omega
 have h2: -(n:Int)<Int.tmod x n/\Int.tmod x n<n:=by
  have:=Int.tmod_lt_of_pos x (by omega:(0:Int)<n);have:=Int.lt_tmod_of_pos x (by omega:(0:Int)<n);omega
 generalize Int.tmod x n=q at*
 by_cases h0:q<0
 ·refine⟨(q+n).toNat,by omega, ?_⟩;rw[Int.toNat_of_nonneg (by omega)];simp(disch:=omega)only[Zb,QM,QD]
 ·refine⟨q.toNat,by omega, ?_⟩;rw[Int.toNat_of_nonneg (by omega)];simp(disch:=omega)only[Zb,QM,QD]
end
end Go.Proofs.YtjmempcalaliiaaGreatDoor
/- Slopes, accelerated flows, steps. -/
namespace Go.Proofs.YtjmempcalaliiaaGreatDoor
open Go Go.PM Go.Grid
attribute [local congr] Zy Zz Z0 Yg Z1 Z2 Yh Yi Yj Yk Z3 Z4 Yl Y5 Y6 Y7 Y8 Y9 Xb Xc Xd Xe Xa Z6 Z7 Xf Z8 Z9 Zn Ya Z5
def clp (x:Int):Int:=if 16777216<(if -16777216>x then -16777216 else x)then 16777216 else if -16777216>x then -16777216 else x
theorem clp_bd (x:Int): -16777216<=clp x/\clp x<=16777216:=by
 unfold clp
 repeat' split
 all_goals omega
def slE (dp:List Int) (E:List (Int×Int)) (j:Nat):Int:=at0 dp (E.getD j (0,0)).1.toNat-at0 dp (E.getD j (0,0)).2.toNat
def acc1 (a b:Nat) (f s:Int):Int:=clp (f+(shr s b-shr f a))
def accE (a b:Nat) (dp fw:List Int) (E:List (Int×Int)) (j:Nat):Int:=acc1 a b (at0 fw j) (slE dp E j)
def accL (a b:Nat) (dp fw:List Int) (E:List (Int×Int)) (k:Nat):List Int:=(List.range k).map (accE a b dp fw E)
theorem accL_length (a b:Nat) (dp fw:List Int) (E:List (Int×Int)) (k:Nat):(accL a b dp fw E k).length=k:=by simp[accL]
theorem accL_wid (a b:Nat) (dp fw:List Int) (E:List (Int×Int)) (k:Nat):wid (-16777216) 16777216 (accL a b dp fw E k):=λv hv=>by
 unfold accL at hv;obtain⟨j,_,rfl⟩:=List.mem_map.1 hv;exact clp_bd _
section
variable (fu d:Nat) (hf:18446744073709551616<=fu)
include hf
end
end Go.Proofs.YtjmempcalaliiaaGreatDoor
/- Steps of the model, one after the other. -/
namespace Go.Proofs.YtjmempcalaliiaaGreatDoor
open Go Go.PM Go.Grid
attribute [local congr] Zy Zz Z0 Yg Z1 Z2 Yh Yi Yj Yk Z3 Z4 Yl Y5 Y6 Y7 Y8 Y9 Xb Xc Xd Xe Xa Z6 Z7 Xf Z8 Z9 Zn Ya Z5
def stF (n a b:Nat) (dp fw:List Int):List Int:=accL a b dp fw (edg n) (edg n).length
def stA (n a b c:Nat) (dp fw:List Int):List Int:=amL dp (X5 (Zg n).length (edg n)) (stF n a b dp fw) c (edg n) (edg n).length
def stD (n a b c:Nat) (dp fw:List Int):List Int:=movS dp ((edg n).zip (stA n a b c dp fw))
def stBad (n a b c:Nat) (dp fw:List Int):Bool:=X7 0 16777216 (stD n a b c dp fw)
theorem Co (n a b:Nat) (dp fw:List Int):(stF n a b dp fw).length=(edg n).length:=accL_length ..
theorem stD_length (n a b c:Nat) (dp fw:List Int):(stD n a b c dp fw).length=dp.length:=movS_length ..
theorem Vst.acc {n:Nat} {dp fw:List Int} (h:Vst n dp fw) (a b:Nat):Vst n dp (stF n a b dp fw):=⟨h.dl,Co ..,h.dw,accL_wid _ _ _ _ _ _⟩
theorem Vst.step {n:Nat} {dp fw:List Int} (h:Vst n dp fw) {a b c:Nat} (ho:stBad n a b c dp fw=false):Vst n (stD n a b c dp fw) (stF n a b dp fw):=⟨by rw[stD_length];exact h.dl,Co ..,X9.1 ho,accL_wid _ _ _ _ _ _⟩
section
variable (fu d:Nat) (hf:18446744073709551616<=fu)
include hf
end
end Go.Proofs.YtjmempcalaliiaaGreatDoor
/- The linearised step: plain laws. -/
namespace Go.Proofs.YtjmempcalaliiaaGreatDoor
open Go Go.PM Go.Grid
def sc (a b c:Nat):Nat:=30*2^(max a b+c)
def scA (a b c:Nat):Nat:=30*2^(max a b+c-a)
def scB (a b c:Nat):Nat:=30*2^(max a b+c-b)
def tr (a b:Nat):Nat:=30*2^(max a b-b)
theorem pw (m k s:Nat) (h:s<=m) (e:k=m-s):30*2^m=30*2^k*2^s:=by
 rw[Nat.mul_assoc,<-Nat.pow_add,e,Nat.sub_add_cancel h]
theorem sc_a (a b c:Nat):sc a b c=scA a b c*2^a:=pw _ _ _ (by omega) rfl
theorem sc_b (a b c:Nat):sc a b c=scB a b c*2^b:=pw _ _ _ (by omega) rfl
theorem scB_c (a b c:Nat):scB a b c=tr a b*2^c:=pw _ _ _ (by omega) (by omega)
theorem scA_le (a b c:Nat):scA a b c<=sc a b c:=by
 unfold scA sc;exact Nat.mul_le_mul_left _ (Nat.pow_le_pow_right (by omega) (by omega))
theorem sc_bd {a b c:Nat} (ha:a<=4) (hb:b<=4) (hc:c<=4):sc a b c<=7680:=by
 have h:2^(max a b+c)<=2^8:=Nat.pow_le_pow_right (by omega) (by omega);unfold sc;omega
theorem shr_add (x q:Int) (s:Nat):shr (x+q*2^s) s=shr x s+q:=by
 unfold shr;have hp:(0:Int)<2^s:=Int.pow_pos (by omega);rw[Int.fdiv_eq_ediv_of_nonneg _ (by omega),Int.fdiv_eq_ediv_of_nonneg _ (by omega),Int.add_mul_ediv_right _ _ (by omega)]
theorem Ft (q:Int) (s:Nat):shr (q*2^s) s=q:=by
 have:=shr_add 0 q s;rw[Int.zero_add]at this;rw[this];unfold shr;rw[Int.zero_fdiv];omega
theorem Jk (s:Nat):((2^s:Nat):Int)=2^s:=by simp
theorem sc_aI (a b c:Nat):((sc a b c:Nat):Int)=(scA a b c:Int)*2^a:=by rw[sc_a,Int.natCast_mul,Jk]
theorem sc_bI (a b c:Nat):((sc a b c:Nat):Int)=(scB a b c:Int)*2^b:=by rw[sc_b,Int.natCast_mul,Jk]
theorem scB_cI (a b c:Nat):((scB a b c:Nat):Int)=(tr a b:Int)*2^c:=by rw[scB_c,Int.natCast_mul,Jk]
end Go.Proofs.YtjmempcalaliiaaGreatDoor
/- Changes, branches, the linearised step's function. -/
namespace Go.Proofs.YtjmempcalaliiaaGreatDoor
open Go Go.PM Go.Grid
attribute [local congr] Zy Zz Z0 Yg Z1 Z2 Yh Yi Yj Yk Z3 Z4 Yl Y5 Y6 Y7 Y8 Y9 Xb Xc Xd Xe Xa Z6 Z7 Xf Z8 Z9 Zn Ya Z5
section
variable (fu d:Nat) (hf:18446744073709551616<=fu)
theorem sp_withinT (v lo hi:Int):cl fu (d+1) fn_tangent_within [I v,I lo,I hi] []=OK (B (decide (lo<=v)&&decide (v<=hi))):=by
 rw[eq_tangent_within];by_cases h:lo<=v
 ·simp(disch:=omega)only[Zb,QM,QD]
 ·simp(disch:=omega)only[Zb,QM,QD]
theorem C8 (v:Int) (m:Nat) (hm:m<=1000000000000000000):cl fu (d+2) fn_tangent_outside_1 [I v,V.c (C.cp [C.v (.int .i64 (m:Int))])] []=OK (B (!(decide (-(m:Int)<=v)&&decide (v<=(m:Int))))):=by
 have e:=sp_withinT fu d v (-(m:Int)) m;have w0:IntKind.i64.wrap (0-(m:Int))= -(m:Int):=by rw[Uk (by omega) (by omega)];omega
 generalize (decide (-(m:Int)<=v)&&decide (v<=(m:Int)))=b at*
 rw[eq_tangent_outside_1];simp only[Zb,QM,w0,e]
include hf
theorem Vh (l:List Int) (hl:l.length<=1000000) (m:Nat) (hm:m<=1000000000000000000):cl fu (d+5) fn_tangent_outside [V.c (C.sl l.length (ints l)),I (m:Int)] []=OK (B (X7 (-(m:Int)) m l)):=by
 have h1:=λv=>C8 fu d v m hm;rw[eq_tangent_outside,eq1_slices_ContainsFunc_sint_int,eq1_slices_IndexFunc_sint_int];rcases Qh (λj=> ∃h:j<l.length,(!(decide (-(m:Int)<=l[j])&&decide (l[j]<=(m:Int))))=true) l.length with hn|⟨k,hk,⟨hk2,hb⟩,hn⟩
 ·have hall:X7 (-(m:Int)) m l=false:=by
   unfold X7;rw[List.any_eq_false];intro v hv;obtain⟨j,hj,rfl⟩:=List.getElem_of_mem hv;exact λe=>hn j hj ⟨hj,e⟩
  rw[hall,Zl (λj:Nat=>((0:Int),(j:Int),())) 0 ((0:Int),((l.length:Nat):Int),()) l.length ?_ ?_ ?_ (by omega)]
  ·simp(disch:=omega)only[Zb,QM,QD]
  ·rfl
  ·intro j hj;have hia:=ints_at l hj;have hv:=hn j hj;have hv:(!(decide (-(m:Int)<=l[j])&&decide (l[j]<=(m:Int))))=false:=by
    cases e:(!(decide (-(m:Int)<=l[j])&&decide (l[j]<=(m:Int))))
    ·rfl
    ·exact absurd ⟨hj,e⟩ hv
   have h1:=h1 l[j];rw[hv]at h1;simp(disch:=omega)only[Zb,QM,QD,Int.toNat_natCast,Nat.mul_one,hia,h1];rfl
  ·simp(disch:=omega)only[Zb,QM,QD]
 ·have hall:X7 (-(m:Int)) m l=true:=by
   unfold X7;rw[List.any_eq_true];exact⟨l[k],List.getElem_mem hk2,hb⟩
  rw[hall,Zl (λj:Nat=>((0:Int),(j:Int),())) 1 ((k:Int),(k:Int),()) k ?_ ?_ ?_ (by omega)]
  ·simp(disch:=omega)only[Zb,QM,QD]
  ·rfl
  ·intro j hj;have hjl:j<l.length:=by omega
   have hia:=ints_at l hjl;have hv:=hn j hj;have hv:(!(decide (-(m:Int)<=l[j])&&decide (l[j]<=(m:Int))))=false:=by
    cases e:(!(decide (-(m:Int)<=l[j])&&decide (l[j]<=(m:Int))))
    ·rfl
    ·exact absurd ⟨hjl,e⟩ hv
   have h1:=h1 l[j];rw[hv]at h1;simp(disch:=omega)only[Zb,QM,QD,Int.toNat_natCast,Nat.mul_one,hia,h1];rfl
  ·have hia:=ints_at l hk2;have h1:=h1 l[k];rw[hb]at h1;simp(disch:=omega)only[Zb,QM,QD,Int.toNat_natCast,Nat.mul_one,hia,h1]
theorem sp_Change {bs:List Int} (hb:bytes bs) {i:Nat} (hi:i<=1000) (n:Nat) (h:Yc n) (most:Nat) (hm:most<=10000000000000) (top:Int) (ht:(most:Int)<=top/\9<=top):
  ∃(hd hf:List Int) (j:Nat),hd.length=(Zg n).length/\hf.length=(edg n).length/\wid (-top) top hd/\wid (-top) top hf/\j<=1000/\cl fu (d+10) fn_synopticfield_Codes_Change [V.ptr 1000000 0,I n,I most] [Yr bs i]=some ⟨V.agg [C.sl hd.length (ints hd),C.sl hf.length (ints hf)],[Yr bs j],none⟩:=by
 have hE:=Qv fu d hf n h;have heL:=Vd h;have hNl:=Xv h;have hN22:=Pz fu (d+8) n h;obtain⟨l1,j1,hl1,hw1,hj1,e1⟩:=Aw fu (d+5) hf hb hi (Zg n).length most (by omega) hm top ht;obtain⟨l2,j2,hl2,hw2,hj2,e2⟩:=Aw fu (d+5) hf hb hj1 (edg n).length most (by omega) hm top ht;refine⟨l1,l2,j2,hl1,hl2,hw1,hw2,hj2, ?_⟩;unfold Yr at*
 generalize edg n=E at*
 generalize (Zg n).length=N at*
 rw[eq_synopticfield_Codes_Change,hE];simp(disch:=omega)only[Zb,QM,QD,hN22,e1,e2,List.length_cons,List.length_nil,Nat.zero_add,Nat.reduceAdd]
theorem A2 {bs:List Int} (hb:bytes bs) {i:Nat} (hi:i<=1000) (n:Nat) (h:Yc n):
  ∃(br:List Int) (j:Nat),br.length=(edg n).length/\wid (-1) 1 br/\j<=1000/\cl fu (d+10) fn_synopticfield_Codes_Branch [V.ptr 1000000 0,I n] [Yr bs i]=some ⟨V.c (C.sl br.length (ints br)),[Yr bs j],none⟩:=by
 have hE:=Qv fu d hf n h;have heL:=Vd h;have hN:=λ(i:Nat) (hi:i<=1000)=>Ue fu (d+7) hb hi 5 (by omega);unfold Yr at*
 generalize edg n=E at*
 rw[eq_synopticfield_Codes_Branch,hE];simp(disch:=omega)only[Zb,QM,QD,List.length_cons,List.length_nil,Nat.zero_add,Nat.reduceAdd];refine Qo (A:=List C×Int×(C×Int×Unit)×Unit) (B:=Out) (fu:=fu) (λo=> ∃(l:List Int) (j:Nat),l.length=E.length/\wid (-1) 1 l/\j<=1000/\o=some ⟨V.c (C.sl l.length (ints l)),[Yr bs j],none⟩)
  (λy=> ∃(l:List Int) (j:Nat),l.length<=E.length/\wid (-1) 1 l/\j<=1000/\y=(ints l,((l.length:Nat):Int),(C.sl bs.length (ik .u8 bs),(j:Int),()),())) (λy=>E.length-y.2.1.toNat)
  (λe y=>e=0/\ ∃(l:List Int) (j:Nat),l.length=E.length/\wid (-1) 1 l/\j<=1000/\y=(ints l,((l.length:Nat):Int),(C.sl bs.length (ik .u8 bs),(j:Int),()),())) ?_ ?_ ?_ ?_
 ·exact⟨[],i,by simp,(by intro v hv;cases hv),hi,rfl⟩
 ·show E.length-_<fu;omega
 ·rintro y ⟨l,j,hl,hw,hj,rfl⟩
  by_cases hlt:l.length<E.length
  ·obtain⟨v,k,hv,hk,e5⟩:=hN j hj;replace e5:cl fu (d+9) fn_synopticfield_Codes_Next [V.ptr 1000000 0,I 5] _=_:=e5;obtain⟨x,r,hx,hdr⟩: ∃(x:Int) (r:List C),(-1<=x/\x<=1)/\List.drop v [C.v (.int .i64 0),C.v (.int .i64 0),C.v (.int .i64 0),C.v (.int .i64 1),C.v (.int .i64 (-1))]=C.v (.int .i64 x)::r:=by
    rcases(show v=0\/v=1\/v=2\/v=3\/v=4 by omega)with rfl|rfl|rfl|rfl|rfl
    ·exact⟨0,_,by omega,rfl⟩
    ·exact⟨0,_,by omega,rfl⟩
    ·exact⟨0,_,by omega,rfl⟩
    ·exact⟨1,_,by omega,rfl⟩
    ·exact⟨-1,_,by omega,rfl⟩
   refine .inl ⟨(ints (l++[x]),(((l++[x]).length:Nat):Int),(C.sl bs.length (ik .u8 bs),(k:Int),()),()), ?_,⟨l++[x],k,by simp;omega,wid_snoc hw hx,hk,rfl⟩, ?_⟩
   ·simp(disch:=omega)only[Zb,QM,QD,e5,List.length_cons,List.length_nil,Nat.zero_add,Nat.reduceAdd,Int.toNat_natCast,Nat.mul_one,hdr,Zf,Nat.div_one,Qu,List.length_append,Int.natCast_add,Int.natCast_one]
   ·show E.length-(((l++[x]).length:Nat):Int).toNat<E.length-((l.length:Nat):Int).toNat;rw[List.length_append,List.length_singleton];omega
  ·refine .inr ⟨0,(ints l,((l.length:Nat):Int),(C.sl bs.length (ik .u8 bs),(j:Int),()),()), ?_,rfl,l,j,by omega,hw,hj,rfl⟩;simp(disch:=omega)only[Zb,QM,QD,Zf,Nat.div_one,Nat.mul_one]
 ·rintro e z ⟨rfl,l,j,hl,hw,hj,rfl⟩
  refine⟨l,j,hl,hw,hj, ?_⟩;have htk:List.take l.length (ints l)=ints l:=List.take_of_length_le (by rw[Zf];exact Nat.le_refl _);simp(disch:=omega)only[Zb,QM,QD,Zf,Nat.div_one,Nat.mul_one,Nat.zero_add,htk]
theorem Cp (a b c:Nat) (ha:1<=a/\a<=4) (hb:1<=b/\b<=4) (hc:1<=c/\c<=4):cl fu (d+7) fn_tangent_Scale [V.agg [C.v (.int .i64 (a:Int)),C.v (.int .i64 (b:Int)),C.v (.int .i64 (c:Int))]] []=OK (V.tup [I (sc a b c:Int),I 0]):=by
 have e1:=Cn fu d hf a b c ha hb hc;have hs:=sc_bd ha.2 hb.2 hc.2;have em:(if(b:Int)>(a:Int)then(b:Int)else(a:Int))=((max a b:Nat):Int):=by split<;>omega
 have hw:IntKind.i64.wrap (((max a b:Nat):Int)+(c:Int))=((max a b+c:Nat):Int):=by rw[Uk (by omega) (by omega)];rfl
 have hmin:min (max a b+c) (IntKind.bits .i64)=max a b+c:=by show min _ 64=_;omega
 have hsc:(30:Int)*2^(max a b+c)=(sc a b c:Int):=by unfold sc;rw[Int.natCast_mul,Jk];rfl
 rw[eq_tangent_Scale];simp(disch:=omega)only[Zb,QM,QD,e1,em,hw,Int.toNat_natCast,hmin,hsc]
theorem sp_CheckT (n:Nat) (h:Yc n) (br hd hfl:List Int) (l1:br.length=(edg n).length) (l2:hd.length=(Zg n).length) (l3:hfl.length=(edg n).length) (w1:wid (-1) 1 br) (w2:wid (-1099511627776) 1099511627776 hd) (w3:wid (-1099511627776) 1099511627776 hfl):
  cl fu (d+10) fn_tangent_Check [I n,V.c (C.sl br.length (ints br)),V.agg [C.sl hd.length (ints hd),C.sl hfl.length (ints hfl)]] []=OK (I 0):=by
 have hNl:=Xv h;have heL:=Vd h;have e1:=Q5 fu d hf n h;have e2:=Tn fu (d+7) n h;have e3:=Vh fu (d+4) hf br (by omega) 1 (by omega);have e4:=Vh fu (d+4) hf hd (by omega) 1099511627776 (by omega);have e5:=Vh fu (d+4) hf hfl (by omega) 1099511627776 (by omega);replace e3:cl fu (d+9) fn_tangent_outside [V.c (C.sl br.length (ints br)),I 1] []=OK (B (X7 (-1) 1 br)):=e3;replace e4:cl fu (d+9) fn_tangent_outside [V.c (C.sl hd.length (ints hd)),I 1099511627776] []=OK (B (X7 (-1099511627776) 1099511627776 hd)):=e4;replace e5:cl fu (d+9) fn_tangent_outside [V.c (C.sl hfl.length (ints hfl)),I 1099511627776] []=OK (B (X7 (-1099511627776) 1099511627776 hfl)):=e5;rw[X9.2 w1]at e3;rw[X9.2 w2]at e4;rw[X9.2 w3]at e5;generalize edg n=E at*
 generalize (Zg n).length=N at*
 rw[eq_tangent_Check];simp(disch:=omega)only[Zb,QM,QD,e1,e2,e3,e4,e5]
end
end Go.Proofs.YtjmempcalaliiaaGreatDoor
/- The linearised step: what Apply comes to. -/
namespace Go.Proofs.YtjmempcalaliiaaGreatDoor
open Go Go.PM Go.Grid
attribute [local congr] Zy Zz Z0 Yg Z1 Z2 Yh Yi Yj Yk Z3 Z4 Yl Y5 Y6 Y7 Y8 Y9 Xb Xc Xd Xe Xa Z6 Z7 Xf Z8 Z9 Zn Ya Z5
theorem fdivA (a b c:Nat):Int.fdiv (sc a b c:Int) (2^a)=scA a b c:=by rw[sc_aI];exact Ft _ _
theorem fdivB (a b c:Nat):Int.fdiv (sc a b c:Int) (2^b)=scB a b c:=by rw[sc_bI];exact Ft _ _
section
variable (fu d:Nat) (hfu:18446744073709551616<=fu)
include hfu
end
end Go.Proofs.YtjmempcalaliiaaGreatDoor
/- TangentLinear answers true. -/
namespace Go.Proofs.YtjmempcalaliiaaGreatDoor
open Go Go.PM Go.Grid
attribute [local congr] Zy Zz Z0 Yg Z1 Z2 Yh Yi Yj Yk Z3 Z4 Yl Y5 Y6 Y7 Y8 Y9 Xb Xc Xd Xe Xa Z6 Z7 Xf Z8 Z9 Zn Ya Z5
section
variable (fu d:Nat) (hfu:18446744073709551616<=fu)
include hfu
end
end Go.Proofs.YtjmempcalaliiaaGreatDoor
/- Both programs' checks, at any numbers. -/
namespace Go.Proofs.YtjmempcalaliiaaGreatDoor
open Go Go.PM Go.Grid
attribute [local congr] Zy Zz Z0 Yg Z1 Z2 Yh Yi Yj Yk Z3 Z4 Yl Y5 Y6 Y7 Y8 Y9 Xb Xc Xd Xe Xa Z6 Z7 Xf Z8 Z9 Zn Ya Z5
abbrev scC (a b c:Int):List C:=[C.v (.int .i64 a),C.v (.int .i64 b),C.v (.int .i64 c)]
section
variable (fu d:Nat) (hf:18446744073709551616<=fu)
include hf
theorem G8 (a b c:Int):cl fu (d+6) fn_flux_CheckScheme [V.agg (scC a b c)] []=OK (I (if X7 1 4 [a,b,c]then 1 else 0)):=by
 have e:=Cm fu d hf [a,b,c] (by simp) 1 4;replace e:cl fu (d+5) fn_flux_outside [V.c (C.sl 3 [C.v (.int .i64 a),C.v (.int .i64 b),C.v (.int .i64 c)]),I 1,I 4] []=OK (B (X7 1 4 [a,b,c])):=e;unfold scC;rw[eq_flux_CheckScheme];generalize X7 1 4 [a,b,c]=q at*
 cases q<;>simp only[Zb,QM,e]<;>rfl
theorem Jl (a b c:Int):cl fu (d+1) fn_synopticref29_CheckScheme [V.agg (scC a b c)] []=OK (I (if X7 1 4 [a,b,c]then 1 else 0)):=by
 unfold scC;rw[eq_synopticref29_CheckScheme];have hs:[C.v (.int .i64 a),C.v (.int .i64 b),C.v (.int .i64 c)]=ints [a,b,c]:=rfl;rw[hs];have hl:([a,b,c]:List Int).length=3:=rfl;generalize [a,b,c]=s at*
 rcases Qh (λj=> ¬(1<=at0 s j/\at0 s j<=4)) s.length with hn|⟨k,hk,hne,hlt⟩
 ·rw[X9.2 (wid_all λk hk=>Classical.not_not.1 (hn k hk))];rw[Zl (λj:Nat=>((0:Int),((j:Nat):Int),())) 0 ((0:Int),((3:Nat):Int),()) 3 ?_ ?_ ?_ (by omega)]
  ·simp(disch:=omega)only[Zb,QM,QD];rfl
  ·rfl
  ·intro j hj;have i1:=Zs s (i:=j) (by omega);have b1:=Classical.not_not.1 (hn j (by omega));generalize at0 s j=v at*
   simp(disch:=omega)only[Zb,QM,QD,Int.toNat_natCast,Nat.mul_one,i1];rfl
  ·simp(disch:=omega)only[Zb,QM,QD]
 ·rw[outB_t hk hne];rw[Zl (λj:Nat=>((0:Int),((j:Nat):Int),())) 1 ((1:Int),((k:Nat):Int),()) k ?_ ?_ ?_ (by omega)]
  ·simp(disch:=omega)only[Zb,QM,QD];rfl
  ·rfl
  ·intro j hj;have i1:=Zs s (i:=j) (by omega);have b1:=Classical.not_not.1 (hlt j hj);generalize at0 s j=v at*
   simp(disch:=omega)only[Zb,QM,QD,Int.toNat_natCast,Nat.mul_one,i1];rfl
  ·have i1:=Zs s (i:=k) (by omega);generalize at0 s k=v at*
   by_cases q:v<1
   ·simp(disch:=omega)only[Zb,QM,QD,Int.toNat_natCast,Nat.mul_one,i1]
   ·have q2:v>4:=by omega
    simp(disch:=omega)only[Zb,QM,QD,Int.toNat_natCast,Nat.mul_one,i1]
theorem Cq (s:List Int) (hl:s.length<=1000000) (m:Nat) (hm:m<=1000000000000000000):cl fu (d+1) fn_synopticref22_Small [V.c (C.sl s.length (ints s)),I (m:Int)] []=OK (B (!X7 (-(m:Int)) m s)):=by
 have w0:IntKind.i64.wrap (0-(m:Int))= -(m:Int):=by rw[Uk (by omega) (by omega)];omega
 rw[eq_synopticref22_Small];rcases Qh (λj=> ¬(-(m:Int)<=at0 s j/\at0 s j<=m)) s.length with hn|⟨k,hk,hne,hlt⟩
 ·rw[X9.2 (wid_all λk hk=>Classical.not_not.1 (hn k hk))];rw[Zl (λj:Nat=>(false,((j:Nat):Int),())) 0 (false,((s.length:Nat):Int),()) s.length ?_ ?_ ?_ (by omega)]
  ·simp(disch:=omega)only[Zb,QM,QD]
  ·rfl
  ·intro j hj;have i1:=Zs s hj;have b1:=Classical.not_not.1 (hn j hj);generalize at0 s j=v at*
   simp(disch:=omega)only[Zb,QM,QD,Int.toNat_natCast,Nat.mul_one,i1,w0];rfl
  ·simp(disch:=omega)only[Zb,QM,QD]
 ·rw[outB_t hk hne];rw[Zl (λj:Nat=>(false,((j:Nat):Int),())) 1 (false,((k:Nat):Int),()) k ?_ ?_ ?_ (by omega)]
  ·simp(disch:=omega)only[Zb,QM,QD]
  ·rfl
  ·intro j hj;have i1:=Zs s (i:=j) (by omega);have b1:=Classical.not_not.1 (hlt j hj);generalize at0 s j=v at*
   simp(disch:=omega)only[Zb,QM,QD,Int.toNat_natCast,Nat.mul_one,i1,w0];rfl
  ·have i1:=Zs s hk;generalize at0 s k=v at*
   by_cases q:v>(m:Int)
   ·simp(disch:=omega)only[Zb,QM,QD,Int.toNat_natCast,Nat.mul_one,i1]
   ·have q2:v< -(m:Int):=by omega
    simp(disch:=omega)only[Zb,QM,QD,Int.toNat_natCast,Nat.mul_one,i1,w0]
omit hf in
theorem Hn (n:Int):cl fu (d+1) fn_synopticref29_Frequency [I n] []=OK (B (decide (1<=n)&&decide (n<=8))):=by
 rw[eq_synopticref29_Frequency];by_cases h:1<=n
 ·rw[decide_eq_true h];simp(disch:=omega)only[Zb,QM,QD]
 ·rw[decide_eq_false h];simp(disch:=omega)only[Zb,QM,QD]
omit hf in
theorem sp_freq_bad (n:Int) (h:n<1\/8<n):cl fu (d+1) fn_mesh_Frequency [I n] []=OK (B false):=by
 rw[eq_mesh_Frequency];rcases h with h|h
 ·simp(disch:=omega)only[Zb,QM,QD]
 ·simp(disch:=omega)only[Zb,QM,QD]
omit hf in
theorem Rl (n:Int) (h:n<1\/8<n):cl fu (d+2) fn_grid_Edges [I n] []=OK (V.tup [V.c C.nl,I 1]):=by
 have e:=sp_freq_bad fu d n h;rw[eq_grid_Edges,e];simp(disch:=omega)only[Zb,QM,QD]
end
end Go.Proofs.YtjmempcalaliiaaGreatDoor
/- Shifted states, clipped flows, and the step of a changed state. -/
namespace Go.Proofs.YtjmempcalaliiaaGreatDoor
open Go Go.PM Go.Grid
attribute [local congr] Zy Zz Z0 Yg Z1 Z2 Yh Yi Yj Yk Z3 Z4 Yl Y5 Y6 Y7 Y8 Y9 Xb Xc Xd Xe Xa Z6 Z7 Xf Z8 Z9 Zn Ya Z5
section
variable (fu d:Nat) (hfu:18446744073709551616<=fu)
include hfu
end
end Go.Proofs.YtjmempcalaliiaaGreatDoor
/- The scale and the check of linearised steps, at any numbers, in both programs. -/
namespace Go.Proofs.YtjmempcalaliiaaGreatDoor
open Go Go.PM Go.Grid
attribute [local congr] Zy Zz Z0 Yg Z1 Z2 Yh Yi Yj Yk Z3 Z4 Yl Y5 Y6 Y7 Y8 Y9 Xb Xc Xd Xe Xa Z6 Z7 Xf Z8 Z9 Zn Ya Z5
def isCh (n:Int) (br hd hf:List Int):Prop:= ∃m:Nat,n=m/\Yc m/\hd.length=(Zg m).length/\hf.length=(edg m).length/\br.length=(edg m).length/\wid (-1) 1 br/\wid (-1099511627776) 1099511627776 hd/\wid (-1099511627776) 1099511627776 hf
theorem Jm (a b c:Int):(∃x y z:Nat,a=x/\b=y/\c=z/\(1<=x/\x<=4)/\(1<=y/\y<=4)/\(1<=z/\z<=4))\/X7 1 4 [a,b,c]=true:=by
 cases h:X7 1 4 [a,b,c]with
 |true=>exact .inr rfl
 |false=>
  have w:=X9.1 h;have h1:=w a (by simp);have h2:=w b (by simp);have h3:=w c (by simp);exact .inl ⟨a.toNat,b.toNat,c.toNat,by omega,by omega,by omega,by omega,by omega,by omega⟩
theorem scheme_ok {x y z:Nat} (h1:1<=x/\x<=4) (h2:1<=y/\y<=4) (h3:1<=z/\z<=4):X7 1 4 [(x:Int),(y:Int),(z:Int)]=false:=
 X9.2 λv hv=>by
  simp only[List.mem_cons,List.mem_nil_iff,or_false]at hv;rcases hv with rfl|rfl|rfl<;>omega
section
variable (fu d:Nat) (hf:18446744073709551616<=fu)
include hf
theorem Jn (a b c:Int) (h:X7 1 4 [a,b,c]=true):cl fu (d+7) fn_tangent_Scale [V.agg (scC a b c)] []=OK (V.tup [I 0,I 1]):=by
 have e1:=G8 fu d hf a b c;rw[h,if_pos rfl]at e1;unfold scC at*
 rw[eq_tangent_Scale];simp(disch:=omega)only[Zb,QM,QD,e1]
theorem P9 (a b c:Int) (h:X7 1 4 [a,b,c]=true):cl fu (d+2) fn_synopticref31_Scale [V.agg (scC a b c)] []=OK (V.tup [I 0,I 1]):=by
 have e1:=Jl fu d hf a b c;rw[h,if_pos rfl]at e1;unfold scC at*
 rw[eq_synopticref31_Scale];simp(disch:=omega)only[Zb,QM,QD,e1]
theorem Mc (a b c:Nat) (ha:1<=a/\a<=4) (hb:1<=b/\b<=4) (hc:1<=c/\c<=4):cl fu (d+2) fn_synopticref31_Scale [V.agg (scC a b c)] []=OK (V.tup [I (sc a b c:Int),I 0]):=by
 have e1:=Jl fu d hf a b c;rw[scheme_ok ha hb hc,if_neg (by simp)]at e1;have hs:=sc_bd ha.2 hb.2 hc.2;have em:(if(b:Int)>(a:Int)then(b:Int)else(a:Int))=((max a b:Nat):Int):=by split<;>omega
 have hw:IntKind.i64.wrap (((max a b:Nat):Int)+(c:Int))=((max a b+c:Nat):Int):=by rw[Uk (by omega) (by omega)];rfl
 have hu:IntKind.u64.wrap ((max a b+c:Nat):Int)=((max a b+c:Nat):Int):=IntWalk.u64_in _ ⟨by omega,by omega⟩;have hmin:min (max a b+c) (IntKind.bits .i64)=max a b+c:=by show min _ 64=_;omega
 have hsc:(30:Int)*2^(max a b+c)=(sc a b c:Int):=by unfold sc;rw[Int.natCast_mul,Jk];rfl
 unfold scC at*
 rw[eq_synopticref31_Scale];simp(disch:=omega)only[Zb,QM,QD,e1,em,hw,hu,Int.toNat_natCast,hmin,hsc]
set_option maxHeartbeats 1000000 in
theorem sp_CheckTG (n:Int) (br:List Int) {c1 c2:C} {dp fw:List Int} (h1:isL c1 dp) (h2:isL c2 fw) (l0:br.length<=1000000) (l1:dp.length<=1000000) (l2:fw.length<=1000000):
  (isCh n br dp fw->cl fu (d+10) fn_tangent_Check [I n,V.c (C.sl br.length (ints br)),V.agg [c1,c2]] []=OK (I 0))/\(¬isCh n br dp fw->cl fu (d+10) fn_tangent_Check [I n,V.c (C.sl br.length (ints br)),V.agg [c1,c2]] []=OK (I 1)):=by
 have o0:=Vh fu (d+4) hf br l0 1 (by omega);have o1:=Vh fu (d+4) hf dp l1 1099511627776 (by omega);have o2:=Vh fu (d+4) hf fw l2 1099511627776 (by omega);replace o0:cl fu (d+9) fn_tangent_outside [V.c (C.sl br.length (ints br)),I 1] []=OK (B (X7 (-1) 1 br)):=o0;replace o1:cl fu (d+9) fn_tangent_outside [V.c (C.sl dp.length (ints dp)),I 1099511627776] []=OK (B (X7 (-1099511627776) 1099511627776 dp)):=o1;replace o2:cl fu (d+9) fn_tangent_outside [V.c (C.sl fw.length (ints fw)),I 1099511627776] []=OK (B (X7 (-1099511627776) 1099511627776 fw)):=o2;by_cases hn:1<=n/\n<=8
 ·obtain⟨m,rfl⟩: ∃m:Nat,n=m:=⟨n.toNat,by omega⟩;have h:Yc m:=by unfold Yc;omega
  have heL:=Vd h;have hNl:=Xv h;have e1:=Q5 fu d hf m h;have e2:=Tn fu (d+7) m h;have key:cl fu (d+10) fn_tangent_Check [I m,V.c (C.sl br.length (ints br)),V.agg [c1,c2]] []=OK (I (if dp.length=(Zg m).length/\fw.length=(edg m).length/\br.length=(edg m).length/\X7 (-1) 1 br=false/\X7 (-1099511627776) 1099511627776 dp=false/\X7 (-1099511627776) 1099511627776 fw=false then 0 else 1)):=by
   generalize edg m=E at*
   generalize (Zg m).length=N at*
   rw[eq_tangent_Check];have n1:=h1.1;have n2:=h2.1;have s1:=λ{R:Type} (k:Nat->List C->Option R)=>h1.2 k;have s2:=λ{R:Type} (k:Nat->List C->Option R)=>h2.2 k;simp(disch:=omega)only[Zb,QM,QD,e1];rw[s1];simp(disch:=omega)only[Zb,QM,QD,e2];by_cases q1:dp.length=N
   ·simp(disch:=omega)only[Zb,QM,QD];rw[s2];simp(disch:=omega)only[Zb,QM,QD];by_cases q2:fw.length=E.length
    ·simp(disch:=omega)only[Zb,QM,QD];by_cases q5:br.length=E.length
     ·simp(disch:=omega)only[Zb,QM,QD,o0];cases q6:X7 (-1) 1 br with
      |true=>
       rw[if_neg (λq=>by cases q.2.2.2.1)];simp(disch:=omega)only[Zb,QM,QD]
      |false=>
       simp(disch:=omega)only[Zb,QM,QD,n1,o1];cases q3:X7 (-1099511627776) 1099511627776 dp with
       |true=>
        rw[if_neg (λq=>by cases q.2.2.2.2.1)];simp(disch:=omega)only[Zb,QM,QD]
       |false=>
        simp(disch:=omega)only[Zb,QM,QD,n2,o2];cases q4:X7 (-1099511627776) 1099511627776 fw with
        |true=>
         rw[if_neg (λq=>by cases q.2.2.2.2.2)];simp(disch:=omega)only[Zb,QM,QD]
        |false=>
         rw[if_pos ⟨q1,q2,q5,by simp,by simp,by simp⟩];simp(disch:=omega)only[Zb,QM,QD]
     ·rw[if_neg (λq=>q5 q.2.2.1)];simp(disch:=omega)only[Zb,QM,QD]
    ·rw[if_neg (λq=>q2 q.2.1)];simp(disch:=omega)only[Zb,QM,QD]
   ·rw[if_neg (λq=>q1 q.1)];simp(disch:=omega)only[Zb,QM,QD]
  constructor
  ·rintro ⟨k,hk,hfk,v1,v2,v3,v4,v5,v6⟩
   obtain rfl:m=k:=by omega
   rw[key,if_pos ⟨v1,v2,v3,X9.2 v4,X9.2 v5,X9.2 v6⟩]
  ·intro hb;rw[key,if_neg (λq=>hb ⟨m,rfl,h,q.1,q.2.1,q.2.2.1,X9.1 q.2.2.2.1,X9.1 q.2.2.2.2.1,X9.1 q.2.2.2.2.2⟩)]
 ·have e1:=Rl fu (d+7) n (by omega);refine⟨λ⟨m,hm,hfm,_⟩=>absurd (by unfold Yc at hfm;omega) hn,λ_=> ?_⟩;rw[eq_tangent_Check];simp(disch:=omega)only[Zb,QM,QD,e1]
set_option maxHeartbeats 1000000 in
theorem M9 (n:Int) (br:List Int) {c1 c2:C} {dp fw:List Int} (h1:isL c1 dp) (h2:isL c2 fw) (l0:br.length<=1000000) (l1:dp.length<=1000000) (l2:fw.length<=1000000):
  (isCh n br dp fw->cl fu (d+10) fn_synopticref31_Check [I n,V.c (C.sl br.length (ints br)),V.agg [c1,c2]] []=OK (I 0))/\(¬isCh n br dp fw->cl fu (d+10) fn_synopticref31_Check [I n,V.c (C.sl br.length (ints br)),V.agg [c1,c2]] []=OK (I 1)):=by
 have o0:=Cq fu (d+8) hf br l0 1 (by omega);have o1:=Cq fu (d+8) hf dp l1 1099511627776 (by omega);have o2:=Cq fu (d+8) hf fw l2 1099511627776 (by omega);replace o0:cl fu (d+9) fn_synopticref22_Small [V.c (C.sl br.length (ints br)),I 1] []=OK (B (!X7 (-1) 1 br)):=o0;replace o1:cl fu (d+9) fn_synopticref22_Small [V.c (C.sl dp.length (ints dp)),I 1099511627776] []=OK (B (!X7 (-1099511627776) 1099511627776 dp)):=o1;replace o2:cl fu (d+9) fn_synopticref22_Small [V.c (C.sl fw.length (ints fw)),I 1099511627776] []=OK (B (!X7 (-1099511627776) 1099511627776 fw)):=o2;have oF:=Hn fu (d+8) n;by_cases hn:1<=n/\n<=8
 ·obtain⟨m,rfl⟩: ∃m:Nat,n=m:=⟨n.toNat,by omega⟩;have h:Yc m:=by unfold Yc;omega
  have heL:=Vd h;have hNl:=Xv h;have e1:=Qv fu d hf m h;have e2:=Pz fu (d+8) m h;rw[decide_eq_true hn.1,decide_eq_true hn.2]at oF;have key:cl fu (d+10) fn_synopticref31_Check [I m,V.c (C.sl br.length (ints br)),V.agg [c1,c2]] []=OK (I (if dp.length=(Zg m).length/\fw.length=(edg m).length/\br.length=(edg m).length/\X7 (-1) 1 br=false/\X7 (-1099511627776) 1099511627776 dp=false/\X7 (-1099511627776) 1099511627776 fw=false then 0 else 1)):=by
   generalize edg m=E at*
   generalize (Zg m).length=N at*
   rw[eq_synopticref31_Check];have n1:=h1.1;have n2:=h2.1;have s1:=λ{R:Type} (k:Nat->List C->Option R)=>h1.2 k;have s2:=λ{R:Type} (k:Nat->List C->Option R)=>h2.2 k;simp(disch:=omega)only[Zb,QM,QD,oF,e1];rw[s1];simp(disch:=omega)only[Zb,QM,QD,e2];by_cases q1:dp.length=N
   ·simp(disch:=omega)only[Zb,QM,QD];rw[s2];simp(disch:=omega)only[Zb,QM,QD];by_cases q2:fw.length=E.length
    ·simp(disch:=omega)only[Zb,QM,QD];by_cases q5:br.length=E.length
     ·simp(disch:=omega)only[Zb,QM,QD,o0];cases q6:X7 (-1) 1 br with
      |true=>
       rw[if_neg (λq=>by cases q.2.2.2.1)];simp(disch:=omega)only[Zb,QM,QD]
      |false=>
       simp(disch:=omega)only[Zb,QM,QD,n1,o1];cases q3:X7 (-1099511627776) 1099511627776 dp with
       |true=>
        rw[if_neg (λq=>by cases q.2.2.2.2.1)];simp(disch:=omega)only[Zb,QM,QD]
       |false=>
        simp(disch:=omega)only[Zb,QM,QD,n2,o2];cases q4:X7 (-1099511627776) 1099511627776 fw with
        |true=>
         rw[if_neg (λq=>by cases q.2.2.2.2.2)];simp(disch:=omega)only[Zb,QM,QD]
        |false=>
         rw[if_pos ⟨q1,q2,q5,by simp,by simp,by simp⟩];simp(disch:=omega)only[Zb,QM,QD]
     ·rw[if_neg (λq=>q5 q.2.2.1)];simp(disch:=omega)only[Zb,QM,QD]
    ·rw[if_neg (λq=>q2 q.2.1)];simp(disch:=omega)only[Zb,QM,QD]
   ·rw[if_neg (λq=>q1 q.1)];simp(disch:=omega)only[Zb,QM,QD]
  constructor
  ·rintro ⟨k,hk,hfk,v1,v2,v3,v4,v5,v6⟩
   obtain rfl:m=k:=by omega
   rw[key,if_pos ⟨v1,v2,v3,X9.2 v4,X9.2 v5,X9.2 v6⟩]
  ·intro hb;rw[key,if_neg (λq=>hb ⟨m,rfl,h,q.1,q.2.1,q.2.2.1,X9.1 q.2.2.2.1,X9.1 q.2.2.2.2.1,X9.1 q.2.2.2.2.2⟩)]
 ·refine⟨λ⟨m,hm,hfm,_⟩=>absurd (by unfold Yc at hfm;omega) hn,λ_=> ?_⟩;have hb:(decide (1<=n)&&decide (n<=8))=false:=by
   cases e:(decide (1<=n)&&decide (n<=8))with
   |false=>rfl
   |true=>
    rw[Bool.and_eq_true,decide_eq_true_iff,decide_eq_true_iff]at e;exact absurd e hn
  rw[hb]at oF;rw[eq_synopticref31_Check];simp(disch:=omega)only[Zb,QM,QD,oF]
end
end Go.Proofs.YtjmempcalaliiaaGreatDoor
/- The transposed step, in both programs. -/
namespace Go.Proofs.YtjmempcalaliiaaGreatDoor
open Go Go.PM Go.Grid
attribute [local congr] Zy Zz Z0 Yg Z1 Z2 Yh Yi Yj Yk Z3 Z4 Yl Y5 Y6 Y7 Y8 Y9 Xb Xc Xd Xe Xa Z6 Z7 Xf Z8 Z9 Zn Ya Z5
def aFl (a b c:Nat) (br m f:Int):Int:=if br=0 then IntKind.i64.wrap (IntKind.i64.wrap (((sc a b c:Int)-scA a b c)*f)+IntKind.i64.wrap (Int.fdiv ((sc a b c:Int)-scA a b c) (2^c)*m))else IntKind.i64.wrap (((sc a b c:Int)-scA a b c)*f)
def aZ (a b c:Nat) (br m f:Int):Int:=if br=0 then IntKind.i64.wrap (IntKind.i64.wrap ((scB a b c:Int)*f)+IntKind.i64.wrap ((tr a b:Int)*m))else IntKind.i64.wrap ((scB a b c:Int)*f)
def aD1 (s:Int) (dg:List Int) (br m:Int) (x y:Nat) (D:List Int):List Int:=if br=1 then D.set x (IntKind.i64.wrap (at0 D x+IntKind.i64.wrap (Int.tdiv s (at0 dg x)*m)))else if br= -1 then D.set y (IntKind.i64.wrap (at0 D y-IntKind.i64.wrap (Int.tdiv s (at0 dg y)*m)))else D
def aD2 (z:Int) (x y:Nat) (D:List Int):List Int:=(D.set x (IntKind.i64.wrap (at0 D x+z))).set y (IntKind.i64.wrap (at0 (D.set x (IntKind.i64.wrap (at0 D x+z))) y-z))
theorem L8 (s:Int) (dg:List Int) (br m:Int) (x y:Nat) (D:List Int):(aD1 s dg br m x y D).length=D.length:=by
 unfold aD1
 repeat' split
 all_goals simp only[List.length_set]
theorem aD2_length (z:Int) (x y:Nat) (D:List Int):(aD2 z x y D).length=D.length:=by
 unfold aD2;simp only[List.length_set]
theorem fdivBC (a b c:Nat):Int.fdiv (sc a b c:Int) (2^(b+c))=tr a b:=by
 rw[sc_bI,scB_cI,Int.mul_assoc,show((2:Int)^c*2^b)=2^(b+c) by rw[Int.mul_comm,<-Int.pow_add]];exact Ft _ _
theorem fdivB2 (a b c:Nat):Int.fdiv (scB a b c:Int) (2^c)=tr a b:=by
 rw[scB_cI];exact Ft _ _
theorem Fu {s v:Int} (hs:0<=s) (hv:1<=v):0<=Int.tdiv s v/\Int.tdiv s v<=s:=by
 rw[Int.tdiv_eq_ediv_of_nonneg hs];exact⟨Int.ediv_nonneg hs (by omega),Int.ediv_le_self _ hs⟩
abbrev lkC (x y:Nat) (a b c:Nat) (br:Int) (dg:List Int):List C:=[C.v (.int .i64 (x:Int)),C.v (.int .i64 (y:Int)),C.v (.int .i64 (a:Int)),C.v (.int .i64 (b:Int)),C.v (.int .i64 (c:Int)),C.v (.int .i64 (sc a b c:Int)),C.v (.int .i64 br),C.sl dg.length (ints dg)]
section
variable (fu d:Nat)
theorem sp_through (x y a b c:Nat) (br:Int) (dg:List Int) (ha:1<=a/\a<=4) (hb:1<=b/\b<=4) (hc:1<=c/\c<=4):cl fu (d+1) fn_adjoint_link_through [V.agg (lkC x y a b c br dg)] []=OK (I ((sc a b c:Int)-scA a b c)):=by
 have hs1:=sc_bd ha.2 hb.2 hc.2;have hs2:=scA_le a b c;have fA:=fdivA a b c;have ma:min a (IntKind.bits .i64)=a:=by show min a 64=a;omega
 unfold lkC;rw[eq_adjoint_link_through];simp(disch:=omega)only[Zb,QM,QD,Int.toNat_natCast,fA,ma]
theorem A3 (x y a b c:Nat) (br:Int) (dg hd hf:List Int) (hx:x<hd.length) (hy:y<hd.length):cl fu (d+1) fn_adjoint_link_amount [V.agg (lkC x y a b c br dg),V.agg [C.sl hd.length (ints hd),C.sl hf.length (ints hf)]] []=OK (I (IntKind.i64.wrap (at0 hd y-at0 hd x))):=by
 have i1:=Zs hd hx;have i2:=Zs hd hy;unfold lkC;rw[eq_adjoint_link_amount];simp(disch:=omega)only[Zb,QM,QD,Int.toNat_natCast,Nat.mul_one,i1,i2]
theorem sp_flow (x y a b c j:Nat) (br:Int) (dg hd hf:List Int) (hx:x<hd.length) (hy:y<hd.length) (hj:j<hf.length) (ha:1<=a/\a<=4) (hb:1<=b/\b<=4) (hc:1<=c/\c<=4):cl fu (d+2) fn_adjoint_link_flow [V.agg (lkC x y a b c br dg),V.agg [C.sl hd.length (ints hd),C.sl hf.length (ints hf)],I j] []=OK (I (aFl a b c br (IntKind.i64.wrap (at0 hd y-at0 hd x)) (at0 hf j))):=by
 have e1:=sp_through fu d x y a b c br dg ha hb hc;have e2:=A3 fu d x y a b c br dg hd hf hx hy;have i1:=Zs hf hj;have mc:min c (IntKind.bits .i64)=c:=by show min c 64=c;omega
 generalize IntKind.i64.wrap (at0 hd y-at0 hd x)=m at*
 generalize at0 hf j=f at*
 unfold lkC at*
 unfold aFl;rw[eq_adjoint_link_flow];generalize (sc a b c:Int)-scA a b c=T at*
 by_cases q:br=0
 ·subst q;rw[if_pos rfl];simp(disch:=omega)only[Zb,QM,QD,e1,e2,Int.toNat_natCast,Nat.mul_one,i1,mc]
 ·rw[if_neg q];simp(disch:=omega)only[Zb,QM,QD,e1,Int.toNat_natCast,Nat.mul_one,i1]
set_option maxHeartbeats 1000000 in
theorem sp_depth (x y a b c j:Nat) (br:Int) (dg hd hf D:List Int) (hl:hd.length<=1000000) (hx:x<hd.length) (hy:y<hd.length) (hj:j<hf.length) (hD:D.length=hd.length) (hdg:dg.length=hd.length) (dx:1<=at0 dg x) (dy:1<=at0 dg y) (hbr: -1<=br/\br<=1) (ha:1<=a/\a<=4) (hb:1<=b/\b<=4) (hc:1<=c/\c<=4):
  cl fu (d+2) fn_adjoint_link_depth [V.agg (lkC x y a b c br dg),V.own 1000000 0 D.length,V.agg [C.sl hd.length (ints hd),C.sl hf.length (ints hf)],I j] [.sb ty_int 0 (ints D)]=some ⟨V.tup [],[.sb ty_int 0 (ints (aD2 (aZ a b c br (IntKind.i64.wrap (at0 hd y-at0 hd x)) (at0 hf j)) x y (aD1 (sc a b c) dg br (IntKind.i64.wrap (at0 hd y-at0 hd x)) x y D)))],none⟩:=by
 have e2:=A3 fu d x y a b c br dg hd hf hx hy;have i1:=Zs hf hj;have hs1:=sc_bd ha.2 hb.2 hc.2;have fB:=fdivB a b c;have fBC:=fdivBC a b c;have mb:min b (IntKind.bits .i64)=b:=by show min b 64=b;omega
 have mbc:min (b+c) (IntKind.bits .i64)=b+c:=by show min (b+c) 64=b+c;omega
 have hbc:IntKind.i64.wrap ((b:Int)+(c:Int))=((b+c:Nat):Int):=by rw[Uk (by omega) (by omega)];rfl
 have g1:=Zs dg (i:=x) (by omega);have g2:=Zs dg (i:=y) (by omega);have t1:=Fu (s:=(sc a b c:Int)) (by omega) dx;have t2:=Fu (s:=(sc a b c:Int)) (by omega) dy;have r1:=Zs D (i:=x) (by omega);have r2:=Zs D (i:=y) (by omega);generalize IntKind.i64.wrap (at0 hd y-at0 hd x)=m at*
 generalize hf':at0 hf j=f at*
 have hz: ∀z,aZ a b c br m f=z->aZ a b c br m f=z:=λz h=>h;have hA:(aD1 (sc a b c) dg br m x y D).length=D.length:=L8 ..;have s1:=Zs (aD1 (sc a b c) dg br m x y D) (i:=x) (by omega);have p1:=Qd (aD1 (sc a b c) dg br m x y D) (i:=x) (by omega) (IntKind.i64.wrap (at0 (aD1 (sc a b c) dg br m x y D) x+aZ a b c br m f));have hS:((aD1 (sc a b c) dg br m x y D).set x (IntKind.i64.wrap (at0 (aD1 (sc a b c) dg br m x y D) x+aZ a b c br m f))).length=D.length:=by rw[List.length_set];exact hA
 have s2:=Zs ((aD1 (sc a b c) dg br m x y D).set x (IntKind.i64.wrap (at0 (aD1 (sc a b c) dg br m x y D) x+aZ a b c br m f))) (i:=y) (by omega);have p2:=Qd ((aD1 (sc a b c) dg br m x y D).set x (IntKind.i64.wrap (at0 (aD1 (sc a b c) dg br m x y D) x+aZ a b c br m f))) (i:=y) (by omega) (IntKind.i64.wrap (at0 ((aD1 (sc a b c) dg br m x y D).set x (IntKind.i64.wrap (at0 (aD1 (sc a b c) dg br m x y D) x+aZ a b c br m f))) y-aZ a b c br m f));unfold lkC at*
 unfold aD2;rw[eq_adjoint_link_depth];rcases(show br=1\/br= -1\/br=0 by omega)with rfl|rfl|rfl
 ·have hz1:aZ a b c 1 m f=IntKind.i64.wrap ((scB a b c:Int)*f):=if_neg (by decide);have w1:aD1 (sc a b c) dg 1 m x y D=D.set x (IntKind.i64.wrap (at0 D x+IntKind.i64.wrap (Int.tdiv (sc a b c) (at0 dg x)*m))):=if_pos rfl;have p0:=Qd D (i:=x) (by omega) (IntKind.i64.wrap (at0 D x+IntKind.i64.wrap (Int.tdiv (sc a b c) (at0 dg x)*m)));rw[<-w1]at p0;rw[hz1]at p1 hS s2 p2⊢;generalize aD1 (sc a b c) dg 1 m x y D=D1 at*
  simp(disch:=omega)only[Zb,QM,QD,e2,Int.toNat_natCast,Nat.mul_one,Nat.zero_add,Nat.div_one,i1,fB,mb,g1,r1,Zf,p0,s1,p1,s2,p2,hA,hS]
 ·have hz1:aZ a b c (-1) m f=IntKind.i64.wrap ((scB a b c:Int)*f):=if_neg (by decide);have w1:aD1 (sc a b c) dg (-1) m x y D=D.set y (IntKind.i64.wrap (at0 D y-IntKind.i64.wrap (Int.tdiv (sc a b c) (at0 dg y)*m))):=by unfold aD1;rw[if_neg (by decide),if_pos rfl]
  have p0:=Qd D (i:=y) (by omega) (IntKind.i64.wrap (at0 D y-IntKind.i64.wrap (Int.tdiv (sc a b c) (at0 dg y)*m)));rw[<-w1]at p0;rw[hz1]at p1 hS s2 p2⊢;generalize aD1 (sc a b c) dg (-1) m x y D=D1 at*
  simp(disch:=omega)only[Zb,QM,QD,e2,Int.toNat_natCast,Nat.mul_one,Nat.zero_add,Nat.div_one,i1,fB,mb,g2,r2,Zf,p0,s1,p1,s2,p2,hA,hS]
 ·have hz1:aZ a b c 0 m f=IntKind.i64.wrap (IntKind.i64.wrap ((scB a b c:Int)*f)+IntKind.i64.wrap ((tr a b:Int)*m)):=if_pos rfl;have w1:aD1 (sc a b c) dg 0 m x y D=D:=by unfold aD1;rw[if_neg (by decide),if_neg (by decide)]
  rw[w1]at s1 p1 hA hS s2 p2⊢;rw[hz1]at p1 hS s2 p2⊢;simp(disch:=omega)only[Zb,QM,QD,e2,Int.toNat_natCast,Nat.mul_one,Nat.zero_add,Nat.div_one,i1,fB,mb,hbc,mbc,fBC,Zf,s1,p1,s2,p2,hA,hS]
end
end Go.Proofs.YtjmempcalaliiaaGreatDoor
/- The reference's Degrees: the same as the program's. -/
namespace Go.Proofs.YtjmempcalaliiaaGreatDoor
open Go Go.PM Go.Grid
attribute [local congr] Zy Zz Z0 Yg Z1 Z2 Yh Yi Yj Yk Z3 Z4 Yl Y5 Y6 Y7 Y8 Y9 Xb Xc Xd Xe Xa Z6 Z7 Xf Z8 Z9 Zn Ya Z5
theorem edC_at (E:List (Int×Int)) {j:Nat} (h:j<E.length) {x y:Int} (e:E[j]=(x,y)):(fl edC E).drop (j*2)=C.v (.int .i64 x)::C.v (.int .i64 y)::fl edC (E.drop (j+1))/\List.drop 1 (C.v (.int .i64 x)::C.v (.int .i64 y)::fl edC (E.drop (j+1)))=C.v (.int .i64 y)::fl edC (E.drop (j+1)):=by
 have hea:=Jb Xj h;rw[e]at hea;rw[hea];exact⟨rfl,rfl⟩
section
variable (fu d:Nat) (hf:18446744073709551616<=fu)
include hf
set_option maxHeartbeats 4000000 in
theorem C9 (n:Nat) (h:Yc n):cl fu (d+10) fn_synopticref29_Degrees [I n] []=OK (V.tup [V.c (C.sl (Zg n).length (ints (X5 (Zg n).length (edg n)))),I 0]):=by
 have hn:=h;unfold Yc at hn;have hNl:=Xv h;have heL:=Vd h;have e0:=Hn fu (d+8) (n:Int);rw[decide_eq_true (show 1<=(n:Int) by omega),decide_eq_true (show(n:Int)<=8 by omega)]at e0;have e1:=Qv fu d hf n h;have e2:=Pz fu (d+8) n h;have hin:=Hh h;generalize edg n=E at*
 generalize (Zg n).length=N at*
 have hr0:reps N [C.v (.int .i64 0)]=ints (X5 N []):=by
  unfold X5 reps;simp[ik]
 have hdl:=Rj N;rw[eq_synopticref29_Degrees];simp(disch:=omega)only[Zb,QM,QD,e0,e1,e2,Int.toNat_natCast,Nat.mul_one,hr0,Zf,hdl];rw[Zl (λj:Nat=>(ints (X5 N (E.take j)),((j:Nat):Int),())) 0 (ints (X5 N E),((E.length:Nat):Int),()) E.length ?_ ?_ ?_ (by omega)]
 ·have htk:List.take N (ints (X5 N E))=ints (X5 N E):=List.take_of_length_le (by rw[Zf,hdl];exact Nat.le_refl _);simp(disch:=omega)only[Zb,QM,QD,Nat.zero_add,Nat.mul_one,Nat.div_one,Zf,hdl,htk]
 ·rfl
 ·intro j hj;have hin:=hin E[j] (List.getElem_mem hj);have hst:X5 N (E.take (j+1))=mv1 (X5 N (E.take j)) E[j] 1 1:=by rw[List.take_succ_eq_append_getElem hj,Az]
  have hbd:=degS_le N (E.take j);have htl:(E.take j).length<=15000:=by rw[List.length_take];omega
  have hD:=hdl (E.take j);rw[hst];generalize X5 N (E.take j)=D at*
  generalize hee:E[j]=e at*
  obtain⟨ea,eb⟩:=e;simp only at hin⊢;obtain⟨x,rfl⟩: ∃x:Nat,ea=x:=⟨ea.toNat,by omega⟩;obtain⟨y,rfl⟩: ∃y:Nat,eb=y:=⟨eb.toNat,by omega⟩;obtain⟨ea1,ea2⟩:=edC_at E hj hee;have d1:=Zs D (i:=x) (by omega);have b1:=hbd x;have p1:=Mo D (i:=x) (by omega) 1;have hB:=U9 D x 1;have hBa:=Jj D x 1 y;have hm:mv1 D ((x:Int),(y:Int)) 1 1=Vz (Vz D x 1) y 1:=by unfold mv1;rw[Int.toNat_natCast,Int.toNat_natCast]
  rw[hm];have b2:0<=at0 (Vz D x 1) y/\at0 (Vz D x 1) y<=40000:=by
   have:=hbd y;split at hBa<;>omega
  generalize Vz D x 1=D1 at*
  have d2:=Zs D1 (i:=y) (by omega);have p2:=Mo D1 (i:=y) (by omega) 1;have hB2:=U9 D1 y 1;generalize Vz D1 y 1=D2 at*
  simp(disch:=omega)only[Zb,QM,QD,List.length_cons,List.length_nil,Nat.zero_add,Nat.reduceAdd,Int.toNat_natCast,Nat.mul_one,Nat.div_one,Zf,hD,ea2,ea1,d1,p1,hB,d2,p2,hB2];rfl
 ·rw[List.take_length];simp(disch:=omega)only[Zb,QM,QD,Nat.mul_one,Nat.div_one,Zf,hdl]
end
end Go.Proofs.YtjmempcalaliiaaGreatDoor
/- Both programs' Apply of the transposed step. -/
namespace Go.Proofs.YtjmempcalaliiaaGreatDoor
open Go Go.PM Go.Grid
attribute [local congr] Zy Zz Z0 Yg Z1 Z2 Yh Yi Yj Yk Z3 Z4 Yl Y5 Y6 Y7 Y8 Y9 Xb Xc Xd Xe Xa Z6 Z7 Xf Z8 Z9 Zn Ya Z5
def am (hd:List Int) (E:List (Int×Int)) (j:Nat):Int:=IntKind.i64.wrap (at0 hd (E.getD j (0,0)).2.toNat-at0 hd (E.getD j (0,0)).1.toNat)
def A4 (a b c:Nat) (dg br hd hf:List Int) (E:List (Int×Int)) (D:List Int) (j:Nat):List Int:=
 aD2 (aZ a b c (at0 br j) (am hd E j) (at0 hf j)) (E.getD j (0,0)).1.toNat (E.getD j (0,0)).2.toNat (aD1 (sc a b c) dg (at0 br j) (am hd E j) (E.getD j (0,0)).1.toNat (E.getD j (0,0)).2.toNat D)
def aDS (a b c:Nat) (dg br hd hf:List Int) (E:List (Int×Int)) (k:Nat):List Int:=(List.range k).foldl (A4 a b c dg br hd hf E) (hd.map λx=>IntKind.i64.wrap ((sc a b c:Int)*x))
def aFS (a b c:Nat) (br hd hf:List Int) (E:List (Int×Int)) (k:Nat):List Int:=(List.range k).map λj=>aFl a b c (at0 br j) (am hd E j) (at0 hf j)
theorem Jo (a b c:Nat) (dg br hd hf:List Int) (E:List (Int×Int)) (D:List Int) (j:Nat):(A4 a b c dg br hd hf E D j).length=D.length:=by
 unfold A4;rw[aD2_length,L8]
theorem Cr (a b c:Nat) (dg br hd hf:List Int) (E:List (Int×Int)) (k:Nat):aDS a b c dg br hd hf E (k+1)=A4 a b c dg br hd hf E (aDS a b c dg br hd hf E k) k:=by
 unfold aDS;rw[List.range_succ,List.foldl_append];rfl
theorem P0 (a b c:Nat) (dg br hd hf:List Int) (E:List (Int×Int)) (k:Nat):(aDS a b c dg br hd hf E k).length=hd.length:=by
 induction k with
 |zero=>exact List.length_map ..
 |succ k ih=>rw[Cr,Jo,ih]
theorem aFS_succ (a b c:Nat) (br hd hf:List Int) (E:List (Int×Int)) (k:Nat):aFS a b c br hd hf E (k+1)=aFS a b c br hd hf E k++[aFl a b c (at0 br k) (am hd E k) (at0 hf k)]:=by simp[aFS,List.range_succ]
theorem P1 (a b c:Nat) (br hd hf:List Int) (E:List (Int×Int)) (k:Nat):(aFS a b c br hd hf E k).length=k:=by simp[aFS]
section
variable (fu d:Nat) (hfu:18446744073709551616<=fu)
include hfu
set_option maxHeartbeats 2000000 in
theorem A5 (n:Nat) (h:Yc n) (a b c:Nat) (ha:1<=a/\a<=4) (hb:1<=b/\b<=4) (hc:1<=c/\c<=4) (br hd hf:List Int) (l1:br.length=(edg n).length) (l2:hd.length=(Zg n).length) (l3:hf.length=(edg n).length) (w1:wid (-1) 1 br) (w2:wid (-1099511627776) 1099511627776 hd) (w3:wid (-1099511627776) 1099511627776 hf):
  cl fu (d+12) fn_adjoint_Apply [V.agg [C.v (.int .i64 (a:Int)),C.v (.int .i64 (b:Int)),C.v (.int .i64 (c:Int))],I n,V.c (C.sl br.length (ints br)),V.agg [C.sl hd.length (ints hd),C.sl hf.length (ints hf)]] []=OK (V.tup [V.agg [C.sl hd.length (ints (aDS a b c (X5 (Zg n).length (edg n)) br hd hf (edg n) (edg n).length)),C.sl (edg n).length (ints (aFS a b c br hd hf (edg n) (edg n).length))],I 0]):=by
 have hNl:=Xv h;have heL:=Vd h;have e1:=Cp fu (d+4) hfu a b c ha hb hc;have e2:=sp_CheckT fu (d+1) hfu n h br hd hf l1 l2 l3 w1 w2 w3;have e3:=sp_Degrees fu d n h;have e4:=Q5 fu (d+2) hfu n h;have hin:=Hh h;have hdp:=deg_pos h;have hdl:=Rj (Zg n).length (edg n);have hFl:=λk=>P1 a b c br hd hf (edg n) k;have hFs:=λk=>aFS_succ a b c br hd hf (edg n) k;have hDl:=λk=>P0 a b c (X5 (Zg n).length (edg n)) br hd hf (edg n) k;have hDs:=λk=>Cr a b c (X5 (Zg n).length (edg n)) br hd hf (edg n) k;have hSl:=λD j=>Jo a b c (X5 (Zg n).length (edg n)) br hd hf (edg n) D j;generalize hdg:X5 (Zg n).length (edg n)=dg at*
 generalize hE:edg n=E at*
 generalize (Zg n).length=N at*
 rw[eq_adjoint_Apply];simp(disch:=omega)only[Zb,QM,QD,e1,e2,e3,e4];rw[Zl (λj:Nat=>(((j:Nat):Int),(C.nl,C.nl,()),(ints ((hd.take j).map λx=>IntKind.i64.wrap ((sc a b c:Int)*x)),[],()),())) 0 (((hd.length:Nat):Int),(C.nl,C.nl,()),(ints (aDS a b c dg br hd hf E 0),[],()),()) hd.length ?_ ?_ ?_ (by omega)]
 rotate_left
 ·rfl
 ·intro j hj;have i1:=Zs hd hj;have hsn:ints ((hd.take j).map λx=>IntKind.i64.wrap ((sc a b c:Int)*x))++[C.v (.int .i64 (IntKind.i64.wrap ((sc a b c:Int)*at0 hd j)))]=ints ((hd.take (j+1)).map λx=>IntKind.i64.wrap ((sc a b c:Int)*x)):=by
   rw[List.take_succ_eq_append_getElem hj,List.map_append,Qu,Ri hj];rfl
  have hlt:((hd.take j).map λx=>IntKind.i64.wrap ((sc a b c:Int)*x)).length=j:=by rw[List.length_map,List.length_take];omega
  have hlt1:((hd.take (j+1)).map λx=>IntKind.i64.wrap ((sc a b c:Int)*x)).length=j+1:=by rw[List.length_map,List.length_take];omega
  simp(disch:=omega)only[Zb,QM,QD,Int.toNat_natCast,Nat.mul_one,i1];simp(disch:=omega)only[Zb,QM,QD,Zf,hlt,hlt1,Nat.div_one,Nat.mul_one,hsn,List.length_append,List.length_cons,List.length_nil,Nat.zero_add];rfl
 ·rw[List.take_length];have hl0:(hd.map λx=>IntKind.i64.wrap ((sc a b c:Int)*x)).length=hd.length:=List.length_map ..;simp(disch:=omega)only[Zb,QM,QD,Zf,hl0,Nat.div_one,Nat.mul_one,List.length_nil];rfl
 simp(disch:=omega)only[Zb,QM,QD,Zf,hDl,Nat.div_one,Nat.mul_one,List.length_nil];rw[Zl (λj:Nat=>(((j:Nat):Int),(C.nl,C.nl,()),(ints (aDS a b c dg br hd hf E j),ints (aFS a b c br hd hf E j),()),())) 0 (((E.length:Nat):Int),(C.nl,C.nl,()),(ints (aDS a b c dg br hd hf E E.length),ints (aFS a b c br hd hf E E.length),()),()) E.length ?_ ?_ ?_ (by omega)]
 ·have htk1:List.take hd.length (ints (aDS a b c dg br hd hf E E.length))=ints (aDS a b c dg br hd hf E E.length):=List.take_of_length_le (by rw[Zf,hDl];exact Nat.le_refl _);have htk2:List.take E.length (ints (aFS a b c br hd hf E E.length))=ints (aFS a b c br hd hf E E.length):=List.take_of_length_le (by rw[Zf,hFl];exact Nat.le_refl _);simp(disch:=omega)only[Zb,QM,QD,Zf,hDl,hFl,Nat.div_one,Nat.mul_one,Nat.zero_add,htk1,htk2]
 ·rfl
 ·intro j hj;have hinj:=hin E[j] (List.getElem_mem hj);have hdpj:=hdp E[j] (List.getElem_mem hj);have i4:=Zs br (i:=j) (by omega);have bj:=wid_at0 w1 (by omega) j;have hD:=hDl j;have hst:=hDs j;have hft:=hFs j;have hFlj:=hFl j;have hsl:=hSl (aDS a b c dg br hd hf E j) j;unfold A4 am at hst hsl;unfold am at hft;rw[getD_get E hj]at hst hsl hft;rw[hst,hft];generalize aFS a b c br hd hf E j=FL at*
  generalize aDS a b c dg br hd hf E j=D at*
  generalize hee:E[j]=e at*
  obtain⟨ea,eb⟩:=e;simp only at hinj hdpj hsl⊢;obtain⟨x,rfl⟩: ∃x:Nat,ea=x:=⟨ea.toNat,by omega⟩;obtain⟨y,rfl⟩: ∃y:Nat,eb=y:=⟨eb.toNat,by omega⟩;rw[Int.toNat_natCast,Int.toNat_natCast]at hdpj hsl⊢;have hea:=Jb Xj hj;rw[hee,show edC ((x:Int),(y:Int))=[C.v (.int .i64 (x:Int)),C.v (.int .i64 (y:Int))] from rfl]at hea;have q1:=sp_flow fu (d+9) x y a b c j (at0 br j) dg hd hf (by omega) (by omega) (by omega) ha hb hc;have q2:=sp_depth fu (d+9) x y a b c j (at0 br j) dg hd hf D (by omega) (by omega) (by omega) (by omega) (by omega) (by omega) hdpj.1 hdpj.2 bj ha hb hc;unfold lkC at q1 q2;rw[show dg.length=N by omega]at q1 q2;rw[hD]at q2 hsl;generalize at0 br j=v at*
  simp(disch:=omega)only[Zb,QM,QD,List.cons_append,List.nil_append,Int.toNat_natCast,Nat.mul_one,Nat.div_one,Nat.zero_add,hea,i4,Zf,hD,hFlj,q1,q2,hsl,Qu,List.length_append,List.length_cons,List.length_nil];rfl
 ·simp(disch:=omega)only[Zb,QM,QD,Zf,hDl,hFl,Nat.div_one,Nat.mul_one]
end
end Go.Proofs.YtjmempcalaliiaaGreatDoor
/- The reference's Apply of the transposed step. -/
namespace Go.Proofs.YtjmempcalaliiaaGreatDoor
open Go Go.PM Go.Grid
attribute [local congr] Zy Zz Z0 Yg Z1 Z2 Yh Yi Yj Yk Z3 Z4 Yl Y5 Y6 Y7 Y8 Y9 Xb Xc Xd Xe Xa Z6 Z7 Xf Z8 Z9 Zn Ya Z5
section
variable (fu d:Nat) (hfu:18446744073709551616<=fu)
include hfu
set_option maxHeartbeats 4000000 in
theorem sp_RApply (n:Nat) (h:Yc n) (a b c:Nat) (ha:1<=a/\a<=4) (hb:1<=b/\b<=4) (hc:1<=c/\c<=4) (br hd hf:List Int) (l1:br.length=(edg n).length) (l2:hd.length=(Zg n).length) (l3:hf.length=(edg n).length) (w1:wid (-1) 1 br) (w2:wid (-1099511627776) 1099511627776 hd) (w3:wid (-1099511627776) 1099511627776 hf):
  cl fu (d+12) fn_synopticref32_Apply [V.agg [C.v (.int .i64 (a:Int)),C.v (.int .i64 (b:Int)),C.v (.int .i64 (c:Int))],I n,V.c (C.sl br.length (ints br)),V.agg [C.sl hd.length (ints hd),C.sl hf.length (ints hf)]] []=OK (V.tup [V.agg [C.sl hd.length (ints (aDS a b c (X5 (Zg n).length (edg n)) br hd hf (edg n) (edg n).length)),C.sl (edg n).length (ints (aFS a b c br hd hf (edg n) (edg n).length))],I 0]):=by
 have hNl:=Xv h;have heL:=Vd h;have e1:=Mc fu (d+9) hfu a b c ha hb hc;unfold scC at e1;have e2:=(M9 fu (d+1) hfu (n:Int) br (Qa hd) (Qa hf) (by omega) (by omega) (by omega)).1 ⟨n,rfl,h,l2,l3,l1,w1,w2,w3⟩;have e3:=C9 fu (d+1) hfu n h;have e4:=Qv fu (d+2) hfu n h;have hin:=Hh h;have hdp:=deg_pos h;have hdl:=Rj (Zg n).length (edg n);have hFl:=λk=>P1 a b c br hd hf (edg n) k;have hFs:=λk=>aFS_succ a b c br hd hf (edg n) k;have hDl:=λk=>P0 a b c (X5 (Zg n).length (edg n)) br hd hf (edg n) k;have hDs:=λk=>Cr a b c (X5 (Zg n).length (edg n)) br hd hf (edg n) k;have hs1:=sc_bd ha.2 hb.2 hc.2;have hs2:=scA_le a b c;have fA:=fdivA a b c;have fB:=fdivB a b c;have fB2:=fdivB2 a b c;have ma:min a (IntKind.bits .i64)=a:=by show min a 64=a;omega
 have mb:min b (IntKind.bits .i64)=b:=by show min b 64=b;omega
 have mc:min c (IntKind.bits .i64)=c:=by show min c 64=c;omega
 have ua:IntKind.u64.wrap (a:Int)=(a:Int):=IntWalk.u64_in _ ⟨by omega,by omega⟩;have ub:IntKind.u64.wrap (b:Int)=(b:Int):=IntWalk.u64_in _ ⟨by omega,by omega⟩;have uc:IntKind.u64.wrap (c:Int)=(c:Int):=IntWalk.u64_in _ ⟨by omega,by omega⟩;generalize hdg:X5 (Zg n).length (edg n)=dg at*
 generalize hE:edg n=E at*
 generalize (Zg n).length=N at*
 rw[eq_synopticref32_Apply];simp(disch:=omega)only[Zb,QM,QD,e1,e2,e3,e4,ua,ub];rw[Zl (λj:Nat=>(((j:Nat):Int),(C.nl,C.nl,()),(ints ((hd.take j).map λx=>IntKind.i64.wrap ((sc a b c:Int)*x)),[],()),())) 0 (((hd.length:Nat):Int),(C.nl,C.nl,()),(ints (aDS a b c dg br hd hf E 0),[],()),()) hd.length ?_ ?_ ?_ (by omega)]
 rotate_left
 ·rfl
 ·intro j hj;have i1:=Zs hd hj;have hsn:ints ((hd.take j).map λx=>IntKind.i64.wrap ((sc a b c:Int)*x))++[C.v (.int .i64 (IntKind.i64.wrap ((sc a b c:Int)*at0 hd j)))]=ints ((hd.take (j+1)).map λx=>IntKind.i64.wrap ((sc a b c:Int)*x)):=by
   rw[List.take_succ_eq_append_getElem hj,List.map_append,Qu,Ri hj];rfl
  have hlt:((hd.take j).map λx=>IntKind.i64.wrap ((sc a b c:Int)*x)).length=j:=by rw[List.length_map,List.length_take];omega
  have hlt1:((hd.take (j+1)).map λx=>IntKind.i64.wrap ((sc a b c:Int)*x)).length=j+1:=by rw[List.length_map,List.length_take];omega
  simp(disch:=omega)only[Zb,QM,QD,Int.toNat_natCast,Nat.mul_one,i1];simp(disch:=omega)only[Zb,QM,QD,Zf,hlt,hlt1,Nat.div_one,Nat.mul_one,hsn,List.length_append,List.length_cons,List.length_nil,Nat.zero_add];rfl
 ·rw[List.take_length];have hl0:(hd.map λx=>IntKind.i64.wrap ((sc a b c:Int)*x)).length=hd.length:=List.length_map ..;simp(disch:=omega)only[Zb,QM,QD,Zf,hl0,Nat.div_one,Nat.mul_one,List.length_nil];rfl
 simp(disch:=omega)only[Zb,QM,QD,Zf,hDl,Nat.div_one,Nat.mul_one,List.length_nil];rw[Zl (λj:Nat=>(((j:Nat):Int),(C.nl,C.nl,()),(ints (aDS a b c dg br hd hf E j),ints (aFS a b c br hd hf E j),()),())) 0 (((E.length:Nat):Int),(C.nl,C.nl,()),(ints (aDS a b c dg br hd hf E E.length),ints (aFS a b c br hd hf E E.length),()),()) E.length ?_ ?_ ?_ (by omega)]
 ·have htk1:List.take hd.length (ints (aDS a b c dg br hd hf E E.length))=ints (aDS a b c dg br hd hf E E.length):=List.take_of_length_le (by rw[Zf,hDl];exact Nat.le_refl _);have htk2:List.take E.length (ints (aFS a b c br hd hf E E.length))=ints (aFS a b c br hd hf E E.length):=List.take_of_length_le (by rw[Zf,hFl];exact Nat.le_refl _);simp(disch:=omega)only[Zb,QM,QD,Zf,hDl,hFl,Nat.div_one,Nat.mul_one,Nat.zero_add,htk1,htk2]
 ·rfl
 ·intro j hj;have hinj:=hin E[j] (List.getElem_mem hj);have hdpj:=hdp E[j] (List.getElem_mem hj);have i4:=Zs br (i:=j) (by omega);have i3:=Zs hf (i:=j) (by omega);have bj:=wid_at0 w1 (by omega) j;have hD:=hDl j;have hst:=hDs j;have hft:=hFs j;have hFlj:=hFl j;unfold A4 am at hst;unfold am at hft;rw[getD_get E hj]at hst hft;rw[hst,hft];generalize aFS a b c br hd hf E j=FL at*
  generalize aDS a b c dg br hd hf E j=D at*
  generalize hee:E[j]=e at*
  obtain⟨ea,eb⟩:=e;simp only at hinj hdpj⊢;obtain⟨x,rfl⟩: ∃x:Nat,ea=x:=⟨ea.toNat,by omega⟩;obtain⟨y,rfl⟩: ∃y:Nat,eb=y:=⟨eb.toNat,by omega⟩;simp only[Int.toNat_natCast]at hdpj⊢;obtain⟨hea,heb⟩:=edC_at E hj hee;have i5:=Zs hd (i:=x) (by omega);have i6:=Zs hd (i:=y) (by omega);have g1:=Zs dg (i:=x) (by omega);have g2:=Zs dg (i:=y) (by omega);have t1:=Fu (s:=(sc a b c:Int)) (by omega) hdpj.1;have t2:=Fu (s:=(sc a b c:Int)) (by omega) hdpj.2;have r1:=Zs D (i:=x) (by omega);have r2:=Zs D (i:=y) (by omega);generalize hm:IntKind.i64.wrap (at0 hd y-at0 hd x)=m at*
  generalize at0 hf j=f at*
  generalize at0 br j=v at*
  have hA:(aD1 (sc a b c) dg v m x y D).length=D.length:=L8 ..;have s1:=Zs (aD1 (sc a b c) dg v m x y D) (i:=x) (by omega);have p1:=Qd (aD1 (sc a b c) dg v m x y D) (i:=x) (by omega) (IntKind.i64.wrap (at0 (aD1 (sc a b c) dg v m x y D) x+aZ a b c v m f));have hS:((aD1 (sc a b c) dg v m x y D).set x (IntKind.i64.wrap (at0 (aD1 (sc a b c) dg v m x y D) x+aZ a b c v m f))).length=D.length:=by rw[List.length_set];exact hA
  have s2:=Zs ((aD1 (sc a b c) dg v m x y D).set x (IntKind.i64.wrap (at0 (aD1 (sc a b c) dg v m x y D) x+aZ a b c v m f))) (i:=y) (by omega);have p2:=Qd ((aD1 (sc a b c) dg v m x y D).set x (IntKind.i64.wrap (at0 (aD1 (sc a b c) dg v m x y D) x+aZ a b c v m f))) (i:=y) (by omega) (IntKind.i64.wrap (at0 ((aD1 (sc a b c) dg v m x y D).set x (IntKind.i64.wrap (at0 (aD1 (sc a b c) dg v m x y D) x+aZ a b c v m f))) y-aZ a b c v m f));have hS2:(((aD1 (sc a b c) dg v m x y D).set x (IntKind.i64.wrap (at0 (aD1 (sc a b c) dg v m x y D) x+aZ a b c v m f))).set y (IntKind.i64.wrap (at0 ((aD1 (sc a b c) dg v m x y D).set x (IntKind.i64.wrap (at0 (aD1 (sc a b c) dg v m x y D) x+aZ a b c v m f))) y-aZ a b c v m f))).length=D.length:=by rw[List.length_set];exact hS
  unfold aD2;rcases(show v=1\/v= -1\/v=0 by omega)with rfl|rfl|rfl
  ·have hz1:aZ a b c 1 m f=IntKind.i64.wrap ((scB a b c:Int)*f):=if_neg (by decide);have hz2:aFl a b c 1 m f=IntKind.i64.wrap (((sc a b c:Int)-scA a b c)*f):=if_neg (by decide);have q1:aD1 (sc a b c) dg 1 m x y D=D.set x (IntKind.i64.wrap (at0 D x+IntKind.i64.wrap (Int.tdiv (sc a b c) (at0 dg x)*m))):=if_pos rfl;have p0:=Qd D (i:=x) (by omega) (IntKind.i64.wrap (at0 D x+IntKind.i64.wrap (Int.tdiv (sc a b c) (at0 dg x)*m)));rw[<-q1]at p0;rw[hz1]at p1 hS s2 p2 hS2⊢;rw[hz2];generalize aD1 (sc a b c) dg 1 m x y D=D1 at*
   simp(disch:=omega)only[Zb,QM,QD,Int.toNat_natCast,Nat.mul_one,Nat.zero_add,Nat.div_one,hea,heb,i5,i6,hm,i3,i4,ua,ub,uc,ma,mb,mc,fA,fB,g1,r1,Zf,hD,hFlj,p0,s1,p1,s2,p2,hA,hS,hS2,Qu,List.length_append,List.length_cons,List.length_nil];rfl
  ·have hz1:aZ a b c (-1) m f=IntKind.i64.wrap ((scB a b c:Int)*f):=if_neg (by decide);have hz2:aFl a b c (-1) m f=IntKind.i64.wrap (((sc a b c:Int)-scA a b c)*f):=if_neg (by decide);have q1:aD1 (sc a b c) dg (-1) m x y D=D.set y (IntKind.i64.wrap (at0 D y-IntKind.i64.wrap (Int.tdiv (sc a b c) (at0 dg y)*m))):=by unfold aD1;rw[if_neg (by decide),if_pos rfl]
   have p0:=Qd D (i:=y) (by omega) (IntKind.i64.wrap (at0 D y-IntKind.i64.wrap (Int.tdiv (sc a b c) (at0 dg y)*m)));rw[<-q1]at p0;rw[hz1]at p1 hS s2 p2 hS2⊢;rw[hz2];generalize aD1 (sc a b c) dg (-1) m x y D=D1 at*
   simp(disch:=omega)only[Zb,QM,QD,Int.toNat_natCast,Nat.mul_one,Nat.zero_add,Nat.div_one,hea,heb,i5,i6,hm,i3,i4,ua,ub,uc,ma,mb,mc,fA,fB,g2,r2,Zf,hD,hFlj,p0,s1,p1,s2,p2,hA,hS,hS2,Qu,List.length_append,List.length_cons,List.length_nil];rfl
  ·have hz1:aZ a b c 0 m f=IntKind.i64.wrap (IntKind.i64.wrap ((scB a b c:Int)*f)+IntKind.i64.wrap ((tr a b:Int)*m)):=if_pos rfl;have hz2:aFl a b c 0 m f=IntKind.i64.wrap (IntKind.i64.wrap (((sc a b c:Int)-scA a b c)*f)+IntKind.i64.wrap (Int.fdiv ((sc a b c:Int)-scA a b c) (2^c)*m)):=if_pos rfl;have q1:aD1 (sc a b c) dg 0 m x y D=D:=by unfold aD1;rw[if_neg (by decide),if_neg (by decide)]
   rw[q1]at s1 p1 hA hS s2 p2 hS2⊢;rw[hz1]at p1 hS s2 p2 hS2⊢;rw[hz2];simp(disch:=omega)only[Zb,QM,QD,Int.toNat_natCast,Nat.mul_one,Nat.zero_add,Nat.div_one,hea,heb,i5,i6,hm,i3,i4,ua,ub,uc,ma,mb,mc,fA,fB,fB2,Zf,hD,hFlj,s1,p1,s2,p2,hA,hS,hS2,Qu,List.length_append,List.length_cons,List.length_nil];rfl
 ·simp(disch:=omega)only[Zb,QM,QD,Zf,hDl,hFl,Nat.div_one,Nat.mul_one]
end
end Go.Proofs.YtjmempcalaliiaaGreatDoor
/- Both programs' Apply of the transposed step, at any numbers. -/
namespace Go.Proofs.YtjmempcalaliiaaGreatDoor
open Go Go.PM Go.Grid
attribute [local congr] Zy Zz Z0 Yg Z1 Z2 Yh Yi Yj Yk Z3 Z4 Yl Y5 Y6 Y7 Y8 Y9 Xb Xc Xd Xe Xa Z6 Z7 Xf Z8 Z9 Zn Ya Z5
theorem Fv {c:C} {l:List Int} (h:isL c l) (hl:0<l.length):c=C.sl l.length (ints l):=by
 have h1:=h.1;cases c with
 |nl=>
  rw[nrm_nl]at h1;injection h1 with e _
  omega
 |_=>exact h1
def bA (l:List Int):C:=C.sl l.length (ints l)
abbrev noC:Option Out:=OK (V.tup [V.agg [C.nl,C.nl],I 1])
abbrev okC (p q:List Int):Option Out:=OK (V.tup [V.agg [C.sl p.length (ints p),C.sl q.length (ints q)],I 0])
section
variable (fu d:Nat) (hfu:18446744073709551616<=fu)
include hfu
theorem Gu (a b c n:Int) (br:List Int) {c1 c2 c1' c2':C} {hd hf:List Int} (h1:isL c1 hd) (h2:isL c2 hf) (h1':isL c1' hd) (h2':isL c2' hf) (l0:br.length<=1000000) (l1:hd.length<=1000000) (l2:hf.length<=1000000):
  (cl fu (d+12) fn_adjoint_Apply [V.agg (scC a b c),I n,V.c (C.sl br.length (ints br)),V.agg [c1,c2]] []=noC/\cl fu (d+12) fn_synopticref32_Apply [V.agg (scC a b c),I n,V.c (C.sl br.length (ints br)),V.agg [c1',c2']] []=noC)\/
  ∃p q:List Int,p.length<=1000000/\q.length<=1000000/\cl fu (d+12) fn_adjoint_Apply [V.agg (scC a b c),I n,V.c (C.sl br.length (ints br)),V.agg [c1,c2]] []=okC p q/\cl fu (d+12) fn_synopticref32_Apply [V.agg (scC a b c),I n,V.c (C.sl br.length (ints br)),V.agg [c1',c2']] []=okC p q:=by
 rcases Jm a b c with⟨x,y,z,rfl,rfl,rfl,hx,hy,hz⟩|hbad
 ·by_cases hch:isCh n br hd hf
  ·obtain⟨m,rfl,hm,g1,g2,g3,w1,w2,w3⟩:=hch;have hNl:=Xv hm;have heL:=Vd hm;have p1:=L6 hm;have p2:=edg_pos hm;obtain rfl:=Fv h1 (by omega);obtain rfl:=Fv h2 (by omega);obtain rfl:=Fv h1' (by omega);obtain rfl:=Fv h2' (by omega);have q1:=A5 fu d hfu m hm x y z hx hy hz br hd hf g3 g1 g2 w1 w2 w3;have q2:=sp_RApply fu d hfu m hm x y z hx hy hz br hd hf g3 g1 g2 w1 w2 w3;have k1:=P0 x y z (X5 (Zg m).length (edg m)) br hd hf (edg m) (edg m).length;have k2:=P1 x y z br hd hf (edg m) (edg m).length;refine .inr ⟨aDS x y z (X5 (Zg m).length (edg m)) br hd hf (edg m) (edg m).length,aFS x y z br hd hf (edg m) (edg m).length,by omega,by omega, ?_, ?_⟩
   ·unfold okC;rw[k1,k2];exact q1
   ·unfold okC;rw[k1,k2];exact q2
  ·have e1:=Cp fu (d+4) hfu x y z hx hy hz;have e2:=(sp_CheckTG fu (d+1) hfu n br h1 h2 l0 l1 l2).2 hch;have e3:=Mc fu (d+9) hfu x y z hx hy hz;have e4:=(M9 fu (d+1) hfu n br h1' h2' l0 l1 l2).2 hch;unfold scC at*
   refine .inl ⟨?_, ?_⟩
   ·rw[eq_adjoint_Apply];simp(disch:=omega)only[Zb,QM,QD,e1,e2]
   ·rw[eq_synopticref32_Apply];simp(disch:=omega)only[Zb,QM,QD,e3,e4]
 ·have e1:=Jn fu (d+4) hfu a b c hbad;have e3:=P9 fu (d+9) hfu a b c hbad;unfold scC at*
  refine .inl ⟨?_, ?_⟩
  ·rw[eq_adjoint_Apply];simp(disch:=omega)only[Zb,QM,QD,e1]
  ·rw[eq_synopticref32_Apply];simp(disch:=omega)only[Zb,QM,QD,e3]
end
end Go.Proofs.YtjmempcalaliiaaGreatDoor
/- The iterators that this seat's programs meet: the edges, and slices.Backward. -/
namespace Go.Proofs.YtjmempcalaliiaaGreatDoor
open Go Go.PM Go.Grid
attribute [local congr] Zy Zz Z0 Yg Z1 Z2 Yh Yi Yj Yk Z3 Z4 Yl Y5 Y6 Y7 Y8 Y9 Xb Xc Xd Xe Xa Z6 Z7 Xf Z8 Z9 Zn Ya Z5
theorem Se (cs:List C):(backL cs).length=cs.length:=by simp[backL]
theorem A6 (cs:List C) {i:Nat} (h:i<cs.length):(backL cs)[i]'(by rw[Se];exact h)=[I ((cs.length-1-i:Nat):Int),V.c (cs[cs.length-1-i]'(by omega))]:=by
 simp only[backL,List.getElem_map,List.getElem_reverse,List.getElem_zipIdx,List.length_zipIdx,Nat.zero_add]
theorem backL_drop (cs:List C) {i:Nat} (h:i<cs.length):(backL cs).drop i=[I ((cs.length-1-i:Nat):Int),V.c (cs[cs.length-1-i]'(by omega))]::(backL cs).drop (i+1):=by
 rw[List.drop_eq_getElem_cons (by rw[Se];exact h),A6 cs h]
theorem backL_at (cs:List C) {i q:Nat} (h:i<cs.length) (hq:q=cs.length-1-i) (hql:q<cs.length):(backL cs).drop i=[I (q:Int),V.c cs[q]]::(backL cs).drop (i+1):=by
 subst hq;exact backL_drop cs h
section
variable (fu d:Nat) (hf:18446744073709551616<=fu)
include hf
theorem back_ok (cs:List C) (hl:cs.length<=1000000) (l:Nat) (go:Nat->Bool) (c0:C) (hc0: ∀{R:Type} (k:Nat->List C->Option R),asSl c0 k=k cs.length cs) (r:List C):
  ∃out lg,cl fu (d+1) fn_slices_Backward_sapi_Branch_api_Branch_1 [V.c (C.yl l go (backL cs)),V.c (C.cp (c0::r))] []=some out/\out.log=some lg/\(lg.st=true\/lg.rest=[]):=by
 have hll:=Se cs;have hd:=λ{i q:Nat} (h:i<cs.length) (hq:q=cs.length-1-i) (hql:q<cs.length)=>backL_at cs h hq hql;rw[eq_slices_Backward_sapi_Branch_api_Branch_1];generalize backL cs=BL at*
 have hc1:=λ{R:Type} (k:Nat->List C->Option R)=>hc0 k;simp(disch:=omega)only[Zb,QM,QD,hc1];refine Qo (A:=Int×Log×Unit) (B:=Out) (fu:=fu) (λo=> ∃out lg,o=some out/\out.log=some lg/\(lg.st=true\/lg.rest=[]))
  (λs=> ∃i:Nat,i<=cs.length/\s=((cs.length:Int)-1-(i:Int),⟨l,go,i,BL.drop i,false⟩,())) (λs=>(s.1+1).toNat) (λ_ z=>z.2.1.st=true\/z.2.1.rest=[]) ⟨0,by omega, ?_⟩ ?_ ?_ ?_
 ·simp
 ·show((cs.length:Int)-1+1).toNat<fu;omega
 ·rintro y ⟨i,hi,rfl⟩
  by_cases hlt:i<cs.length
  ·obtain⟨q,hq⟩: ∃q:Nat,q=cs.length-1-i:=⟨_,rfl⟩;have hqi:(cs.length:Int)-1-(i:Int)=(q:Int):=by omega
   have hql:q<cs.length:=by omega
   have hat:=List.drop_eq_getElem_cons hql;have hd:=hd hlt hq hql;rw[hqi];cases hg:go i with
   |true=>
    refine .inl ⟨((cs.length:Int)-1-((i+1:Nat):Int),⟨l,go,i+1,BL.drop (i+1),false⟩,()), ?_,⟨i+1,by omega,rfl⟩, ?_⟩
    ·rw[show(cs.length:Int)-1-((i+1:Nat):Int)=(q:Int)-1 by omega];simp(disch:=omega)only[Zb,QM,QD,Int.toNat_natCast,Nat.mul_one,hc1,hat,hd,K3,K4,hg]
    ·show((cs.length:Int)-1-((i+1:Nat):Int)+1).toNat<((q:Int)+1).toNat;omega
   |false=>
    refine .inr ⟨1,((q:Int),⟨l,go,i+1,BL.drop (i+1),true⟩,()), ?_, .inl rfl⟩;simp(disch:=omega)only[Zb,QM,QD,Int.toNat_natCast,Nat.mul_one,hc1,hat,hd,K3,K4,hg]
  ·refine .inr ⟨0,((cs.length:Int)-1-(i:Int),⟨l,go,i,BL.drop i,false⟩,()), ?_, .inr ?_⟩
   ·simp(disch:=omega)only[Zb,QM,QD]
   ·show BL.drop i=[];rw[List.drop_eq_nil_iff];omega
 ·rintro e z hz
  refine⟨⟨V.tup [],[],some z.2.1⟩,z.2.1, ?_,rfl,hz⟩;cases e<;>rfl
omit d in
theorem iterOk:IterOk Tryz.prog prim laid fu:=by
 intro d f caps xs h l go;replace h:(bif Nat.ble 10 d then iterC f caps else none)=some xs:=h;cases hd:Nat.ble 10 d with
 |false=>rw[hd]at h;cases h
 |true=>
  rw[hd]at h;replace h:iterC f caps=some xs:=h;have hd:=Nat.le_of_ble_eq_true hd;obtain⟨d',rfl⟩: ∃d',d=d'+10:=⟨d-10,by omega⟩;unfold iterC at h;cases hfq:Nat.beq f fn_flux_edges_1 with
  |false=>
   rw[hfq]at h;simp only[cf]at h;cases hfv:Nat.beq f fn_slices_Backward_sapi_Branch_api_Branch_1 with
   |false=>rw[hfv]at h;cases h
   |true=>
    have hfe:=Nat.eq_of_beq_eq_true hfv;subst hfe;rw[hfv]at h;simp only[ct]at h;split at h
    ·rename_i c;unfold asP at h;split at h
     ·rename_i cs;cases cs with
      |nil=>cases h
      |cons c r=>
       replace h:asSl c (λn l=>need (Nat.beq n l.length&&Nat.ble n 1000000) (some (backL l)))=some xs:=h;have fin: ∀(n:Nat) (cs:List C),need (Nat.beq n cs.length&&Nat.ble n 1000000) (some (backL cs))=some xs->n=cs.length/\cs.length<=1000000/\xs=backL cs:=λn cs h=>by
        obtain⟨hc,h⟩:=Za h;rw[Bool.and_eq_true]at hc;have h1:=Nat.eq_of_beq_eq_true hc.1;have h2:=Nat.le_of_ble_eq_true hc.2;cases h;exact⟨h1,by omega,rfl⟩
       unfold asSl at h;split at h
       ·rename_i p hp;obtain⟨e1,h3,rfl⟩:=fin _ _ h;refine back_ok fu (d'+9) hf p.2 h3 l go _ (λk=> ?_) r;unfold asSl;rw[hp];show k p.1 p.2=_;rw[e1]
       ·cases h
     ·cases h
    ·cases h
  |true=>
   have hfe:=Nat.eq_of_beq_eq_true hfq;subst hfe;rw[hfq]at h;simp only[ct]at h;split at h
   ·rename_i c;unfold asP at h;split at h
    ·rename_i cs;cases cs with
     |nil=>cases h
     |cons c r=>
      replace h:asI .i64 c (λn=>need (decide (1<=n)&&decide (n<=8)) (some (edgesL n.toNat)))=some xs:=h;unfold asI at h;split at h
      ·split at h
       ·rename_i kd i hk;subst hk;obtain⟨hc,h⟩:=Za h;rw[Bool.and_eq_true]at hc;have h1:=of_decide_eq_true hc.1;have h2:=of_decide_eq_true hc.2;cases h;obtain⟨n,rfl⟩: ∃n:Nat,i=n:=⟨i.toNat,by omega⟩;exact edges_ok fu d' hf n (by unfold Yc;omega) l go r
       ·cases h
      ·cases h
    ·cases h
   ·cases h
omit hf in
theorem prim_back (cs:List C) (hl:cs.length<=1000000):prim.iter (d+10) fn_slices_Backward_sapi_Branch_api_Branch_1 [C.cp [C.sl cs.length cs]]=some (backL cs):=by
 show(bif Nat.ble 10 (d+10)then iterC fn_slices_Backward_sapi_Branch_api_Branch_1 [C.cp [C.sl cs.length cs]]else none)=_;rw[show Nat.ble 10 (d+10)=true from Nat.ble_eq_true_of_le (by omega)];show need (Nat.beq cs.length cs.length&&Nat.ble cs.length 1000000) (some (backL cs))=_;rw[Nat.beq_refl,Nat.ble_eq_true_of_le hl];rfl
end
end Go.Proofs.YtjmempcalaliiaaGreatDoor
