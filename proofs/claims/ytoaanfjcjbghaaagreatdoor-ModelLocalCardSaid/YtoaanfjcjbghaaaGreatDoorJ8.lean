/- Parts put together: W, Gc, Gd, Ge, Ea, H, Eb, Ec, Ed, Ee, Ef, Eg, Eh, Ei, Ej, Ek, El, Fa, Fb, Fc, Fd, Fe, Ff, Na, Fp, Nb, Nc, Nd, Ne. -/
import Derived.Test.YtoaanfjcjbghaaaGreatDoorJ5
import Derived.Test.YtoaanfjcjbghaaaGreatDoorEq
import Derived.Test.YtoaanfjcjbghaaaGreatDoorJ6
set_option linter.defProp false
set_option linter.unusedSimpArgs false
set_option linter.unusedVariables false
/- Rules whose conditions simp can have shown by omega; lists of records as cells. -/
namespace Go.PM
open Go
theorem wrap_in {x:Int} (h1: -9223372036854775808<=x) (h2:x<=9223372036854775807):IntKind.i64.wrap x=x:=IntWalk.i64_in x ⟨by omega,by omega⟩
theorem dlt_t {a b:Int} (h:a<b):decide (a<b)=true:=decide_eq_true h
theorem dlt_f {a b:Int} (h:b<=a):decide (a<b)=false:=decide_eq_false (by omega)
theorem dle_t {a b:Int} (h:a<=b):decide (a<=b)=true:=decide_eq_true h
theorem dle_f {a b:Int} (h:b<a):decide (a<=b)=false:=decide_eq_false (by omega)
theorem dgt_t {a b:Int} (h:b<a):decide (a>b)=true:=decide_eq_true h
theorem dgt_f {a b:Int} (h:a<=b):decide (a>b)=false:=decide_eq_false (by omega)
theorem dge_t {a b:Int} (h:b<=a):decide (a≥b)=true:=decide_eq_true h
theorem dge_f {a b:Int} (h:a<b):decide (a≥b)=false:=decide_eq_false (by omega)
theorem ibeq_t {a b:Int} (h:a=b):(a==b)=true:=beq_iff_eq.2 h
theorem ibeq_f {a b:Int} (h:a≠b):(a==b)=false:=beq_eq_false_iff_ne.2 h
theorem ibne_t {a b:Int} (h:a≠b):(a !=b)=true:=bne_iff_ne.2 h
theorem ibne_f {a b:Int} (h:a=b):(a !=b)=false:=by subst h;simp
def fl {A:Type} (e:A ->List C) (l:List A):List C:=l.flatMap e
section
variable {A:Type} {e:A ->List C} {m:Nat}
@[simp] theorem fl_nil:fl e []=[]:=rfl
theorem fl_cons (x:A) (l:List A):fl e (x::l)=e x++fl e l:=by simp [fl]
theorem fl_append (l l':List A):fl e (l++l')=fl e l++fl e l':=by simp [fl]
theorem fl_snoc (l:List A) (x:A):fl e l++e x=fl e (l++[x]):=by simp [fl]
theorem fl_length (h: ∀x,(e x).length=m): ∀l:List A,(fl e l).length=l.length*m
 | []=>by simp [fl]
 |x::l=>by rw [fl_cons,List.length_append,h,fl_length h l,List.length_cons,Nat.succ_mul];omega
theorem fl_drop (h: ∀x,(e x).length=m): ∀(k:Nat) (l:List A),(fl e l).drop (k*m)=fl e (l.drop k)
 |0,l=>by simp
 |k+1,[]=>by simp [fl]
 |k+1,x::l=>by
  rw [fl_cons,Nat.succ_mul,Nat.add_comm,List.drop_append];rw [show (e x).drop (m+k*m)=[] from List.drop_eq_nil_of_le (by rw [h];omega),h,Nat.add_sub_cancel_left,List.nil_append,fl_drop h k l];rfl
theorem fl_take (h: ∀x,(e x).length=m): ∀(k:Nat) (l:List A),(fl e l).take (k*m)=fl e (l.take k)
 |0,l=>by simp
 |k+1,[]=>by simp [fl]
 |k+1,x::l=>by
  rw [fl_cons,Nat.succ_mul,Nat.add_comm,List.take_append];rw [List.take_of_length_le (by rw [h];omega),h,Nat.add_sub_cancel_left,fl_take h k l,List.take_succ_cons,fl_cons]
theorem fl_at (h: ∀x,(e x).length=m) {k:Nat} {l:List A} (hk:k<l.length):(fl e l).drop (k*m)=e l[k]++fl e (l.drop (k+1)):=by
 rw [fl_drop h,List.drop_eq_getElem_cons hk,fl_cons]
end
theorem first_or_none (P:Nat ->Prop) [DecidablePred P] (n:Nat):(∀j,j<n -> ¬P j)\/ ∃k,k<n/\P k/\ ∀j,j<k -> ¬P j:=by
 induction n with
 |zero=>left;intro j hj;omega
 |succ n ih=>
  rcases ih with ih|⟨k,h1,h2,h3⟩
  ·by_cases h:P n
   ·exact .inr ⟨n,by omega,h,ih⟩
   ·left;intro j hj;by_cases e:j=n
    ·subst e;exact h
    ·exact ih j (by omega)
  ·exact .inr ⟨k,by omega,h2,h3⟩
theorem iter_runx {A:Type} {body:A ->Option (Nat×A)} {x:A} {fu:Nat} (f:Nat ->A) (e:Nat) (z:A) (k:Nat) (hx:x=f 0) (h: ∀j,j<k ->body (f j)=some (0,f (j+1))) (he:body (f k)=some (e+1,z)) (hf:k<fu):iter body fu x=some (e,z):=by
 rw [hx];exact iter_run f e z k 0 fu (fun j _ hj=>h j (by omega)) (by rw [Nat.zero_add];exact he) hf
theorem iter_measx {A:Type} {body:A ->Option (Nat×A)} {x:A} {fu:Nat} (J:A ->Prop) (m:A ->Nat) (e:Nat) (z:A) (hx:J x) (hm:m x<fu) (h: ∀y,J y ->(∃y',body y=some (0,y')/\J y'/\m y'<m y)\/body y=some (e+1,z)):iter body fu x=some (e,z):=by
 obtain ⟨e',z',h1,h2,h3⟩:=iter_meas (body:=body) J m (fun e' z'=>e'=e/\z'=z) (fun y hy=>(h y hy).imp id fun hh=>⟨e,z,hh,rfl,rfl⟩) fu x hx hm;rw [h1,h2,h3]
theorem iter_s {A:Type} (body:A ->Option (Nat×A)) (n:Nat) (x:A):iter body (n+1) x=(body x).bind fun p=>natD p.1 (iter body n p.2) fun m=>some (m,p.2):=by
 simp only [iter]
 congr 1
def QM:=And.intro @obs (And.intro @rC_c (And.intro @rA_agg (And.intro @rT_tup (And.intro @rP_ptr (And.intro @rW_own (And.intro @rS_sb (And.intro @rF_sb (And.intro @uncV_cons (And.intro @uncO_cons (And.intro @nilV_nil (And.intro @rO_ob (And.intro @rN_ob (And.intro @unc_cons (And.intro @asI_int (And.intro @asB_bool (And.intro @asS_string (And.intro @asSl_sl (And.intro @asSl_nl (And.intro @asFn_fn (And.intro @asP_cp (And.intro @nrm_sl (And.intro @nrm_nl (And.intro @need_true (And.intro @ct (And.intro @cf (And.intro @bd_eq (And.intro @natD_zero (And.intro @natD_succ (And.intro @natD_one (And.intro @noYl_v (And.intro @noYl_sl (And.intro @noYl_nl (And.intro @noYl_cp (And.intro @noYl_fn (And.intro @Bool.and_true (And.intro @Bool.true_and (And.intro @Bool.and_self (And.intro @beqN_self (And.intro @Bool.not_true (And.intro @Bool.not_false (And.intro @Bool.and_false (And.intro @Bool.false_and (And.intro @Bool.or_false (And.intro @Bool.false_or (And.intro @Bool.or_true @Bool.true_or)))))))))))))))))))))))))))))))))))))))))))))
def QD:=And.intro @wrap_in (And.intro @dlt_t (And.intro @dlt_f (And.intro @dle_t (And.intro @dle_f (And.intro @dgt_t (And.intro @dgt_f (And.intro @dge_t (And.intro @dge_f (And.intro @ibeq_t (And.intro @ibeq_f (And.intro @ibne_t (And.intro @ibne_f (And.intro @inR_int (And.intro @beqN_eq @bleN_le))))))))))))))
end Go.PM
/- Places: what the functions of the program and of the reference come to. -/
namespace Go.Proofs.YtoaanfjcjbghaaaGreatDoor
open Go Go.PM Go.Grid
def plc (p:Pl):List C:=[.v (.int .i64 p.f), .v (.int .i64 p.a), .v (.int .i64 p.b), .v (.int .i64 p.c)]
theorem plc_length (p:Pl):(plc p).length=4:=rfl
def wcs (w:Nat ->Nat):List C:=(List.range 12).map fun v=> .v (.int .i64 (w v))
abbrev OK (r:V):Option Out:=some ⟨r,[],none⟩
def validI (f a b c:Int):Bool:=decide (0<=f/\f<20/\0<=a/\a<=840/\0<=b/\b<=840/\0<=c/\c<=840/\a+b+c=840)
theorem validI_of {p:Pl} (h:p.ok):validI p.f p.a p.b p.c=true:=by
 obtain ⟨h1,h2⟩:=h;exact decide_eq_true (by omega)
theorem sp_ref_Valid (fu d:Nat) (f a b c:Int):cl fu (d+1) fn_synopticref02_Valid [V.agg [.v (.int .i64 f), .v (.int .i64 a), .v (.int .i64 b), .v (.int .i64 c)]] []=OK (B (validI f a b c)):=by
 rw [eq_synopticref02_Valid];by_cases h1:0<=f
 case neg=>rw [show validI f a b c=false from decide_eq_false (by omega)];simp (disch:=omega) only [QM,QD]
 by_cases h2:f<20
 case neg=>rw [show validI f a b c=false from decide_eq_false (by omega)];simp (disch:=omega) only [QM,QD]
 by_cases h3:0<=a
 case neg=>rw [show validI f a b c=false from decide_eq_false (by omega)];simp (disch:=omega) only [QM,QD]
 by_cases h4:a<=840
 case neg=>rw [show validI f a b c=false from decide_eq_false (by omega)];simp (disch:=omega) only [QM,QD]
 by_cases h5:0<=b
 case neg=>rw [show validI f a b c=false from decide_eq_false (by omega)];simp (disch:=omega) only [QM,QD]
 by_cases h6:b<=840
 case neg=>rw [show validI f a b c=false from decide_eq_false (by omega)];simp (disch:=omega) only [QM,QD]
 by_cases h7:0<=c
 case neg=>rw [show validI f a b c=false from decide_eq_false (by omega)];simp (disch:=omega) only [QM,QD]
 by_cases h8:c<=840
 case neg=>rw [show validI f a b c=false from decide_eq_false (by omega)];simp (disch:=omega) only [QM,QD]
 by_cases h9:a+b+c=840
 ·rw [show validI f a b c=true from decide_eq_true (by omega)];simp (disch:=omega) only [QM,QD]
 ·rw [show validI f a b c=false from decide_eq_false (by omega)];simp (disch:=omega) only [QM,QD]
theorem twenty {f:Nat} (h:f<20):f=0\/f=1\/f=2\/f=3\/f=4\/f=5\/f=6\/f=7\/f=8\/f=9\/f=10\/f=11\/f=12\/f=13\/f=14\/f=15\/f=16\/f=17\/f=18\/f=19:=by omega
theorem sp_ref_Corners (fu d f:Nat) (h:f<20):cl fu (d+1) fn_synopticref02_Corners [I f] []=OK (V.tup [V.agg [.v (.int .i64 (crn f).1), .v (.int .i64 (crn f).2.1), .v (.int .i64 (crn f).2.2)],I 0]):=by
 rw [eq_synopticref02_Corners];rcases twenty h with rfl|rfl|rfl|rfl|rfl|rfl|rfl|rfl|rfl|rfl|rfl|rfl|rfl|rfl|rfl|rfl|rfl|rfl|rfl|rfl<;>(show @Eq (Option Out) _ _;kernel_rfl)
theorem sp_ref_Weights (fu d:Nat) (p:Pl) (h:p.ok):cl fu (d+2) fn_synopticref02_Weights [V.agg (plc p)] []=OK (V.agg (wcs (wt p))):=by
 obtain ⟨f,a,b,c⟩:=p;unfold plc;rw [eq_synopticref02_Weights];simp only;rw [sp_ref_Corners fu d f h.1];have hf:f<20:=h.1;rcases twenty hf with rfl|rfl|rfl|rfl|rfl|rfl|rfl|rfl|rfl|rfl|rfl|rfl|rfl|rfl|rfl|rfl|rfl|rfl|rfl|rfl<;>(show @Eq (Option Out) _ _;kernel_rfl)
theorem sp_ref_On (fu d:Nat) (w:Nat ->Nat) (hw: ∀v,w v<=840) (f:Nat) (h:f<20):cl fu (d+2) fn_synopticref02_On [I f,V.agg (wcs w)] []=OK (V.tup [V.agg (plc (onW w f)),B (onW w f).full]):=by
 have e:cl fu (d+2) fn_synopticref02_On [I f,V.agg (wcs w)] []=OK (V.tup [V.agg (plc (onW w f)),B (IntKind.i64.wrap (IntKind.i64.wrap ((w (crn f).1:Int)+(w (crn f).2.1:Int))+(w (crn f).2.2:Int))==840)]):=by
  rw [eq_synopticref02_On,sp_ref_Corners fu d f h];rcases twenty h with rfl|rfl|rfl|rfl|rfl|rfl|rfl|rfl|rfl|rfl|rfl|rfl|rfl|rfl|rfl|rfl|rfl|rfl|rfl|rfl<;>(show @Eq (Option Out) _ _;kernel_rfl)
 rw [e];have h1:=hw (crn f).1;have h2:=hw (crn f).2.1;have h3:=hw (crn f).2.2;simp (disch:=omega) only [wrap_in];have e2:((w (crn f).1:Int)+(w (crn f).2.1:Int)+(w (crn f).2.2:Int)==840)=(onW w f).full:=by
  rw [Bool.eq_iff_iff,full_iff,beq_iff_eq];show _↔w (crn f).1+w (crn f).2.1+w (crn f).2.2=840;omega
 rw [e2]
def addrsTo (w:Nat ->Nat) (j:Nat):List Pl:=((List.range j).map (onW w)).filter Pl.full
theorem addrsTo_succ (w:Nat ->Nat) (j:Nat):addrsTo w (j+1)=if (onW w j).full then addrsTo w j++[onW w j] else addrsTo w j:=by
 unfold addrsTo;rw [List.range_succ,List.map_append,List.filter_append];simp only [List.map_cons,List.map_nil,List.filter_cons,List.filter_nil];split<;>simp
theorem addrsTo_length (w:Nat ->Nat) (j:Nat):(addrsTo w j).length<=j:=by
 unfold addrsTo;refine Nat.le_trans (List.length_filter_le _ _) ?_;simp
theorem wt_le {p:Pl} (h:p.ok) (v:Nat):wt p v<=840:=by
 have h2:=h.2;unfold wt wt3
 (repeat' split)<;>omega
theorem pl_snoc (l:List Pl) (q:Pl):fl plc l++[.v (.int .i64 q.f), .v (.int .i64 q.a), .v (.int .i64 q.b), .v (.int .i64 q.c)]=fl plc (l++[q]):=fl_snoc l q
theorem pl_div (l:List Pl):l.length*4/4=l.length:=Nat.mul_div_cancel _ (by omega)
theorem wcs_put (w:Nat ->Nat):putAt [C.v (.int .i64 0),C.v (.int .i64 0),C.v (.int .i64 0),C.v (.int .i64 0),C.v (.int .i64 0),C.v (.int .i64 0),C.v (.int .i64 0),C.v (.int .i64 0),C.v (.int .i64 0),C.v (.int .i64 0),C.v (.int .i64 0),C.v (.int .i64 0)] 0 (wcs w)=wcs w:=id rfl
theorem wcs_take (w:Nat ->Nat):List.take 12 (wcs w)=wcs w:=id rfl
theorem wcs_length (w:Nat ->Nat):(wcs w).length=12:=id rfl
theorem sp_ref_Addresses (fu d:Nat) (hf:18446744073709551616<=fu) (p:Pl) (h:p.ok):
  cl fu (d+3) fn_synopticref02_Addresses [V.agg (plc p)] []=OK (V.tup [V.c (C.sl (addrs p).length (fl plc (addrs p))),I 0]):=by
 have e1:=sp_ref_Weights fu d p h;have hv:=validI_of h;unfold plc at e1⊢;rw [eq_synopticref02_Addresses,sp_ref_Valid,hv,e1];simp only [QM,wcs_put,wcs_take,wcs_length,Nat.zero_add,show Nat.ble 12 12=true from rfl];rw [show (([]:List C),(0:Int),())=(fun j:Nat=>(fl plc (addrsTo (wt p) j),(j:Int),())) 0 from rfl,iter_run (fun j:Nat=>(fl plc (addrsTo (wt p) j),(j:Int),())) 0 (fl plc (addrsTo (wt p) 20),(20:Int),()) 20 0 fu ?_ ?_ (by omega)]
 ·simp (disch:=omega) only [QM,QD,fl_length plc_length,pl_div,Nat.zero_add];rw [List.take_of_length_le (by rw [fl_length plc_length];omega)];rfl
 ·intro j _ hj;have hl:=addrsTo_length (wt p) j;rw [addrsTo_succ];have e2:=sp_ref_On fu d (wt p) (wt_le h) j (by omega);unfold plc at e2;simp (disch:=omega) only [QM,QD,e2,fl_length plc_length,pl_div,List.length_cons,List.length_nil,Nat.zero_add,Nat.reduceAdd];cases hfull:(onW (wt p) j).full with
  |true=>
   simp (disch:=omega) only [QM,QD,pl_snoc,fl_length plc_length,List.length_append,List.length_cons,List.length_nil,Nat.zero_add,if_true,Int.natCast_add,Int.natCast_one]
  |false=>
   simp (disch:=omega) only [QM,QD,Bool.false_eq_true,if_false,Int.natCast_add,Int.natCast_one]
 ·simp (disch:=omega) only [QM,QD,fl_length plc_length,pl_div,Nat.zero_add];rfl
end Go.Proofs.YtoaanfjcjbghaaaGreatDoor
/- Places, continued: the normal place; the program's functions. -/
namespace Go.Proofs.YtoaanfjcjbghaaaGreatDoor
open Go Go.PM Go.Grid
theorem sp_ref_Normal (fu d:Nat) (hf:18446744073709551616<=fu) (p:Pl) (h:p.ok):cl fu (d+4) fn_synopticref02_Normal [V.agg (plc p)] []=OK (V.tup [V.agg (plc (norm p)),I 0]):=by
 have e1:=sp_ref_Addresses fu d hf p h;obtain ⟨r,hr⟩:=norm_head h;rw [hr] at e1;unfold plc at e1⊢;rw [eq_synopticref02_Normal,e1];simp (disch:=omega) only [QM,QD,fl_cons,plc,List.cons_append,List.nil_append,List.length_cons]
theorem plc_eqb (p q:Pl):((p.f:Int)==q.f&&((p.a:Int)==q.a&&((p.b:Int)==q.b&&(p.c:Int)==q.c)))=decide (p=q):=by
 obtain ⟨f,a,b,c⟩:=p;obtain ⟨f',a',b',c'⟩:=q;rw [Bool.eq_iff_iff];simp only [Bool.and_eq_true,beq_iff_eq,decide_eq_true_eq,Pl.mk.injEq];omega
theorem sp_ref_IsNormal (fu d:Nat) (hf:18446744073709551616<=fu) (p:Pl) (h:p.ok):cl fu (d+5) fn_synopticref02_IsNormal [V.agg (plc p)] []=OK (B (isN p)):=by
 have e1:=sp_ref_Normal fu d hf p h;unfold plc at e1⊢;rw [eq_synopticref02_IsNormal,e1];simp (disch:=omega) only [QM,QD,List.length_cons,List.length_nil,plc_eqb,Nat.reduceAdd];unfold isN;rw [show decide (p=norm p)=decide (norm p=p) from by rw [Bool.eq_iff_iff];simp [eq_comm]]
theorem sp_face (fu d:Nat) (f:Int):cl fu (d+1) fn_place_face [I f] []=OK (B (decide (0<=f/\f<20))):=by
 rw [eq_place_face];by_cases h1:0<=f
 ·simp (disch:=omega) only [QM,QD];by_cases h2:f<20
  ·rw [dlt_t h2,decide_eq_true ⟨h1,h2⟩]
  ·rw [dlt_f (by omega),decide_eq_false (by omega)]
 ·rw [decide_eq_false (by omega: ¬(0<=f/\f<20))];simp (disch:=omega) only [QM,QD]
theorem sp_Valid (fu d:Nat) (hf:18446744073709551616<=fu) (f a b c:Int):cl fu (d+2) fn_place_Valid [V.agg [.v (.int .i64 f), .v (.int .i64 a), .v (.int .i64 b), .v (.int .i64 c)]] []=OK (B (validI f a b c)):=by
 rw [eq_place_Valid,sp_face];obtain ⟨fu',rfl⟩: ∃n,fu=n+4:=⟨fu-4,by omega⟩;by_cases h3:0<=a
 case neg=>rw [show validI f a b c=false from decide_eq_false (by omega)];rw [iter_s];simp (disch:=omega) only [QM,QD,Int.toNat_zero,Nat.zero_mul,List.drop_zero]
 by_cases h4:a<=840
 case neg=>rw [show validI f a b c=false from decide_eq_false (by omega)];rw [iter_s];simp (disch:=omega) only [QM,QD,Int.toNat_zero,Nat.zero_mul,List.drop_zero]
 by_cases h5:0<=b
 case neg=>rw [show validI f a b c=false from decide_eq_false (by omega)];rw [iter_s];simp (disch:=omega) only [QM,QD,Int.toNat_zero,Nat.zero_mul,List.drop_zero,Int.zero_add,iter_s,Int.toNat_one,Nat.one_mul,List.drop_succ_cons]
 by_cases h6:b<=840
 case neg=>rw [show validI f a b c=false from decide_eq_false (by omega)];rw [iter_s];simp (disch:=omega) only [QM,QD,Int.toNat_zero,Nat.zero_mul,List.drop_zero,Int.zero_add,iter_s,Int.toNat_one,Nat.one_mul,List.drop_succ_cons]
 by_cases h7:0<=c
 case neg=>rw [show validI f a b c=false from decide_eq_false (by omega)];rw [iter_s];simp (disch:=omega) only [QM,QD,Int.toNat_zero,Nat.zero_mul,List.drop_zero,Int.zero_add,iter_s,Int.toNat_one,Nat.one_mul,List.drop_succ_cons,Int.reduceAdd,Int.reduceToNat]
 by_cases h8:c<=840
 case neg=>rw [show validI f a b c=false from decide_eq_false (by omega)];rw [iter_s];simp (disch:=omega) only [QM,QD,Int.toNat_zero,Nat.zero_mul,List.drop_zero,Int.zero_add,iter_s,Int.toNat_one,Nat.one_mul,List.drop_succ_cons,Int.reduceAdd,Int.reduceToNat]
 simp (disch:=omega) only [QM,QD,Int.toNat_zero,Nat.zero_mul,List.drop_zero,Int.zero_add,iter_s,Int.toNat_one,Nat.one_mul,List.drop_succ_cons,Int.reduceAdd,Int.reduceToNat];by_cases h1:0<=f/\f<20
 ·rw [decide_eq_true h1];by_cases h9:a+b+c=840
  ·rw [show validI f a b c=true from decide_eq_true (by omega)];simp (disch:=omega) only [QM,QD]
  ·rw [show validI f a b c=false from decide_eq_false (by omega)];simp (disch:=omega) only [QM,QD]
 ·rw [decide_eq_false h1,show validI f a b c=false from decide_eq_false (by omega)];simp (disch:=omega) only [QM,QD]
theorem sp_of (fu d:Nat) (p:Pl) (h:p.ok):cl fu (d+1) fn_place_of [V.agg (plc p)] []=OK (V.agg (wcs (wt p))):=by
 obtain ⟨f,a,b,c⟩:=p;unfold plc;rw [eq_place_of];have hf:f<20:=h.1;rcases twenty hf with rfl|rfl|rfl|rfl|rfl|rfl|rfl|rfl|rfl|rfl|rfl|rfl|rfl|rfl|rfl|rfl|rfl|rfl|rfl|rfl<;>(show @Eq (Option Out) _ _;kernel_rfl)
theorem validI_onW {w:Nat ->Nat} (hw: ∀v,w v<=840) {f:Nat} (h:f<20):validI (onW w f).f (onW w f).a (onW w f).b (onW w f).c=(onW w f).full:=by
 have h1:=hw (crn f).1;have h2:=hw (crn f).2.1;have h3:=hw (crn f).2.2;rw [Bool.eq_iff_iff,full_iff];unfold validI;rw [decide_eq_true_eq];show (0:Int)<=(f:Nat)/\((f:Nat):Int)<20/\(0:Int)<=((w (crn f).1:Nat):Int)/\((w (crn f).1:Nat):Int)<=840/\(0:Int)<=((w (crn f).2.1:Nat):Int)/\((w (crn f).2.1:Nat):Int)<=840/\(0:Int)<=((w (crn f).2.2:Nat):Int)/\((w (crn f).2.2:Nat):Int)<=840/\((w (crn f).1:Nat):Int)+((w (crn f).2.1:Nat):Int)+((w (crn f).2.2:Nat):Int)=840↔w (crn f).1+w (crn f).2.1+w (crn f).2.2=840;omega
theorem sp_on (fu d:Nat) (hf:18446744073709551616<=fu) (w:Nat ->Nat) (hw: ∀v,w v<=840) (f:Nat) (h:f<20):cl fu (d+3) fn_place_on [I f,V.agg (wcs w)] []=OK (V.tup [V.agg (plc (onW w f)),B (onW w f).full]):=by
 have e:cl fu (d+3) fn_place_on [I f,V.agg (wcs w)] []=((cl fu (d+2) fn_place_Valid [V.agg (plc (onW w f))] []).bind fun out=>rC out.r fun c6=>asB c6 fun b=>OK (V.tup [V.agg (plc (onW w f)),B b])):=by
  rw [eq_place_on];rcases twenty h with rfl|rfl|rfl|rfl|rfl|rfl|rfl|rfl|rfl|rfl|rfl|rfl|rfl|rfl|rfl|rfl|rfl|rfl|rfl|rfl<;>(show @Eq (Option Out) _ _;kernel_rfl)
 rw [e];unfold plc;rw [sp_Valid fu d hf,validI_onW hw h];simp only [QM]
theorem addrsTo_none {w:Nat ->Nat}: ∀{k:Nat},(∀j,j<k ->(onW w j).full=false)->addrsTo w k=[]
 |0,_=>rfl
 |k+1,h=>by rw [addrsTo_succ,h k (by omega),addrsTo_none (fun j hj=>h j (by omega))];rfl
theorem addrsTo_first {w:Nat ->Nat} {k:Nat} (hk:(onW w k).full=true) (h: ∀j,j<k ->(onW w j).full=false): ∀n,k<n -> ∃r,addrsTo w n=onW w k::r
 |0,hn=>by omega
 |n+1,hn=>by
  by_cases e:k=n
  ·subst e;exact ⟨[],by rw [addrsTo_succ,hk,addrsTo_none h];rfl⟩
  ·obtain ⟨r,hr⟩:=addrsTo_first hk h n (by omega);rw [addrsTo_succ,hr];split
   ·exact ⟨r++[onW w n],rfl⟩
   ·exact ⟨r,rfl⟩
theorem sp_Normal (fu d:Nat) (hf:18446744073709551616<=fu) (p:Pl) (h:p.ok):cl fu (d+4) fn_place_Normal [V.agg (plc p)] []=OK (V.tup [V.agg (plc (norm p)),I 0]):=by
 have e1:=sp_of fu (d+2) p h;have hv:=validI_of h;unfold plc at e1⊢;rw [eq_place_Normal,sp_Valid fu (d+1) hf,hv,e1];simp only [QM,wcs_put,wcs_take,wcs_length,Nat.zero_add,show Nat.ble 12 12=true from rfl];obtain ⟨r,hr⟩:=norm_head h;have hm:=norm_mem h;obtain ⟨k,hk,hke,hkl⟩: ∃k,k<20/\onW (wt p) k=norm p/\ ∀j,j<k ->(onW (wt p) j).full=false:=by
  rcases first_or_none (fun j=>(onW (wt p) j).full=true) 20 with h0|⟨k,h1,h2,h3⟩
  ·exfalso;obtain ⟨g,g1,g2,g3⟩:=mem_addrs.1 hm;exact h0 g g1 (by rw [g2];exact full_iff.2 g3)
  ·refine ⟨k,h1, ?_,fun j hj=>by simpa using h3 j hj⟩;obtain ⟨r',this⟩:=addrsTo_first h2 (fun j hj=>by simpa using h3 j hj) 20 h1;have this:addrs p=onW (wt p) k::r':=this;rw [hr] at this;exact (List.cons.inj this).1.symm
 rw [show ((0:Int),(0:Int),((0:Int),(0:Int),(0:Int),(0:Int),()),())=(fun j:Nat=>((0:Int),(j:Int),((0:Int),(0:Int),(0:Int),(0:Int),()),())) 0 from rfl,iter_run (fun j:Nat=>((0:Int),(j:Int),((0:Int),(0:Int),(0:Int),(0:Int),()),())) 1 (0,(k:Int),((norm p).f,(norm p).a,(norm p).b,(norm p).c,()),()) k 0 fu ?_ ?_ (by omega)]
 ·simp only [QM]
 ·intro j _ hj;have e2:=sp_on fu d hf (wt p) (wt_le h) j (by omega);rw [hkl j (by omega)] at e2;unfold plc at e2;simp (disch:=omega) only [QM,QD,e2,List.length_cons,List.length_nil,Nat.zero_add,Nat.reduceAdd,Int.natCast_add,Int.natCast_one]
 ·have e2:=sp_on fu d hf (wt p) (wt_le h) k hk;rw [hke,full_iff.2 (norm_ok h).2] at e2;unfold plc at e2;simp (disch:=omega) only [QM,QD,e2,List.length_cons,List.length_nil,Nat.zero_add,Nat.reduceAdd]
end Go.Proofs.YtoaanfjcjbghaaaGreatDoor
/- The nodes of the grids as they are collected; a map from the nodes to their numbers: plain laws. -/
namespace Go.Grid
def pre (n f i j:Nat):List Pl:=(List.range f).flatMap (face n)++((List.range i).flatMap (row n f)++(List.range j).map (pt n f i))
def upTo (n f i j:Nat):List Pl:=(pre n f i j).filter isN
theorem pre_j (n f i j:Nat):pre n f i (j+1)=pre n f i j++[pt n f i j]:=by
 unfold pre;rw [List.range_succ,List.map_append];simp [List.append_assoc]
theorem pre_i (n f i:Nat):pre n f i (n+1-i)=pre n f (i+1) 0:=by
 unfold pre;rw [List.range_succ,List.flatMap_append];simp [row]
theorem pre_f (n f:Nat):pre n f (n+1) 0=pre n (f+1) 0 0:=by
 unfold pre;rw [List.range_succ (n:=f),List.flatMap_append];simp [face]
theorem pre_end (n:Nat):pre n 20 0 0=pts n:=by unfold pre pts;simp
theorem upTo_j (n f i j:Nat):upTo n f i (j+1)=if norm (pt n f i j)=pt n f i j then upTo n f i j++[pt n f i j] else upTo n f i j:=by
 unfold upTo;rw [pre_j,List.filter_append];simp only [List.filter_cons,List.filter_nil,isN,decide_eq_true_eq];split<;>simp
theorem pre_lt {n f i j:Nat} (h:freq n) {q:Pl} (hq:q∈pre n f i j):plt q (pt n f i j):=by
 have hst:=step_pos h;have hmul: ∀{i j:Nat},i<j ->i*(840/n)<j*(840/n):=fun hij=>Nat.mul_lt_mul_of_pos_right hij (by omega);simp only [pre,List.mem_append,List.mem_flatMap,List.mem_range,List.mem_map,face,row] at hq;rcases hq with ⟨f',h1,i',_,j',_,rfl⟩|⟨i',h1,j',_,rfl⟩|⟨j',h1,rfl⟩
 ·exact .inl h1
 ·exact .inr ⟨rfl, .inl (hmul h1)⟩
 ·exact .inr ⟨rfl, .inr ⟨rfl,hmul h1⟩⟩
theorem upTo_not {n f i j:Nat} (h:freq n):pt n f i j∉upTo n f i j:=fun hm=>plt_irrefl _ (pre_lt h (List.mem_filter.1 hm).1)
theorem flatMap_le {B:Type} {g:Nat ->List B} {m:Nat} (h: ∀x,(g x).length<=m): ∀k,((List.range k).flatMap g).length<=k*m
 |0=>by simp
 |k+1=>by
  rw [List.range_succ,List.flatMap_append,List.length_append,Nat.succ_mul];have:=flatMap_le h k;have:=h k;simp only [List.flatMap_cons,List.flatMap_nil,List.append_nil];omega
theorem row_le (n f i:Nat) (h:n<=8):(row n f i).length<=9:=by unfold row;simp;omega
theorem face_le (n f:Nat) (h:n<=8):(face n f).length<=81:=by
 unfold face;have:=flatMap_le (g:=row n f) (fun i=>row_le n f i h) (n+1);omega
theorem upTo_le {n f i j:Nat} (h:freq n) (hf:f<=20) (hi:i<=9) (hj:j<=9):(upTo n f i j).length<=2000:=by
 refine Nat.le_trans (List.length_filter_le _ _) ?_;unfold pre;rw [List.length_append,List.length_append,List.length_map,List.length_range];have h1:=flatMap_le (g:=face n) (fun f=>face_le n f h.2) f;have h2:=flatMap_le (g:=row n f) (fun i=>row_le n f i h.2) i;omega
theorem upTo_end (n:Nat):upTo n 20 0 0=nodes n:=by unfold upTo;rw [pre_end];rfl
theorem isN_inner {p:Pl} (h:p.ok) (ha:0<p.a) (hb:0<p.b) (hc:0<p.c):isN p=true:=decide_eq_true (norm_inner h ha hb hc)
end Go.Grid
/- The nodes of a grid where the net is handed out as a new object. -/
namespace Go.Proofs.YtoaanfjcjbghaaaGreatDoor
open Go Go.PM Go.Grid
theorem eqT_place (p q:Pl):eqT Tryz.prog 20 ty_api_Place (plc p) (plc q)=some (decide (p=q)):=by
 have:eqT Tryz.prog 20 ty_api_Place (plc p) (plc q)=some ((p.f:Int)==q.f&&((p.a:Int)==q.a&&((p.b:Int)==q.b&&((p.c:Int)==q.c&&true)))):=by kernel_rfl
 rw [this,Bool.and_true,plc_eqb]
def esn:Nat ->List Pl ->List (List C×List C)
 |_,[]=>[]
 |k,p::r=>(plc p,[.v (.int .i64 k)])::esn (k+1) r
theorem esn_snoc (p:Pl): ∀(l:List Pl) (k:Nat),esn k l++[(plc p,[.v (.int .i64 ((k+l.length:Nat):Int))])]=esn k (l++[p])
 | [],k=>by simp [esn]
 |q::l,k=>by
  simp only [esn,List.cons_append,List.length_cons];rw [<-esn_snoc p l (k+1),show k+(l.length+1)=k+1+l.length by omega]
theorem ceqs_plc (p:Pl):ceqs (plc p) (plc p)=true:=by simp [plc,ceqs,ceq]
theorem mfd_not {p:Pl}: ∀(l:List Pl) (k i:Nat),p∉l ->mfind Tryz.prog ty_api_Place (plc p) (esn k l) i=some none
 | [],k,i,_=>by simp [esn,mfind]
 |q::l,k,i,h=>by
  simp only [esn,mfind,eqT_place];rw [decide_eq_false (fun e=>h (by simp [e]))];simp only [cf];exact mfd_not l (k+1) (i+1) (fun e=>h (by simp [e]))
theorem mfd_mem {p:Pl}: ∀(l:List Pl) (k i:Nat),p∈l ->mfind Tryz.prog ty_api_Place (plc p) (esn k l) i=some (some (i+l.idxOf p,[.v (.int .i64 ((k+l.idxOf p:Nat):Int))]))
 | [],k,i,h=>by cases h
 |q::l,k,i,h=>by
  simp only [esn,mfind,eqT_place];by_cases e:p=q
  ·subst e;rw [decide_eq_true rfl];simp [ceqs_plc,need]
  ·rw [decide_eq_false e];simp only [cf];have hm:p∈l:=by rcases List.mem_cons.1 h with h|h;exact absurd h e;exact h
   rw [mfd_mem l (k+1) (i+1) hm,List.idxOf_cons];have:(q==p)=false:=by simpa using Ne.symm e
   rw [this];simp only [cond_false];rw [show i+1+l.idxOf p=i+(l.idxOf p+1) by omega,show k+1+l.idxOf p=k+(l.idxOf p+1) by omega]
theorem mput_none (es:List (List C×List C)) (k v:List C):mput es none k v=es++[(k,v)]:=id rfl
abbrev netC (n:Nat) (l:List Pl):List C:=[.v (.int .i64 n), .v (.int .i64 ((840/n:Nat):Int)),C.sl l.length (fl plc l),C.mp ty_api_Place ty_int (some 4) none (esn 0 l),C.nl,C.nl,C.nl]
abbrev netS (n:Nat) (l:List Pl):Int×Int×List C×List (List C×List C)×C×C×C×Unit:=((n:Int),((840/n:Nat):Int),fl plc l,esn 0 l,C.nl,C.nl,C.nl,())
theorem step_int {n:Nat} (h:freq n):IntKind.i64.wrap (Int.tdiv 840 n)=((840/n:Nat):Int):=by
 rcases freq_cases h with rfl|rfl|rfl|rfl|rfl|rfl|rfl|rfl<;>rfl
theorem mul_le {n i:Nat} (h:freq n) (hi:i<=n):i*(840/n)<=840:=by
 have:=Nat.mul_le_mul_right (840/n) hi;rw [mul_step h] at this;exact this
theorem wrap_mul {n i:Nat} (h:freq n) (hi:i<=n):IntKind.i64.wrap ((i:Int)*((840/n:Nat):Int))=((i*(840/n):Nat):Int):=by
 have:=mul_le h hi;rw [show ((i:Int)*((840/n:Nat):Int))=((i*(840/n):Nat):Int) from (Int.natCast_mul _ _).symm];exact wrap_in (Int.le_trans (by decide) (Int.natCast_nonneg _)) (Int.le_trans (Int.ofNat_le.2 this) (by decide))
theorem pl_snoc' (l:List Pl) (f a b c:Nat):fl plc l++[.v (.int .i64 f), .v (.int .i64 a), .v (.int .i64 b), .v (.int .i64 c)]=fl plc (l++[⟨f,a,b,c⟩]):=fl_snoc l ⟨f,a,b,c⟩
theorem esn_snoc' (l:List Pl) (f a b c:Nat):esn 0 l++[([.v (.int .i64 f), .v (.int .i64 a), .v (.int .i64 b), .v (.int .i64 c)],[.v (.int .i64 (l.length:Int))])]=esn 0 (l++[⟨f,a,b,c⟩]):=by
 have:=esn_snoc ⟨f,a,b,c⟩ l 0;rw [Nat.zero_add] at this;exact this
theorem sp_PointsP (fu d:Nat) (hf:18446744073709551616<=fu) (n:Nat) (h:freq n):cl fu (d+5) fn_mesh_Points [I n] []=some ⟨V.ptr 1000000 0,[.ob ty_mesh_Net 0 (netC n (nodes n))],none⟩:=by
 have hn:=h;unfold freq at hn;rw [eq_mesh_Points,step_int h,show (!((n:Int)==0))=true from by rw [ibeq_f (by omega)];rfl,need_true];rw [iter_runx (fun f:Nat=>((f:Int),netS n (upTo n f 0 0),())) 0 ((20:Int),netS n (upTo n 20 0 0),()) 20 ?_ ?_ ?_ (by omega)]
 ·rw [upTo_end];simp (disch:=omega) only [QM,QD,fl_length plc_length,pl_div,Nat.zero_add];rw [List.take_of_length_le (by rw [fl_length plc_length];omega)]
 ·rfl
 ·intro f hf';have hl:(upTo n f 0 0).length<=2000:=upTo_le h (by omega) (by omega) (by omega);simp (disch:=omega) only [QM,QD,fl_length plc_length,pl_div];rw [iter_runx (fun i:Nat=>((i:Int),netS n (upTo n f i 0),())) 0 (((n+1:Nat):Int),netS n (upTo n f (n+1) 0),()) (n+1) ?_ ?_ ?_ (by omega)]
  ·have hl:(upTo n f (n+1) 0).length<=2000:=upTo_le h (by omega) (by omega) (by omega);simp (disch:=omega) only [QM,QD,fl_length plc_length,pl_div,Int.natCast_add,Int.natCast_one];unfold upTo;rw [pre_f]
  ·rfl
  ·intro i hi;have hl:(upTo n f i 0).length<=2000:=upTo_le h (by omega) (by omega) (by omega);simp (disch:=omega) only [QM,QD,fl_length plc_length,pl_div];rw [iter_runx (fun j:Nat=>((j:Int),netS n (upTo n f i j),())) 0 (((n+1-i:Nat):Int),netS n (upTo n f i (n+1-i)),()) (n+1-i) ?_ ?_ ?_ (by omega)]
   ·have hl:(upTo n f i (n+1-i)).length<=2000:=upTo_le h (by omega) (by omega) (by omega);simp (disch:=omega) only [QM,QD,fl_length plc_length,pl_div,Int.natCast_add,Int.natCast_one];unfold upTo;rw [pre_i]
   ·rfl
   ·intro j hj;have hl:(upTo n f i j).length<=2000:=upTo_le h (by omega) (by omega) (by omega);have hnot:=upTo_not (f:=f) (i:=i) (j:=j) h;have hc:IntKind.i64.wrap (((n:Int)-(i:Int)-(j:Int))*((840/n:Nat):Int))=(((n-i-j)*(840/n):Nat):Int):=by
     rw [show (n:Int)-i-j=((n-i-j:Nat):Int) by omega,wrap_mul h (by omega)]
    have e2:=sp_Normal fu d hf (pt n f i j) (pt_ok h hf' (by omega));have e3:=mfd_not (upTo n f i j) 0 0 hnot;have e4:=plc_eqb (norm (pt n f i j)) (pt n f i j);have e5:=upTo_j n f i j;generalize hz:decide (norm (pt n f i j)=pt n f i j)=z at e4;replace e5:upTo n f i (j+1)=bif z then upTo n f i j++[pt n f i j] else upTo n f i j:=by
     cases z with
     |true=>rw [e5,if_pos (of_decide_eq_true hz)];rfl
     |false=>rw [e5,if_neg (of_decide_eq_false hz)];rfl
    clear hz;simp only [plc] at e2 e3;generalize norm (pt n f i j)=q at e2 e4 e5;simp only [pt] at e2 e3 e4 e5;simp (disch:=omega) only [QM,QD,hc,wrap_mul h (show i<=n by omega),wrap_mul h (show j<=n by omega),e2,e4,List.length_cons,List.length_nil,Nat.zero_add,Nat.reduceAdd,fl_length plc_length,pl_div];rw [e5];cases z with
    |true=>
     simp (disch:=omega) only [QM,QD,mfd,e3,mput_none,pl_snoc',esn_snoc',fl_length plc_length,pl_div,List.length_append,List.length_cons,List.length_nil,Nat.zero_add,Int.natCast_add,Int.natCast_one]
    |false=>
     simp (disch:=omega) only [QM,QD,Int.natCast_add,Int.natCast_one]
   ·have hl:(upTo n f i (n+1-i)).length<=2000:=upTo_le h (by omega) (by omega) (by omega);simp (disch:=omega) only [QM,QD,fl_length plc_length,pl_div]
  ·have hl:(upTo n f (n+1) 0).length<=2000:=upTo_le h (by omega) (by omega) (by omega);simp (disch:=omega) only [QM,QD,fl_length plc_length,pl_div]
 ·have hl:(upTo n 20 0 0).length<=2000:=upTo_le h (by omega) (by omega) (by omega);simp (disch:=omega) only [QM,QD,fl_length plc_length,pl_div];rfl
end Go.Proofs.YtoaanfjcjbghaaaGreatDoor
/- Rules that keep simp at what comes first: nothing behind it is looked at (attribute [local congr] in the texts that use them). -/
namespace Go.PM
open Go
def hdt {A:Type} (x:A):A:=x
theorem hdt_eq {A:Type} (x:A):hdt x=x:=id rfl
theorem out0:Nat.beq 1000000 (OUT+0)=true:=id rfl
theorem out1:Nat.beq 1000001 (OUT+1)=true:=id rfl
theorem out2:Nat.beq 1000002 (OUT+2)=true:=id rfl
section
variable {R A B':Type}
theorem hd_bind {x x':Option A} {k:A ->Option B'} (h:hdt x=x'):x.bind k=x'.bind k:=by rw [<-h];rfl
theorem hd_need {b b':Bool} {k:Option R} (h:hdt b=b'):need b k=need b' k:=by rw [<-h];rfl
theorem hd_cond {b b':Bool} {x y:R} (h:hdt b=b'):(bif b then x else y)=(bif b' then x else y):=by rw [<-h];rfl
theorem hd_unc {c c':List C} {k:C ->List C ->Option R} (h:hdt c=c'):unc c k=unc c' k:=by rw [<-h];rfl
theorem hd_uncV {c c':List V} {k:V ->List V ->Option R} (h:hdt c=c'):uncV c k=uncV c' k:=by rw [<-h];rfl
theorem hd_uncO {c c':List PM.Obj} {k:PM.Obj ->List PM.Obj ->Option R} (h:hdt c=c'):uncO c k=uncO c' k:=by rw [<-h];rfl
theorem hd_unI {c c':List (List V)} {k:List V ->List (List V)->Option R} (h:hdt c=c'):unI c k=unI c' k:=by rw [<-h];rfl
theorem hd_asI {kd:IntKind} {c c':C} {k:Int ->Option R} (h:hdt c=c'):asI kd c k=asI kd c' k:=by rw [<-h];rfl
theorem hd_asB {c c':C} {k:Bool ->Option R} (h:hdt c=c'):asB c k=asB c' k:=by rw [<-h];rfl
theorem hd_asS {c c':C} {k:ByteArray ->Option R} (h:hdt c=c'):asS c k=asS c' k:=by rw [<-h];rfl
theorem hd_asSl {c c':C} {k:Nat ->List C ->Option R} (h:hdt c=c'):asSl c k=asSl c' k:=by rw [<-h];rfl
theorem hd_asFn {c c':C} {k:FuncId ->List C ->Option R} (h:hdt c=c'):asFn c k=asFn c' k:=by rw [<-h];rfl
theorem hd_asP {c c':C} {k:List C ->Option R} (h:hdt c=c'):asP c k=asP c' k:=by rw [<-h];rfl
theorem hd_asYF {c c':C} {ky:Nat ->Option R} {k:FuncId ->List C ->Option R} (h:hdt c=c'):asYF c ky k=asYF c' ky k:=by rw [<-h];rfl
theorem hd_rC {x x':V} {k:C ->Option R} (h:hdt x=x'):rC x k=rC x' k:=by rw [<-h];rfl
theorem hd_rA {x x':V} {k:List C ->Option R} (h:hdt x=x'):rA x k=rA x' k:=by rw [<-h];rfl
theorem hd_rT {x x':V} {k:List V ->Option R} (h:hdt x=x'):rT x k=rT x' k:=by rw [<-h];rfl
theorem hd_rG {x x':V} {k:List V ->Option R} (h:hdt x=x'):rG x k=rG x' k:=by rw [<-h];rfl
theorem hd_rP {x x':V} {m:Nat} {k:Option R} (h:hdt x=x'):rP x m k=rP x' m k:=by rw [<-h];rfl
theorem hd_rW {x x':V} {m:Nat} {k:Nat ->Option R} (h:hdt x=x'):rW x m k=rW x' m k:=by rw [<-h];rfl
theorem hd_rO {o o':PM.Obj} {t fz:Nat} {k:List C ->Option R} (h:hdt o=o'):rO o t fz k=rO o' t fz k:=by rw [<-h];rfl
theorem hd_rN {o o':PM.Obj} {t n:Nat} {k:List C ->Option R} (h:hdt o=o'):rN o t n k=rN o' t n k:=by rw [<-h];rfl
theorem hd_rF {o o':PM.Obj} {t:Nat} {k:Nat ->List C ->Option R} (h:hdt o=o'):rF o t k=rF o' t k:=by rw [<-h];rfl
theorem hd_rS {o o':PM.Obj} {t fz:Nat} {k:List C ->Option R} (h:hdt o=o'):rS o t fz k=rS o' t fz k:=by rw [<-h];rfl
theorem hd_nilV {x x':List V} {k:Option R} (h:hdt x=x'):nilV x k=nilV x' k:=by rw [<-h];rfl
theorem hd_natD {n n':Nat} {a:Option R} {b:Nat ->Option R} (h:hdt n=n'):natD n a b=natD n' a b:=by rw [<-h];rfl
theorem hd_bd {x x':A} {k:A ->Option R} (h:hdt x=x'):bd x k=bd x' k:=by rw [<-h];rfl
theorem hd_iter {body:A ->Option (Nat×A)} {fu:Nat} {x x':A} (h:hdt x=x'):iter body fu x=iter body fu x':=by rw [<-h];rfl
theorem hd_over {I:Type} {body:I ->A ->Option (Nat×A)} {l l':List I} {x x':A} (h1:hdt l=l') (h:hdt x=x'):overK body l x=overK body l' x':=by rw [<-h,<-h1];rfl
theorem hd_sliceC {sz:Nat} {lo lo' hi hi':Option V} {c c':C} {k:C ->Option R} (h1:hdt lo=lo') (h2:hdt hi=hi') (h:hdt c=c'):sliceC sz lo hi c k=sliceC sz lo' hi' c' k:=by rw [<-h,<-h1,<-h2];rfl
theorem hd_asMp {c c':C} {kt et:TypeId} {ka va:Option Nat} {k:List (List C×List C)->Option R} (h:hdt c=c'):asMp c kt et ka va k=asMp c' kt et ka va k:=by rw [<-h];rfl
end
end Go.PM
/- A grid's cells: what the functions that add them come to. -/
namespace Go.PM
open Go
theorem rPk_ps {R:Type} (g t:Nat) (ps:List PC) (k:List PC ->Option R):rPk (.pk g t (.ps ps) none) t k=k ps:=by
 show need (Nat.beq t t) (k ps)=_;rw [show Nat.beq t t=true from Nat.beq_refl t];rfl
theorem uncP_cons {R:Type} (p:PC) (ps:List PC) (k:PC ->List PC ->Option R):uncP (p::ps) k=k p ps:=id rfl
theorem asPc_c {R:Type} (c:C) (k:C ->Option R):asPc (.c c) k=k c:=id rfl
theorem asRw_r {R:Type} (te:TypeId) (row:List C) (k:List C ->Option R):asRw te (.r te row) k=k row:=by
 show need (Nat.beq te te) (k row)=_;rw [show Nat.beq te te=true from Nat.beq_refl te];rfl
theorem asRow_r {R:Type} (te:TypeId) (row:List C) (k:List C ->Option R):asRow te (.r te row) k=k row:=by
 show need (Nat.beq te te) (k row)=_;rw [show Nat.beq te te=true from Nat.beq_refl te];rfl
theorem asRow_nl {R:Type} (te:TypeId) (k:List C ->Option R):asRow te (.c .nl) k=k []:=id rfl
theorem nilP_nil {R:Type} (k:Option R):nilP [] k=k:=id rfl
theorem rowBack_f {R:Type} (te:TypeId) (row cs:List C) (k:List C ->Option R) (h:cs.length=row.length):rowBack te row false [.sb te 0 cs] k=k cs:=by
 show need (Nat.beq te te&&Nat.beq cs.length row.length&&Nat.beq 0 0) (k cs)=_;rw [show Nat.beq te te=true from Nat.beq_refl te,h,show Nat.beq row.length row.length=true from Nat.beq_refl _];rfl
theorem rowBack_t {R:Type} (te:TypeId) (row cs:List C) (k:List C ->Option R) (h:cs.length=row.length):rowBack te row true [.sb te row.length cs] k=k cs:=by
 show need (Nat.beq te te&&Nat.beq cs.length row.length&&Nat.beq row.length cs.length) (k cs)=_;rw [show Nat.beq te te=true from Nat.beq_refl te,h,show Nat.beq row.length row.length=true from Nat.beq_refl _];rfl
set_option linter.defProp false in
def QE:=And.intro @rPk_ps (And.intro @uncP_cons (And.intro @asPc_c (And.intro @asRw_r (And.intro @asRow_r (And.intro @asRow_nl @nilP_nil)))))
end Go.PM
namespace Go.Proofs.YtoaanfjcjbghaaaGreatDoor
open Go Go.PM Go.Grid
attribute [local congr] hd_bind hd_need hd_cond hd_unc hd_uncV hd_uncO hd_unI hd_asI hd_asB hd_asS hd_asSl hd_asFn hd_asP hd_rC hd_rA hd_rT hd_rG hd_rP hd_rO hd_rN hd_rF hd_rS hd_rW hd_nilV hd_natD hd_bd hd_iter hd_over hd_sliceC hd_asMp hd_asYF
abbrev netP (n:Nat) (cs:List C):List PC:=[PC.c (C.v (.int .i64 n)),PC.c (C.v (.int .i64 ((840/n:Nat):Int))),PC.c (C.sl (nodes n).length (fl plc (nodes n))),PC.c (C.mp ty_api_Place ty_int (some 4) none (esn 0 (nodes n))),PC.r ty_api_Cell cs,PC.c .nl,PC.c .nl]
abbrev netO (g n:Nat) (cs:List C):PM.Obj:= .pk g ty_mesh_Net (.ps (netP n cs)) none
theorem nodes_le {n:Nat} (h:freq n):(nodes n).length<=700:=by
 rw [nodes_length h];rcases freq_cases h with rfl|rfl|rfl|rfl|rfl|rfl|rfl|rfl<;>decide
section
variable (fu d:Nat) (hf:18446744073709551616<=fu)
theorem sp_moved (f a b c:Nat) (x y z:Int) (h:a<=10000/\b<=10000/\c<=10000) (hx: -10000<=x/\x<=10000) (hy: -10000<=y/\y<=10000) (hz: -10000<=z/\z<=10000):
  cl fu (d+1) fn_mesh_moved [V.agg (plc ⟨f,a,b,c⟩),I x,I y,I z] []=OK (V.agg [C.v (.int .i64 f),C.v (.int .i64 (a+x)),C.v (.int .i64 (b+y)),C.v (.int .i64 (c+z))]):=by
 simp only [plc];rw [eq_mesh_moved,wrap_in (by omega) (by omega),wrap_in (by omega) (by omega),wrap_in (by omega) (by omega)]
include hf
theorem sp_atP (g n:Nat) (h:freq n) (p:Pl) (hp:p∈pts n) (cs:List C):
  cl fu (d+5) fn_mesh_Net_at [V.ptr 1000000 0,V.agg (plc p)] [netO g n cs]=some ⟨I (idx n p),[netO g n cs],none⟩:=by
 have hok:=pts_ok h hp;have e1:=sp_Normal fu d hf p hok;have e2:=mfd_mem (nodes n) 0 0 (norm_pts h hp);simp only [plc] at e1 e2⊢;rw [eqp_mesh_Net_at];simp (disch:=omega) only [hdt_eq,QM,QD,e1,mfd,e2,orZ,List.length_cons,List.length_nil,Nat.zero_add,Nat.reduceAdd];rfl
omit hf in
theorem asc_uniq {α:Type} {le:α ->α ->Prop} (anti: ∀a b,le a b ->le b a ->a=b): ∀{p q:List α},p.Perm q ->p.Pairwise le ->q.Pairwise le ->p=q
 | [],q,h,_,_=>(List.nil_perm.1 h).symm
 |a::p,[],h,_,_=>by have:=h.length_eq;simp at this
 |a::p,b::q,h,hp,hq=>by
  rw [List.pairwise_cons] at hp hq;have e:a=b:=by
   have h1:a∈b::q:=h.mem_iff.1 (List.mem_cons_self ..);have h2:b∈a::p:=h.mem_iff.2 (List.mem_cons_self ..);rcases List.mem_cons.1 h1 with h1|h1
   ·exact h1
   ·rcases List.mem_cons.1 h2 with h2|h2
    ·exact h2.symm
    ·exact anti a b (hp.1 b h2) (hq.1 a h1)
  subst e;rw [asc_uniq anti h.cons_inv hp.2 hq.2]
omit hf in
theorem sortI_perm (l:List Int):(sortI l).Perm l:=List.mergeSort_perm ..
omit hf in
theorem sortI_asc (l:List Int):(sortI l).Pairwise (fun a b=>a<=b):=by
 have:=List.pairwise_mergeSort (le:=fun x y:Int=>decide (x<=y)) (fun a b c h1 h2=>by simp at*;omega) (fun a b=>by simp;omega) l;exact this.imp fun h=>by simpa using h
omit hf in
theorem sortI_eq {l m:List Int} (hp:m.Perm l) (hs:m.Pairwise (fun a b=>a<=b)):sortI l=m:=
 asc_uniq (fun a b h1 h2=>Int.le_antisymm h1 h2) ((sortI_perm l).trans hp.symm) (sortI_asc l) hs
omit hf in
theorem sortI_3 (i j k:Nat):sortI [(i:Int),j,k]=[((sort3 i j k).1:Int),((sort3 i j k).2.1:Int),((sort3 i j k).2.2:Int)]:=by
 unfold sort3;split<;>split<;>try split
 all_goals
  refine sortI_eq ?_ (by simp;omega);first
  |exact .refl _
  |exact .swap _ _ _
  |exact (List.Perm.swap _ _ _).cons _
  |exact (List.Perm.swap _ _ _).trans ((List.Perm.swap _ _ _).cons _)
  |exact ((List.Perm.swap _ _ _).cons _).trans (.swap _ _ _)
  |exact ((List.Perm.swap _ _ _).trans ((List.Perm.swap _ _ _).cons _)).trans (.swap _ _ _)
end
end Go.Proofs.YtoaanfjcjbghaaaGreatDoor
/- A grid's cells, one place after the other. -/
namespace Go.Proofs.YtoaanfjcjbghaaaGreatDoor
open Go Go.PM Go.Grid
attribute [local congr] hd_bind hd_need hd_cond hd_unc hd_uncV hd_uncO hd_unI hd_asI hd_asB hd_asS hd_asSl hd_asFn hd_asP hd_rC hd_rA hd_rT hd_rG hd_rP hd_rO hd_rN hd_rF hd_rS hd_rW hd_nilV hd_natD hd_bd hd_iter hd_over hd_sliceC hd_asMp hd_asYF
abbrev pl3 (p q r:Pl):List C:=[.v (.int .i64 p.f), .v (.int .i64 p.a), .v (.int .i64 p.b), .v (.int .i64 p.c), .v (.int .i64 q.f), .v (.int .i64 q.a), .v (.int .i64 q.b), .v (.int .i64 q.c), .v (.int .i64 r.f), .v (.int .i64 r.a), .v (.int .i64 r.b), .v (.int .i64 r.c)]
def trC (t:Nat×Nat×Nat):List C:=[.v (.int .i64 t.1), .v (.int .i64 t.2.1), .v (.int .i64 t.2.2)]
theorem trC_length (t:Nat×Nat×Nat):(trC t).length=3:=rfl
section
variable (fu d:Nat) (hf:18446744073709551616<=fu)
theorem sp_upward (g n f a b c:Nat) (h:freq n) (hb:a<=840/\b<=840/\c<=840) (cs:List C):
  cl fu (d+2) fn_mesh_Net_upward [V.ptr 1000000 0,V.agg (plc ⟨f,a,b,c⟩)] [netO g n cs]=some ⟨V.agg (pl3 ⟨f,a+840/n,b,c⟩ ⟨f,a,b+840/n,c⟩ ⟨f,a,b,c+840/n⟩),[netO g n cs],none⟩:=by
 have hs:=step_pos h;have m1:=sp_moved fu d f a b c ((840/n:Nat):Int) 0 0 (by omega) (by omega) (by omega) (by omega);have m2:=sp_moved fu d f a b c 0 ((840/n:Nat):Int) 0 (by omega) (by omega) (by omega) (by omega);have m3:=sp_moved fu d f a b c 0 0 ((840/n:Nat):Int) (by omega) (by omega) (by omega) (by omega);simp only [plc] at m1 m2 m3⊢;rw [eqp_mesh_Net_upward];simp (disch:=omega) only [hdt_eq,QM,QD,m1,m2,m3,List.length_cons,List.length_nil,Nat.zero_add,Nat.reduceAdd,Int.add_zero];rfl
theorem sp_downward (g n f a b c:Nat) (h:freq n) (hb:a<=840/\b<=840/\c<=840) (cs:List C):
  cl fu (d+2) fn_mesh_Net_downward [V.ptr 1000000 0,V.agg (plc ⟨f,a,b,c⟩)] [netO g n cs]=some ⟨V.agg (pl3 ⟨f,a,b+840/n,c+840/n⟩ ⟨f,a+840/n,b,c+840/n⟩ ⟨f,a+840/n,b+840/n,c⟩),[netO g n cs],none⟩:=by
 have hs:=step_pos h;have m1:=sp_moved fu d f a b c 0 ((840/n:Nat):Int) ((840/n:Nat):Int) (by omega) (by omega) (by omega) (by omega);have m2:=sp_moved fu d f a b c ((840/n:Nat):Int) 0 ((840/n:Nat):Int) (by omega) (by omega) (by omega) (by omega);have m3:=sp_moved fu d f a b c ((840/n:Nat):Int) ((840/n:Nat):Int) 0 (by omega) (by omega) (by omega) (by omega);simp only [plc] at m1 m2 m3⊢;rw [eqp_mesh_Net_downward];simp (disch:=omega) only [hdt_eq,QM,QD,m1,m2,m3,List.length_cons,List.length_nil,Nat.zero_add,Nat.reduceAdd,Int.add_zero];rfl
theorem pr_sort3 (i j k:Nat):cl fu (d+1) fn_slices_Sort_sint_int [V.ws 1000000 3] [.ob ty_3_int 0 [.v (.int .i64 i), .v (.int .i64 j), .v (.int .i64 k)]]=some ⟨.tup [],[.ob ty_3_int 0 (trC (sort3 i j k))],none⟩:=by
 have e:cl fu (d+1) fn_slices_Sort_sint_int [V.ws 1000000 3] [.ob ty_3_int 0 [.v (.int .i64 i), .v (.int .i64 j), .v (.int .i64 k)]]=some ⟨.tup [],[.ob ty_3_int 0 (ints (sortI [(i:Int),j,k]))],none⟩:=by kernel_rfl
 rw [e,sortI_3];rfl
include hf
theorem sp_cell (g n:Nat) (h:freq n) (p q r:Pl) (hp:p∈pts n) (hq:q∈pts n) (hr:r∈pts n) (L:List (Nat×Nat×Nat)) (hL:L.length<=100000):
  cl fu (d+6) fn_mesh_Net_cell [V.ptr 1000000 0,V.agg (pl3 p q r)] [netO g n (fl trC L)]=some ⟨V.tup [],[netO 1 n (fl trC (L++[tc n p q r]))],none⟩:=by
 have hfl:=fl_length trC_length L;have hdv:L.length*3/3=L.length:=by omega
 have a1:=sp_atP fu d hf 0 n h p hp (fl trC L);have a2:=sp_atP fu d hf 0 n h q hq (fl trC L);have a3:=sp_atP fu d hf 0 n h r hr (fl trC L);have hsn:fl trC L++[.v (.int .i64 (tc n p q r).1), .v (.int .i64 (tc n p q r).2.1), .v (.int .i64 (tc n p q r).2.2)]=fl trC (L++[tc n p q r]):=fl_snoc L _;have hfl2:(fl trC (L++[tc n p q r])).length=(L.length+1)*3:=by rw [fl_length trC_length,List.length_append];rfl
 have hs:=pr_sort3 fu (d+4) (idx n p) (idx n q) (idx n r);generalize hi:idx n p=ip at*
 generalize hj:idx n q=iq at*
 generalize hk:idx n r=ir at*
 unfold tc at hsn hfl2⊢;rw [hi,hj,hk] at hsn hfl2⊢;simp only [plc] at a1 a2 a3;unfold netO netP at a1 a2 a3⊢;rw [eqp_mesh_Net_cell];generalize (nodes n).length=nl at*
 generalize fl plc (nodes n)=nc at*
 generalize esn 0 (nodes n)=es at*
 simp (disch:=omega) only [hdt_eq,QM,QD,List.length_cons,List.length_nil,Nat.zero_add,Nat.reduceAdd];rw [iter_runx (fun j:Nat=>(((j:Nat):Int),(match j with|0=>[C.v (.int .i64 0),C.v (.int .i64 0),C.v (.int .i64 0)]|1=>[C.v (.int .i64 ip),C.v (.int .i64 0),C.v (.int .i64 0)]|2=>[C.v (.int .i64 ip),C.v (.int .i64 iq),C.v (.int .i64 0)]|_=>[C.v (.int .i64 ip),C.v (.int .i64 iq),C.v (.int .i64 ir)]),((n:Int),(((840/n:Nat):Int)),C.sl nl nc,C.mp ty_api_Place ty_int (some 4) none es,fl trC L,C.nl,C.nl,()),())) 0
  ((3:Int),[C.v (.int .i64 ip),C.v (.int .i64 iq),C.v (.int .i64 ir)],((n:Int),(((840/n:Nat):Int)),C.sl nl nc,C.mp ty_api_Place ty_int (some 4) none es,fl trC L,C.nl,C.nl,()),()) 3 ?_ ?_ ?_ (by omega)]
 ·simp (disch:=omega) only [hdt_eq,QM,QD,hs,trC,List.length_cons,List.length_nil,Nat.zero_add,Nat.reduceAdd,hfl,hdv,List.drop_succ_cons,List.drop_zero,hsn,hfl2]
 ·rfl
 ·intro j hj;rcases (show j=0\/j=1\/j=2 by omega) with rfl|rfl|rfl
  ·simp (disch:=omega) only [hdt_eq,QM,QD,QE,a1,Nat.reduceMul,Int.toNat_natCast,Int.ofNat_zero,Int.toNat_zero,show Int.toNat 1=1 from rfl,show Int.toNat 2=2 from rfl,show ((1:Nat):Int)=1 from rfl,show ((2:Nat):Int)=2 from rfl,Nat.zero_mul,Nat.one_mul,List.take_succ_cons,List.take_zero,List.drop_zero,List.drop_succ_cons,List.length_cons,List.length_nil,Nat.zero_add,Nat.reduceAdd];rfl
  ·simp (disch:=omega) only [hdt_eq,QM,QD,QE,a2,Nat.reduceMul,Int.toNat_natCast,Int.ofNat_zero,Int.toNat_zero,show Int.toNat 1=1 from rfl,show Int.toNat 2=2 from rfl,show ((1:Nat):Int)=1 from rfl,show ((2:Nat):Int)=2 from rfl,Nat.zero_mul,Nat.one_mul,List.take_succ_cons,List.take_zero,List.drop_zero,List.drop_succ_cons,List.length_cons,List.length_nil,Nat.zero_add,Nat.reduceAdd];rfl
  ·simp (disch:=omega) only [hdt_eq,QM,QD,QE,a3,Nat.reduceMul,Int.toNat_natCast,Int.ofNat_zero,Int.toNat_zero,show Int.toNat 1=1 from rfl,show Int.toNat 2=2 from rfl,show ((1:Nat):Int)=1 from rfl,show ((2:Nat):Int)=2 from rfl,Nat.zero_mul,Nat.one_mul,List.take_succ_cons,List.take_zero,List.drop_zero,List.drop_succ_cons,List.length_cons,List.length_nil,Nat.zero_add,Nat.reduceAdd];rfl
 ·rfl
end
end Go.Proofs.YtoaanfjcjbghaaaGreatDoor
/- All of a grid's cells. -/
namespace Go.Proofs.YtoaanfjcjbghaaaGreatDoor
open Go Go.PM Go.Grid
attribute [local congr] hd_bind hd_need hd_cond hd_unc hd_uncV hd_uncO hd_unI hd_asI hd_asB hd_asS hd_asSl hd_asFn hd_asP hd_rC hd_rA hd_rT hd_rG hd_rP hd_rO hd_rN hd_rF hd_rS hd_rW hd_nilV hd_natD hd_bd hd_iter hd_over hd_sliceC hd_asMp hd_asYF
def preC (n f a b:Nat):List (Nat×Nat×Nat):=(List.range f).flatMap (faceC n)++((List.range a).flatMap (rowC n f)++(List.range b).flatMap (cellsAt n f a))
theorem preC_b (n f a b:Nat):preC n f a b++cellsAt n f a b=preC n f a (b+1):=by
 unfold preC;rw [List.range_succ,List.flatMap_append];simp [List.append_assoc]
theorem preC_a (n f a:Nat):preC n f a (n-a)=preC n f (a+1) 0:=by
 unfold preC;rw [List.range_succ (n:=a),List.flatMap_append];simp [rowC]
theorem preC_f (n f:Nat):preC n f n 0=preC n (f+1) 0 0:=by
 unfold preC;rw [List.range_succ (n:=f),List.flatMap_append];simp [faceC]
theorem preC_end (n:Nat):preC n 20 0 0=tri n:=by unfold preC tri;simp
theorem cellsAt_le (n f a b:Nat):(cellsAt n f a b).length<=2:=by unfold cellsAt;split<;>simp
theorem rowC_le (n f a:Nat) (h:n<=8):(rowC n f a).length<=16:=by
 have:=flatMap_le (g:=cellsAt n f a) (fun b=>cellsAt_le n f a b) (n-a);unfold rowC;omega
theorem faceC_le (n f:Nat) (h:n<=8):(faceC n f).length<=128:=by
 have:=flatMap_le (g:=rowC n f) (fun a=>rowC_le n f a h) n;unfold faceC;omega
theorem preC_le {n f a b:Nat} (h:n<=8) (hf:f<=20) (ha:a<=9) (hb:b<=9):(preC n f a b).length<=5000:=by
 have h1:=flatMap_le (g:=faceC n) (fun a=>faceC_le n a h) f;have h2:=flatMap_le (g:=rowC n f) (fun a=>rowC_le n f a h) a;have h3:=flatMap_le (g:=cellsAt n f a) (fun b=>cellsAt_le n f a b) b;unfold preC;rw [List.length_append,List.length_append];omega
theorem pt_in {n f i j:Nat} (hf:f<20) (h:i+j<=n):pt n f i j∈pts n:=mem_pts.2 ⟨f,i,j,hf,h,rfl⟩
section
variable (fu d:Nat) (hf:18446744073709551616<=fu)
include hf
theorem sp_cells (g n:Nat) (h:freq n) (f a b:Nat) (hf':f<20) (hab:a+b<n) (L:List (Nat×Nat×Nat)) (hL:L.length<=50000):
  ∃g',cl fu (d+7) fn_mesh_Net_cells [V.ptr 1000000 0,V.agg [.v (.int .i64 f), .v (.int .i64 ((a*(840/n):Nat):Int)), .v (.int .i64 ((b*(840/n):Nat):Int)), .v (.int .i64 (((n-1-a-b)*(840/n):Nat):Int))]] [netO g n (fl trC L)]=some ⟨V.tup [],[netO g' n (fl trC (L++cellsAt n f a b))],none⟩:=by
 have hs:=step_pos h;have hn:=h;unfold freq at hn;have ha:a*(840/n)<=840:=mul_le h (by omega);have hb:b*(840/n)<=840:=mul_le h (by omega);have hc:(n-1-a-b)*(840/n)<=840:=mul_le h (by omega);have u1:=sp_upward fu (d+4) g n f (a*(840/n)) (b*(840/n)) ((n-1-a-b)*(840/n)) h ⟨ha,hb,hc⟩ (fl trC L);have e1:(⟨f,a*(840/n)+840/n,b*(840/n),(n-1-a-b)*(840/n)⟩:Pl)=pt n f (a+1) b:=by
  unfold pt;rw [Nat.succ_mul,show n-1-a-b=n-(a+1)-b by omega]
 have e2:(⟨f,a*(840/n),b*(840/n)+840/n,(n-1-a-b)*(840/n)⟩:Pl)=pt n f a (b+1):=by
  unfold pt;rw [Nat.succ_mul,show n-1-a-b=n-a-(b+1) by omega]
 have e3:(⟨f,a*(840/n),b*(840/n),(n-1-a-b)*(840/n)+840/n⟩:Pl)=pt n f a b:=by
  unfold pt;rw [<-Nat.succ_mul,show (n-1-a-b).succ=n-a-b by omega]
 rw [e1,e2,e3] at u1;have p1:=pt_in (n:=n) (i:=a+1) (j:=b) hf' (by omega);have p2:=pt_in (n:=n) (i:=a) (j:=b+1) hf' (by omega);have p3:=pt_in (n:=n) (i:=a) (j:=b) hf' (by omega);have c1:=sp_cell fu d hf (Nat.succ g) n h _ _ _ p1 p2 p3 L (by omega);by_cases hd:a+b+1<n
 ·have e4:((n-1-a-b)*(840/n))=(n-2-a-b)*(840/n)+840/n:=by rw [<-Nat.succ_mul,show (n-2-a-b).succ=n-1-a-b by omega]
  have hc2:(n-2-a-b)*(840/n)<=840:=by omega
  have m1:=sp_moved fu (d+5) f (a*(840/n)) (b*(840/n)) ((n-1-a-b)*(840/n)) 0 0 (0-((840/n:Nat):Int)) (by omega) (by omega) (by omega) (by omega);have e5:((((n-1-a-b)*(840/n):Nat):Int)+(0-((840/n:Nat):Int)))=(((n-2-a-b)*(840/n):Nat):Int):=by omega
  rw [e5] at m1;have u2:=sp_downward fu (d+4) (Nat.succ (Nat.succ g)) n f (a*(840/n)) (b*(840/n)) ((n-2-a-b)*(840/n)) h ⟨ha,hb,hc2⟩ (fl trC (L++[tc n (pt n f (a+1) b) (pt n f a (b+1)) (pt n f a b)]));have e6:(⟨f,a*(840/n),b*(840/n)+840/n,(n-2-a-b)*(840/n)+840/n⟩:Pl)=pt n f a (b+1):=by rw [<-e4];exact e2
  have e7:(⟨f,a*(840/n)+840/n,b*(840/n),(n-2-a-b)*(840/n)+840/n⟩:Pl)=pt n f (a+1) b:=by rw [<-e4];exact e1
  have e8:(⟨f,a*(840/n)+840/n,b*(840/n)+840/n,(n-2-a-b)*(840/n)⟩:Pl)=pt n f (a+1) (b+1):=by
   unfold pt;rw [Nat.succ_mul,Nat.succ_mul,show n-2-a-b=n-(a+1)-(b+1) by omega]
  rw [e6,e7,e8] at u2;have p4:=pt_in (n:=n) (i:=a+1) (j:=b+1) hf' (by omega);have c2:=sp_cell fu d hf (Nat.succ (Nat.succ (Nat.succ g))) n h _ _ _ p2 p1 p4 (L++[tc n (pt n f (a+1) b) (pt n f a (b+1)) (pt n f a b)]) (by simp;omega);have hge:((840/n:Nat):Int)<=(((n-1-a-b)*(840/n):Nat):Int):=by omega
  have hL2:L++cellsAt n f a b=(L++[tc n (pt n f (a+1) b) (pt n f a (b+1)) (pt n f a b)])++[tc n (pt n f a (b+1)) (pt n f (a+1) b) (pt n f (a+1) (b+1))]:=by
   unfold cellsAt;rw [if_pos hd];simp
  rw [hL2];generalize tc n (pt n f (a+1) b) (pt n f a (b+1)) (pt n f a b)=t1 at*
  generalize tc n (pt n f a (b+1)) (pt n f (a+1) b) (pt n f (a+1) (b+1))=t2 at*
  simp only [plc,Int.add_zero] at u1 u2 m1;generalize pt n f (a+1) b=q1 at*
  generalize pt n f a (b+1)=q2 at*
  generalize pt n f a b=q3 at*
  generalize pt n f (a+1) (b+1)=q4 at*
  unfold netO netP at u1 u2 c1 c2⊢;refine ⟨Nat.succ (Nat.succ (Nat.succ (Nat.succ g))), ?_⟩;rw [eqp_mesh_Net_cells];generalize (nodes n).length=nl at*
  generalize fl plc (nodes n)=nc at*
  generalize esn 0 (nodes n)=es at*
  generalize a*(840/n)=x at*
  generalize b*(840/n)=y at*
  generalize (n-1-a-b)*(840/n)=z at*
  generalize (n-2-a-b)*(840/n)=z2 at*
  simp (disch:=omega) only [hdt_eq,QM,QD,QE,u1,c1,m1,u2,c2,List.length_cons,List.length_nil,Nat.zero_add,Nat.reduceAdd]
 ·have hz:n-1-a-b=0:=by omega
  have hlt:(((n-1-a-b)*(840/n):Nat):Int)<((840/n:Nat):Int):=by rw [hz,Nat.zero_mul];omega
  have hL2:L++cellsAt n f a b=L++[tc n (pt n f (a+1) b) (pt n f a (b+1)) (pt n f a b)]:=by
   unfold cellsAt;rw [if_neg hd]
  rw [hL2];generalize tc n (pt n f (a+1) b) (pt n f a (b+1)) (pt n f a b)=t1 at*
  simp only [plc] at u1;generalize pt n f (a+1) b=q1 at*
  generalize pt n f a (b+1)=q2 at*
  generalize pt n f a b=q3 at*
  unfold netO netP at u1 c1⊢;refine ⟨Nat.succ (Nat.succ g), ?_⟩;rw [eqp_mesh_Net_cells];generalize (nodes n).length=nl at*
  generalize fl plc (nodes n)=nc at*
  generalize esn 0 (nodes n)=es at*
  generalize a*(840/n)=x at*
  generalize b*(840/n)=y at*
  generalize (n-1-a-b)*(840/n)=z at*
  simp (disch:=omega) only [hdt_eq,QM,QD,QE,u1,c1,List.length_cons,List.length_nil,Nat.zero_add,Nat.reduceAdd]
end
end Go.Proofs.YtoaanfjcjbghaaaGreatDoor
/- A grid's cells and edges, sorted; equal edges once. -/
namespace Go.Proofs.YtoaanfjcjbghaaaGreatDoor
open Go Go.PM Go.Grid
attribute [local congr] hd_bind hd_need hd_cond hd_unc hd_uncV hd_uncO hd_unI hd_asI hd_asB hd_asS hd_asSl hd_asFn hd_asP hd_rC hd_rA hd_rT hd_rG hd_rP hd_rO hd_rN hd_rF hd_rS hd_rW hd_nilV hd_natD hd_bd hd_iter hd_over hd_sliceC hd_asMp hd_asYF
section
variable {α:Type} (le:α ->α ->Bool)
theorem insS_perm (x:α): ∀l,(insS le x l).Perm (x::l)
 | []=> .refl _
 |y::l=>by
  unfold insS;split
  ·exact .refl _
  ·exact ((insS_perm x l).cons y).trans (.swap x y l)
theorem isort_perm: ∀l,(isort le l).Perm l
 | []=> .refl _
 |x::l=>(insS_perm le x (isort le l)).trans ((isort_perm l).cons x)
variable {le} (ht: ∀a b,le a b=true\/le b a=true) (htr: ∀a b c,le a b=true ->le b c=true ->le a c=true)
include ht htr
theorem insS_asc (x:α): ∀{l:List α},l.Pairwise (fun a b=>le a b=true)->(insS le x l).Pairwise (fun a b=>le a b=true)
 | [],_=>by simp [insS]
 |y::l,h=>by
  unfold insS;rw [List.pairwise_cons] at h;split
  ·rename_i hxy;rw [List.pairwise_cons,List.pairwise_cons];exact ⟨fun z hz=>(List.mem_cons.1 hz).elim (fun e=>e▸hxy) fun hz=>htr _ _ _ hxy (h.1 z hz),h⟩
  ·rename_i hxy;rw [List.pairwise_cons];refine ⟨fun z hz=> ?_,insS_asc x h.2⟩;rcases List.mem_cons.1 ((insS_perm le x l).mem_iff.1 hz) with rfl|hz
   ·exact (ht _ _).resolve_left hxy
   ·exact h.1 z hz
theorem isort_asc: ∀l,(isort le l).Pairwise (fun a b=>le a b=true)
 | []=> .nil
 |x::l=>insS_asc ht htr x (isort_asc l)
end
theorem leT_iff {a b:Nat×Nat×Nat}:leT a b=true↔a.1<b.1\/a.1=b.1/\(a.2.1<b.2.1\/a.2.1=b.2.1/\a.2.2<=b.2.2):=by simp [leT]
theorem leZ_iff {a b:Ed}:leZ a b=true↔a.1<b.1\/a.1=b.1/\a.2<=b.2:=by simp [leZ]
def trI (t:Nat×Nat×Nat):List Int:=[(t.1:Int),(t.2.1:Int),(t.2.2:Int)]
def edI (e:Ed):List Int:=[e.1,e.2]
def edC (e:Ed):List C:=[.v (.int .i64 e.1), .v (.int .i64 e.2)]
theorem edC_length (e:Ed):(edC e).length=2:=rfl
theorem tr_ints (L:List (Nat×Nat×Nat)):fl trC L=ints (L.flatMap trI):=by
 induction L with
 |nil=>rfl
 |cons x L ih=>rw [fl_cons,ih,List.flatMap_cons];rfl
theorem ed_ints (L:List Ed):fl edC L=ints (flatE L):=by
 induction L with
 |nil=>rfl
 |cons x L ih=>rw [fl_cons,ih,flatE_cons];rfl
theorem leT_lex (a b:Nat×Nat×Nat):(¬lexZ [0,1,2] (trI b) (trI a)<0)↔leT a b=true:=by
 rw [leT_iff,lexZ_neg,lexZ_neg,lexZ_neg];simp only [trI,lexZ,List.getD_cons_zero,List.getD_cons_succ];omega
theorem leZ_lex (a b:Ed):(¬lexZ [0,1] (edI b) (edI a)<0)↔leZ a b=true:=by
 rw [leZ_iff,lexZ_neg,lexZ_neg];simp only [edI,lexZ,List.getD_cons_zero,List.getD_cons_succ];omega
theorem leT_anti (a b:Nat×Nat×Nat) (h:leT a b=true) (h':leT b a=true):a=b:=by
 rw [leT_iff] at h h';obtain ⟨a1,a2,a3⟩:=a;obtain ⟨b1,b2,b3⟩:=b;simp only at h h';have e1:a1=b1:=by omega
 have e2:a2=b2:=by omega
 have e3:a3=b3:=by omega
 rw [e1,e2,e3]
theorem leZ_anti (a b:Ed) (h:leZ a b=true) (h':leZ b a=true):a=b:=by
 rw [leZ_iff] at h h';obtain ⟨a1,a2⟩:=a;obtain ⟨b1,b2⟩:=b;simp only at h h';have e1:a1=b1:=by omega
 have e2:a2=b2:=by omega
 rw [e1,e2]
section
variable (fu d:Nat)
theorem pr_sortT (L:List (Nat×Nat×Nat)) (hl:L.length<=1000000):cl fu (d+1) fn_slices_SortFunc_sapi_Cell_api_Cell [V.own 1000000 0 L.length,V.c (C.fn fn_mesh_Build_1 [])] [.sb ty_api_Cell 0 (fl trC L)]=
  some ⟨.tup [],[.sb ty_api_Cell 0 (fl trC (isort leT L))],none⟩:=by
 have e:cl fu (d+1) fn_slices_SortFunc_sapi_Cell_api_Cell [V.own 1000000 0 L.length,V.c (C.fn fn_mesh_Build_1 [])] [.sb ty_api_Cell 0 (fl trC L)]=(unInts (fl trC L)).bind fun zs=>need (Nat.beq 1000000 OUT&&Nat.beq 0 0&&Nat.beq fn_mesh_Build_1 fn_mesh_Build_1&&Nat.beq ty_api_Cell ty_api_Cell&&Nat.beq 0 0&&Nat.beq zs.length (L.length*3)&&Nat.ble L.length 4611686018427387903) (some ⟨.tup [],[.sb ty_api_Cell 0 (ints (flatZ 3 (sortR 3 (lexZ [0,1,2]) L.length zs)))],none⟩):=by kernel_rfl
 have hlen:(L.flatMap trI).length=L.length*3:=by
  have:=fl_length trC_length L;rw [tr_ints] at this;simpa using this
 have e1:Nat.beq 1000000 OUT=true:=rfl;obtain ⟨l',h1,h2,h3⟩:=sortR_list (k:=3) (g:=trI) (fun _=>rfl) (lexZ_swo [0,1,2]) L;have h4:l'=isort leT L:=asc_uniq leT_anti (h1.trans (isort_perm leT L).symm) (h2.imp fun {a b} h=>(leT_lex a b).1 h) (isort_asc (fun a b=>by rw [leT_iff,leT_iff];omega) (fun a b c h h'=>by rw [leT_iff] at h h'⊢;omega) L);rw [e,tr_ints,unInts_ints];simp (disch:=omega) only [hdt_eq,QM,QD,hlen,e1];rw [h3,h4,tr_ints]
theorem pr_sortZ (L:List Ed) (hl:L.length<=1000000):cl fu (d+1) fn_slices_SortFunc_sapi_Edge_api_Edge [V.own 1000000 0 L.length,V.c (C.fn fn_mesh_Build_2 [])] [.sb ty_api_Edge 0 (fl edC L)]=
  some ⟨.tup [],[.sb ty_api_Edge 0 (fl edC (isort leZ L))],none⟩:=by
 have e:cl fu (d+1) fn_slices_SortFunc_sapi_Edge_api_Edge [V.own 1000000 0 L.length,V.c (C.fn fn_mesh_Build_2 [])] [.sb ty_api_Edge 0 (fl edC L)]=(unInts (fl edC L)).bind fun zs=>need (Nat.beq 1000000 OUT&&Nat.beq 0 0&&Nat.beq fn_mesh_Build_2 fn_mesh_Build_2&&Nat.beq ty_api_Edge ty_api_Edge&&Nat.beq 0 0&&Nat.beq zs.length (L.length*2)&&Nat.ble L.length 4611686018427387903) (some ⟨.tup [],[.sb ty_api_Edge 0 (ints (flatZ 2 (sortR 2 (lexZ [0,1]) L.length zs)))],none⟩):=by kernel_rfl
 have hlen:(flatE L).length=L.length*2:=flatE_length L;have e1:Nat.beq 1000000 OUT=true:=rfl;obtain ⟨l',h1,h2,h3⟩:=sortR_list (k:=2) (g:=edI) (fun _=>rfl) (lexZ_swo [0,1]) L;have h4:l'=isort leZ L:=asc_uniq leZ_anti (h1.trans (isort_perm leZ L).symm) (h2.imp fun {a b} h=>(leZ_lex a b).1 h) (isort_asc (fun a b=>by rw [leZ_iff,leZ_iff];omega) (fun a b c h h'=>by rw [leZ_iff] at h h'⊢;omega) L);have h5: ∀l:List Ed,l.flatMap edI=flatE l:=fun l=>rfl;rw [e,ed_ints,unInts_ints];simp (disch:=omega) only [hdt_eq,QM,QD,hlen,e1];rw [h5,h5] at h3;rw [h3,h4,ed_ints]
theorem compact_le {α:Type} [Inhabited α] [DecidableEq α] (l:List α):(Lib.compact l).length<=l.length:=by
 unfold Lib.compact Lib.compactUpTo;rw [List.length_map];exact Nat.le_trans (List.length_filter_le ..) (by simp)
theorem compact_mem {α:Type} [Inhabited α] [DecidableEq α] {l:List α} {x:α} (h:x∈Lib.compact l):x∈l:=by
 unfold Lib.compact Lib.compactUpTo at h;obtain ⟨j,hj,rfl⟩:=List.mem_map.1 h;have:=List.mem_range.1 (List.mem_filter.1 hj).1;rw [getElem!_pos l.toArray j (by simpa using this)];simp
theorem pr_compact (L:List Ed) (hl:L.length<=1000000): ∃pad:List Ed,pad.length=L.length/\cl fu (d+1) fn_slices_Compact_sapi_Edge_api_Edge [V.own 1000000 0 L.length] [.sb ty_api_Edge 0 (fl edC L)]=
  some ⟨V.c (C.sl (Lib.compact L).length (fl edC (Lib.compact L))),[.sb ty_api_Edge (fl edC L).length (fl edC pad)],none⟩:=by
 have e:cl fu (d+1) fn_slices_Compact_sapi_Edge_api_Edge [V.own 1000000 0 L.length] [.sb ty_api_Edge 0 (fl edC L)]=(unInts (fl edC L)).bind fun zs=>(pairs zs).bind fun l=>need (Nat.beq 1000000 OUT&&Nat.beq 0 0&&Nat.beq ty_api_Edge ty_api_Edge&&Nat.beq 0 0&&Nat.beq l.length L.length&&Nat.ble L.length 4611686018427387903&&Nat.ble (Lib.compact l).length L.length)
   (some ⟨.c (.sl (Lib.compact l).length (ints (flatE (Lib.compact l)))),[.sb ty_api_Edge (fl edC L).length (ints (flatE (padE l L.length)))],none⟩):=by kernel_rfl
 have e1:Nat.beq 1000000 OUT=true:=rfl;have hle:=compact_le L;refine ⟨padE L L.length,padE_length hle, ?_⟩;rw [e,ed_ints,unInts_ints,ed_ints,ed_ints];show (pairs (flatE L)).bind _=_;rw [pairs_flat];simp (disch:=omega) only [hdt_eq,QM,QD,e1]
end
end Go.Proofs.YtoaanfjcjbghaaaGreatDoor
/- A grid: what mesh.Build comes to. -/
namespace Go.Proofs.YtoaanfjcjbghaaaGreatDoor
open Go Go.PM Go.Grid
attribute [local congr] hd_bind hd_need hd_cond hd_unc hd_uncV hd_uncO hd_unI hd_asI hd_asB hd_asS hd_asSl hd_asFn hd_asP hd_rC hd_rA hd_rT hd_rG hd_rP hd_rO hd_rN hd_rF hd_rS hd_rW hd_nilV hd_natD hd_bd hd_iter hd_over hd_sliceC hd_asMp hd_asYF
theorem blt_t {a b:Nat} (h:a<b):Nat.blt a b=true:=Nat.ble_eq_true_of_le h
def push1 (R:List (List Int)) (i:Nat) (z:Int):List (List Int):=R.set i (R.getD i []++[z])
def pushE (R:List (List Int)) (e:Ed):List (List Int):=push1 (push1 R e.1.toNat e.2) e.2.toNat e.1
def pushed (N:Nat) (E:List Ed):List (List Int):=E.foldl pushE (List.replicate N [])
noncomputable def nxt (n:Nat):List (List Int):=(pushed (nodes n).length (edg n)).map sortI
theorem sort3_mem (P:Nat ->Prop) {i j k:Nat} (h1:P i) (h2:P j) (h3:P k):P (sort3 i j k).1/\P (sort3 i j k).2.1/\P (sort3 i j k).2.2:=by
 unfold sort3;split<;>split<;>try split
 all_goals exact ⟨by assumption,by assumption,by assumption⟩
theorem tri_in {n:Nat} (h:freq n): ∀t∈tri n,t.1<(nodes n).length/\t.2.1<(nodes n).length/\t.2.2<(nodes n).length:=by
 intro t ht;unfold tri faceC rowC at ht;simp only [List.mem_flatMap,List.mem_range] at ht;obtain ⟨f,hf,a,ha,b,hb,ht⟩:=ht;have hp: ∀i j,i+j<=n ->idx n (pt n f i j)<(nodes n).length:=fun i j hij=>idx_lt h (pt_in hf hij);unfold cellsAt at ht;rcases List.mem_cons.1 ht with rfl|ht
 ·exact sort3_mem (fun x=>x<(nodes n).length) (hp _ _ (by omega)) (hp _ _ (by omega)) (hp _ _ (by omega))
 ·split at ht
  ·rename_i hd;obtain rfl:=List.mem_singleton.1 ht;exact sort3_mem (fun x=>x<(nodes n).length) (hp _ _ (by omega)) (hp _ _ (by omega)) (hp _ _ (by omega))
  ·cases ht
theorem rawE_in {n:Nat} (h:freq n): ∀e∈rawE n,(0<=e.1/\e.1<((nodes n).length:Nat))/\(0<=e.2/\e.2<((nodes n).length:Nat)):=by
 intro e he;obtain ⟨t,ht,he⟩:=List.mem_flatMap.1 he;obtain ⟨h1,h2,h3⟩:=tri_in h t ((isort_perm leT _).mem_iff.1 ht);simp only [edsT,List.mem_cons,List.mem_nil_iff,or_false] at he;rcases he with rfl|rfl|rfl<;>(simp only;omega)
theorem edg_in {n:Nat} (h:freq n): ∀e∈edg n,(0<=e.1/\e.1<((nodes n).length:Nat))/\(0<=e.2/\e.2<((nodes n).length:Nat)):=
 fun e he=>rawE_in h e ((isort_perm leZ _).mem_iff.1 (compact_mem he))
theorem tri_le {n:Nat} (h:freq n):(tri n).length<=5000:=by
 unfold freq at h;rw [<-preC_end];exact preC_le (by omega) (by omega) (by omega) (by omega)
theorem eds_length (L:List (Nat×Nat×Nat)):(L.flatMap edsT).length=L.length*3:=by
 induction L with
 |nil=>rfl
 |cons x L ih=>rw [List.flatMap_cons,List.length_append,ih,List.length_cons];simp only [edsT,List.length_cons,List.length_nil];omega
theorem rawE_le {n:Nat} (h:freq n):(rawE n).length<=15000:=by
 unfold rawE;rw [eds_length,(isort_perm leT _).length_eq];have:=tri_le h;omega
theorem edg_le {n:Nat} (h:freq n):(edg n).length<=15000:=
 Nat.le_trans (compact_le _) (by rw [(isort_perm leZ _).length_eq];exact rawE_le h)
theorem push1_length (R:List (List Int)) (i:Nat) (z:Int):(push1 R i z).length=R.length:=by simp [push1]
theorem getD_le {R:List (List Int)} {m:Nat} (h: ∀r∈R,r.length<=m) (i:Nat):(R.getD i []).length<=m:=by
 rw [List.getD_eq_getElem?_getD];cases hi:R[i]? with
 |none=>simp
 |some r=>exact h r (List.mem_of_getElem? hi)
theorem push1_le {R:List (List Int)} {m:Nat} (h: ∀r∈R,r.length<=m) (i:Nat) (z:Int): ∀r∈push1 R i z,r.length<=m+1:=by
 intro r hr;rcases List.mem_or_eq_of_mem_set hr with hr|rfl
 ·have:=h r hr;omega
 ·have:=getD_le h i;rw [List.length_append,List.length_cons,List.length_nil];omega
theorem set_ints (R:List (List Int)) (i:Nat) (r:List Int):(R.map ints).set i (ints r)=(R.set i r).map ints:=List.map_set.symm
theorem getD_ints (R:List (List Int)) (i:Nat):(R.map ints).getD i []=ints (R.getD i []):=by
 rw [List.getD_eq_getElem?_getD,List.getD_eq_getElem?_getD,List.getElem?_map];cases R[i]? <;>rfl
theorem ints_snoc (r:List Int) (z:Int):ints r++[C.v (.int .i64 z)]=ints (r++[z]):=by simp [ik]
theorem pushed_snoc (N:Nat) (E:List Ed) (e:Ed):pushed N (E++[e])=pushE (pushed N E) e:=by simp [pushed]
theorem pushed_length (N:Nat) (E:List Ed):(pushed N E).length=N:=by
 have key: ∀(E:List Ed) (R:List (List Int)),(E.foldl pushE R).length=R.length:=by
  intro E
  induction E with
  |nil=>intro R;rfl
  |cons e E ih=>intro R;rw [List.foldl_cons,ih];unfold pushE;rw [push1_length,push1_length]
 unfold pushed;rw [key];simp
theorem pushed_le (N:Nat) (E:List Ed): ∀r∈pushed N E,r.length<=2*E.length:=by
 have key: ∀(E:List Ed) (R:List (List Int)) (m:Nat),(∀r∈R,r.length<=m)-> ∀r∈E.foldl pushE R,r.length<=m+2*E.length:=by
  intro E
  induction E with
  |nil=>intro R m h r hr;have:=h r hr;simp;omega
  |cons e E ih=>
   intro R m h r hr;rw [List.foldl_cons] at hr;have:=ih _ (m+1+1) (push1_le (push1_le h _ _) _ _) r hr;rw [List.length_cons];omega
 intro r hr;have:=key E _ 0 (fun r hr=>by rw [List.eq_of_mem_replicate hr];simp) r hr;omega
theorem eds_fl (t:Nat×Nat×Nat):fl edC (edsT t)=[C.v (.int .i64 t.1),C.v (.int .i64 t.2.1),C.v (.int .i64 t.1),C.v (.int .i64 t.2.2),C.v (.int .i64 t.2.1),C.v (.int .i64 t.2.2)]:=rfl
def mixS (R:List (List Int)) (j:Nat):List (List Int):=(R.take j).map sortI++R.drop j
theorem mixS_length (R:List (List Int)) (j:Nat):(mixS R j).length=R.length:=by
 unfold mixS;rw [List.length_append,List.length_map,<-List.length_append,List.take_append_drop]
theorem mixS_get {R:List (List Int)} {j:Nat} (hj:j<R.length):(mixS R j).getD j []=R[j]:=by
 unfold mixS;rw [List.getD_eq_getElem?_getD,List.getElem?_append_right (by simp;omega)];simp [Nat.min_eq_left (Nat.le_of_lt hj),hj]
theorem mixS_set {R:List (List Int)} {j:Nat} (hj:j<R.length):(mixS R j).set j (sortI R[j])=mixS R (j+1):=by
 unfold mixS;have h1:((R.take j).map sortI).length=j:=by simp;omega
 rw [List.set_append_right _ _ (by omega),h1,Nat.sub_self,List.drop_eq_getElem_cons hj,List.set_cons_zero,List.take_succ_eq_append_getElem hj,List.map_append,List.append_assoc];rfl
theorem mixS_zero (R:List (List Int)):mixS R 0=R:=by simp [mixS]
theorem mixS_all (R:List (List Int)):mixS R R.length=R.map sortI:=by simp [mixS]
section
variable (fu d:Nat)
theorem pr_sortI (r:List Int) (h:r.length<=1000000):cl fu (d+1) fn_slices_Sort_sint_int [V.own 1000000 0 r.length] [.sb ty_int 0 (ints r)]=some ⟨.tup [],[.sb ty_int 0 (ints (sortI r))],none⟩:=by
 have e:cl fu (d+1) fn_slices_Sort_sint_int [V.own 1000000 0 r.length] [.sb ty_int 0 (ints r)]=orP (sortP ty_int) (sortWsP ty_3_int) [.own 1000000 0 r.length] [.sb ty_int 0 (ints r)]:=by kernel_rfl
 have hw:=wholeI_of (t:=ty_int) (l:=r) (by omega);have hs:sortP ty_int [.own 1000000 0 r.length] [.sb ty_int 0 (ints r)]=some ⟨.tup [],[.sb ty_int 0 (ints (sortI r))],none⟩:=by
  rw [sortP,hw];exact Option.map_some ..
 rw [e,orP,hs]
variable (hf:18446744073709551616<=fu)
include hf
theorem cells_pre (n:Nat) (h:freq n) (f a b:Nat) (hf':f<20) (hab:a+b<n): ∃g',cl fu (d+7) fn_mesh_Net_cells [V.ptr 1000000 0,V.agg [.v (.int .i64 f), .v (.int .i64 ((a*(840/n):Nat):Int)), .v (.int .i64 ((b*(840/n):Nat):Int)), .v (.int .i64 (((n-1-a-b)*(840/n):Nat):Int))]] [netO 0 n (fl trC (preC n f a b))]=some ⟨V.tup [],[netO g' n (fl trC (preC n f a (b+1)))],none⟩:=by
 have hn:=h;unfold freq at hn;have h5:(preC n f a b).length<=5000:=preC_le hn.2 (Nat.le_of_lt hf') (show a<=9 by omega) (show b<=9 by omega);have h6:=sp_cells fu d hf 0 n h f a b hf' hab (preC n f a b) (Nat.le_trans h5 (Nat.le_of_ble_eq_true rfl));rw [preC_b] at h6;exact h6
set_option maxHeartbeats 8000000 in
set_option maxRecDepth 4000 in
theorem sp_Build (n:Nat) (h:freq n): ∃c:C,cl fu (d+8) fn_mesh_Build [I n] []=some ⟨V.ptr 1000000 0,[.ob ty_mesh_Net 0 [C.v (.int .i64 n),C.v (.int .i64 ((840/n:Nat):Int)),C.sl (nodes n).length (fl plc (nodes n)),C.mp ty_api_Place ty_int (some 4) none (esn 0 (nodes n)),c,C.sl (edg n).length (fl edC (edg n)),C.sl (nxt n).length ((nxt n).map fun r=>C.sl r.length (ints r))]],none⟩:=by
 have hn:=h;unfold freq at hn;have hs:=step_pos h;have hP:=sp_PointsP fu (d+2) hf n h;have hC:=cells_pre fu d hf n h;have hNl:=nodes_le h;have hlT:=tri_le h;unfold netO netP at hC;unfold netC at hP;have heI:=edg_in h;have heL:=edg_le h;have hrL:=rawE_le h;unfold nxt;generalize hE:edg n=E at*
 generalize hNl2:(nodes n).length=N at*
 generalize fl plc (nodes n)=nc at*
 generalize esn 0 (nodes n)=es at*
 have eO0:Nat.beq 1000000 (OUT+0)=true:=rfl;refine ⟨C.sl (isort leT (tri n)).length (fl trC (isort leT (tri n))), ?_⟩;rw [eq_mesh_Build,hP];simp (disch:=omega) only [hdt_eq,QM,QD,QE,eO0,List.length_cons,List.length_nil,Nat.zero_add,Nat.reduceAdd];rw [iter_runx (fun f:Nat=>(((f:Nat):Int),((n:Int),(((840/n:Nat):Int)),C.sl N nc,C.mp ty_api_Place ty_int (some 4) none es,fl trC (preC n f 0 0),C.nl,C.nl,()),())) 0
  ((20:Int),((n:Int),(((840/n:Nat):Int)),C.sl N nc,C.mp ty_api_Place ty_int (some 4) none es,fl trC (tri n),C.nl,C.nl,()),()) 20 ?_ ?_ ?_ (by omega)]
 ·generalize hT0:tri n=T0 at*
  generalize hT:isort leT T0=T at*
  have hTl:T.length=T0.length:=by rw [<-hT];exact (isort_perm leT T0).length_eq
  have hfl0:=fl_length trC_length T0;have hflT:=fl_length trC_length T;have hdv0:T0.length*3/3=T0.length:=by omega
  have hdvT:T.length*3/3=T.length:=by omega
  have s1:=pr_sortT fu (d+6) T0 (by omega);rw [hT] at s1;have b1: ∀{R:Type} (k:List C ->Option R),rowBack ty_api_Cell (fl trC T0) false [.sb ty_api_Cell 0 (fl trC T)] k=k (fl trC T):=fun k=>rowBack_f _ _ _ k (by omega);simp (disch:=omega) only [hdt_eq,QM,QD,QE,hfl0,hdv0,s1,b1,hflT,hdvT];rw [iter_runx (fun j:Nat=>(((j:Nat):Int),((n:Int),(((840/n:Nat):Int)),C.sl N nc,C.mp ty_api_Place ty_int (some 4) none es,C.sl T.length (fl trC T),fl edC ((T.take j).flatMap edsT),C.nl,()),())) 0
   (((T.length:Nat):Int),((n:Int),(((840/n:Nat):Int)),C.sl N nc,C.mp ty_api_Place ty_int (some 4) none es,C.sl T.length (fl trC T),fl edC (T.flatMap edsT),C.nl,()),()) T.length ?_ ?_ ?_ (by omega)]
  rotate_left
  ·rfl
  ·intro j hj;have hat:=fl_at trC_length hj;have hln:(fl edC ((T.take j).flatMap edsT)).length=(j*3)*2:=by rw [fl_length edC_length,eds_length,List.length_take,Nat.min_eq_left (by omega)]
   have hdl:(j*3)*2/2=j*3:=by omega
   have happ:fl edC ((T.take j).flatMap edsT)++[C.v (.int .i64 T[j].1),C.v (.int .i64 T[j].2.1),C.v (.int .i64 T[j].1),C.v (.int .i64 T[j].2.2),C.v (.int .i64 T[j].2.1),C.v (.int .i64 T[j].2.2)]=fl edC ((T.take (j+1)).flatMap edsT):=by
    rw [<-eds_fl,<-fl_append,List.take_succ_eq_append_getElem hj,List.flatMap_append];simp
   have hln2:(fl edC ((T.take (j+1)).flatMap edsT)).length=(j*3+3)*2:=by rw [fl_length edC_length,eds_length,List.length_take,Nat.min_eq_left (by omega)];omega
   simp (disch:=omega) only [hdt_eq,QM,QD,Int.toNat_natCast,hat,trC,List.cons_append,List.nil_append,hln,hdl,happ,hln2];rfl
  ·rw [List.take_length];simp (disch:=omega) only [hdt_eq,QM,QD]
  have hraw:T.flatMap edsT=rawE n:=by unfold rawE;rw [hT0,hT]
  rw [hraw];have hEd:Lib.compact (isort leZ (rawE n))=E:=hE;generalize rawE n=W at*
  have hflW:=fl_length edC_length W;have hdvW:W.length*2/2=W.length:=by omega
  have s2:=pr_sortZ fu (d+6) W (by omega);have hZl:(isort leZ W).length=W.length:=(isort_perm leZ W).length_eq;generalize isort leZ W=Z at*
  have hflZ:=fl_length edC_length Z;have hdvZ:Z.length*2/2=Z.length:=by omega
  have b2: ∀{R:Type} (k:List C ->Option R),rowBack ty_api_Edge (fl edC W) false [.sb ty_api_Edge 0 (fl edC Z)] k=k (fl edC Z):=fun k=>rowBack_f _ _ _ k (by omega);obtain ⟨pad,hpad,s3⟩:=pr_compact fu (d+6) Z (by omega);rw [hEd] at s3;have hflP:=fl_length edC_length pad;have b3: ∀{R:Type} (k:List C ->Option R),rowBack ty_api_Edge (fl edC Z) true [.sb ty_api_Edge (Z.length*2) (fl edC pad)] k=k (fl edC pad):=fun k=>by rw [<-hflZ];exact rowBack_t _ _ _ k (by omega)
  have hflE:=fl_length edC_length E;simp (disch:=omega) only [hdt_eq,QM,QD,QE,hflW,hdvW,s2,b2,hflZ,hdvZ,s3,b3,Int.toNat_natCast,List.length_replicate,decide_true];rw [iter_runx (fun j:Nat=>(((j:Nat):Int),((n:Int),(((840/n:Nat):Int)),C.sl N nc,C.mp ty_api_Place ty_int (some 4) none es,C.sl T.length (fl trC T),C.sl E.length (fl edC E),(pushed N (E.take j)).map ints,()),())) 0
   (((E.length:Nat):Int),((n:Int),(((840/n:Nat):Int)),C.sl N nc,C.mp ty_api_Place ty_int (some 4) none es,C.sl T.length (fl trC T),C.sl E.length (fl edC E),(pushed N E).map ints,()),()) E.length ?_ ?_ ?_ (by omega)]
  rotate_left
  ·show _=(((0:Nat):Int),_,());simp only [List.take_zero,pushed,List.foldl_nil,List.map_replicate];rfl
  ·intro j hj;have hat:=fl_at edC_length hj;have hin:=heI E[j] (List.getElem_mem hj);have hps:pushed N (E.take (j+1))=pushE (pushed N (E.take j)) E[j]:=by rw [List.take_succ_eq_append_getElem hj,pushed_snoc]
   have hRl:=pushed_length N (E.take j);have hRb:=pushed_le N (E.take j);rw [List.length_take,Nat.min_eq_left (by omega)] at hRb;rw [hps];generalize pushed N (E.take j)=R at*
   generalize E[j]=e at*
   obtain ⟨ea,eb⟩:=e
   dsimp only at hin
   obtain ⟨x,rfl⟩: ∃x:Nat,ea=x:=⟨ea.toNat,by omega⟩;obtain ⟨y,rfl⟩: ∃y:Nat,eb=y:=⟨eb.toNat,by omega⟩;have hg1:=getD_le hRb x;have hg2:=getD_le (push1_le hRb x (y:Int)) y;have hl1:=push1_length R x (y:Int);have hpe:pushE R ((x:Int),(y:Int))=push1 (push1 R x (y:Int)) y (x:Int):=rfl;have hp1: ∀i z,R.set i (R.getD i []++[z])=push1 R i z:=fun i z=>rfl;have hp2: ∀i z,(push1 R x (y:Int)).set i ((push1 R x (y:Int)).getD i []++[z])=push1 (push1 R x (y:Int)) i z:=fun i z=>rfl;have hl2:=push1_length (push1 R x (y:Int)) y (x:Int);rw [hpe];simp (disch:=omega) only [hdt_eq,QM,QD,blt_t,ik_length,hat,edC,List.cons_append,List.nil_append,Int.toNat_natCast,Nat.mul_one,Nat.div_one,List.length_map,getD_ints,ints_snoc,set_ints,hp1,hp2,hRl,hl1,hl2,List.length_append,List.length_cons,List.length_nil,Nat.zero_add];rfl
  ·rw [List.take_length];simp (disch:=omega) only [hdt_eq,QM,QD]
  have hRl:=pushed_length N E;have hRb:=pushed_le N E;generalize pushed N E=R at*
  simp (disch:=omega) only [hdt_eq,QM,QD,List.length_map];rw [iter_runx (fun j:Nat=>(((j:Nat):Int),((n:Int),(((840/n:Nat):Int)),C.sl N nc,C.mp ty_api_Place ty_int (some 4) none es,C.sl T.length (fl trC T),C.sl E.length (fl edC E),(mixS R j).map ints,()),())) 0
   (((R.length:Nat):Int),((n:Int),(((840/n:Nat):Int)),C.sl N nc,C.mp ty_api_Place ty_int (some 4) none es,C.sl T.length (fl trC T),C.sl E.length (fl edC E),(R.map sortI).map ints,()),()) R.length ?_ ?_ ?_ (by omega)]
  rotate_left
  ·rw [mixS_zero];rfl
  ·intro j hj;have hml:=mixS_length R j;have hgt:=mixS_get hj;have hst:=mixS_set hj;have hml2:=mixS_length R (j+1);have hrl:=hRb R[j] (List.getElem_mem hj);have s4:=pr_sortI fu (d+6) R[j] (by omega);have hsl:=sortI_length R[j];generalize R[j]=r at*
   have b4: ∀{R:Type} (k:List C ->Option R),rowBack ty_int (ints r) false [.sb ty_int 0 (ints (sortI r))] k=k (ints (sortI r)):=fun k=>rowBack_f _ _ _ k (by rw [ik_length,ik_length];exact hsl);simp (disch:=omega) only [hdt_eq,QM,QD,blt_t,Int.toNat_natCast,Nat.mul_one,Nat.div_one,List.length_map,getD_ints,hgt,ik_length,s4,b4,set_ints,hst,hml,hml2];rfl
  ·rw [mixS_all];simp (disch:=omega) only [hdt_eq,QM,QD,List.length_map]
  have hmm:List.map (fun (r:List C)=>C.sl (r.length/1) r) ((R.map sortI).map ints)=(R.map sortI).map fun r=>C.sl r.length (ints r):=by
   rw [List.map_map];apply List.map_congr_left;intro r _;show C.sl ((ints r).length/1) (ints r)=_;rw [ik_length,Nat.div_one]
  simp (disch:=omega) only [hdt_eq,QM,QD,List.length_map,hmm]
 ·rfl
 ·intro f hf';simp (disch:=omega) only [hdt_eq,QM,QD];rw [iter_runx (fun a:Nat=>(((a:Nat):Int),((n:Int),(((840/n:Nat):Int)),C.sl N nc,C.mp ty_api_Place ty_int (some 4) none es,fl trC (preC n f a 0),C.nl,C.nl,()),())) 0
   ((n:Int),((n:Int),(((840/n:Nat):Int)),C.sl N nc,C.mp ty_api_Place ty_int (some 4) none es,fl trC (preC n f n 0),C.nl,C.nl,()),()) n ?_ ?_ ?_ (by omega)]
  ·simp (disch:=omega) only [hdt_eq,QM,QD];rw [preC_f];rfl
  ·rfl
  ·intro a ha;simp (disch:=omega) only [hdt_eq,QM,QD];rw [iter_runx (fun b:Nat=>(((b:Nat):Int),((n:Int),(((840/n:Nat):Int)),C.sl N nc,C.mp ty_api_Place ty_int (some 4) none es,fl trC (preC n f a b),C.nl,C.nl,()),())) 0
    (((n-a:Nat):Int),((n:Int),(((840/n:Nat):Int)),C.sl N nc,C.mp ty_api_Place ty_int (some 4) none es,fl trC (preC n f a (n-a)),C.nl,C.nl,()),()) (n-a) ?_ ?_ ?_ (by omega)]
   ·simp (disch:=omega) only [hdt_eq,QM,QD];rw [preC_a];rfl
   ·rfl
   ·intro b hb;obtain ⟨g',hC⟩:=hC f a b hf' (by omega);have w1:IntKind.i64.wrap ((a:Int)*((840/n:Nat):Int))=((a*(840/n):Nat):Int):=wrap_mul h (by omega);have w2:IntKind.i64.wrap ((b:Int)*((840/n:Nat):Int))=((b*(840/n):Nat):Int):=wrap_mul h (by omega);have w3:IntKind.i64.wrap (((n:Int)-1-(a:Int)-(b:Int))*((840/n:Nat):Int))=(((n-1-a-b)*(840/n):Nat):Int):=by
     rw [show (n:Int)-1-(a:Int)-(b:Int)=((n-1-a-b:Nat):Int) by omega];exact wrap_mul h (by omega)
    simp (disch:=omega) only [hdt_eq,QM,QD,QE,w1,w2,w3,hC];rfl
   ·simp (disch:=omega) only [hdt_eq,QM,QD]
  ·simp (disch:=omega) only [hdt_eq,QM,QD]
 ·rw [preC_end];simp (disch:=omega) only [hdt_eq,QM,QD];rfl
end
end Go.Proofs.YtoaanfjcjbghaaaGreatDoor
/- The reference's nodes and the index of a place. -/
namespace Go.Proofs.YtoaanfjcjbghaaaGreatDoor
open Go Go.PM Go.Grid
theorem sp_ref_Count (fu d n:Nat) (h:freq n):cl fu (d+1) fn_synopticref03_Count [I n] []=OK (I ((10*n*n+2:Nat):Int)):=by
 rw [eq_synopticref03_Count];rcases freq_cases h with rfl|rfl|rfl|rfl|rfl|rfl|rfl|rfl<;>(show @Eq (Option Out) _ _;kernel_rfl)
theorem upTo_jb (n f i j:Nat):upTo n f i (j+1)=bif isN (pt n f i j) then upTo n f i j++[pt n f i j] else upTo n f i j:=by
 rw [upTo_j];unfold isN;by_cases h:norm (pt n f i j)=pt n f i j
 ·rw [if_pos h,decide_eq_true h];rfl
 ·rw [if_neg h,decide_eq_false h];rfl
theorem count_ne {n:Nat}:((10*n*n+2:Nat):Int)≠0:=by omega
theorem sp_ref_Nodes (fu d:Nat) (hf:18446744073709551616<=fu) (n:Nat) (h:freq n):cl fu (d+6) fn_synopticref03_Nodes [I n] []=OK (V.tup [V.c (C.sl (nodes n).length (fl plc (nodes n))),I 0]):=by
 have hn:=h;unfold freq at hn;have hst:=step_pos h;rw [eq_synopticref03_Nodes,sp_ref_Count fu (d+4) n h,step_int h];simp only [QM];rw [ibeq_f count_ne,ibeq_f (show (n:Int)≠0 by omega)];simp only [QM];rw [iter_runx (fun f:Nat=>(fl plc (upTo n f 0 0),(f:Int),())) 0 (fl plc (upTo n 20 0 0),(20:Int),()) 20 ?_ ?_ ?_ (by omega)]
 ·rw [upTo_end];simp (disch:=omega) only [QM,QD,fl_length plc_length,pl_div,Nat.zero_add];rw [List.take_of_length_le (by rw [fl_length plc_length];omega)]
 ·rfl
 ·intro f hf';have hl:(upTo n f 0 0).length<=2000:=upTo_le h (by omega) (by omega) (by omega);simp (disch:=omega) only [QM,QD,fl_length plc_length,pl_div];rw [iter_runx (fun i:Nat=>(fl plc (upTo n f i 0),((i*(840/n):Nat):Int),())) 0 (fl plc (upTo n f (n+1) 0),(((n+1)*(840/n):Nat):Int),()) (n+1) ?_ ?_ ?_ (by omega)]
  ·have hl:(upTo n f (n+1) 0).length<=2000:=upTo_le h (by omega) (by omega) (by omega);simp (disch:=omega) only [QM,QD,fl_length plc_length,pl_div,Int.natCast_add,Int.natCast_one];unfold upTo;rw [pre_f]
  ·simp only [Nat.zero_mul];rfl
  ·intro i hi;have hl:(upTo n f i 0).length<=2000:=upTo_le h (by omega) (by omega) (by omega);have hA:=mul_le h (show i<=n by omega);have hA1:(i+1)*(840/n)=i*(840/n)+840/n:=Nat.succ_mul _ _;rw [hA1];generalize hAe:i*(840/n)=A at hA⊢;simp (disch:=omega) only [QM,QD,fl_length plc_length,pl_div];rw [iter_runx (fun j:Nat=>(fl plc (upTo n f i j),((j*(840/n):Nat):Int),())) 0 (fl plc (upTo n f i (n+1-i)),(((n+1-i)*(840/n):Nat):Int),()) (n+1-i) ?_ ?_ ?_ (by omega)]
   ·have hl:(upTo n f i (n+1-i)).length<=2000:=upTo_le h (by omega) (by omega) (by omega);generalize hst':840/n=s at*
    simp (disch:=omega) only [QM,QD,fl_length plc_length,pl_div,Int.natCast_add];unfold upTo;rw [pre_i]
   ·simp only [Nat.zero_mul];rfl
   ·intro j hj;have hl:(upTo n f i j).length<=2000:=upTo_le h (by omega) (by omega) (by omega);have hs:=pt_sum (n:=n) (i:=i) (j:=j) h (by omega);have hB1:(j+1)*(840/n)=j*(840/n)+840/n:=Nat.succ_mul _ _;have hok:=pt_ok (f:=f) h hf' (show i+j<=n by omega);have hN:=sp_ref_IsNormal fu d hf (pt n f i j) hok;have hin:0<A ->0<j*(840/n)->0<(n-i-j)*(840/n)->isN (pt n f i j)=true:=fun h1 h2 h3=>isN_inner hok (by show 0<i*(840/n);omega) h2 h3;have hup:=upTo_jb n f i j;rw [hB1];simp only [plc] at hN;generalize isN (pt n f i j)=z at hN hin hup;simp only [pt] at hN hup;rw [hAe] at hs hN hup;generalize j*(840/n)=B at*
    generalize (n-i-j)*(840/n)=D at*
    generalize 840/n=s at*
    have hD:(840:Int)-A-B=(D:Int):=by omega
    rw [hup];by_cases c1:0<A
    ·by_cases c2:0<B
     ·by_cases c3:0<D
      ·rw [hin c1 c2 c3];simp (disch:=omega) only [QM,QD,hD,pl_snoc',fl_length plc_length,pl_div,List.length_append,List.length_cons,List.length_nil,Nat.zero_add,Int.natCast_add]
      ·cases z<;>simp (disch:=omega) only [QM,QD,hD,hN,pl_snoc',fl_length plc_length,pl_div,List.length_append,List.length_cons,List.length_nil,Nat.zero_add,Int.natCast_add]
     ·cases z<;>simp (disch:=omega) only [QM,QD,hD,hN,pl_snoc',fl_length plc_length,pl_div,List.length_append,List.length_cons,List.length_nil,Nat.zero_add,Int.natCast_add]
    ·cases z<;>simp (disch:=omega) only [QM,QD,hD,hN,pl_snoc',fl_length plc_length,pl_div,List.length_append,List.length_cons,List.length_nil,Nat.zero_add,Int.natCast_add]
   ·have hl:(upTo n f i (n+1-i)).length<=2000:=upTo_le h (by omega) (by omega) (by omega);have hs:=pt_sum (n:=n) (i:=i) (j:=n-i) h (by omega);have h1:(n+1-i)*(840/n)=(n-i)*(840/n)+840/n:=by rw [show n+1-i=n-i+1 by omega,Nat.succ_mul]
    rw [hAe,show n-i-(n-i)=0 by omega] at hs;rw [h1];generalize (n-i)*(840/n)=B at*
    generalize 840/n=s at*
    simp (disch:=omega) only [QM,QD,fl_length plc_length,pl_div,Int.natCast_add]
  ·have hl:(upTo n f (n+1) 0).length<=2000:=upTo_le h (by omega) (by omega) (by omega);have h1:(n+1)*(840/n)=840+840/n:=by rw [Nat.succ_mul,mul_step h]
   rw [h1];generalize 840/n=s at*
   simp (disch:=omega) only [QM,QD,fl_length plc_length,pl_div,Int.natCast_add]
 ·have hl:(upTo n 20 0 0).length<=2000:=upTo_le h (by omega) (by omega) (by omega);simp (disch:=omega) only [QM,QD,fl_length plc_length,pl_div];rfl
theorem sp_less (fu d:Nat) (p q:Pl):cl fu (d+1) fn_synopticref03_less [V.agg (plc p),V.agg (plc q)] []=OK (B (decide (plt p q))):=by
 unfold plc;rw [eq_synopticref03_less];by_cases h1:p.f=q.f
 ·by_cases h2:p.a=q.a
  ·by_cases h3:p.b<q.b
   ·rw [decide_eq_true (show plt p q from .inr ⟨h1, .inr ⟨h2,h3⟩⟩)];simp (disch:=omega) only [QM,QD]
   ·rw [decide_eq_false (show ¬plt p q from by unfold plt;omega)];simp (disch:=omega) only [QM,QD]
  ·by_cases h3:p.a<q.a
   ·rw [decide_eq_true (show plt p q from .inr ⟨h1, .inl h3⟩)];simp (disch:=omega) only [QM,QD]
   ·rw [decide_eq_false (show ¬plt p q from by unfold plt;omega)];simp (disch:=omega) only [QM,QD]
 ·by_cases h3:p.f<q.f
  ·rw [decide_eq_true (show plt p q from .inl h3)];simp (disch:=omega) only [QM,QD]
  ·rw [decide_eq_false (show ¬plt p q from by unfold plt;omega)];simp (disch:=omega) only [QM,QD]
theorem pairwise_get {l:List Pl} (h:l.Pairwise plt) {i j:Nat} (hi:i<l.length) (hj:j<l.length) (hij:i<j):plt l[i] l[j]:=List.pairwise_iff_getElem.1 h i j hi hj hij
theorem sp_find (fu d:Nat) (hf:18446744073709551616<=fu) (l:List Pl) (hl:l.length<=1000000) (hs:l.Pairwise plt) (k:Nat) (hk:k<l.length):
  cl fu (d+2) fn_synopticref03_find [V.c (C.sl l.length (fl plc l)),V.agg (plc l[k])] []=OK (I k):=by
 have hq:plc l[k]=[.v (.int .i64 l[k].f), .v (.int .i64 l[k].a), .v (.int .i64 l[k].b), .v (.int .i64 l[k].c)]:=rfl;rw [hq,eq_synopticref03_find];rw [iter_measx (fun y:Int×Int×Unit=> ∃lo hi:Nat,y=((lo:Int),(hi:Int),())/\lo<=k/\k<=hi/\hi<=l.length) (fun y=>(y.2.1-y.1).toNat) 0 ((k:Int),(k:Int),()) ?_ ?_ ?_]
 ·have hd:=fl_at plc_length hk;simp (disch:=omega) only [QM,QD,Int.toNat_natCast,hd,plc,List.cons_append,List.nil_append,ibeq_t]
 ·exact ⟨0,l.length,rfl,Nat.zero_le _,by omega,Nat.le_refl _⟩
 ·simp only [];omega
 ·rintro _ ⟨lo,hi,rfl,g1,g2,g3⟩
  by_cases hlt:lo<hi
  ·left;have hm:Int.tdiv ((lo:Int)+(hi:Int)) 2=(((lo+hi)/2:Nat):Int):=by
    rw [show ((lo:Int)+(hi:Int))=((lo+hi:Nat):Int) from by omega];rfl
   have hml:(lo+hi)/2<l.length:=by omega
   have hd:=fl_at plc_length hml;have hless:=sp_less fu d l[(lo+hi)/2] l[k];simp only [plc] at hless;by_cases hmk:(lo+hi)/2<k
   ·rw [decide_eq_true (pairwise_get hs hml hk hmk)] at hless;refine ⟨((((lo+hi)/2+1:Nat):Int),(hi:Int),()), ?_,⟨(lo+hi)/2+1,hi,rfl,by omega,g2,g3⟩, ?_⟩
    ·simp (disch:=omega) only [QM,QD,hm,Int.toNat_natCast,hd,plc,List.cons_append,List.nil_append,hless,Int.natCast_add,Int.natCast_one]
    ·simp only [];omega
   ·have hn: ¬plt l[(lo+hi)/2] l[k]:=by
     rcases Nat.lt_or_ge k ((lo+hi)/2) with h|h
     ·exact fun h'=>plt_irrefl _ (plt_trans h' (pairwise_get hs hk hml h))
     ·have:(lo+hi)/2=k:=by omega
      simp only [this];exact plt_irrefl _
    rw [decide_eq_false hn] at hless;refine ⟨((lo:Int),(((lo+hi)/2:Nat):Int),()), ?_,⟨lo,(lo+hi)/2,rfl,g1,by omega,by omega⟩, ?_⟩
    ·simp (disch:=omega) only [QM,QD,hm,Int.toNat_natCast,hd,plc,List.cons_append,List.nil_append,hless]
    ·simp only [];omega
  ·right;have e1:lo=k:=by omega
   have e2:hi=k:=by omega
   subst e1 e2;simp (disch:=omega) only [QM,QD]
theorem sp_ref_at (fu d:Nat) (hf:18446744073709551616<=fu) (n:Nat) (h:freq n) (p:Pl) (hp:p∈pts n):
  cl fu (d+5) fn_synopticref03_at [V.c (C.sl (nodes n).length (fl plc (nodes n))),I p.f,I p.a,I p.b] []=OK (I (idx n p)):=by
 have hok:=pts_ok h hp;have hs:=hok.2;have e1:=sp_ref_Normal fu d hf p hok;have e2:=sp_find fu (d+2) hf (nodes n) (by have:=nodes_le h;omega) (nodes_sorted h) (idx n p) (idx_lt h hp);rw [idx_at h hp] at e2;have hc:(840:Int)-p.a-p.b=p.c:=by omega
 simp only [plc] at e1 e2;rw [eq_synopticref03_at];simp (disch:=omega) only [QM,QD,hc,e1,e2,List.length_cons,List.length_nil,Nat.zero_add,Nat.reduceAdd]
end Go.Proofs.YtoaanfjcjbghaaaGreatDoor
/- The reference's cells: what they come to. -/
namespace Go.Proofs.YtoaanfjcjbghaaaGreatDoor
open Go Go.PM Go.Grid
attribute [local congr] hd_bind hd_need hd_cond hd_unc hd_uncV hd_uncO hd_unI hd_asI hd_asB hd_asS hd_asSl hd_asFn hd_asP hd_rC hd_rA hd_rT hd_rG hd_rP hd_rO hd_rN hd_rF hd_rS hd_rW hd_nilV hd_natD hd_bd hd_iter hd_over hd_sliceC hd_asMp hd_asYF
theorem iter_bind_meas {A B:Type} {body:A ->Option (Nat×A)} {fu:Nat} {x:A} {K:Nat×A ->Option B} (R:Option B ->Prop) (J:A ->Prop) (m:A ->Nat) (Q:Nat ->A ->Prop) (hx:J x) (hm:m x<fu)
  (h: ∀y,J y ->(∃y',body y=some (0,y')/\J y'/\m y'<m y)\/ ∃e z,body y=some (e+1,z)/\Q e z) (hK: ∀e z,Q e z ->R (K (e,z))):R ((iter body fu x).bind K):=by
 obtain ⟨e,z,h1,h2⟩:=iter_meas (body:=body) J m Q h fu x hx hm;rw [h1];exact hK e z h2
theorem sort3_sum (i j k:Nat):(sort3 i j k).1+(sort3 i j k).2.1+(sort3 i j k).2.2=i+j+k:=by
 unfold sort3;split<;>split<;>try split
 all_goals first|rfl|(simp only;omega)|omega
theorem sort3_min (i j k:Nat):(if (k:Int)<(if (j:Int)<i then (j:Int) else i) then (k:Int) else (if (j:Int)<i then (j:Int) else i))=((sort3 i j k).1:Int):=by
 unfold sort3
 repeat' split
 all_goals first|(simp only at*;done)|(simp only at*;omega)|omega
theorem sort3_max (i j k:Nat):(if (k:Int)>(if (j:Int)>i then (j:Int) else i) then (k:Int) else (if (j:Int)>i then (j:Int) else i))=((sort3 i j k).2.2:Int):=by
 unfold sort3
 repeat' split
 all_goals first|(simp only at*;done)|(simp only at*;omega)|omega
theorem fl_putL {A:Type} {e:A ->List C} {m:Nat} (hm: ∀x,(e x).length=m) (L B:List A) (i:Nat):putAt (fl e L) (i*m) (fl e B)=fl e (L.take i++B++L.drop (i+B.length)):=by
 unfold putAt;rw [fl_take hm,fl_length hm,<-Nat.add_mul,fl_drop hm,fl_append,fl_append]
section
variable (fu d:Nat) (hf:18446744073709551616<=fu)
theorem sp_cell3 (i j k:Nat) (hi:i<=1000000) (hj:j<=1000000) (hk:k<=1000000):cl fu (d+1) fn_synopticref03_cell [I i,I j,I k] []=OK (V.agg (trC (sort3 i j k))):=by
 have h1:=sort3_min i j k;have h2:=sort3_max i j k;have h3:=sort3_sum i j k;have e1:IntKind.i64.wrap (IntKind.i64.wrap ((i:Int)+j)+k)=(i:Int)+j+k:=by rw [wrap_in (x:=(i:Int)+j) (by omega) (by omega),wrap_in (by omega) (by omega)]
 have e2:(i:Int)+j+k-((sort3 i j k).1:Int)-((sort3 i j k).2.2:Int)=((sort3 i j k).2.1:Int):=by omega
 rw [eq_synopticref03_cell,h1,h2,e1];simp (disch:=omega) only [hdt_eq,QM,QD,e2];rfl
include hf
theorem sp_insert (L:List (Nat×Nat×Nat)) (hL:L.length<=100000) (x:Nat×Nat×Nat): ∃k,k<=L.length/\
  cl fu (d+1) fn_synopticref03_insert [V.own 1000000 0 L.length,V.agg (trC x)] [.sb ty_api_Cell 0 (fl trC L)]=some ⟨V.own 1000001 0 (L.length+1),[.dead, .sb ty_api_Cell 0 (fl trC (L.take k++x::L.drop k))],none⟩:=by
 have hfl:=fl_length trC_length L;have hz:fl trC L++[C.v (.int .i64 0),C.v (.int .i64 0),C.v (.int .i64 0)]=fl trC (L++[(0,0,0)]):=fl_snoc L (0,0,0);have hflz:(fl trC (L++[(0,0,0)])).length=(L.length+1)*3:=by rw [fl_length trC_length,List.length_append];rfl
 unfold trC;rw [eq_synopticref03_insert];refine iter_bind_meas (A:=(Nat×List C)×Int×Unit) (B:=Out) (fu:=fu) (fun o=> ∃k,k<=L.length/\o=some ⟨V.own 1000001 0 (L.length+1),[.dead, .sb ty_api_Cell 0 (fl trC (L.take k++x::L.drop k))],none⟩)
  (fun y=> ∃k:Nat,k<=L.length/\y=((L.length,fl trC L),(k:Int),())) (fun y=>y.2.1.toNat) (fun e y=>e=0/\ ∃k:Nat,k<=L.length/\y=((L.length,fl trC L),(k:Int),())) ?_ ?_ ?_ ?_
 ·exact ⟨L.length,Nat.le_refl _,rfl⟩
 ·show ((L.length:Nat):Int).toNat<fu;omega
 ·rintro y ⟨k,hk,rfl⟩
  cases k with
  |zero=>
   refine .inr ⟨0,_, ?_,rfl,0,hk,rfl⟩;simp (disch:=omega) only [hdt_eq,QM,QD]
  |succ k=>
   have hat:=fl_at trC_length (l:=L) (k:=k) (by omega);have hk1:((k+1:Nat):Int)-1=(k:Int):=by omega
   have go: ∀{b:Option (Nat×((Nat×List C)×Int×Unit))},b=some (0,((L.length,fl trC L),(k:Int),()))\/b=some (1,((L.length,fl trC L),((k+1:Nat):Int),()))->
     (∃y',b=some (0,y')/\(∃k:Nat,k<=L.length/\y'=((L.length,fl trC L),(k:Int),()))/\y'.2.1.toNat<((k+1:Nat):Int).toNat)\/ ∃e z,b=some (e+1,z)/\e=0/\ ∃k:Nat,k<=L.length/\z=((L.length,fl trC L),(k:Int),()):=by
    intro b hb;rcases hb with rfl|rfl
    ·exact .inl ⟨_,rfl,⟨k,by omega,rfl⟩,by show (k:Int).toNat<_;omega⟩
    ·exact .inr ⟨0,_,rfl,rfl,k+1,hk,rfl⟩
   refine go ?_;have hat1:List.drop (k*3+1) (fl trC L)=C.v (.int .i64 L[k].2.1)::C.v (.int .i64 L[k].2.2)::fl trC (L.drop (k+1)):=by rw [<-List.drop_drop,hat];rfl
   have hat2:List.drop (k*3+2) (fl trC L)=C.v (.int .i64 L[k].2.2)::fl trC (L.drop (k+1)):=by rw [<-List.drop_drop,hat];rfl
   generalize L[k]=t at*
   obtain ⟨t1,t2,t3⟩:=t;obtain ⟨x1,x2,x3⟩:=x;simp only at hat hat1 hat2⊢;by_cases q1:x1<t1
   ·simp (disch:=omega) only [hdt_eq,QM,QD,hk1,Nat.zero_add,Int.toNat_natCast,hat,hat1,hat2,trC,List.cons_append,List.nil_append];exact .inl trivial
   by_cases q2:x1=t1
   ·by_cases q3:x2<t2
    ·simp (disch:=omega) only [hdt_eq,QM,QD,hk1,Nat.zero_add,Int.toNat_natCast,hat,hat1,hat2,trC,List.cons_append,List.nil_append];exact .inl trivial
    by_cases q4:x2=t2
    ·by_cases q5:x3<t3
     ·simp (disch:=omega) only [hdt_eq,QM,QD,hk1,Nat.zero_add,Int.toNat_natCast,hat,hat1,hat2,trC,List.cons_append,List.nil_append];exact .inl trivial
     ·simp (disch:=omega) only [hdt_eq,QM,QD,hk1,Nat.zero_add,Int.toNat_natCast,hat,hat1,hat2,trC,List.cons_append,List.nil_append];exact .inr trivial
    ·simp (disch:=omega) only [hdt_eq,QM,QD,hk1,Nat.zero_add,Int.toNat_natCast,hat,hat1,hat2,trC,List.cons_append,List.nil_append];exact .inr trivial
   ·simp (disch:=omega) only [hdt_eq,QM,QD,hk1,Nat.zero_add,Int.toNat_natCast,hat,hat1,hat2,trC,List.cons_append,List.nil_append];exact .inr trivial
 ·rintro e z ⟨rfl,k,hk,rfl⟩
  refine ⟨k,hk, ?_⟩;have hx1:[C.v (.int .i64 x.1),C.v (.int .i64 x.2.1),C.v (.int .i64 x.2.2)]=fl trC [x]:=by simp [fl,trC]
  have hput:putAt (fl trC (L++[(0,0,0)])) (k*3) (fl trC [x])=fl trC ((L++[(0,0,0)]).take k++[x]++(L++[(0,0,0)]).drop (k+1)):=fl_putL trC_length _ [x] k;by_cases hkl:k=L.length
  ·subst hkl;have hres:(L++[(0,0,0)]).take L.length++[x]++(L++[(0,0,0)]).drop (L.length+1)=L.take L.length++x::L.drop L.length:=by simp
   rw [hres] at hput;have hfl2:(fl trC (L.take L.length++x::L.drop L.length)).length=(L.length+1)*3:=by rw [fl_length trC_length];simp
   have htk:List.take ((L.length+1)*3) (fl trC (L.take L.length++x::L.drop L.length))=fl trC (L.take L.length++x::L.drop L.length):=List.take_of_length_le (by omega);have hmin:Nat.min (L.length+1-L.length) (L.length+1-(L.length+1))=0:=by simp
   have hc1:((L.length:Nat):Int)+1=((L.length+1:Nat):Int):=by omega
   simp (disch:=omega) only [hdt_eq,QM,QD,hfl,hz,hflz,hc1,Int.toNat_natCast,hmin,Nat.zero_add,hx1,hput,hfl2,htk]
  ·have hcp:List.take ((L.length-k)*3) (List.drop (k*3) (fl trC (L++[(0,0,0)])))=fl trC (L.drop k):=by
    rw [fl_drop trC_length,fl_take trC_length]
    congr 1
    rw [List.drop_append_of_le_length hk,List.take_append_of_le_length (by simp),List.take_of_length_le (by simp)]
   have hput1:putAt (fl trC (L++[(0,0,0)])) ((k+1)*3) (fl trC (L.drop k))=fl trC ((L++[(0,0,0)]).take (k+1)++L.drop k):=by
    rw [fl_putL trC_length,List.length_drop,show List.drop (k+1+(L.length-k)) (L++[((0,0,0):Nat×Nat×Nat)])=[] from List.drop_eq_nil_of_le (by rw [List.length_append,List.length_singleton];omega),List.append_nil]
   have hflc:(fl trC ((L++[(0,0,0)]).take (k+1)++L.drop k)).length=(L.length+1)*3:=by rw [fl_length trC_length];simp;omega
   have hput2:putAt (fl trC ((L++[(0,0,0)]).take (k+1)++L.drop k)) (k*3) (fl trC [x])=fl trC (L.take k++x::L.drop k):=by
    rw [fl_putL trC_length]
    congr 1
    have e1:((L++[(0,0,0)]).take (k+1)++L.drop k).take k=L.take k:=by
     rw [List.take_append_of_le_length (by simp;omega),List.take_take,Nat.min_eq_left (by omega),List.take_append_of_le_length hk]
    have e2:((L++[(0,0,0)]).take (k+1)++L.drop k).drop (k+[x].length)=L.drop k:=by
     rw [List.drop_append,List.drop_eq_nil_of_le (by simp;omega)];simp [Nat.min_eq_left (show k+1<=L.length+1 by omega)]
    rw [e1,e2];simp
   have hfl2:(fl trC (L.take k++x::L.drop k)).length=(L.length+1)*3:=by rw [fl_length trC_length];simp;omega
   have htk:List.take ((L.length+1)*3) (fl trC (L.take k++x::L.drop k))=fl trC (L.take k++x::L.drop k):=List.take_of_length_le (by omega);obtain ⟨q,hq⟩: ∃q,L.length-k=q+1:=⟨L.length-k-1,by omega⟩;have hmin:Nat.min (L.length+1-k) (L.length+1-(k+1))=q+1:=by
    show min _ _=_;omega
   have hc1:((k:Nat):Int)+1=((k+1:Nat):Int):=by omega
   rw [hq] at hcp;simp (disch:=omega) only [hdt_eq,QM,QD,hfl,hz,hflz,hc1,Int.toNat_natCast,hmin,Nat.zero_add,hcp,hput1,hflc,hx1,hput2,hfl2,htk]
end
end Go.Proofs.YtoaanfjcjbghaaaGreatDoor
/- The reference's cells: the same as the grid's, in another order. -/
namespace Go.Proofs.YtoaanfjcjbghaaaGreatDoor
open Go Go.PM Go.Grid
attribute [local congr] hd_bind hd_need hd_cond hd_unc hd_uncV hd_uncO hd_unI hd_asI hd_asB hd_asS hd_asSl hd_asFn hd_asP hd_rC hd_rA hd_rT hd_rG hd_rP hd_rO hd_rN hd_rF hd_rS hd_rW hd_nilV hd_natD hd_bd hd_iter hd_over hd_sliceC hd_asMp hd_asYF
abbrev T3:=Nat×Nat×Nat
def putC (K:List T3×T3 ->Nat) (L:List T3) (x:T3):List T3:=L.take (K (L,x))++x::L.drop (K (L,x))
def accC (K:List T3×T3 ->Nat) (l:List T3):List T3:=l.foldl (putC K) []
theorem accC_snoc (K:List T3×T3 ->Nat) (l:List T3) (x:T3):accC K (l++[x])=putC K (accC K l) x:=by simp [accC]
theorem putC_perm (K:List T3×T3 ->Nat) (L:List T3) (x:T3):(putC K L x).Perm (x::L):=by
 unfold putC;refine List.perm_middle.trans ?_;rw [List.take_append_drop]
theorem accC_perm (K:List T3×T3 ->Nat) (l:List T3):(accC K l).Perm l:=by
 have key: ∀(l acc:List T3),(l.foldl (putC K) acc).Perm (acc++l):=by
  intro l
  induction l with
  |nil=>intro acc;simp
  |cons x l ih=>
   intro acc;rw [List.foldl_cons];refine (ih _).trans (((putC_perm K acc x).append_right l).trans ?_);exact (List.perm_middle (l₁:=acc) (a:=x) (l₂:=l)).symm
 exact key l []
theorem accC_length (K:List T3×T3 ->Nat) (l:List T3):(accC K l).length=l.length:=(accC_perm K l).length_eq
section
variable (fu d:Nat) (hf:18446744073709551616<=fu)
include hf
theorem sp_atR (n:Nat) (h:freq n) (f i j:Nat) (hf':f<20) (hij:i+j<=n) (x y:Int) (hx:x=((i*(840/n):Nat):Int)) (hy:y=((j*(840/n):Nat):Int)):
  cl fu (d+5) fn_synopticref03_at [V.c (C.sl (nodes n).length (fl plc (nodes n))),I f,I x,I y] []=OK (I (idx n (pt n f i j))):=by
 subst hx hy;have:=sp_ref_at fu d hf n h (pt n f i j) (pt_in hf' hij);generalize idx n (pt n f i j)=k at*
 simp only [pt] at this;exact this
set_option maxHeartbeats 8000000 in
theorem sp_ref_Cells (n:Nat) (h:freq n): ∃L:List T3,L.Perm (tri n)/\cl fu (d+7) fn_synopticref03_Cells [I n] []=OK (V.tup [V.c (C.sl L.length (fl trC L)),I 0]):=by
 have hn:=h;unfold freq at hn;have hst:=step_pos h;obtain ⟨K,hK⟩: ∃K:List T3×T3 ->Nat,∀p:List T3×T3,p.1.length<=100000 ->cl fu (d+6) fn_synopticref03_insert [V.own 1000000 0 p.1.length,V.agg (trC p.2)] [.sb ty_api_Cell 0 (fl trC p.1)]=some ⟨V.own 1000001 0 (p.1.length+1),[.dead, .sb ty_api_Cell 0 (fl trC (p.1.take (K p)++p.2::p.1.drop (K p)))],none⟩:=by
  refine Classical.axiomOfChoice (r:=fun (p:List T3×T3) (k:Nat)=>p.1.length<=100000 ->cl fu (d+6) fn_synopticref03_insert [V.own 1000000 0 p.1.length,V.agg (trC p.2)] [.sb ty_api_Cell 0 (fl trC p.1)]=some ⟨V.own 1000001 0 (p.1.length+1),[.dead, .sb ty_api_Cell 0 (fl trC (p.1.take k++p.2::p.1.drop k))],none⟩) fun p=> ?_;by_cases hp:p.1.length<=100000
  ·obtain ⟨k,_,hk⟩:=sp_insert fu (d+5) hf p.1 hp p.2;exact ⟨k,fun _=>hk⟩
  ·exact ⟨0,fun h=>absurd h hp⟩
 have hK: ∀L x,L.length<=100000 ->cl fu (d+6) fn_synopticref03_insert [V.own 1000000 0 L.length,V.agg (trC x)] [.sb ty_api_Cell 0 (fl trC L)]=some ⟨V.own 1000001 0 (L.length+1),[.dead, .sb ty_api_Cell 0 (fl trC (putC K L x))],none⟩:=fun L x hl=>hK (L,x) hl;have hpl: ∀L x,(putC K L x).length=L.length+1:=fun L x=>by rw [(putC_perm K L x).length_eq];rfl
 refine ⟨accC K (tri n),accC_perm K (tri n), ?_⟩;have hle: ∀{f a b:Nat},f<=20 ->a<=9 ->b<=9 ->(accC K (preC n f a b)).length<=5000:=fun h1 h2 h3=>by rw [accC_length];exact preC_le hn.2 h1 h2 h3
 have hdv: ∀L:List T3,L.length*3/3=L.length:=fun L=>by omega
 have hfl: ∀L:List T3,(fl trC L).length=L.length*3:=fun L=>fl_length trC_length L;have hat:=fun f i j hf' hij x y hx hy=>sp_atR fu (d+1) hf n h f i j hf' hij x y hx hy;have hN:=sp_ref_Nodes fu d hf n h;have hNl:=nodes_le h;have hidx: ∀{f i j:Nat},f<20 ->i+j<=n ->idx n (pt n f i j)<=1000000:=fun h1 h2=>by have:=idx_lt h (pt_in (n:=n) h1 h2);omega
 rw [eq_synopticref03_Cells,hN,step_int h];generalize (nodes n).length=N at*
 generalize fl plc (nodes n)=nc at*
 simp only [hdt_eq,QM];rw [ibne_f rfl,ibeq_f (show (n:Int)≠0 by omega)];simp only [hdt_eq,QM];rw [iter_runx (fun f:Nat=>(fl trC (accC K (preC n f 0 0)),(f:Int),())) 0 (fl trC (accC K (tri n)),(20:Int),()) 20 ?_ ?_ ?_ (by omega)]
 ·have h1:(accC K (tri n)).length<=5000:=by rw [accC_length];exact tri_le h
  have htk:List.take ((accC K (tri n)).length*3) (fl trC (accC K (tri n)))=fl trC (accC K (tri n)):=List.take_of_length_le (by rw [hfl];omega);simp (disch:=omega) only [hdt_eq,QM,QD,hdv,hfl,Nat.zero_add,htk]
 ·rfl
 ·intro f hf';have h1:=hle (f:=f) (a:=0) (b:=0) (by omega) (by omega) (by omega);simp (disch:=omega) only [hdt_eq,QM,QD,hdv,hfl];rw [iter_runx (fun i:Nat=>(fl trC (accC K (preC n f i 0)),((i*(840/n):Nat):Int),())) 0 (fl trC (accC K (preC n f n 0)),((n*(840/n):Nat):Int),()) n ?_ ?_ ?_ (by omega)]
  ·simp (disch:=omega) only [hdt_eq,QM,QD,hdv,hfl];rw [preC_f];rfl
  ·simp only [Nat.zero_mul];rfl
  ·intro i hi;have h1:=hle (f:=f) (a:=i) (b:=0) (by omega) (by omega) (by omega);have hA:=mul_le h (show i+1<=n by omega);have hA1:(i+1)*(840/n)=i*(840/n)+840/n:=Nat.succ_mul _ _;rw [hA1] at hA⊢;simp (disch:=omega) only [hdt_eq,QM,QD,hdv,hfl];rw [iter_runx (fun j:Nat=>(fl trC (accC K (preC n f i j)),((j*(840/n):Nat):Int),())) 0 (fl trC (accC K (preC n f i (n-i))),(((n-i)*(840/n):Nat):Int),()) (n-i) ?_ ?_ ?_ (by omega)]
   ·simp (disch:=omega) only [hdt_eq,QM,QD,hdv,hfl];rw [preC_a];simp only [Int.natCast_add]
   ·simp only [Nat.zero_mul];rfl
   ·intro j hj;have h1:=hle (f:=f) (a:=i) (b:=j) (by omega) (by omega) (by omega);have hB1:(j+1)*(840/n)=j*(840/n)+840/n:=Nat.succ_mul _ _;have hAB:=mul_le h (show i+j+1<=n by omega);have hAB1:(i+j+1)*(840/n)=i*(840/n)+j*(840/n)+840/n:=by rw [Nat.succ_mul,Nat.add_mul]
    rw [hAB1] at hAB;have a1:=hat f (i+1) j hf' (by omega) (((i*(840/n):Nat):Int)+((840/n:Nat):Int)) ((j*(840/n):Nat):Int) (by rw [hA1];omega) rfl;have a2:=hat f i (j+1) hf' (by omega) ((i*(840/n):Nat):Int) (((j*(840/n):Nat):Int)+((840/n:Nat):Int)) rfl (by rw [hB1];omega);have a3:=hat f i j hf' (by omega) ((i*(840/n):Nat):Int) ((j*(840/n):Nat):Int) rfl rfl;have i1:=hidx (f:=f) (i:=i+1) (j:=j) hf' (by omega);have i2:=hidx (f:=f) (i:=i) (j:=j+1) hf' (by omega);have i3:=hidx (f:=f) (i:=i) (j:=j) hf' (by omega);have c1:=sp_cell3 fu (d+5) _ _ _ i1 i2 i3;have n1:=hK (accC K (preC n f i j)) (sort3 (idx n (pt n f (i+1) j)) (idx n (pt n f i (j+1))) (idx n (pt n f i j))) (by omega);rw [hB1];by_cases hd:i+j+1<n
    ·have hAB2:=mul_le h (show i+j+2<=n by omega);have hAB3:(i+j+2)*(840/n)=i*(840/n)+j*(840/n)+840/n+840/n:=by rw [Nat.succ_mul,hAB1]
     rw [hAB3] at hAB2;have a4:=hat f (i+1) (j+1) hf' (by omega) (((i*(840/n):Nat):Int)+((840/n:Nat):Int)) (((j*(840/n):Nat):Int)+((840/n:Nat):Int)) (by rw [hA1];omega) (by rw [hB1];omega);have i4:=hidx (f:=f) (i:=i+1) (j:=j+1) hf' (by omega);have c2:=sp_cell3 fu (d+5) _ _ _ i2 i1 i4;have n2:=hK (putC K (accC K (preC n f i j)) (sort3 (idx n (pt n f (i+1) j)) (idx n (pt n f i (j+1))) (idx n (pt n f i j)))) (sort3 (idx n (pt n f i (j+1))) (idx n (pt n f (i+1) j)) (idx n (pt n f (i+1) (j+1)))) (by rw [hpl];omega);have hL:accC K (preC n f i (j+1))=putC K (putC K (accC K (preC n f i j)) (sort3 (idx n (pt n f (i+1) j)) (idx n (pt n f i (j+1))) (idx n (pt n f i j)))) (sort3 (idx n (pt n f i (j+1))) (idx n (pt n f (i+1) j)) (idx n (pt n f (i+1) (j+1)))):=by
      rw [<-preC_b,show cellsAt n f i j=[tc n (pt n f (i+1) j) (pt n f i (j+1)) (pt n f i j)]++[tc n (pt n f i (j+1)) (pt n f (i+1) j) (pt n f (i+1) (j+1))] by unfold cellsAt;rw [if_pos hd];rfl,<-List.append_assoc,accC_snoc,accC_snoc];rfl
     rw [hL];generalize idx n (pt n f (i+1) j)=q1 at*
     generalize idx n (pt n f i (j+1))=q2 at*
     generalize idx n (pt n f i j)=q3 at*
     generalize idx n (pt n f (i+1) (j+1))=q4 at*
     generalize sort3 q1 q2 q3=t1 at*
     generalize sort3 q2 q1 q4=t2 at*
     have l1:=hpl (accC K (preC n f i j)) t1;rw [l1] at n2;have l2:=hpl (putC K (accC K (preC n f i j)) t1) t2;generalize putC K (putC K (accC K (preC n f i j)) t1) t2=L2 at*
     generalize putC K (accC K (preC n f i j)) t1=L1 at*
     generalize accC K (preC n f i j)=L0 at*
     generalize i*(840/n)=A at*
     generalize j*(840/n)=B at*
     generalize 840/n=s at*
     obtain ⟨t11,t12,t13⟩:=t1;obtain ⟨t21,t22,t23⟩:=t2;simp only [trC] at c1 n1 c2 n2;simp (disch:=omega) only [hdt_eq,QM,QD,a1,a2,a3,a4,c1,n1,c2,n2,out1,hdv,hfl,l1,l2,List.length_cons,List.length_nil,Nat.zero_add,Nat.reduceAdd,Int.natCast_add]
    ·have hnn:i+j+1=n:=by omega
     have hL:accC K (preC n f i (j+1))=putC K (accC K (preC n f i j)) (sort3 (idx n (pt n f (i+1) j)) (idx n (pt n f i (j+1))) (idx n (pt n f i j))):=by
      rw [<-preC_b,show cellsAt n f i j=[tc n (pt n f (i+1) j) (pt n f i (j+1)) (pt n f i j)] by unfold cellsAt;rw [if_neg hd],accC_snoc];rfl
     have hAB4:i*(840/n)+j*(840/n)+840/n=840:=by rw [<-hAB1,hnn];exact mul_step h
     rw [hL];generalize idx n (pt n f (i+1) j)=q1 at*
     generalize idx n (pt n f i (j+1))=q2 at*
     generalize idx n (pt n f i j)=q3 at*
     generalize sort3 q1 q2 q3=t1 at*
     have l1:=hpl (accC K (preC n f i j)) t1;generalize putC K (accC K (preC n f i j)) t1=L1 at*
     generalize accC K (preC n f i j)=L0 at*
     generalize i*(840/n)=A at*
     generalize j*(840/n)=B at*
     generalize 840/n=s at*
     obtain ⟨t11,t12,t13⟩:=t1;simp only [trC] at c1 n1;simp (disch:=omega) only [hdt_eq,QM,QD,a1,a2,a3,c1,n1,out1,hdv,hfl,l1,List.length_cons,List.length_nil,Nat.zero_add,Nat.reduceAdd,Int.natCast_add]
   ·have hend:i*(840/n)+(n-i)*(840/n)=840:=by rw [<-Nat.add_mul,show i+(n-i)=n by omega];exact mul_step h
    have h1:=hle (f:=f) (a:=i) (b:=n-i) (by omega) (by omega) (by omega);generalize (n-i)*(840/n)=B at*
    simp (disch:=omega) only [hdt_eq,QM,QD,hdv,hfl]
  ·have h1:=hle (f:=f) (a:=n) (b:=0) (by omega) (by omega) (by omega);have hend:=mul_step h;generalize n*(840/n)=B at*
   simp (disch:=omega) only [hdt_eq,QM,QD,hdv,hfl]
 ·have h1:=hle (f:=20) (a:=0) (b:=0) (by omega) (by omega) (by omega);simp (disch:=omega) only [hdt_eq,QM,QD,hdv,hfl];rw [preC_end];rfl
end
end Go.Proofs.YtoaanfjcjbghaaaGreatDoor
/- The reference's neighbours. -/
namespace Go.Proofs.YtoaanfjcjbghaaaGreatDoor
open Go Go.PM Go.Grid
attribute [local congr] hd_bind hd_need hd_cond hd_unc hd_uncV hd_uncO hd_unI hd_asI hd_asB hd_asS hd_asSl hd_asFn hd_asP hd_rC hd_rA hd_rT hd_rG hd_rP hd_rO hd_rN hd_rF hd_rS hd_rW hd_nilV hd_natD hd_bd hd_iter hd_over hd_sliceC hd_asMp hd_asYF
def insU (z:Int):List Int ->List Int
 | []=>[z]
 |y::l=>if y<z then y::insU z l else if y=z then y::l else z::y::l
theorem insU_mem {z x:Int}: ∀{l:List Int},x∈insU z l↔x=z\/x∈l
 | []=>by simp [insU]
 |y::l=>by
  unfold insU;split
  ·rw [List.mem_cons,insU_mem,List.mem_cons];exact ⟨fun h=>h.elim (fun h=> .inr (.inl h)) fun h=>h.elim .inl fun h=> .inr (.inr h),fun h=>h.elim (fun h=> .inr (.inl h)) fun h=>h.elim .inl fun h=> .inr (.inr h)⟩
  ·split
   ·rename_i h1 h2;subst h2;simp
   ·simp
theorem insU_asc {z:Int}: ∀{l:List Int},l.Pairwise (fun a b=>a<b)->(insU z l).Pairwise (fun a b=>a<b)
 | [],h=>by simp [insU]
 |y::l,h=>by
  rw [List.pairwise_cons] at h;unfold insU;split
  ·rename_i h1;rw [List.pairwise_cons];refine ⟨fun x hx=> ?_,insU_asc h.2⟩;rcases insU_mem.1 hx with rfl|hx
   ·exact h1
   ·exact h.1 x hx
  ·split
   ·rw [List.pairwise_cons];exact h
   ·rename_i h1 h2;rw [List.pairwise_cons,List.pairwise_cons];refine ⟨fun x hx=> ?_,h⟩;rcases List.mem_cons.1 hx with rfl|hx
    ·omega
    ·have:=h.1 x hx;omega
theorem insU_length (z:Int): ∀l,(insU z l).length<=l.length+1
 | []=>by simp [insU]
 |y::l=>by
  unfold insU;have:=insU_length z l;split
  ·simp;omega
  ·split<;>simp
theorem insU_at (z:Int): ∀l:List Int,∃k,k<=l.length/\(∀j (h:j<l.length),j<k ->l[j]<z)/\(∀h:k<l.length,¬l[k]<z)/\((∀h:k<l.length,l[k]≠z)->insU z l=l.take k++z::l.drop k)/\ ∀h:k<l.length,l[k]=z ->insU z l=l
 | []=>⟨0,by simp,by simp,by simp,by simp [insU],by simp⟩
 |y::l=>by
  obtain ⟨k,h1,h2,h3,h4,h5⟩:=insU_at z l;by_cases hy:y<z
  ·refine ⟨k+1,by simp;omega,fun j hj hjk=> ?_,fun h=>h3 (by simp at h;omega),fun h=> ?_,fun h e=> ?_⟩
   ·cases j with
    |zero=>exact hy
    |succ j=>exact h2 j (by simp at hj;omega) (by omega)
   ·unfold insU;rw [if_pos hy,h4 fun h'=>h (by simp;omega)];rfl
   ·unfold insU;rw [if_pos hy,h5 (by simp at h;omega) e]
  ·refine ⟨0,by simp,fun j hj hjk=>by omega,fun _=>hy,fun h=> ?_,fun h e=> ?_⟩
   ·have:y≠z:=h (by simp);unfold insU;rw [if_neg hy,if_neg this];rfl
   ·have e:y=z:=e;unfold insU;rw [if_neg hy,if_pos e]
def rC1 (r:List Int):C:=match r with| []=> .nl|_::_=> .sl r.length (ints r)
theorem asSl_rC1 {R:Type} (r:List Int) (k:Nat ->List C ->Option R):asSl (rC1 r) k=k r.length (ints r):=by cases r<;>rfl
theorem rC1_ne {r:List Int} (h:r≠[]):rC1 r= .sl r.length (ints r):=by cases r with|nil=>exact absurd rfl h|cons x r=>rfl
theorem ints_drop (r:List Int) (k:Nat):(ints r).drop k=ints (r.drop k):=(List.map_drop).symm
theorem ints_take (r:List Int) (k:Nat):(ints r).take k=ints (r.take k):=(List.map_take).symm
theorem slice_rC1 (r:List Int) (k:Nat) (hk:k<=r.length): ∃c:C,(∀{R:Type} (k':C ->Option R),sliceC 1 (some (I k)) none (rC1 r) k'=k' c)/\ ∀{R:Type} (k':Nat ->List C ->Option R),asSl c k'=k' (r.length-k) (ints (r.drop k)):=by
 cases r with
 |nil=>
  have:k=0:=by simpa using hk
  subst this;exact ⟨.nl,fun k'=>rfl,fun k'=>rfl⟩
 |cons x r=>
  refine ⟨.sl ((x::r).length-k) (ints ((x::r).drop k)),fun k'=> ?_,fun k'=>rfl⟩;have h1:decide ((0:Int)<=(k:Int))=true:=decide_eq_true (by omega);have h2:decide ((k:Int)<=(((x::r).length:Nat):Int))=true:=decide_eq_true (by omega);have h3:((k:Int)).toNat=k:=Int.toNat_natCast k;show bound none (x::r).length (x::r).length (fun h=>bound (some (I k)) 0 h fun a=>k' (.sl (h-a) (((ints (x::r)).drop (a*1)).take ((h-a)*1))))=_;show need (decide ((0:Int)<=(k:Int))&&decide ((k:Int)<=(((x::r).length:Nat):Int))) (k' (.sl ((x::r).length-(k:Int).toNat) (((ints (x::r)).drop ((k:Int).toNat*1)).take (((x::r).length-(k:Int).toNat)*1))))=_;rw [h1,h2,h3,Nat.mul_one,Nat.mul_one,ints_drop,List.take_of_length_le (by rw [ik_length,List.length_drop];omega)];rfl
theorem rows_drop (R:List (List Int)) {i:Nat} (hi:i<R.length):(R.map rC1).drop i=rC1 (R.getD i [])::(R.map rC1).drop (i+1):=by
 rw [List.drop_eq_getElem_cons (by simpa using hi),List.getElem_map,List.getD_eq_getElem?_getD,List.getElem?_eq_getElem hi];rfl
theorem rows_put (R:List (List Int)) {i:Nat} (hi:i<R.length) (r:List Int):putAt (R.map rC1) i [rC1 r]=(R.set i r).map rC1:=by
 unfold putAt;rw [List.map_set,List.set_eq_take_append_cons_drop,if_pos (by simpa using hi)];simp
theorem reps_nl (N:Nat):reps N [C.nl]=(List.replicate N ([]:List Int)).map rC1:=by
 induction N with
 |zero=>rfl
 |succ N ih=>rw [List.replicate_succ,List.map_cons,<-ih];unfold reps;rw [List.replicate_succ,List.flatten_cons];rfl
def addP (R:List (List Int)) (p:Nat×Nat):List (List Int):=R.set p.1 (insU p.2 (R.getD p.1 []))
def prs (t:T3):List (Nat×Nat):=[(t.1,t.2.1),(t.1,t.2.2),(t.2.1,t.2.2),(t.2.1,t.1),(t.2.2,t.1),(t.2.2,t.2.1)]
theorem addP_length (R:List (List Int)) (p:Nat×Nat):(addP R p).length=R.length:=by simp [addP]
theorem addAll_length (l:List (Nat×Nat)): ∀R,(l.foldl addP R).length=R.length:=by
 induction l with
 |nil=>intro R;rfl
 |cons p l ih=>intro R;rw [List.foldl_cons,ih,addP_length]
theorem addP_getD (R:List (List Int)) (p:Nat×Nat) (i:Nat):(addP R p).getD i []=if i=p.1/\i<R.length then insU p.2 (R.getD i []) else R.getD i []:=by
 unfold addP;rw [List.getD_eq_getElem?_getD,List.getElem?_set];by_cases h:p.1=i
 ·subst h;by_cases hl:p.1<R.length
  ·simp [hl]
  ·rw [if_pos rfl,if_neg hl,if_neg (fun e=>hl e.2),List.getD_eq_getElem?_getD,List.getElem?_eq_none (by omega)]
 ·rw [if_neg h,if_neg (fun e=>h e.1.symm),List.getD_eq_getElem?_getD]
theorem addP_same {R:List (List Int)} {p:Nat×Nat} (h:insU p.2 (R.getD p.1 [])=R.getD p.1 []):addP R p=R:=by
 unfold addP;rw [h];by_cases hl:p.1<R.length
 ·rw [List.getD_eq_getElem?_getD,List.getElem?_eq_getElem hl];exact List.set_getElem_self hl
 ·exact List.set_eq_of_length_le (by omega)
theorem addAll_row (l:List (Nat×Nat)): ∀(R:List (List Int)) (i:Nat),(∀r,R.getD i []=r ->r.Pairwise (fun a b=>a<b))->((l.foldl addP R).getD i []).Pairwise (fun a b=>a<b)/\(i<R.length -> ∀x,x∈(l.foldl addP R).getD i []↔x∈R.getD i []\/ ∃k:Nat,x=k/\(i,k)∈l)/\((l.foldl addP R).getD i []).length<=(R.getD i []).length+l.length:=by
 induction l with
 |nil=>intro R i h;exact ⟨h _ rfl,fun _ x=>by simp,by simp⟩
 |cons p l ih=>
  intro R i h;rw [List.foldl_cons];have hg:=addP_getD R p i;obtain ⟨a1,a2,a3⟩:=ih (addP R p) i (fun r hr=>by
   subst hr;rw [hg];split
   ·exact insU_asc (h _ rfl)
   ·exact h _ rfl)
  refine ⟨a1,fun hi x=> ?_, ?_⟩
  ·rw [a2 (by rw [addP_length];exact hi),hg];by_cases hp:i=p.1
   ·subst hp;rw [if_pos ⟨rfl,hi⟩,insU_mem];constructor
    ·rintro ((rfl|h1)|⟨k,h1,h2⟩)
     ·exact .inr ⟨p.2,rfl,List.mem_cons_self ..⟩
     ·exact .inl h1
     ·exact .inr ⟨k,h1,List.mem_cons_of_mem _ h2⟩
    ·rintro (h1|⟨k,h1,h2⟩)
     ·exact .inl (.inr h1)
     ·rcases List.mem_cons.1 h2 with h2|h2
      ·have e:k=p.2:=congrArg Prod.snd h2;exact .inl (.inl (h1.trans (by rw [e])))
      ·exact .inr ⟨k,h1,h2⟩
   ·rw [if_neg (fun e=>hp e.1)];constructor
    ·rintro (h1|⟨k,h1,h2⟩)
     ·exact .inl h1
     ·exact .inr ⟨k,h1,List.mem_cons_of_mem _ h2⟩
    ·rintro (h1|⟨k,h1,h2⟩)
     ·exact .inl h1
     ·rcases List.mem_cons.1 h2 with h2|h2
      ·subst h2;exact absurd rfl hp
      ·exact .inr ⟨k,h1,h2⟩
  ·rw [hg] at a3;rw [List.length_cons];split at a3
   ·have:=insU_length p.2 (R.getD i []);omega
   ·omega
theorem prs_length (L:List T3):(L.flatMap prs).length=L.length*6:=by
 induction L with
 |nil=>rfl
 |cons x L ih=>rw [List.flatMap_cons,List.length_append,ih,List.length_cons];simp only [prs,List.length_cons,List.length_nil];omega
theorem repl_getD (N i:Nat):(List.replicate N ([]:List Int)).getD i []=[]:=by
 rw [List.getD_eq_getElem?_getD,List.getElem?_replicate];split<;>rfl
theorem part_row {N:Nat} {l:List (Nat×Nat)} (i:Nat):((l.foldl addP (List.replicate N [])).getD i []).Pairwise (fun a b=>a<b)/\(i<N -> ∀x,x∈(l.foldl addP (List.replicate N [])).getD i []↔ ∃k:Nat,x=k/\(i,k)∈l)/\((l.foldl addP (List.replicate N [])).getD i []).length<=l.length:=by
 obtain ⟨h1,h2,h3⟩:=addAll_row l (List.replicate N []) i (fun r hr=>by rw [repl_getD] at hr;subst hr;exact .nil);refine ⟨h1,fun hi x=> ?_, ?_⟩
 ·rw [h2 (by simpa using hi),repl_getD];simp
 ·rw [repl_getD] at h3;simpa using h3
end Go.Proofs.YtoaanfjcjbghaaaGreatDoor
/- The reference's neighbours: what the function comes to. -/
namespace Go.Proofs.YtoaanfjcjbghaaaGreatDoor
open Go Go.PM Go.Grid
attribute [local congr] hd_bind hd_need hd_cond hd_unc hd_uncV hd_uncO hd_unI hd_asI hd_asB hd_asS hd_asSl hd_asFn hd_asP hd_rC hd_rA hd_rT hd_rG hd_rP hd_rO hd_rN hd_rF hd_rS hd_rW hd_nilV hd_natD hd_bd hd_iter hd_over hd_sliceC hd_asMp hd_asYF
def accR (N:Nat) (l:List (Nat×Nat)):List (List Int):=l.foldl addP (List.replicate N [])
theorem accR_snoc (N:Nat) (l:List (Nat×Nat)) (p:Nat×Nat):accR N (l++[p])=addP (accR N l) p:=by simp [accR]
theorem accR_length (N:Nat) (l:List (Nat×Nat)):(accR N l).length=N:=by unfold accR;rw [addAll_length];simp
theorem put2 (a b:C):putAt [C.v (.int .i64 0),C.v (.int .i64 0)] 0 [a,b]=[a,b]:=rfl
theorem ints_at (r:List Int) {m:Nat} (h:m<r.length):(ints r).drop m=C.v (.int .i64 r[m])::ints (r.drop (m+1)):=by
 rw [ints_drop,List.drop_eq_getElem_cons h];rfl
section
variable (fu d:Nat) (hf:18446744073709551616<=fu)
include hf
set_option maxHeartbeats 8000000 in
theorem sp_ref_around (n:Nat) (h:freq n): ∃L:List T3,L.Perm (tri n)/\cl fu (d+8) fn_synopticref03_around [I n] []=OK (V.c (C.sl (nodes n).length ((accR (nodes n).length (L.flatMap prs)).map rC1))):=by
 have hn:=h;unfold freq at hn;obtain ⟨L,hp,hC⟩:=sp_ref_Cells fu d hf n h;have hN:=nodes_length h;have hNl:=nodes_le h;have hcnt:=sp_ref_Count fu (d+6) n h;rw [<-hN] at hcnt;have hin: ∀t∈L,t.1<(nodes n).length/\t.2.1<(nodes n).length/\t.2.2<(nodes n).length:=fun t ht=>tri_in h t (hp.mem_iff.1 ht);have hLl:L.length<=5000:=by rw [hp.length_eq];exact tri_le h
 refine ⟨L,hp, ?_⟩;generalize (nodes n).length=N at*
 have hR0:(accR N []).map rC1=reps N [C.nl]:=by rw [reps_nl];rfl
 have hRl:=accR_length N;have hrow: ∀l i,((accR N l).getD i []).length<=l.length:=fun l i=>(part_row (N:=N) (l:=l) i).2.2;rw [eq_synopticref03_around,hC];simp (disch:=omega) only [hdt_eq,QM,QD,hcnt,Int.toNat_natCast,reps_length,List.length_cons,List.length_nil,Nat.zero_add,Nat.mul_one];rw [iter_runx (fun j:Nat=>((accR N ((L.take j).flatMap prs)).map rC1,(j:Int),())) 0 ((accR N (L.flatMap prs)).map rC1,((L.length:Nat):Int),()) L.length ?_ ?_ ?_ (by omega)]
 ·have htk:List.take N ((accR N (L.flatMap prs)).map rC1)=(accR N (L.flatMap prs)).map rC1:=List.take_of_length_le (by rw [List.length_map,hRl];exact Nat.le_refl _);simp (disch:=omega) only [hdt_eq,QM,QD,List.length_map,hRl,Nat.div_one,Nat.mul_one,Nat.zero_add,htk]
 ·rw [<-hR0];rfl
 ·intro j hj;have hat:=fl_at trC_length hj;have hts:=hin L[j] (List.getElem_mem hj);have hnx:(L.take (j+1)).flatMap prs=(L.take j).flatMap prs++prs L[j]:=by rw [List.take_succ_eq_append_getElem hj,List.flatMap_append];simp
  have hl0:((L.take j).flatMap prs).length=j*6:=by rw [prs_length,List.length_take,Nat.min_eq_left (by omega)]
  rw [hnx];generalize (L.take j).flatMap prs=l0 at*
  generalize L[j]=t at*
  obtain ⟨x,y,z⟩:=t;simp only [trC] at hat hts;simp (disch:=omega) only [hdt_eq,QM,QD,Int.toNat_natCast,hat,List.cons_append,List.nil_append,List.length_map,hRl,Nat.div_one,Nat.mul_one];rw [iter_runx (fun q:Nat=>((accR N (l0++(prs (x,y,z)).take q)).map rC1,(q:Int),())) 0 ((accR N (l0++prs (x,y,z))).map rC1,(6:Int),()) 6 ?_ ?_ ?_ (by omega)]
  ·simp (disch:=omega) only [hdt_eq,QM,QD,List.length_map,hRl,Nat.div_one,Nat.mul_one];rfl
  ·simp only [List.take_zero,List.append_nil];rfl
  ·intro q hq;have hpl:(prs (x,y,z)).length=6:=rfl;have hq':q<(prs (x,y,z)).length:=hq;have hnx2:l0++(prs (x,y,z)).take (q+1)=(l0++(prs (x,y,z)).take q)++[(prs (x,y,z))[q]]:=by rw [List.take_succ_eq_append_getElem hq',List.append_assoc]
   have hl1:(l0++(prs (x,y,z)).take q).length<=30000:=by rw [List.length_append,List.length_take,hl0];omega
   have h12:List.take 2 (List.drop (q*2) [C.v (.int .i64 (x:Int)),C.v (.int .i64 (y:Int)),C.v (.int .i64 (x:Int)),C.v (.int .i64 (z:Int)),C.v (.int .i64 (y:Int)),C.v (.int .i64 (z:Int)),C.v (.int .i64 (y:Int)),C.v (.int .i64 (x:Int)),C.v (.int .i64 (z:Int)),C.v (.int .i64 (x:Int)),C.v (.int .i64 (z:Int)),C.v (.int .i64 (y:Int))])=[C.v (.int .i64 ((prs (x,y,z))[q].1:Int)),C.v (.int .i64 ((prs (x,y,z))[q].2:Int))]:=by
    rcases (show q=0\/q=1\/q=2\/q=3\/q=4\/q=5 by omega) with rfl|rfl|rfl|rfl|rfl|rfl<;>rfl
   have hpin:(prs (x,y,z))[q].1<N:=by
    rcases (show q=0\/q=1\/q=2\/q=3\/q=4\/q=5 by omega) with rfl|rfl|rfl|rfl|rfl|rfl<;>(simp only [prs,List.getElem_cons_zero,List.getElem_cons_succ];omega)
   rw [hnx2,accR_snoc];generalize (prs (x,y,z))[q]=pr at*
   generalize l0++(prs (x,y,z)).take q=l1 at*
   obtain ⟨a,b⟩:=pr;simp only at hpin h12;have hrl:=hrow l1 a;have hRN:=hRl l1;generalize accR N l1=R at*
   have hdr:=rows_drop R (show a<R.length by omega);have hput:=rows_put R (show a<R.length by omega);obtain ⟨k,k1,k2,k3,k4,k5⟩:=insU_at (b:Int) (R.getD a []);obtain ⟨c,c1,c2⟩:=slice_rC1 (R.getD a []) k k1;have hadd:addP R (a,b)=R.set a (insU (b:Int) (R.getD a [])):=rfl;have hsame:=addP_same (R:=R) (p:=(a,b));simp only at hsame;have hal:=addP_length R (a,b);generalize R.getD a []=row at*
   simp (disch:=omega) only [hdt_eq,QM,QD,Int.toNat_natCast,List.length_drop,List.length_cons,List.length_nil,Nat.zero_add,Nat.reduceAdd,h12,List.length_map,hRN,Nat.div_one,Nat.mul_one,put2];rw [iter_runx (fun m:Nat=>(R.map rC1,(m:Int),[C.v (.int .i64 (a:Int)),C.v (.int .i64 (b:Int))],())) 0 (R.map rC1,(k:Int),[C.v (.int .i64 (a:Int)),C.v (.int .i64 (b:Int))],()) k ?_ ?_ ?_ (by omega)]
   ·have hnew:insU (b:Int) row=row.take k++(b:Int)::row.drop k ->putAt (R.map rC1) a [C.sl (k+(1+(row.length-k))) (ints (row.take k)++([C.v (.int .i64 (b:Int))]++ints (row.drop k)))]=(addP R (a,b)).map rC1:=by
     intro e;have e1:(row.take k++(b:Int)::row.drop k).length=k+(1+(row.length-k)):=by rw [List.length_append,List.length_cons,List.length_drop,List.length_take,Nat.min_eq_left k1];omega
     have e2:ints (row.take k++(b:Int)::row.drop k)=ints (row.take k)++([C.v (.int .i64 (b:Int))]++ints (row.drop k)):=by simp [ik]
     rw [hadd,e,<-hput,rC1_ne (by simp),e1,e2]
    have e0:List.drop 1 [C.v (.int .i64 (a:Int)),C.v (.int .i64 (b:Int))]=[C.v (.int .i64 (b:Int))]:=rfl;by_cases hk:k<row.length
    ·have hia:=ints_at row hk;by_cases hb:row[k]=(b:Int)
     ·rw [hsame (k5 hk hb)];simp (disch:=omega) only [hdt_eq,QM,QD,Nat.zero_add,Nat.mul_one,Nat.div_one,Int.toNat_natCast,hdr,asSl_rC1,hia,e0,List.length_map,hRN];rfl
     ·have hnew:=hnew (k4 fun _=>hb);have hnl:(putAt (R.map rC1) a [C.sl (k+(1+(row.length-k))) (ints (row.take k)++([C.v (.int .i64 (b:Int))]++ints (row.drop k)))]).length=N:=by rw [hnew,List.length_map,hal,hRN]
      simp (disch:=omega) only [hdt_eq,QM,QD,Nat.zero_add,Nat.mul_one,Nat.div_one,Int.toNat_natCast,hdr,asSl_rC1,hia,e0,c1,c2,List.length_map,hRN,ik_length,ints_take,List.length_append,List.length_cons,List.length_nil,List.length_drop,List.length_take,Nat.min_eq_left,hnl,decide_true];rw [hnew];rfl
    ·have hnew:=hnew (k4 fun h=>absurd h hk);have hnl:(putAt (R.map rC1) a [C.sl (k+(1+(row.length-k))) (ints (row.take k)++([C.v (.int .i64 (b:Int))]++ints (row.drop k)))]).length=N:=by rw [hnew,List.length_map,hal,hRN]
     simp (disch:=omega) only [hdt_eq,QM,QD,Nat.zero_add,Nat.mul_one,Nat.div_one,Int.toNat_natCast,hdr,asSl_rC1,e0,c1,c2,List.length_map,hRN,ik_length,ints_take,List.length_append,List.length_cons,List.length_nil,List.length_drop,List.length_take,Nat.min_eq_left,hnl,decide_true];rw [hnew];rfl
   ·rfl
   ·intro m hm;have hml:m<row.length:=by omega
    have hlt:=k2 m hml hm;have hia:=ints_at row hml;have e0:List.drop 1 [C.v (.int .i64 (a:Int)),C.v (.int .i64 (b:Int))]=[C.v (.int .i64 (b:Int))]:=rfl;simp (disch:=omega) only [hdt_eq,QM,QD,Nat.zero_add,Nat.mul_one,Nat.div_one,Int.toNat_natCast,hdr,asSl_rC1,hia,e0,List.length_map,hRN];rfl
   ·have e0:List.drop 1 [C.v (.int .i64 (a:Int)),C.v (.int .i64 (b:Int))]=[C.v (.int .i64 (b:Int))]:=rfl;by_cases hk:k<row.length
    ·have hge:=k3 hk;have hia:=ints_at row hk;simp (disch:=omega) only [hdt_eq,QM,QD,Nat.zero_add,Nat.mul_one,Nat.div_one,Int.toNat_natCast,hdr,asSl_rC1,hia,e0,List.length_map,hRN]
    ·simp (disch:=omega) only [hdt_eq,QM,QD,Nat.zero_add,Nat.mul_one,Nat.div_one,Int.toNat_natCast,hdr,asSl_rC1,e0,List.length_map,hRN]
  ·simp (disch:=omega) only [hdt_eq,QM,QD,List.length_map,hRl,Nat.div_one,Nat.mul_one];rfl
 ·rw [List.take_length];simp (disch:=omega) only [hdt_eq,QM,QD,List.length_map,hRl,Nat.div_one,Nat.mul_one]
end
end Go.Proofs.YtoaanfjcjbghaaaGreatDoor
/- The reference's edges are the grid's. -/
namespace Go.Proofs.YtoaanfjcjbghaaaGreatDoor
open Go Go.PM Go.Grid
attribute [local congr] hd_bind hd_need hd_cond hd_unc hd_uncV hd_uncO hd_unI hd_asI hd_asB hd_asS hd_asSl hd_asFn hd_asP hd_rC hd_rA hd_rT hd_rG hd_rP hd_rO hd_rN hd_rF hd_rS hd_rW hd_nilV hd_natD hd_bd hd_iter hd_over hd_sliceC hd_asMp hd_asYF
def ltE (a b:Ed):Prop:=a.1<b.1\/a.1=b.1/\a.2<b.2
theorem ltE_irrefl (a:Ed): ¬ltE a a:=by unfold ltE;omega
theorem ltE_asymm {a b:Ed} (h:ltE a b): ¬ltE b a:=by unfold ltE at*;omega
theorem asc_mem_uniq: ∀{p q:List Ed},p.Pairwise ltE ->q.Pairwise ltE ->(∀x,x∈p↔x∈q)->p=q
 | [],[],_,_,_=>rfl
 | [],b::q,_,_,h=>by have:=(h b).2 (List.mem_cons_self ..);cases this
 |a::p,[],_,_,h=>by have:=(h a).1 (List.mem_cons_self ..);cases this
 |a::p,b::q,hp,hq,h=>by
  rw [List.pairwise_cons] at hp hq;have e:a=b:=by
   rcases List.mem_cons.1 ((h a).1 (List.mem_cons_self ..)) with h1|h1
   ·exact h1
   ·rcases List.mem_cons.1 ((h b).2 (List.mem_cons_self ..)) with h2|h2
    ·exact h2.symm
    ·exact absurd (hp.1 b h2) (ltE_asymm (hq.1 a h1))
  subst e;have:p=q:=asc_mem_uniq hp.2 hq.2 fun x=>by
   constructor
   ·intro hx;rcases List.mem_cons.1 ((h x).1 (List.mem_cons_of_mem _ hx)) with h1|h1
    ·subst h1;exact absurd (hp.1 x hx) (ltE_irrefl x)
    ·exact h1
   ·intro hx;rcases List.mem_cons.1 ((h x).2 (List.mem_cons_of_mem _ hx)) with h1|h1
    ·subst h1;exact absurd (hq.1 x hx) (ltE_irrefl x)
    ·exact h1
  rw [this]
theorem arr_at {α:Type} [Inhabited α] (l:List α) {j:Nat} (hj:j<l.length):l.toArray[j]! =l[j]:=by
 rw [getElem!_pos l.toArray j (by simpa using hj)];simp
theorem keeps_iff {α:Type} [Inhabited α] [DecidableEq α] (l:List α) {j:Nat} (hj:j<l.length):Lib.keeps l.toArray j=true↔j=0\/ ∃h:0<j,l[j]≠l[j-1]:=by
 unfold Lib.keeps;rw [arr_at l hj,arr_at l (show j-1<l.length by omega)];simp;constructor
 ·rintro (h|h)
  ·exact .inl h
  ·by_cases h0:j=0
   ·exact .inl h0
   ·exact .inr ⟨by omega,h⟩
 ·rintro (h|⟨_,h⟩)
  ·exact .inl h
  ·exact .inr h
theorem compact_all {α:Type} [Inhabited α] [DecidableEq α] (l:List α): ∀(j:Nat) (hj:j<l.length),l[j]∈Lib.compact l:=by
 have key: ∀(j:Nat) (hj:j<l.length),Lib.keeps l.toArray j=true ->l[j]∈Lib.compact l:=by
  intro j hj hk;unfold Lib.compact Lib.compactUpTo;rw [<-arr_at l hj];exact List.mem_map_of_mem (List.mem_filter.2 ⟨List.mem_range.2 hj,hk⟩)
 intro j
 induction j with
 |zero=>intro hj;exact key 0 hj ((keeps_iff l hj).2 (.inl rfl))
 |succ j ih=>
  intro hj;by_cases e:l[j+1]=l[j]
  ·rw [e];exact ih (by omega)
  ·exact key (j+1) hj ((keeps_iff l hj).2 (.inr ⟨by omega,e⟩))
theorem compact_asc (l:List Ed) (h:l.Pairwise fun a b=>leZ a b=true):(Lib.compact l).Pairwise ltE:=by
 unfold Lib.compact Lib.compactUpTo;rw [List.pairwise_map,List.pairwise_filter];refine (List.pairwise_lt_range (n:=l.length)).imp_of_mem fun {a b} ha hb hab ka kb=> ?_;have ha:=List.mem_range.1 ha;have hb:=List.mem_range.1 hb;rw [arr_at l ha,arr_at l hb];rcases (keeps_iff l hb).1 kb with h0|⟨h0,hne⟩
 ·omega
 have g:=List.pairwise_iff_getElem.1 h;have h1:leZ l[a] l[b-1]=true:=by
  by_cases e:a=b-1
  ·subst e;rw [leZ_iff];exact .inr ⟨rfl,by omega⟩
  ·exact g a (b-1) ha (by omega) (by omega)
 have h2:leZ l[b-1] l[b]=true:=g (b-1) b (by omega) hb (by omega);have h3:l[b]≠l[b-1]:=hne;generalize l[a]=u at*
 generalize l[b]=v at*
 generalize l[b-1]=w at*
 have h4: ¬leZ v w=true:=fun e=>h3 (leZ_anti _ _ e h2);rw [leZ_iff] at h1 h2 h4;unfold ltE;omega
theorem edg_asc (n:Nat):(edg n).Pairwise ltE:=compact_asc _ (isort_asc (fun a b=>by rw [leZ_iff,leZ_iff];omega) (fun a b c h h'=>by rw [leZ_iff] at h h'⊢;omega) _)
theorem edg_mem (n:Nat) (e:Ed):e∈edg n↔e∈rawE n:=by
 constructor
 ·intro h;exact (isort_perm leZ _).mem_iff.1 (compact_mem h)
 ·intro h;have h:=(isort_perm leZ _).mem_iff.2 h;obtain ⟨j,hj,rfl⟩:=List.getElem_of_mem h;exact compact_all _ j hj
theorem rawE_mem (n:Nat) (e:Ed):e∈rawE n↔ ∃t∈tri n,e∈edsT t:=by
 unfold rawE;rw [List.mem_flatMap];exact ⟨fun ⟨t,h,h'⟩=>⟨t,(isort_perm leT _).mem_iff.1 h,h'⟩,fun ⟨t,h,h'⟩=>⟨t,(isort_perm leT _).mem_iff.2 h,h'⟩⟩
theorem sort3_lt {i j k:Nat} (h1:i≠j) (h2:i≠k) (h3:j≠k):(sort3 i j k).1<(sort3 i j k).2.1/\(sort3 i j k).2.1<(sort3 i j k).2.2:=by
 unfold sort3;split<;>split<;>try split
 all_goals first|(simp only;omega)|omega
theorem pt_ne {n f a b a' b':Nat} (h:freq n) (hne:a≠a'\/b≠b'):pt n f a b≠pt n f a' b':=by
 intro e;have hs:=step_pos h;have e1:a*(840/n)=a'*(840/n):=congrArg Pl.a e;have e2:b*(840/n)=b'*(840/n):=congrArg Pl.b e;rcases hne with hne|hne
 ·exact hne (Nat.eq_of_mul_eq_mul_right (by omega) e1)
 ·exact hne (Nat.eq_of_mul_eq_mul_right (by omega) e2)
theorem tri_lt {n:Nat} (h:freq n): ∀t∈tri n,t.1<t.2.1/\t.2.1<t.2.2:=by
 intro t ht;unfold tri faceC rowC at ht;simp only [List.mem_flatMap,List.mem_range] at ht;obtain ⟨f,hf,a,ha,b,hb,ht⟩:=ht;have hp: ∀i j i' j',i+j<=n ->i'+j'<=n ->(i≠i'\/j≠j')->idx n (pt n f i j)≠idx n (pt n f i' j'):=fun i j i' j' h1 h2 h3 e=>pt_ne h h3 (idx_inj h (pt_in hf h1) (pt_in hf h2) rfl e);unfold cellsAt at ht;rcases List.mem_cons.1 ht with rfl|ht
 ·exact sort3_lt (hp _ _ _ _ (by omega) (by omega) (by omega)) (hp _ _ _ _ (by omega) (by omega) (by omega)) (hp _ _ _ _ (by omega) (by omega) (by omega))
 ·split at ht
  ·obtain rfl:=List.mem_singleton.1 ht;exact sort3_lt (hp _ _ _ _ (by omega) (by omega) (by omega)) (hp _ _ _ _ (by omega) (by omega) (by omega)) (hp _ _ _ _ (by omega) (by omega) (by omega))
  ·cases ht
def rowE (i:Nat) (r:List Int):List Ed:=(r.filter fun k=>decide ((i:Int)<k)).map fun k=>((i:Int),k)
def edgR (N:Nat) (A:List (List Int)):List Ed:=(List.range N).flatMap fun i=>rowE i (A.getD i [])
theorem edgR_eq {n:Nat} (h:freq n) {L:List T3} (hp:L.Perm (tri n)):edgR (nodes n).length (accR (nodes n).length (L.flatMap prs))=edg n:=by
 refine asc_mem_uniq ?_ (edg_asc n) fun e=> ?_
 ·unfold edgR;refine pairwise_flatMap (Q:=fun a b=>a<b) List.pairwise_lt_range (fun i _=> ?_) fun i _ j _ hij u hu v hv=> ?_
  ·unfold rowE;rw [List.pairwise_map];exact ((part_row i).1.filter _).imp fun {a b} h=> .inr ⟨rfl,h⟩
  ·unfold rowE at hu hv;obtain ⟨x,_,rfl⟩:=List.mem_map.1 hu;obtain ⟨y,_,rfl⟩:=List.mem_map.1 hv;refine .inl ?_;show (i:Int)<(j:Int);omega
 ·rw [edg_mem,rawE_mem];unfold edgR;rw [List.mem_flatMap];constructor
  ·rintro ⟨i,hi,he⟩
   have hi:=List.mem_range.1 hi;unfold rowE at he;obtain ⟨k,hk,rfl⟩:=List.mem_map.1 he;obtain ⟨h1,h2⟩:=List.mem_filter.1 hk;have h2:=of_decide_eq_true h2;obtain ⟨k',rfl,h3⟩:=((part_row i).2.1 hi k).1 h1;obtain ⟨t,ht,h4⟩:=List.mem_flatMap.1 h3;have ht:=hp.mem_iff.1 ht;obtain ⟨l1,l2⟩:=tri_lt h t ht;refine ⟨t,ht, ?_⟩;obtain ⟨x,y,z⟩:=t;simp only [prs,edsT,List.mem_cons,List.mem_nil_iff,or_false,Prod.mk.injEq] at h4 l1 l2⊢;omega
  ·rintro ⟨t,ht,he⟩
   obtain ⟨l1,l2⟩:=tri_lt h t ht;obtain ⟨b1,b2,b3⟩:=tri_in h t ht;have hL:=hp.mem_iff.2 ht;have key: ∀i k:Nat,(i,k)∈prs t ->i<k ->i<(nodes n).length ->e=((i:Int),(k:Int))-> ∃a,a∈List.range (nodes n).length/\e∈rowE a ((accR (nodes n).length (L.flatMap prs)).getD a []):=by
    intro i k hik hlt hi e1;refine ⟨i,List.mem_range.2 hi, ?_⟩;unfold rowE;rw [e1];refine List.mem_map.2 ⟨(k:Int),List.mem_filter.2 ⟨((part_row i).2.1 hi _).2 ⟨k,rfl,List.mem_flatMap.2 ⟨t,hL,hik⟩⟩,decide_eq_true (by omega)⟩,rfl⟩
   simp only [edsT,List.mem_cons,List.mem_nil_iff,or_false] at he;rcases he with e1|e1|e1
   ·exact key t.1 t.2.1 (by simp [prs]) l1 b1 e1
   ·exact key t.1 t.2.2 (by simp [prs]) (by omega) b1 e1
   ·exact key t.2.1 t.2.2 (by simp [prs]) l2 b2 e1
section
variable (fu d:Nat) (hf:18446744073709551616<=fu)
include hf
set_option maxHeartbeats 4000000 in
theorem sp_ref_Edges (n:Nat) (h:freq n):cl fu (d+9) fn_synopticref03_Edges [I n] []=OK (V.tup [V.c (C.sl (edg n).length (fl edC (edg n))),I 0]):=by
 obtain ⟨L,hp,hA⟩:=sp_ref_around fu d hf n h;have hE:=edgR_eq h hp;have heL:=edg_le h;have hNl:=nodes_le h;have hcnt:=sp_ref_Count fu (d+7) n h;have hRl:=accR_length (nodes n).length (L.flatMap prs);have hin: ∀i,∀k∈(accR (nodes n).length (L.flatMap prs)).getD i [],i<(nodes n).length ->0<=k/\k<=1000:=by
  intro i k hk hi;obtain ⟨k',rfl,h3⟩:=((part_row i).2.1 hi k).1 hk;obtain ⟨t,ht,h4⟩:=List.mem_flatMap.1 h3;obtain ⟨b1,b2,b3⟩:=tri_in h t (hp.mem_iff.1 ht);obtain ⟨x,y,z⟩:=t;simp only [prs,List.mem_cons,List.mem_nil_iff,or_false,Prod.mk.injEq] at h4 b1 b2 b3;omega
 have hrl: ∀i,((accR (nodes n).length (L.flatMap prs)).getD i []).length<=30000:=fun i=>by
  have h1:((accR (nodes n).length (L.flatMap prs)).getD i []).length<=(L.flatMap prs).length:=(part_row i).2.2;have h2:=tri_le h;rw [prs_length,hp.length_eq] at h1;omega
 generalize accR (nodes n).length (L.flatMap prs)=A at*
 unfold edgR at hE;generalize (nodes n).length=N at*
 have hpre: ∀j,j<=N ->((List.range j).flatMap fun i=>rowE i (A.getD i [])).length<=15000:=by
  intro j hj;rw [<-hE] at heL;refine Nat.le_trans ?_ heL;obtain ⟨m,rfl⟩:=Nat.exists_eq_add_of_le hj;rw [List.range_add,List.flatMap_append,List.length_append];omega
 rw [<-hE];rw [eq_synopticref03_Edges,hcnt];simp only [hdt_eq,QM];rw [ibeq_f count_ne,hA];simp only [hdt_eq,QM];rw [iter_runx (fun j:Nat=>(fl edC ((List.range j).flatMap fun i=>rowE i (A.getD i [])),(j:Int),())) 0 (fl edC ((List.range N).flatMap fun i=>rowE i (A.getD i [])),(N:Int),()) N ?_ ?_ ?_ (by omega)]
 ·have hl:=fl_length edC_length ((List.range N).flatMap fun i=>rowE i (A.getD i []));generalize (List.range N).flatMap (fun i=>rowE i (A.getD i []))=E at*
  have hdv:E.length*2/2=E.length:=by omega
  have htk:List.take (E.length*2) (fl edC E)=fl edC E:=List.take_of_length_le (by omega);simp (disch:=omega) only [hdt_eq,QM,QD,hl,hdv,Nat.zero_add,htk]
 ·rfl
 ·intro j hj;have hdr:=rows_drop A (show j<A.length by omega);have hb:=hpre j (by omega);have hb2:=hpre (j+1) (by omega);have hsu:(List.range (j+1)).flatMap (fun i=>rowE i (A.getD i []))=(List.range j).flatMap (fun i=>rowE i (A.getD i []))++rowE j (A.getD j []):=by rw [List.range_succ,List.flatMap_append];simp
  rw [hsu] at hb2⊢;have hk:=fun k hk=>hin j k hk hj;have hrl:=hrl j;generalize (List.range j).flatMap (fun i=>rowE i (A.getD i []))=E0 at*
  generalize A.getD j []=row at*
  have hdv: ∀E:List Ed,E.length*2/2=E.length:=fun E=>by omega
  have hl:=fun E=>fl_length edC_length E;have hro: ∀m,m<=row.length ->(rowE j (row.take m)).length<=m:=by
   intro m hm;unfold rowE;rw [List.length_map];exact Nat.le_trans (List.length_filter_le ..) (by rw [List.length_take];omega)
  simp (disch:=omega) only [hdt_eq,QM,QD,asSl_rC1,Int.toNat_natCast,Nat.mul_one,hdr,hl,hdv];rw [iter_runx (fun m:Nat=>(fl edC (E0++rowE j (row.take m)),(m:Int),())) 0 (fl edC (E0++rowE j row),((row.length:Nat):Int),()) row.length ?_ ?_ ?_ (by omega)]
  ·simp (disch:=omega) only [hdt_eq,QM,QD,hl,hdv];rfl
  ·simp only [List.take_zero,rowE,List.filter_nil,List.map_nil,List.append_nil];rfl
  ·intro m hm;have hia:=ints_at row hm;have hkm:=hk row[m] (List.getElem_mem hm);have hr1:=hro m (by omega);have hr2:=hro (m+1) (by omega);have hst:rowE j (row.take (m+1))=rowE j (row.take m)++(if (j:Int)<row[m] then [((j:Int),row[m])] else []):=by
    unfold rowE;rw [List.take_succ_eq_append_getElem hm,List.filter_append,List.map_append];by_cases hlt:(j:Int)<row[m]
    ·rw [if_pos hlt];simp [hlt]
    ·rw [if_neg hlt];simp [hlt]
   rw [hst] at hr2⊢;generalize row[m]=v at*
   generalize rowE j (row.take m)=E1 at*
   have hEl:(E0++E1).length<=100000:=by rw [List.length_append];omega
   by_cases hlt:(j:Int)<v
   ·rw [if_pos hlt] at hr2⊢;rw [<-List.append_assoc];have hsn:fl edC (E0++E1)++[C.v (.int .i64 (j:Int)),C.v (.int .i64 v)]=fl edC (E0++E1++[((j:Int),v)]):=fl_snoc (E0++E1) ((j:Int),v);have hsl:(E0++E1++[((j:Int),v)]).length=(E0++E1).length+1:=by rw [List.length_append];rfl
    generalize E0++E1++[((j:Int),v)]=E3 at*
    generalize E0++E1=E2 at*
    simp (disch:=omega) only [hdt_eq,QM,QD,asSl_rC1,Int.toNat_natCast,Nat.mul_one,hia,hl,hdv,hsn,hsl];rfl
   ·rw [if_neg hlt,List.append_nil];generalize E0++E1=E2 at*
    simp (disch:=omega) only [hdt_eq,QM,QD,asSl_rC1,Int.toNat_natCast,Nat.mul_one,hia,hl,hdv];rfl
  ·rw [List.take_length];simp (disch:=omega) only [hdt_eq,QM,QD,hl,hdv]
 ·have hl:=fl_length edC_length ((List.range N).flatMap fun i=>rowE i (A.getD i []));have hle:=hpre N (by omega);generalize (List.range N).flatMap (fun i=>rowE i (A.getD i []))=E at*
  have hdv:E.length*2/2=E.length:=by omega
  simp (disch:=omega) only [hdt_eq,QM,QD,hl,hdv]
end
end Go.Proofs.YtoaanfjcjbghaaaGreatDoor
/- What reading codes comes to: numbers, vectors, states. -/
namespace Go.Proofs.YtoaanfjcjbghaaaGreatDoor
open Go Go.PM Go.Grid
attribute [local congr] hd_bind hd_need hd_cond hd_unc hd_uncV hd_uncO hd_unI hd_asI hd_asB hd_asS hd_asSl hd_asFn hd_asP hd_rC hd_rA hd_rT hd_rG hd_rP hd_rO hd_rN hd_rF hd_rS hd_rW hd_nilV hd_natD hd_bd hd_iter hd_over hd_sliceC hd_asMp hd_asYF
def bytes (bs:List Int):Prop:=(∀x∈bs,0<=x/\x<=255)/\bs.length<=1000
abbrev codesO (bs:List Int) (i:Nat):PM.Obj:= .ob ty_synopticfield_Codes 0 [C.sl bs.length (ik .u8 bs),C.v (.int .i64 (i:Int))]
def wid (lo hi:Int) (l:List Int):Prop:= ∀v∈l,lo<=v/\v<=hi
theorem wid_snoc {lo hi:Int} {l:List Int} {v:Int} (h:wid lo hi l) (hv:lo<=v/\v<=hi):wid lo hi (l++[v]):=by
 intro x hx;rcases List.mem_append.1 hx with hx|hx
 ·exact h x hx
 ·rw [List.mem_singleton.1 hx];exact hv
theorem wid_mono {lo hi lo' hi':Int} {l:List Int} (h:wid lo hi l) (h1:lo'<=lo) (h2:hi<=hi'):wid lo' hi' l:=fun v hv=>by have:=h v hv;omega
theorem wid_at {lo hi:Int} {l:List Int} (h:wid lo hi l) {j:Nat} (hj:j<l.length):lo<=l[j]/\l[j]<=hi:=h _ (List.getElem_mem hj)
theorem ik_at (kd:IntKind) (r:List Int) {m:Nat} (h:m<r.length):(ik kd r).drop m=C.v (.int kd r[m])::ik kd (r.drop (m+1)):=by
 unfold ik;rw [<-List.map_drop,List.drop_eq_getElem_cons h,List.map_cons]
theorem or24 {x y:Nat} (hx:x<16777216) (hy:y<16777216): ∃z:Nat,z<16777216/\IntKind.i64.wrap ((BitVec.ofInt (IntKind.bits .i64) (x:Int)|||BitVec.ofInt (IntKind.bits .i64) (y:Int)).toNat:Int)=(z:Int):=by
 have h1: ∀x:Nat,x<16777216 ->(BitVec.ofInt (IntKind.bits .i64) (x:Int)).toNat=x:=by
  intro x hx;rw [BitVec.toNat_ofInt];show (((x:Int)%((2^64:Nat):Int))).toNat=x;omega
 have h2:(BitVec.ofInt (IntKind.bits .i64) (x:Int)|||BitVec.ofInt (IntKind.bits .i64) (y:Int)).toNat=x|||y:=by rw [BitVec.toNat_or,h1 x hx,h1 y hy]
 have h3:x|||y<2^24:=Nat.or_lt_two_pow (by omega) (by omega)
 refine ⟨x|||y,by omega, ?_⟩;rw [h2,wrap_in (by omega) (by omega)]
section
variable (fu d:Nat) (hf:18446744073709551616<=fu)
theorem sp_Left (bs:List Int) (i:Nat):cl fu (d+1) fn_synopticfield_Codes_Left [V.ptr 1000000 0] [codesO bs i]=some ⟨B (decide (i<bs.length)),[codesO bs i],none⟩:=by
 unfold codesO;rw [eq_synopticfield_Codes_Left];by_cases h:i<bs.length
 ·rw [decide_eq_true h];simp (disch:=omega) only [hdt_eq,QM,QD]
 ·rw [decide_eq_false h];simp (disch:=omega) only [hdt_eq,QM,QD]
theorem sp_Next {bs:List Int} (hb:bytes bs) {i:Nat} (hi:i<=1000) (n:Nat) (hn:1<=n/\n<=1000000):
  ∃v j:Nat,v<n/\j<=1000/\cl fu (d+2) fn_synopticfield_Codes_Next [V.ptr 1000000 0,I n] [codesO bs i]=some ⟨I v,[codesO bs j],none⟩:=by
 have hL:=sp_Left fu d bs i;obtain ⟨hb,hl⟩:=hb;unfold codesO at hL⊢;rw [eq_synopticfield_Codes_Next,hL];by_cases h:i<bs.length
 ·have hx:=hb bs[i] (List.getElem_mem h);have hia:=ik_at .u8 bs h;have e1:IntKind.i64.wrap bs[i]=bs[i]:=wrap_in (by omega) (by omega);have e2:Int.tmod bs[i] (n:Int)=bs[i]%(n:Int):=IntWalk.rem_in _ _ hx.1;have e3:(i:Int)+1-1=(i:Int):=by omega
  have h1:0<=bs[i]%(n:Int):=Int.emod_nonneg _ (by omega);have h2:bs[i]%(n:Int)<n:=Int.emod_lt_of_pos _ (by omega);rw [decide_eq_true h];refine ⟨(bs[i]%(n:Int)).toNat,i+1,by omega,by omega, ?_⟩;rw [Int.toNat_of_nonneg h1];simp (disch:=omega) only [hdt_eq,QM,QD,List.length_cons,List.length_nil,Nat.zero_add,Nat.reduceAdd,e3,Int.toNat_natCast,Nat.mul_one,hia,e1,e2,Int.natCast_add,Int.natCast_one]
 ·rw [decide_eq_false h];refine ⟨0,i,by omega,hi, ?_⟩;simp (disch:=omega) only [hdt_eq,QM,QD,List.length_cons,List.length_nil,Nat.zero_add,Nat.reduceAdd];rfl
theorem sp_Frequency {bs:List Int} (hb:bytes bs) {i:Nat} (hi:i<=1000):
  ∃n j:Nat,(n=1\/n=2)/\j<=1000/\cl fu (d+3) fn_synopticfield_Codes_Frequency [V.ptr 1000000 0] [codesO bs i]=some ⟨I n,[codesO bs j],none⟩:=by
 obtain ⟨v,j,hv,hj,e⟩:=sp_Next fu d hb hi 5 (by omega);unfold codesO at e⊢;rw [eq_synopticfield_Codes_Frequency];replace e:cl fu (d+2) fn_synopticfield_Codes_Next [V.ptr 1000000 0,I 5] _=_:=e;have hdr: ∃n:Nat,(n=1\/n=2)/\ ∃r,List.drop v [C.v (.int .i64 1),C.v (.int .i64 1),C.v (.int .i64 1),C.v (.int .i64 1),C.v (.int .i64 2)]=C.v (.int .i64 (n:Int))::r:=by
  rcases (show v=0\/v=1\/v=2\/v=3\/v=4 by omega) with rfl|rfl|rfl|rfl|rfl
  ·exact ⟨1, .inl rfl,_,rfl⟩
  ·exact ⟨1, .inl rfl,_,rfl⟩
  ·exact ⟨1, .inl rfl,_,rfl⟩
  ·exact ⟨1, .inl rfl,_,rfl⟩
  ·exact ⟨2, .inr rfl,_,rfl⟩
 obtain ⟨n,hn,r,hdr⟩:=hdr;refine ⟨n,j,hn,hj, ?_⟩;simp (disch:=omega) only [hdt_eq,QM,QD,e,List.length_cons,List.length_nil,Nat.zero_add,Nat.reduceAdd,Int.toNat_natCast,Nat.mul_one,hdr]
theorem sp_Scheme {bs:List Int} (hb:bytes bs) {i:Nat} (hi:i<=1000):
  ∃a b c j:Nat,(1<=a/\a<=4)/\(1<=b/\b<=4)/\(1<=c/\c<=4)/\j<=1000/\cl fu (d+3) fn_synopticfield_Codes_Scheme [V.ptr 1000000 0] [codesO bs i]=some ⟨V.agg [C.v (.int .i64 (a:Int)),C.v (.int .i64 (b:Int)),C.v (.int .i64 (c:Int))],[codesO bs j],none⟩:=by
 obtain ⟨v1,j1,hv1,hj1,e1⟩:=sp_Next fu d hb hi 4 (by omega);obtain ⟨v2,j2,hv2,hj2,e2⟩:=sp_Next fu d hb hj1 4 (by omega);obtain ⟨v3,j3,hv3,hj3,e3⟩:=sp_Next fu d hb hj2 4 (by omega);unfold codesO at e1 e2 e3⊢;replace e1:cl fu (d+2) fn_synopticfield_Codes_Next [V.ptr 1000000 0,I 4] _=_:=e1;replace e2:cl fu (d+2) fn_synopticfield_Codes_Next [V.ptr 1000000 0,I 4] _=_:=e2;replace e3:cl fu (d+2) fn_synopticfield_Codes_Next [V.ptr 1000000 0,I 4] _=_:=e3;refine ⟨1+v1,1+v2,1+v3,j3,by omega,by omega,by omega,hj3, ?_⟩;rw [eq_synopticfield_Codes_Scheme];simp (disch:=omega) only [hdt_eq,QM,QD,e1,e2,e3,List.length_cons,List.length_nil,Nat.zero_add,Nat.reduceAdd,Int.natCast_add,Int.natCast_one]
theorem sp_Signed {bs:List Int} (hb:bytes bs) {i:Nat} (hi:i<=1000) (most:Nat) (hm:most<=100000000):
  ∃(v:Int) (j:Nat),(-(most:Int)<=v/\v<=most)/\j<=1000/\cl fu (d+3) fn_synopticfield_Codes_Signed [V.ptr 1000000 0,I most] [codesO bs i]=some ⟨I v,[codesO bs j],none⟩:=by
 obtain ⟨v1,j1,hv1,hj1,e1⟩:=sp_Next fu d hb hi 256 (by omega);obtain ⟨v2,j2,hv2,hj2,e2⟩:=sp_Next fu d hb hj1 256 (by omega);obtain ⟨v3,j3,hv3,hj3,e3⟩:=sp_Next fu d hb hj2 256 (by omega);obtain ⟨v4,j4,hv4,hj4,e4⟩:=sp_Next fu d hb hj3 2 (by omega);unfold codesO at e1 e2 e3 e4⊢;replace e1:cl fu (d+2) fn_synopticfield_Codes_Next [V.ptr 1000000 0,I 256] _=_:=e1;replace e2:cl fu (d+2) fn_synopticfield_Codes_Next [V.ptr 1000000 0,I 256] _=_:=e2;replace e3:cl fu (d+2) fn_synopticfield_Codes_Next [V.ptr 1000000 0,I 256] _=_:=e3;replace e4:cl fu (d+2) fn_synopticfield_Codes_Next [V.ptr 1000000 0,I 2] _=_:=e4;have w1:(v1:Int)*2^16=((v1*65536:Nat):Int):=by omega
 have w2:(v2:Int)*2^8=((v2*256:Nat):Int):=by omega
 obtain ⟨z,hz,o1⟩:=or24 (x:=v1*65536) (y:=v2*256) (by omega) (by omega);obtain ⟨y,hy,o2⟩:=or24 (x:=z) (y:=v3) hz (by omega);have t1:Int.tmod (y:Int) ((most:Int)+1)=((y%(most+1):Nat):Int):=by
  rw [IntWalk.rem_in _ _ (by omega),Int.natCast_emod,Int.natCast_add];rfl
 have hq:y%(most+1)<=most:=by have:=Nat.mod_lt y (show 0<most+1 by omega);omega
 rw [eq_synopticfield_Codes_Signed];simp (disch:=omega) only [hdt_eq,QM,QD,e1,e2,w1,w2,o1,e3,o2,t1,List.length_cons,List.length_nil,Nat.zero_add,Nat.reduceAdd];generalize y%(most+1)=q at*
 by_cases h4:v4=1
 ·refine ⟨0-(q:Int),j4,by omega,hj4, ?_⟩;simp (disch:=omega) only [hdt_eq,QM,QD,e4,List.length_cons,List.length_nil,Nat.zero_add,Nat.reduceAdd]
 ·refine ⟨(q:Int),j4,by omega,hj4, ?_⟩;simp (disch:=omega) only [hdt_eq,QM,QD,e4,List.length_cons,List.length_nil,Nat.zero_add,Nat.reduceAdd]
theorem sp_NewC (bs:List Int) (k:Nat):cl fu (d+1) fn_synopticfield_New [V.c (C.sl bs.length (ik .u8 bs)),I (k:Int)] []=some ⟨V.ptr 1000000 0,[codesO (bs.take k) 0],none⟩:=by
 rw [eq_synopticfield_New];unfold codesO;by_cases h:k<bs.length
 ·have e1:(ik .u8 bs).take k=ik .u8 (bs.take k):=List.map_take.symm;simp (disch:=omega) only [hdt_eq,QM,QD,Int.toNat_natCast,Nat.mul_one,e1,List.length_take,Nat.min_eq_left];rfl
 ·rw [show bs.take k=bs from List.take_of_length_le (by omega)];simp (disch:=omega) only [hdt_eq,QM,QD];rfl
end
end Go.Proofs.YtoaanfjcjbghaaaGreatDoor
/- Vectors and states that are made from codes. -/
namespace Go.Proofs.YtoaanfjcjbghaaaGreatDoor
open Go Go.PM Go.Grid
attribute [local congr] hd_bind hd_need hd_cond hd_unc hd_uncV hd_uncO hd_unI hd_asI hd_asB hd_asS hd_asSl hd_asFn hd_asP hd_rC hd_rA hd_rT hd_rG hd_rP hd_rO hd_rN hd_rF hd_rS hd_rW hd_nilV hd_natD hd_bd hd_iter hd_over hd_sliceC hd_asMp hd_asYF
abbrev stC (n:Nat) (dp fw:List Int):List C:=[C.v (.int .i64 (n:Int)),C.sl dp.length (ints dp),C.sl fw.length (ints fw)]
structure StOk (n:Nat) (dp fw:List Int):Prop where
 dl:dp.length=(nodes n).length
 fl:fw.length=(edg n).length
 dw:wid 0 16777216 dp
 fw:wid (-1000000) 1000000 fw
theorem freq_12 {n:Nat} (h:n=1\/n=2):freq n:=by unfold freq;omega
section
variable (fu d:Nat) (hf:18446744073709551616<=fu)
include hf
set_option maxHeartbeats 4000000 in
theorem sp_Vector {bs:List Int} (hb:bytes bs) {i:Nat} (hi:i<=1000) (n most:Nat) (hn:n<=1000000) (hm:most<=16777216) (top:Int) (ht:(most:Int)<=top/\9<=top):
  ∃(l:List Int) (j:Nat),l.length=n/\wid (-top) top l/\j<=1000/\cl fu (d+4) fn_synopticfield_Codes_Vector [V.ptr 1000000 0,I n,I most] [codesO bs i]=some ⟨V.c (C.sl l.length (ints l)),[codesO bs j],none⟩:=by
 obtain ⟨v1,j1,hv1,hj1,e1⟩:=sp_Signed fu d hb hi most (by omega);obtain ⟨v2,j2,hv2,hj2,e2⟩:=sp_Signed fu d hb hj1 most (by omega);obtain ⟨v3,j3,hv3,hj3,e3⟩:=sp_Signed fu d hb hj2 most (by omega);obtain ⟨v4,j4,hv4,hj4,e4⟩:=sp_Signed fu d hb hj3 9 (by omega);have hN:=fun (i:Nat) (hi:i<=1000)=>sp_Next fu (d+1) hb hi 7 (by omega);replace e4:cl fu (d+3) fn_synopticfield_Codes_Signed [V.ptr 1000000 0,I 9] _=_:=e4;unfold codesO at*
 rw [eq_synopticfield_Codes_Vector];simp (disch:=omega) only [hdt_eq,QM,QD,e1,e2,e3,e4,List.length_cons,List.length_nil,Nat.zero_add,Nat.reduceAdd];refine iter_bind_meas (A:=List C×Int×(C×Int×Unit)×Unit) (B:=Out) (fu:=fu) (fun o=> ∃(l:List Int) (j:Nat),l.length=n/\wid (-top) top l/\j<=1000/\o=some ⟨V.c (C.sl l.length (ints l)),[codesO bs j],none⟩)
  (fun y=> ∃(l:List Int) (j:Nat),l.length<=n/\wid (-top) top l/\j<=1000/\y=(ints l,((l.length:Nat):Int),(C.sl bs.length (ik .u8 bs),(j:Int),()),())) (fun y=>(n:Int).toNat-y.2.1.toNat)
  (fun e y=>e=0/\ ∃(l:List Int) (j:Nat),l.length=n/\wid (-top) top l/\j<=1000/\y=(ints l,((l.length:Nat):Int),(C.sl bs.length (ik .u8 bs),(j:Int),()),())) ?_ ?_ ?_ ?_
 ·exact ⟨[],j4,by simp,(by intro v hv;cases hv),hj4,rfl⟩
 ·show (n:Int).toNat-(0:Int).toNat<fu;omega
 ·rintro y ⟨l,j,hl,hw,hj,rfl⟩
  by_cases hlt:l.length<n
  ·obtain ⟨v,k,hv,hk,e5⟩:=hN j hj;replace e5:cl fu (d+3) fn_synopticfield_Codes_Next [V.ptr 1000000 0,I 7] _=_:=e5;have w0:IntKind.i64.wrap (0-(most:Int))=0-(most:Int):=wrap_in (by omega) (by omega);obtain ⟨x,r,hx,hdr⟩: ∃(x:Int) (r:List C),(-top<=x/\x<=top)/\List.drop v [C.v (.int .i64 v1),C.v (.int .i64 v2),C.v (.int .i64 v3),C.v (.int .i64 v4),C.v (.int .i64 0),C.v (.int .i64 (most:Int)),C.v (.int .i64 (0-(most:Int)))]=C.v (.int .i64 x)::r:=by
    rcases (show v=0\/v=1\/v=2\/v=3\/v=4\/v=5\/v=6 by omega) with rfl|rfl|rfl|rfl|rfl|rfl|rfl
    ·exact ⟨v1,_,by omega,rfl⟩
    ·exact ⟨v2,_,by omega,rfl⟩
    ·exact ⟨v3,_,by omega,rfl⟩
    ·exact ⟨v4,_,by omega,rfl⟩
    ·exact ⟨0,_,by omega,rfl⟩
    ·exact ⟨(most:Int),_,by omega,rfl⟩
    ·exact ⟨0-(most:Int),_,by omega,rfl⟩
   refine .inl ⟨(ints (l++[x]),(((l++[x]).length:Nat):Int),(C.sl bs.length (ik .u8 bs),(k:Int),()),()), ?_,⟨l++[x],k,by simp;omega,wid_snoc hw hx,hk,rfl⟩, ?_⟩
   ·simp (disch:=omega) only [hdt_eq,QM,QD,e5,List.length_cons,List.length_nil,Nat.zero_add,Nat.reduceAdd,w0,Int.toNat_natCast,Nat.mul_one,hdr,ik_length,Nat.div_one,ints_snoc,List.length_append,Int.natCast_add,Int.natCast_one]
   ·show (n:Int).toNat-(((l++[x]).length:Nat):Int).toNat<(n:Int).toNat-((l.length:Nat):Int).toNat;rw [List.length_append,List.length_singleton];omega
  ·refine .inr ⟨0,(ints l,((l.length:Nat):Int),(C.sl bs.length (ik .u8 bs),(j:Int),()),()), ?_,rfl,l,j,by omega,hw,hj,rfl⟩;simp (disch:=omega) only [hdt_eq,QM,QD,ik_length,Nat.div_one,Nat.mul_one]
 ·rintro e z ⟨rfl,l,j,hl,hw,hj,rfl⟩
  refine ⟨l,j,hl,hw,hj, ?_⟩;have htk:List.take l.length (ints l)=ints l:=List.take_of_length_le (by rw [ik_length];exact Nat.le_refl _);simp (disch:=omega) only [hdt_eq,QM,QD,ik_length,Nat.div_one,Nat.mul_one,Nat.zero_add,htk]
omit hf in
theorem sp_Clip (x:Int): ∃v,(0<=v/\v<=16777216)/\cl fu (d+1) fn_synopticref28_Clip [I x,I 0,I 16777216] []=OK (I v):=by
 rw [eq_synopticref28_Clip];exact ⟨_,by constructor<;>(repeat' split)<;>omega,rfl⟩
omit hf in
theorem sp_Nodes22 (n:Nat) (h:freq n):cl fu (d+1) fn_synopticref22_Nodes [I n] []=OK (I ((nodes n).length:Int)):=by
 rw [nodes_length h,eq_synopticref22_Nodes];rcases freq_cases h with rfl|rfl|rfl|rfl|rfl|rfl|rfl|rfl<;>(show @Eq (Option Out) _ _;kernel_rfl)
set_option maxHeartbeats 4000000 in
theorem sp_State {bs:List Int} (hb:bytes bs) {i:Nat} (hi:i<=1000) (n:Nat) (h:freq n):
  ∃(dp fw:List Int) (j:Nat),StOk n dp fw/\j<=1000/\cl fu (d+10) fn_synopticfield_Codes_State [V.ptr 1000000 0,I n] [codesO bs i]=some ⟨V.agg (stC n dp fw),[codesO bs j],none⟩:=by
 have hE:=sp_ref_Edges fu d hf n h;have heL:=edg_le h;have hNl:=nodes_le h;have hN22:=sp_Nodes22 fu (d+8) n h;obtain ⟨v1,j1,hv1,hj1,e1⟩:=sp_Next fu (d+7) hb hi 4 (by omega);replace e1:cl fu (d+9) fn_synopticfield_Codes_Next [V.ptr 1000000 0,I 4] _=_:=e1;obtain ⟨m1,r1,hm1,hd1⟩: ∃(m:Nat) (r:List C),m<=1000000/\List.drop v1 [C.v (.int .i64 0),C.v (.int .i64 30),C.v (.int .i64 5000),C.v (.int .i64 1000000)]=C.v (.int .i64 (m:Int))::r:=by
  rcases (show v1=0\/v1=1\/v1=2\/v1=3 by omega) with rfl|rfl|rfl|rfl
  ·exact ⟨0,_,by omega,rfl⟩
  ·exact ⟨30,_,by omega,rfl⟩
  ·exact ⟨5000,_,by omega,rfl⟩
  ·exact ⟨1000000,_,by omega,rfl⟩
 obtain ⟨fw,j2,hl2,hw2,hj2,e2⟩:=sp_Vector fu (d+5) hf hb hj1 (edg n).length m1 (by omega) (by omega) 1000000 (by omega);obtain ⟨v3,j3,hv3,hj3,e3⟩:=sp_Next fu (d+7) hb hj2 4 (by omega);replace e3:cl fu (d+9) fn_synopticfield_Codes_Next [V.ptr 1000000 0,I 4] _=_:=e3;obtain ⟨m3,r3,hm3,hd3⟩: ∃(m:Nat) (r:List C),m<=2500000/\List.drop v3 [C.v (.int .i64 0),C.v (.int .i64 40),C.v (.int .i64 100000),C.v (.int .i64 2500000)]=C.v (.int .i64 (m:Int))::r:=by
  rcases (show v3=0\/v3=1\/v3=2\/v3=3 by omega) with rfl|rfl|rfl|rfl
  ·exact ⟨0,_,by omega,rfl⟩
  ·exact ⟨40,_,by omega,rfl⟩
  ·exact ⟨100000,_,by omega,rfl⟩
  ·exact ⟨2500000,_,by omega,rfl⟩
 obtain ⟨v4,j4,hv4,hj4,e4⟩:=sp_Next fu (d+7) hb hj3 3 (by omega);replace e4:cl fu (d+9) fn_synopticfield_Codes_Next [V.ptr 1000000 0,I 3] _=_:=e4;obtain ⟨m4,r4,hm4,hd4⟩: ∃(m:Nat) (r:List C),m<=90000/\List.drop v4 [C.v (.int .i64 0),C.v (.int .i64 30),C.v (.int .i64 90000)]=C.v (.int .i64 (m:Int))::r:=by
  rcases (show v4=0\/v4=1\/v4=2 by omega) with rfl|rfl|rfl
  ·exact ⟨0,_,by omega,rfl⟩
  ·exact ⟨30,_,by omega,rfl⟩
  ·exact ⟨90000,_,by omega,rfl⟩
 obtain ⟨l5,j5,hl5,hw5,hj5,e5⟩:=sp_Vector fu (d+5) hf hb hj4 (nodes n).length m4 (by omega) (by omega) 90000 (by omega);obtain ⟨cp,hcp⟩: ∃cp:Int ->Int,∀x,(0<=cp x/\cp x<=16777216)/\cl fu (d+9) fn_synopticref28_Clip [I x,I 0,I 16777216] []=OK (I (cp x)):=Classical.axiomOfChoice (r:=fun x v=>(0<=v/\v<=16777216)/\cl fu (d+9) fn_synopticref28_Clip [I x,I 0,I 16777216] []=OK (I v)) fun x=>sp_Clip fu (d+8) x;have hcl:=fun x=>(hcp x).2;refine ⟨l5.map fun x=>cp ((m3:Int)+x),fw,j5,⟨by rw [List.length_map,hl5],hl2,fun v hv=> ?_,hw2⟩,hj5, ?_⟩
 ·obtain ⟨x,_,rfl⟩:=List.mem_map.1 hv;exact (hcp _).1
 unfold codesO at*
 generalize edg n=E at*
 generalize (nodes n).length=N at*
 rw [eq_synopticfield_Codes_State,hE];simp (disch:=omega) only [hdt_eq,QM,QD,e1,List.length_cons,List.length_nil,Nat.zero_add,Nat.reduceAdd,Int.toNat_natCast,Nat.mul_one,hd1,e2,e3,hd3,e4,hd4,hN22,e5];rw [iter_runx (fun j:Nat=>((j:Int),((0:Int),C.nl,C.nl,()),((n:Int),ints ((l5.take j).map fun x=>cp ((m3:Int)+x)),C.sl fw.length (ints fw),()),(C.sl bs.length (ik .u8 bs),(j5:Int),()),())) 0 (((l5.length:Nat):Int),((0:Int),C.nl,C.nl,()),((n:Int),ints (l5.map fun x=>cp ((m3:Int)+x)),C.sl fw.length (ints fw),()),(C.sl bs.length (ik .u8 bs),(j5:Int),()),()) l5.length ?_ ?_ ?_ (by omega)]
 ·have htk:List.take l5.length (ints (l5.map fun x=>cp ((m3:Int)+x)))=ints (l5.map fun x=>cp ((m3:Int)+x)):=List.take_of_length_le (by rw [ik_length,List.length_map];exact Nat.le_refl _);simp (disch:=omega) only [hdt_eq,QM,QD,ik_length,Nat.div_one,Nat.mul_one,Nat.zero_add,List.length_map,htk];unfold stC;rw [List.length_map]
 ·rfl
 ·intro j hj;have hia:=ints_at l5 hj;have hx:=wid_at hw5 hj;have hsn:ints ((l5.take j).map fun x=>cp ((m3:Int)+x))++[C.v (.int .i64 (cp ((m3:Int)+l5[j])))]=ints ((l5.take (j+1)).map fun x=>cp ((m3:Int)+x)):=by
   rw [List.take_succ_eq_append_getElem hj,List.map_append,ints_snoc];rfl
  generalize l5[j]=x at*
  simp (disch:=omega) only [hdt_eq,QM,QD,Int.toNat_natCast,Nat.mul_one,hia,hcl,ik_length,Nat.div_one,List.length_map,List.length_take,Nat.min_eq_left,hsn];rfl
 ·rw [List.take_length];simp (disch:=omega) only [hdt_eq,QM,QD,ik_length,Nat.div_one,Nat.mul_one,List.length_map]
end
end Go.Proofs.YtoaanfjcjbghaaaGreatDoor
/- Edges as the program hands them out, checks of states, degrees. -/
namespace Go.Proofs.YtoaanfjcjbghaaaGreatDoor
open Go Go.PM Go.Grid
attribute [local congr] hd_bind hd_need hd_cond hd_unc hd_uncV hd_uncO hd_unI hd_asI hd_asB hd_asS hd_asSl hd_asFn hd_asP hd_rC hd_rA hd_rT hd_rG hd_rP hd_rO hd_rN hd_rF hd_rS hd_rW hd_nilV hd_natD hd_bd hd_iter hd_over hd_sliceC hd_asMp hd_asYF
def at0 (l:List Int) (i:Nat):Int:=l.getD i 0
theorem at0_get {l:List Int} {i:Nat} (h:i<l.length):at0 l i=l[i]:=by
 unfold at0;rw [List.getD_eq_getElem?_getD,List.getElem?_eq_getElem h];rfl
theorem ints_at0 (l:List Int) {i:Nat} (h:i<l.length):(ints l).drop i=C.v (.int .i64 (at0 l i))::ints (l.drop (i+1)):=by
 rw [ints_at l h,at0_get h]
theorem ints_put (l:List Int) {i:Nat} (h:i<l.length) (v:Int):putAt (ints l) i [C.v (.int .i64 v)]=ints (l.set i v):=by
 unfold putAt;rw [List.set_eq_take_append_cons_drop,if_pos h,ints_take,ints_drop];simp [ik]
def bump1 (l:List Int) (i:Nat) (v:Int):List Int:=l.set i (at0 l i+v)
theorem bump1_length (l:List Int) (i:Nat) (v:Int):(bump1 l i v).length=l.length:=by simp [bump1]
theorem bump1_at (l:List Int) (i:Nat) (v:Int) (k:Nat):at0 (bump1 l i v) k=at0 l k+if k=i/\i<l.length then v else 0:=by
 unfold bump1 at0;rw [List.getD_eq_getElem?_getD,List.getElem?_set];by_cases h:i=k
 ·subst h;by_cases hl:i<l.length
  ·simp [hl,List.getD_eq_getElem?_getD]
  ·rw [if_pos rfl,if_neg hl,if_neg (fun e=>hl e.2),List.getD_eq_getElem?_getD,List.getElem?_eq_none (by omega)];rfl
 ·rw [if_neg h,if_neg (fun e=>h e.1.symm),List.getD_eq_getElem?_getD];simp
theorem ints_bump (l:List Int) {i:Nat} (h:i<l.length) (v:Int):putAt (ints l) i [C.v (.int .i64 (at0 l i+v))]=ints (bump1 l i v):=ints_put l h _
def outB (lo hi:Int) (l:List Int):Bool:=l.any fun v=> !(decide (lo<=v)&&decide (v<=hi))
theorem outB_f {lo hi:Int} {l:List Int}:outB lo hi l=false↔wid lo hi l:=by
 unfold outB wid;rw [List.any_eq_false];simp
theorem edgesL_length (n:Nat):(edgesL n).length=(edg n).length:=by simp [edgesL]
theorem edgesL_get (n:Nat) {j:Nat} (h':j<(edg n).length):(edgesL n)[j]? =some [I ((j:Nat):Int),V.agg [C.v (.int .i64 (edg n)[j].1),C.v (.int .i64 (edg n)[j].2)]]:=by
 unfold edgesL;rw [List.getElem?_map,List.getElem?_zipIdx,List.getElem?_eq_getElem h'];simp
theorem edgesL_at (n:Nat) {j:Nat} (h:j<(edgesL n).length) (h':j<(edg n).length):(edgesL n)[j]=[I ((j:Nat):Int),V.agg [C.v (.int .i64 (edg n)[j].1),C.v (.int .i64 (edg n)[j].2)]]:=by
 have:=edgesL_get n h';rw [List.getElem?_eq_getElem h] at this;exact Option.some.inj this
theorem edgesL_drop (n:Nat) {j:Nat} (h:j<(edg n).length):(edgesL n).drop j=[I ((j:Nat):Int),V.agg [C.v (.int .i64 (edg n)[j].1),C.v (.int .i64 (edg n)[j].2)]]::(edgesL n).drop (j+1):=by
 rw [List.drop_eq_getElem_cons (by rw [edgesL_length];exact h),edgesL_at n _ h]
section
variable (fu d:Nat) (hf:18446744073709551616<=fu)
theorem sp_within (v lo hi:Int):cl fu (d+1) fn_flux_within [I v,I lo,I hi] []=OK (B (decide (lo<=v)&&decide (v<=hi))):=by
 rw [eq_flux_within];by_cases h:lo<=v
 ·simp (disch:=omega) only [hdt_eq,QM,QD]
 ·simp (disch:=omega) only [hdt_eq,QM,QD]
theorem sp_outside_1 (v lo hi:Int):cl fu (d+2) fn_flux_outside_1 [I v,V.c (C.cp [C.v (.int .i64 lo)]),V.c (C.cp [C.v (.int .i64 hi)])] []=OK (B (!(decide (lo<=v)&&decide (v<=hi)))):=by
 have e:=sp_within fu d v lo hi;generalize (decide (lo<=v)&&decide (v<=hi))=b at*
 rw [eq_flux_outside_1];simp only [hdt_eq,QM,e]
include hf
theorem sp_outside (l:List Int) (hl:l.length<=1000000) (lo hi:Int):cl fu (d+5) fn_flux_outside [V.c (C.sl l.length (ints l)),I lo,I hi] []=OK (B (outB lo hi l)):=by
 have h1:=fun v=>sp_outside_1 fu d v lo hi;rw [eq_flux_outside,eq2_slices_ContainsFunc_sint_int,eq2_slices_IndexFunc_sint_int];rcases first_or_none (fun j=> ∃h:j<l.length,(!(decide (lo<=l[j])&&decide (l[j]<=hi)))=true) l.length with hn|⟨k,hk,⟨hk2,hb⟩,hn⟩
 ·have hall:outB lo hi l=false:=by
   unfold outB;rw [List.any_eq_false];intro v hv;obtain ⟨j,hj,rfl⟩:=List.getElem_of_mem hv;exact fun e=>hn j hj ⟨hj,e⟩
  rw [hall,iter_runx (fun j:Nat=>((0:Int),(j:Int),())) 0 ((0:Int),((l.length:Nat):Int),()) l.length ?_ ?_ ?_ (by omega)]
  ·simp (disch:=omega) only [hdt_eq,QM,QD]
  ·rfl
  ·intro j hj;have hia:=ints_at l hj;have hv:=hn j hj;have hv:(!(decide (lo<=l[j])&&decide (l[j]<=hi)))=false:=by
    cases e:(!(decide (lo<=l[j])&&decide (l[j]<=hi)))
    ·rfl
    ·exact absurd ⟨hj,e⟩ hv
   have h1:=h1 l[j];rw [hv] at h1;simp (disch:=omega) only [hdt_eq,QM,QD,Int.toNat_natCast,Nat.mul_one,hia,h1];rfl
  ·simp (disch:=omega) only [hdt_eq,QM,QD]
 ·have hall:outB lo hi l=true:=by
   unfold outB;rw [List.any_eq_true];exact ⟨l[k],List.getElem_mem hk2,hb⟩
  rw [hall,iter_runx (fun j:Nat=>((0:Int),(j:Int),())) 1 ((k:Int),(k:Int),()) k ?_ ?_ ?_ (by omega)]
  ·simp (disch:=omega) only [hdt_eq,QM,QD]
  ·rfl
  ·intro j hj;have hjl:j<l.length:=by omega
   have hia:=ints_at l hjl;have hv:=hn j hj;have hv:(!(decide (lo<=l[j])&&decide (l[j]<=hi)))=false:=by
    cases e:(!(decide (lo<=l[j])&&decide (l[j]<=hi)))
    ·rfl
    ·exact absurd ⟨hjl,e⟩ hv
   have h1:=h1 l[j];rw [hv] at h1;simp (disch:=omega) only [hdt_eq,QM,QD,Int.toNat_natCast,Nat.mul_one,hia,h1];rfl
  ·have hia:=ints_at l hk2;have h1:=h1 l[k];rw [hb] at h1;simp (disch:=omega) only [hdt_eq,QM,QD,Int.toNat_natCast,Nat.mul_one,hia,h1]
omit hf in
theorem sp_freq (n:Nat) (h:freq n):cl fu (d+1) fn_mesh_Frequency [I n] []=OK (B true):=by
 unfold freq at h;rw [eq_mesh_Frequency];simp (disch:=omega) only [hdt_eq,QM,QD]
omit hf in
theorem sp_grid_Count (n:Nat) (h:freq n):cl fu (d+2) fn_grid_Count [I n] []=OK (I ((nodes n).length:Int)):=by
 rw [nodes_length h,eq_grid_Count,sp_freq fu d n h];simp only [hdt_eq,QM];rcases freq_cases h with rfl|rfl|rfl|rfl|rfl|rfl|rfl|rfl<;>(show @Eq (Option Out) _ _;kernel_rfl)
theorem sp_grid_Edges (n:Nat) (h:freq n):cl fu (d+9) fn_grid_Edges [I n] []=OK (V.tup [V.c (C.sl (edg n).length (fl edC (edg n))),I 0]):=by
 obtain ⟨c,e⟩:=sp_Build fu d hf n h;have e0:=sp_freq fu (d+7) n h;generalize edg n=E at*
 generalize (nodes n).length=N at*
 generalize fl plc (nodes n)=nc at*
 generalize esn 0 (nodes n)=es at*
 generalize nxt n=nx at*
 rw [eq_grid_Edges,e0];simp (disch:=omega) only [hdt_eq,QM,QD,e,out0,rP_ptr,List.length_cons,List.length_nil,Nat.zero_add,Nat.reduceAdd]
theorem sp_CheckS (n:Nat) (h:freq n) (dp fw:List Int) (h1:dp.length=(nodes n).length) (h2:fw.length=(edg n).length) (h3:wid 0 16777216 dp) (h4:wid (-16777216) 16777216 fw):
  cl fu (d+10) fn_flux_Check [V.agg (stC n dp fw)] []=OK (I 0):=by
 have hNl:=nodes_le h;have heL:=edg_le h;have e1:=sp_grid_Edges fu d hf n h;have e2:=sp_grid_Count fu (d+7) n h;have e3:=sp_outside fu (d+4) hf dp (by omega) 0 16777216;have e4:=sp_outside fu (d+4) hf fw (by omega) (-16777216) 16777216;rw [outB_f.2 h3] at e3;rw [outB_f.2 h4] at e4;generalize edg n=E at*
 generalize (nodes n).length=N at*
 unfold stC;rw [eq_flux_Check];simp (disch:=omega) only [hdt_eq,QM,QD,e1,e2,e3,e4]
theorem edges_ok (n:Nat) (h:freq n) (l:Nat) (go:Nat ->Bool) (r:List C): ∃out lg,cl fu (d+10) fn_flux_edges_1 [V.c (C.yl l go (edgesL n)),V.c (C.cp (C.v (.int .i64 (n:Int))::r))] []=some out/\out.log=some lg/\(lg.st=true\/lg.rest=[]):=by
 have e1:=sp_grid_Edges fu d hf n h;have heL:=edg_le h;have hed:=fun {j:Nat} (hj:j<(edg n).length)=>edgesL_drop n hj;have hell:=edgesL_length n;rw [eq_flux_edges_1];simp (disch:=omega) only [hdt_eq,QM,QD,e1];generalize edgesL n=EL at*
 generalize edg n=E at*
 refine iter_bind_meas (A:=Int×Log×Unit) (B:=Out) (fu:=fu) (fun o=> ∃out lg,o=some out/\out.log=some lg/\(lg.st=true\/lg.rest=[]))
  (fun s=> ∃i:Nat,i<=E.length/\s=((i:Int),⟨l,go,i,EL.drop i,false⟩,())) (fun s=>E.length-s.1.toNat) (fun _ z=>z.2.1.st=true\/z.2.1.rest=[]) ⟨0,by omega,rfl⟩ ?_ ?_ ?_
 ·show E.length-(0:Int).toNat<fu;omega
 ·rintro y ⟨i,hi,rfl⟩
  by_cases hlt:i<E.length
  ·have hd:=hed hlt;have hat:=fl_at edC_length hlt;cases hg:go i with
   |true=>
    refine .inl ⟨(((i+1:Nat):Int),⟨l,go,i+1,EL.drop (i+1),false⟩,()), ?_,⟨i+1,by omega,rfl⟩, ?_⟩
    ·simp (disch:=omega) only [hdt_eq,QM,QD,Int.toNat_natCast,hat,edC,List.cons_append,List.nil_append,hd,unI_cons,eqV_self,hg,Int.natCast_add,Int.natCast_one]
    ·show E.length-((i+1:Nat):Int).toNat<E.length-(i:Int).toNat;omega
   |false=>
    refine .inr ⟨1,((i:Int),⟨l,go,i+1,EL.drop (i+1),true⟩,()), ?_, .inl rfl⟩;simp (disch:=omega) only [hdt_eq,QM,QD,Int.toNat_natCast,hat,edC,List.cons_append,List.nil_append,hd,unI_cons,eqV_self,hg]
  ·refine .inr ⟨0,((i:Int),⟨l,go,i,EL.drop i,false⟩,()), ?_, .inr ?_⟩
   ·simp (disch:=omega) only [hdt_eq,QM,QD]
   ·show EL.drop i=[];rw [List.drop_eq_nil_iff];omega
 ·rintro e z hz
  refine ⟨⟨V.tup [],[],some z.2.1⟩,z.2.1, ?_,rfl,hz⟩;cases e<;>rfl
omit d in
theorem iterOk:IterOk Tryz.prog prim laid fu:=by
 intro d f caps xs h l go;replace h:(bif Nat.ble 10 d then iterC f caps else none)=some xs:=h;cases hd:Nat.ble 10 d with
 |false=>rw [hd] at h;cases h
 |true=>
  rw [hd] at h;replace h:iterC f caps=some xs:=h;have hd:=Nat.le_of_ble_eq_true hd;obtain ⟨d',rfl⟩: ∃d',d=d'+10:=⟨d-10,by omega⟩;unfold iterC at h;cases hfq:Nat.beq f fn_flux_edges_1 with
  |false=>rw [hfq] at h;cases h
  |true=>
   have hfe:=Nat.eq_of_beq_eq_true hfq;subst hfe;rw [hfq] at h;simp only [ct] at h;split at h
   ·rename_i c;unfold asP at h;split at h
    ·rename_i cs;cases cs with
     |nil=>cases h
     |cons c r=>
      replace h:asI .i64 c (fun n=>need (decide (1<=n)&&decide (n<=8)) (some (edgesL n.toNat)))=some xs:=h;unfold asI at h;split at h
      ·split at h
       ·rename_i kd i hk;subst hk;obtain ⟨hc,h⟩:=need_some h;rw [Bool.and_eq_true] at hc;have h1:=of_decide_eq_true hc.1;have h2:=of_decide_eq_true hc.2;cases h;obtain ⟨n,rfl⟩: ∃n:Nat,i=n:=⟨i.toNat,by omega⟩;exact edges_ok fu d' hf n (by unfold freq;omega) l go r
       ·cases h
      ·cases h
    ·cases h
   ·cases h
omit hf in
theorem prim_edges (n:Nat) (h:freq n):prim.iter (d+10) fn_flux_edges_1 [C.cp [C.v (.int .i64 (n:Int))]]=some (edgesL n):=by
 show (bif Nat.ble 10 (d+10) then iterC fn_flux_edges_1 [C.cp [C.v (.int .i64 (n:Int))]] else none)=_;unfold freq at h;rw [show Nat.ble 10 (d+10)=true from Nat.ble_eq_true_of_le (by omega)];show need (decide (1<=(n:Int))&&decide ((n:Int)<=8)) (some (edgesL (n:Int).toNat))=_;rw [decide_eq_true (show 1<=(n:Int) by omega),decide_eq_true (show (n:Int)<=8 by omega),Int.toNat_natCast];rfl
end
end Go.Proofs.YtoaanfjcjbghaaaGreatDoor
/- Degrees, amounts, moves. -/
namespace Go.Proofs.YtoaanfjcjbghaaaGreatDoor
open Go Go.PM Go.Grid
attribute [local congr] hd_bind hd_need hd_cond hd_unc hd_uncV hd_uncO hd_unI hd_asI hd_asB hd_asS hd_asSl hd_asFn hd_asP hd_rC hd_rA hd_rT hd_rG hd_rP hd_rO hd_rN hd_rF hd_rS hd_rW hd_nilV hd_natD hd_bd hd_iter hd_over hd_sliceC hd_asMp hd_asYF
def mv1 (l:List Int) (e:Int×Int) (u v:Int):List Int:=bump1 (bump1 l e.1.toNat u) e.2.toNat v
def degS (N:Nat) (E:List (Int×Int)):List Int:=E.foldl (fun l e=>mv1 l e 1 1) (List.replicate N 0)
def movS (l:List Int) (P:List ((Int×Int)×Int)):List Int:=P.foldl (fun l p=>mv1 l p.1 (-p.2) p.2) l
theorem mv1_length (l:List Int) (e:Int×Int) (u v:Int):(mv1 l e u v).length=l.length:=by unfold mv1;rw [bump1_length,bump1_length]
theorem degS_snoc (N:Nat) (E:List (Int×Int)) (e:Int×Int):degS N (E++[e])=mv1 (degS N E) e 1 1:=by simp [degS]
theorem movS_snoc (l:List Int) (P:List ((Int×Int)×Int)) (p:(Int×Int)×Int):movS l (P++[p])=mv1 (movS l P) p.1 (-p.2) p.2:=by simp [movS]
theorem movS_length (P:List ((Int×Int)×Int)): ∀l,(movS l P).length=l.length:=by
 induction P with
 |nil=>intro l;rfl
 |cons p P ih=>intro l;show (movS (mv1 l p.1 (-p.2) p.2) P).length=_;rw [ih,mv1_length]
theorem mv1_at (l:List Int) (e:Int×Int) (u v:Int) (k:Nat):at0 (mv1 l e u v) k=at0 l k+(if k=e.1.toNat/\k<l.length then u else 0)+if k=e.2.toNat/\k<l.length then v else 0:=by
 unfold mv1;rw [bump1_at,bump1_at,bump1_length]
 congr 1
 ·congr 1
  by_cases h:k=e.1.toNat
  ·subst h;rfl
  ·rw [if_neg (fun q=>h q.1),if_neg (fun q=>h q.1)]
 ·by_cases h:k=e.2.toNat
  ·subst h;rfl
  ·rw [if_neg (fun q=>h q.1),if_neg (fun q=>h q.1)]
theorem at0_rep (N:Nat) (i:Nat):at0 (List.replicate N 0) i=0:=by
 unfold at0;rw [List.getD_eq_getElem?_getD,List.getElem?_replicate];split<;>rfl
theorem degS_length (N:Nat) (E:List (Int×Int)):(degS N E).length=N:=by
 have key: ∀(E:List (Int×Int)) (l:List Int),(E.foldl (fun l e=>mv1 l e 1 1) l).length=l.length:=by
  intro E
  induction E with
  |nil=>intro l;rfl
  |cons e E ih=>intro l;rw [List.foldl_cons,ih,mv1_length]
 unfold degS;rw [key];simp
theorem deg_step (E:List (Int×Int)): ∀(l:List Int) (k:Nat),at0 l k<=at0 (E.foldl (fun l e=>mv1 l e 1 1) l) k/\at0 (E.foldl (fun l e=>mv1 l e 1 1) l) k<=at0 l k+2*E.length/\((∃e∈E,k=e.1.toNat\/k=e.2.toNat)->k<l.length ->at0 l k+1<=at0 (E.foldl (fun l e=>mv1 l e 1 1) l) k):=by
 induction E with
 |nil=>intro l k;exact ⟨Int.le_refl _,by simp,fun ⟨e,he,_⟩=>by cases he⟩
 |cons e E ih=>
  intro l k;rw [List.foldl_cons];obtain ⟨h1,h2,h3⟩:=ih (mv1 l e 1 1) k;have hm:=mv1_at l e 1 1 k;rw [List.length_cons];refine ⟨?_, ?_, ?_⟩
  ·split at hm<;>split at hm<;>omega
  ·split at hm<;>split at hm<;>omega
  ·rintro ⟨e',he,hk⟩ hlt
   rcases List.mem_cons.1 he with rfl|he
   ·rcases hk with hk|hk
    ·rw [if_pos ⟨hk,hlt⟩] at hm;split at hm<;>omega
    ·rw [if_pos (c:=k=e'.2.toNat/\k<l.length) ⟨hk,hlt⟩] at hm;split at hm<;>omega
   ·have:=h3 ⟨e',he,hk⟩ (by rw [mv1_length];exact hlt);split at hm<;>split at hm<;>omega
theorem degS_le (N:Nat) (E:List (Int×Int)) (k:Nat):0<=at0 (degS N E) k/\at0 (degS N E) k<=2*E.length:=by
 obtain ⟨h1,h2,_⟩:=deg_step E (List.replicate N 0) k;rw [at0_rep] at h1 h2;exact ⟨h1,by unfold degS;omega⟩
theorem degS_pos {N:Nat} {E:List (Int×Int)} {k:Nat} (h: ∃e∈E,k=e.1.toNat\/k=e.2.toNat) (hk:k<N):1<=at0 (degS N E) k:=by
 obtain ⟨_,_,h3⟩:=deg_step E (List.replicate N 0) k;have:=h3 h (by simpa using hk);rw [at0_rep] at this;unfold degS;omega
theorem movS_bd {m:Int} (hm:0<=m) (P:List ((Int×Int)×Int)): ∀(l:List Int) (b:Int),(∀k,-b<=at0 l k/\at0 l k<=b)->(∀p∈P,-m<=p.2/\p.2<=m)-> ∀k,-(b+2*m*P.length)<=at0 (movS l P) k/\at0 (movS l P) k<=b+2*m*P.length:=by
 induction P with
 |nil=>intro l b h _ k;have:=h k;simp only [movS,List.foldl_nil,List.length_nil];simpa using this
 |cons p P ih=>
  intro l b h hp k;have h2:=ih (mv1 l p.1 (-p.2) p.2) (b+2*m) (fun k=>by
   have:=h k;have hp:=hp p (List.mem_cons_self ..);rw [mv1_at];split<;>split<;>omega) (fun q hq=>hp q (List.mem_cons_of_mem _ hq)) k
  have e:b+2*m+2*m*(P.length:Int)=b+2*m*((p::P).length:Int):=by
   rw [List.length_cons,Int.natCast_add,Int.mul_add];omega
  rw [e] at h2;exact h2
section
variable (fu d:Nat) (hf:18446744073709551616<=fu)
theorem sp_Degrees (n:Nat) (h:freq n):cl fu (d+11) fn_flux_Degrees [I n] []=OK (V.tup [V.c (C.sl (nodes n).length (ints (degS (nodes n).length (edg n)))),I 0]):=by
 have hn:=h;unfold freq at hn;have hNl:=nodes_le h;have heL:=edg_le h;have e1:=sp_within fu (d+9) (n:Int) 1 8;rw [decide_eq_true (show 1<=(n:Int) by omega),decide_eq_true (show (n:Int)<=8 by omega)] at e1;have e2:=sp_grid_Count fu (d+8) n h;have e3:=prim_edges d n h;have e4:=eq_flux_edges fu (d+9) (n:Int);have hel:=edgesL_length n;have hea:=fun {j:Nat} (h1:j<(edgesL n).length) (h2:j<(edg n).length)=>edgesL_at n h1 h2;have hin:=edg_in h;generalize edgesL n=EL at*
 generalize edg n=E at*
 generalize (nodes n).length=N at*
 have hr0:reps N [C.v (.int .i64 0)]=ints (degS N []):=by
  unfold degS reps;simp [ik]
 have hdl:=degS_length N;rw [eq_flux_Degrees];simp (disch:=omega) only [hdt_eq,QM,QD,e1,e2,e4,Int.toNat_natCast,Nat.mul_one,hr0,ik_length,hdl];rw [show prim.iter (d+10) fn_flux_edges_1 [C.cp [C.v (.int .i64 (n:Int))]]=some EL from e3];simp (disch:=omega) only [hdt_eq,QM,QD,Int.toNat_natCast,Nat.mul_one,hr0,ik_length,hdl];have hov:=overK_run (body:=(fun it (y:(List C×Unit)×Unit)=>
    uncV it fun x r=>
    rC x fun c3=>
    asI .i64 c3 fun i1=>
    uncV r fun x1 r1=>
    rA x1 fun cs1=>
    need (Nat.beq cs1.length 2)<|
    unc cs1 fun c4 r2=>
    asI .i64 c4 fun i2=>
    unc r2 fun c5 _=>
    asI .i64 c5 fun i3=>
    nilV r1<|
    need (inR i2 (y.1.1.length/1))<|
    unc (List.drop (0+(i2.toNat*1)) y.1.1) fun c6 _=>
    asI .i64 c6 fun i4=>
    need (inR i2 (y.1.1.length/1))<|
    need (((Nat.ble 0 (0+(i2.toNat*1)))&&(Nat.ble ((0+(i2.toNat*1))+1) y.1.1.length))&&true)<|
    need (inR i3 (y.1.1.length/1))<|
    unc (List.drop (0+(i3.toNat*1)) (putAt y.1.1 (0+(i2.toNat*1)) ([C.v (.int .i64 (IntKind.i64.wrap (i4+1)))]))) fun c7 _=>
    asI .i64 c7 fun i5=>
    need (inR i3 (y.1.1.length/1))<|
    need (((Nat.ble 0 (0+(i3.toNat*1)))&&(Nat.ble ((0+(i3.toNat*1))+1) ((putAt y.1.1 (0+(i2.toNat*1)) ([C.v (.int .i64 (IntKind.i64.wrap (i4+1)))])).length)))&&true)<|
    bd (putAt (putAt y.1.1 (0+(i2.toNat*1)) ([C.v (.int .i64 (IntKind.i64.wrap (i4+1)))])) (0+(i3.toNat*1)) ([C.v (.int .i64 (IntKind.i64.wrap (i5+1)))])) fun cs2=>
    need (((Nat.beq ((y.1.1.length/1)*1) cs2.length)&&true)&&true)<|
    some (0,((cs2,()),())))) EL (fun j:Nat=>((ints (degS N (E.take j)),()),())) (by
   intro j hj;have hj':j<E.length:=by omega
   have hia:=hea hj hj';have hin:=hin E[j] (List.getElem_mem hj');have hst:degS N (E.take (j+1))=mv1 (degS N (E.take j)) E[j] 1 1:=by rw [List.take_succ_eq_append_getElem hj',degS_snoc]
   have hbd:=degS_le N (E.take j);have htl:(E.take j).length<=15000:=by rw [List.length_take];omega
   have hD:=hdl (E.take j);rw [hia,hst];generalize degS N (E.take j)=D at*
   generalize E[j]=e at*
   obtain ⟨ea,eb⟩:=e;simp only at hin⊢;obtain ⟨x,rfl⟩: ∃x:Nat,ea=x:=⟨ea.toNat,by omega⟩;obtain ⟨y,rfl⟩: ∃y:Nat,eb=y:=⟨eb.toNat,by omega⟩;have d1:=ints_at0 D (i:=x) (by omega);have b1:=hbd x;have p1:=ints_bump D (i:=x) (by omega) 1;have hB:=bump1_length D x 1;have hBa:=bump1_at D x 1 y;have hm:mv1 D ((x:Int),(y:Int)) 1 1=bump1 (bump1 D x 1) y 1:=by unfold mv1;rw [Int.toNat_natCast,Int.toNat_natCast]
   rw [hm];have b2:0<=at0 (bump1 D x 1) y/\at0 (bump1 D x 1) y<=40000:=by
    have:=hbd y;split at hBa<;>omega
   generalize bump1 D x 1=D1 at*
   have d2:=ints_at0 D1 (i:=y) (by omega);have p2:=ints_bump D1 (i:=y) (by omega) 1;have hB2:=bump1_length D1 y 1;generalize bump1 D1 y 1=D2 at*
   simp (disch:=omega) only [hdt_eq,QM,QD,List.length_cons,List.length_nil,Nat.zero_add,Nat.reduceAdd,Int.toNat_natCast,Nat.mul_one,Nat.div_one,ik_length,hD,d1,p1,hB,d2,p2,hB2])
 rw [hel,List.take_length] at hov;rw [show overK _ EL ((ints (degS N []),()),())=_ from hov];have htk:List.take N (ints (degS N E))=ints (degS N E):=List.take_of_length_le (by rw [ik_length,hdl];exact Nat.le_refl _);simp (disch:=omega) only [hdt_eq,QM,QD,Nat.zero_add,Nat.mul_one,Nat.div_one,ik_length,hdl,htk]
end
end Go.Proofs.YtoaanfjcjbghaaaGreatDoor
/- Amounts over edges, and what moving them comes to. -/
namespace Go.Proofs.YtoaanfjcjbghaaaGreatDoor
open Go Go.PM Go.Grid
attribute [local congr] hd_bind hd_need hd_cond hd_unc hd_uncV hd_uncO hd_unI hd_asI hd_asB hd_asS hd_asSl hd_asFn hd_asP hd_rC hd_rA hd_rT hd_rG hd_rP hd_rO hd_rN hd_rF hd_rS hd_rW hd_nilV hd_natD hd_bd hd_iter hd_over hd_sliceC hd_asMp hd_asYF
theorem overK_runx {I' A:Type} {body:I' ->A ->Option (Nat×A)} {xs:List I'} {x:A} (f:Nat ->A) (z:A) (hx:x=f 0) (h: ∀j (h:j<xs.length),body xs[j] (f j)=some (0,f (j+1))) (hz:f xs.length=z):overK body xs x=some (0,z):=by
 rw [hx,<-hz];exact overK_run xs f h
def lim (dp dg:List Int) (k:Int):Int:=Int.tdiv (at0 dp k.toNat) (at0 dg k.toNat)
def shr (w:Int) (s:Nat):Int:=Int.fdiv w (2^s)
def amt (w p q:Int):Int:=if w>p then p else if w< -q then -q else w
def brn (w p q:Int):Int:=if w>p then 1 else if w< -q then -1 else 0
def amE (dp dg fw:List Int) (s:Nat) (E:List (Int×Int)) (j:Nat):Int:=amt (shr (at0 fw j) s) (lim dp dg (E.getD j (0,0)).1) (lim dp dg (E.getD j (0,0)).2)
def brE (dp dg fw:List Int) (s:Nat) (E:List (Int×Int)) (j:Nat):Int:=brn (shr (at0 fw j) s) (lim dp dg (E.getD j (0,0)).1) (lim dp dg (E.getD j (0,0)).2)
def amL (dp dg fw:List Int) (s:Nat) (E:List (Int×Int)) (k:Nat):List Int:=(List.range k).map (amE dp dg fw s E)
def brL (dp dg fw:List Int) (s:Nat) (E:List (Int×Int)) (k:Nat):List Int:=(List.range k).map (brE dp dg fw s E)
theorem amL_length (dp dg fw:List Int) (s:Nat) (E:List (Int×Int)) (k:Nat):(amL dp dg fw s E k).length=k:=by simp [amL]
theorem brL_length (dp dg fw:List Int) (s:Nat) (E:List (Int×Int)) (k:Nat):(brL dp dg fw s E k).length=k:=by simp [brL]
theorem amL_snoc (dp dg fw:List Int) (s:Nat) (E:List (Int×Int)) (k:Nat):amL dp dg fw s E (k+1)=amL dp dg fw s E k++[amE dp dg fw s E k]:=by simp [amL,List.range_succ]
theorem brL_snoc (dp dg fw:List Int) (s:Nat) (E:List (Int×Int)) (k:Nat):brL dp dg fw s E (k+1)=brL dp dg fw s E k++[brE dp dg fw s E k]:=by simp [brL,List.range_succ]
theorem getD_get (E:List (Int×Int)) {j:Nat} (h:j<E.length):E.getD j (0,0)=E[j]:=by
 rw [List.getD_eq_getElem?_getD,List.getElem?_eq_getElem h];rfl
theorem lim_bd {dp dg:List Int} {k:Int} {m:Int} (h:0<=at0 dp k.toNat/\at0 dp k.toNat<=m) (hd:1<=at0 dg k.toNat):0<=lim dp dg k/\lim dp dg k<=at0 dp k.toNat:=by
 unfold lim;generalize at0 dp k.toNat=a at*
 generalize at0 dg k.toNat=b at*
 rw [Int.tdiv_eq_ediv_of_nonneg h.1];exact ⟨Int.ediv_nonneg h.1 (by omega),Int.ediv_le_self _ h.1⟩
theorem wid_at0 {lo hi:Int} {l:List Int} (h:wid lo hi l) (h0:lo<=0/\0<=hi) (k:Nat):lo<=at0 l k/\at0 l k<=hi:=by
 by_cases hk:k<l.length
 ·rw [at0_get hk];exact wid_at h hk
 ·unfold at0;rw [List.getD_eq_getElem?_getD,List.getElem?_eq_none (by omega)];exact h0
theorem amt_bd {w p q:Int} (hp:0<=p) (hq:0<=q): -q<=amt w p q/\amt w p q<=p:=by
 unfold amt;split
 ·omega
 ·split<;>omega
section
variable (fu d:Nat) (hf:18446744073709551616<=fu)
include hf
theorem sp_CheckScheme (a b c:Nat) (ha:1<=a/\a<=4) (hb:1<=b/\b<=4) (hc:1<=c/\c<=4):cl fu (d+6) fn_flux_CheckScheme [V.agg [C.v (.int .i64 (a:Int)),C.v (.int .i64 (b:Int)),C.v (.int .i64 (c:Int))]] []=OK (I 0):=by
 have e:=sp_outside fu d hf [(a:Int),(b:Int),(c:Int)] (by simp) 1 4;rw [outB_f.2 (by intro v hv;simp only [List.mem_cons,List.mem_nil_iff,or_false] at hv;omega)] at e;replace e:cl fu (d+5) fn_flux_outside [V.c (C.sl 3 [C.v (.int .i64 (a:Int)),C.v (.int .i64 (b:Int)),C.v (.int .i64 (c:Int))]),I 1,I 4] []=OK (B false):=e;rw [eq_flux_CheckScheme];simp only [hdt_eq,QM,e]
set_option maxHeartbeats 4000000 in
theorem sp_Amounts (n:Nat) (h:freq n) (dp fw:List Int) (h1:dp.length=(nodes n).length) (h2:fw.length=(edg n).length) (h3:wid 0 16777216 dp) (h4:wid (-16777216) 16777216 fw)
  (a b c:Nat) (ha:1<=a/\a<=4) (hb:1<=b/\b<=4) (hc:1<=c/\c<=4):
  cl fu (d+12) fn_flux_Amounts [V.agg [C.v (.int .i64 (a:Int)),C.v (.int .i64 (b:Int)),C.v (.int .i64 (c:Int))],V.agg (stC n dp fw)] []=OK (V.tup [V.c (C.sl (edg n).length (ints (amL dp (degS (nodes n).length (edg n)) fw c (edg n) (edg n).length))),V.c (C.sl (edg n).length (ints (brL dp (degS (nodes n).length (edg n)) fw c (edg n) (edg n).length))),I 0]):=by
 have hNl:=nodes_le h;have heL:=edg_le h;have e1:=sp_CheckScheme fu (d+5) hf a b c ha hb hc;have e2:=sp_CheckS fu (d+1) hf n h dp fw h1 h2 h3 h4;have e3:=sp_Degrees fu d n h;have e4:=eq_flux_edges fu (d+10) (n:Int);have e5:prim.iter (d+11) fn_flux_edges_1 [C.cp [C.v (.int .i64 (n:Int))]]=some (edgesL n):=prim_edges (d+1) n h;have hel:=edgesL_length n;have hea:=fun {j:Nat} (h1:j<(edgesL n).length) (h2:j<(edg n).length)=>edgesL_at n h1 h2;have hin:=edg_in h;have hdl:=degS_length (nodes n).length (edg n);have hdp: ∀e∈edg n,1<=at0 (degS (nodes n).length (edg n)) e.1.toNat/\1<=at0 (degS (nodes n).length (edg n)) e.2.toNat:=fun e he=>⟨degS_pos ⟨e,he, .inl rfl⟩ (by have:=hin e he;omega),degS_pos ⟨e,he, .inr rfl⟩ (by have:=hin e he;omega)⟩;have hdb:=fun k=>degS_le (nodes n).length (edg n) k;unfold stC at*
 generalize degS (nodes n).length (edg n)=dg at*
 generalize edgesL n=EL at*
 generalize edg n=E at*
 generalize (nodes n).length=N at*
 have hml:=fun k=>amL_length dp dg fw c E k;have hbl:=fun k=>brL_length dp dg fw c E k;have hsh:min c (IntKind.bits .i64)=c:=by show min c 64=c;omega
 rw [eq_flux_Amounts];simp (disch:=omega) only [hdt_eq,QM,QD,e1,e2,e3,e4];rw [e5];simp only [hdt_eq,QM];rw [overK_runx (fun j:Nat=>((ints (amL dp dg fw c E j),()),(ints (brL dp dg fw c E j),()),())) ((ints (amL dp dg fw c E E.length),()),(ints (brL dp dg fw c E E.length),()),()) ?_ ?_ ?_]
 ·have htk: ∀l:List Int,l.length=E.length ->List.take E.length (ints l)=ints l:=fun l hl=>List.take_of_length_le (by rw [ik_length];omega);simp (disch:=omega) only [hdt_eq,QM,QD,Nat.zero_add,Nat.mul_one,Nat.div_one,ik_length,hml,hbl,htk _ (hml E.length),htk _ (hbl E.length)]
 ·rfl
 ·intro j hj;have hj':j<E.length:=by omega
  have hia:=hea hj hj';have hin:=hin E[j] (List.getElem_mem hj');have hdp:=hdp E[j] (List.getElem_mem hj');have hfj:j<fw.length:=by omega
  have hfi:=ints_at0 fw hfj;have hwA:=wid_at0 h3 (by omega) E[j].1.toNat;have hwB:=wid_at0 h3 (by omega) E[j].2.toNat;have lA:=lim_bd (k:=E[j].1) hwA hdp.1;have lB:=lim_bd (k:=E[j].2) hwB hdp.2;have hst:=amL_snoc dp dg fw c E j;have hsb:=brL_snoc dp dg fw c E j;unfold amE at hst;unfold brE at hsb;rw [getD_get E hj'] at hst hsb;rw [hia,hst,hsb];have hml:=hml j;have hbl:=hbl j;generalize amL dp dg fw c E j=A at*
  generalize brL dp dg fw c E j=B at*
  generalize E[j]=e at*
  obtain ⟨ea,eb⟩:=e;simp only at hin hdp lA lB⊢;obtain ⟨x,rfl⟩: ∃x:Nat,ea=x:=⟨ea.toNat,by omega⟩;obtain ⟨y,rfl⟩: ∃y:Nat,eb=y:=⟨eb.toNat,by omega⟩;simp only [Int.toNat_natCast] at hdp hwA hwB lA lB;have d1:=ints_at0 dp (i:=x) (by omega);have d2:=ints_at0 dp (i:=y) (by omega);have g1:=ints_at0 dg (i:=x) (by omega);have g2:=ints_at0 dg (i:=y) (by omega);have lA':lim dp dg (x:Int)=Int.tdiv (at0 dp x) (at0 dg x):=by unfold lim;rw [Int.toNat_natCast]
  have lB':lim dp dg (y:Int)=Int.tdiv (at0 dp y) (at0 dg y):=by unfold lim;rw [Int.toNat_natCast]
  have sh':shr (at0 fw j) c=Int.fdiv (at0 fw j) (2^c):=rfl;generalize lim dp dg (x:Int)=p at*
  generalize lim dp dg (y:Int)=q at*
  generalize shr (at0 fw j) c=w at*
  by_cases c1:w>p
  ·rw [show amt w p q=p from if_pos c1,show brn w p q=1 from if_pos c1];simp (disch:=omega) only [hdt_eq,QM,QD,List.length_cons,List.length_nil,Nat.zero_add,Nat.reduceAdd,Int.toNat_natCast,Nat.mul_one,Nat.div_one,d1,d2,g1,g2,hfi,<-lA',<-lB',hsh,<-sh',ik_length,hml,hbl,ints_snoc,List.length_append]
  ·by_cases c2:w< -q
   ·rw [show amt w p q= -q from by unfold amt;rw [if_neg c1,if_pos c2],show brn w p q= -1 from by unfold brn;rw [if_neg c1,if_pos c2]];have e0:(0:Int)-q= -q:=by omega
    simp (disch:=omega) only [hdt_eq,QM,QD,List.length_cons,List.length_nil,Nat.zero_add,Nat.reduceAdd,Int.toNat_natCast,Nat.mul_one,Nat.div_one,d1,d2,g1,g2,hfi,<-lA',<-lB',hsh,<-sh',e0,ik_length,hml,hbl,ints_snoc,List.length_append]
   ·rw [show amt w p q=w from by unfold amt;rw [if_neg c1,if_neg c2],show brn w p q=0 from by unfold brn;rw [if_neg c1,if_neg c2]];have e0:(0:Int)-q= -q:=by omega
    simp (disch:=omega) only [hdt_eq,QM,QD,List.length_cons,List.length_nil,Nat.zero_add,Nat.reduceAdd,Int.toNat_natCast,Nat.mul_one,Nat.div_one,d1,d2,g1,g2,hfi,<-lA',<-lB',hsh,<-sh',e0,ik_length,hml,hbl,ints_snoc,List.length_append]
 ·rw [hel]
omit hf in
theorem sp_Clone (l:List Int) (h0:0<l.length) (hl:l.length<=1000000):cl fu (d+1) fn_slices_Clone_sint_int [V.c (C.sl l.length (ints l))] []=some ⟨V.own 1000000 0 l.length,[.sb ty_int 0 (ints l)],none⟩:=by
 have hb:Nat.beq l.length 0=false:=by
  cases e:Nat.beq l.length 0
  ·rfl
  ·have:=Nat.eq_of_beq_eq_true e;omega
 have htk:List.take l.length (ints l)=ints l:=List.take_of_length_le (by rw [ik_length];exact Nat.le_refl _);rw [eq_slices_Clone_sint_int,hb];simp (disch:=omega) only [hdt_eq,QM,QD,ik_length,Nat.mul_one,Nat.zero_add,htk]
theorem sp_Move (n:Nat) (h:freq n) (dp fw:List Int) (h1:dp.length=(nodes n).length) (h2:fw.length=(edg n).length) (h3:wid 0 16777216 dp) (h4:wid (-16777216) 16777216 fw)
  (am:List Int) (h5:am.length=(edg n).length) (h6:wid (-16777216) 16777216 am):
  cl fu (d+12) fn_flux_Move [V.agg (stC n dp fw),V.c (C.sl am.length (ints am))] []=bif outB 0 16777216 (movS dp ((edg n).zip am)) then OK (V.tup [V.agg [C.v (.int .i64 0),C.nl,C.nl],I 7]) else OK (V.tup [V.agg (stC n (movS dp ((edg n).zip am)) fw),I 0]):=by
 have hNl:=nodes_le h;have heL:=edg_le h;have hN0:0<(nodes n).length:=by rw [nodes_length h];omega
 have hE0:0<(edg n).length:=by
  have:(nodes n).length≠0:=by omega
  have hm:tc n (pt n 0 1 0) (pt n 0 0 1) (pt n 0 0 0)∈tri n:=by
   have hn:=h;unfold freq at hn;unfold tri faceC rowC cellsAt;simp only [List.mem_flatMap,List.mem_range];exact ⟨0,by omega,0,by omega,0,by omega,List.mem_cons_self ..⟩
  have:=(edg_mem n _).2 ((rawE_mem n _).2 ⟨_,hm,List.mem_cons_self ..⟩);exact List.length_pos_of_mem this
 have e2:=sp_CheckS fu (d+1) hf n h dp fw h1 h2 h3 h4;have e3:=sp_outside fu (d+6) hf am (by omega) (-16777216) 16777216;rw [outB_f.2 h6] at e3;have k1:=sp_Clone fu (d+10) dp (by omega) (by omega);have k2:=sp_Clone fu (d+10) fw (by omega) (by omega);have e4:=eq_flux_edges fu (d+10) (n:Int);have e5:prim.iter (d+11) fn_flux_edges_1 [C.cp [C.v (.int .i64 (n:Int))]]=some (edgesL n):=prim_edges (d+1) n h;have hel:=edgesL_length n;have hea:=fun {j:Nat} (h1:j<(edgesL n).length) (h2:j<(edg n).length)=>edgesL_at n h1 h2;have hin:=edg_in h;have hML:=fun P=>movS_length P dp;have e6:=sp_outside fu (d+6) hf (movS dp ((edg n).zip am)) (by rw [hML];omega) 0 16777216;rw [hML] at e6;have hbd:=fun (k:Nat) (i:Nat)=>movS_bd (m:=16777216) (by omega) (((edg n).zip am).take k) dp 16777216 (fun i=>by have:=wid_at0 h3 (by omega) i;omega) (fun p hp=>h6 p.2 (by
  have:=List.mem_of_mem_take hp;exact (List.of_mem_zip this).2)) i
 unfold stC at*
 generalize edgesL n=EL at*
 generalize edg n=E at*
 generalize (nodes n).length=N at*
 rw [eq_flux_Move];simp (disch:=omega) only [hdt_eq,QM,QD,e2,e3,k1,k2,e4,out0,ik_length,Nat.mul_one];rw [e5];simp (disch:=omega) only [hdt_eq,QM,QD,ik_length,Nat.mul_one];rw [overK_runx (fun j:Nat=>(((0:Int),C.nl,C.nl,()),((n:Int),ints (movS dp ((E.zip am).take j)),ints fw,()),())) (((0:Int),C.nl,C.nl,()),((n:Int),ints (movS dp (E.zip am)),ints fw,()),()) ?_ ?_ ?_]
 ·have htk1:List.take dp.length (ints (movS dp (E.zip am)))=ints (movS dp (E.zip am)):=List.take_of_length_le (by rw [ik_length,hML];exact Nat.le_refl _);have htk2:List.take fw.length (ints fw)=ints fw:=List.take_of_length_le (by rw [ik_length];exact Nat.le_refl _);have hML:=hML (E.zip am);cases hb:outB 0 16777216 (movS dp (E.zip am)) with
  |true=>
   rw [hb] at e6;simp (disch:=omega) only [hdt_eq,QM,QD,ik_length,Nat.mul_one,Nat.div_one,Nat.zero_add,hML,htk1,e6]
  |false=>
   rw [hb] at e6;simp (disch:=omega) only [hdt_eq,QM,QD,ik_length,Nat.mul_one,Nat.div_one,Nat.zero_add,hML,htk1,htk2,e6]
 ·rfl
 ·intro j hj;have hj':j<E.length:=by omega
  have hz:j<(E.zip am).length:=by rw [List.length_zip];omega
  have hja:j<am.length:=by omega
  have hia:=hea hj hj';have hin:=hin E[j] (List.getElem_mem hj');have hai:=ints_at am hja;have haw:=wid_at h6 hja;have hst:movS dp ((E.zip am).take (j+1))=mv1 (movS dp ((E.zip am).take j)) E[j] (-am[j]) am[j]:=by rw [List.take_succ_eq_append_getElem hz,movS_snoc,List.getElem_zip]
  have hbd:=hbd j;have htl:((E.zip am).take j).length<=15000:=by rw [List.length_take];omega
  have hD:=hML ((E.zip am).take j);rw [hia,hst];generalize movS dp ((E.zip am).take j)=D at*
  generalize E[j]=e at*
  generalize am[j]=v at*
  obtain ⟨ea,eb⟩:=e;simp only at hin⊢;obtain ⟨x,rfl⟩: ∃x:Nat,ea=x:=⟨ea.toNat,by omega⟩;obtain ⟨y,rfl⟩: ∃y:Nat,eb=y:=⟨eb.toNat,by omega⟩;have d1:=ints_at0 D (i:=x) (by omega);have b1:=hbd x;have p1:=ints_bump D (i:=x) (by omega) (-v);have hB:=bump1_length D x (-v);have hBa:=bump1_at D x (-v) y;have hm:mv1 D ((x:Int),(y:Int)) (-v) v=bump1 (bump1 D x (-v)) y v:=by unfold mv1;rw [Int.toNat_natCast,Int.toNat_natCast]
  rw [hm];have b2:=hbd y;have b3: -1000000000000<=at0 (bump1 D x (-v)) y/\at0 (bump1 D x (-v)) y<=1000000000000:=by
   split at hBa<;>omega
  generalize bump1 D x (-v)=D1 at*
  have d2:=ints_at0 D1 (i:=y) (by omega);have p2:=ints_bump D1 (i:=y) (by omega) v;have hB2:=bump1_length D1 y v;generalize bump1 D1 y v=D2 at*
  have e0:at0 D x-v=at0 D x+ -v:=by omega
  simp (disch:=omega) only [hdt_eq,QM,QD,List.length_cons,List.length_nil,Nat.zero_add,Nat.reduceAdd,Int.toNat_natCast,Nat.mul_one,Nat.div_one,ik_length,hD,d1,hai,e0,p1,hB,d2,p2,hB2]
 ·show (((0:Int),C.nl,C.nl,()),((n:Int),ints (movS dp ((E.zip am).take EL.length)),ints fw,()),())=_;rw [hel,List.take_of_length_le (by rw [List.length_zip];omega)]
end
end Go.Proofs.YtoaanfjcjbghaaaGreatDoor
/- What is moved and moved back; masses; lists that are compared. -/
namespace Go.Proofs.YtoaanfjcjbghaaaGreatDoor
open Go Go.PM Go.Grid
attribute [local congr] hd_bind hd_need hd_cond hd_unc hd_uncV hd_uncO hd_unI hd_asI hd_asB hd_asS hd_asSl hd_asFn hd_asP hd_rC hd_rA hd_rT hd_rG hd_rP hd_rO hd_rN hd_rF hd_rS hd_rW hd_nilV hd_natD hd_bd hd_iter hd_over hd_sliceC hd_asMp hd_asYF
theorem ext_at0 {l m:List Int} (hl:l.length=m.length) (h: ∀k,k<l.length ->at0 l k=at0 m k):l=m:=by
 refine List.ext_getElem hl fun k h1 h2=> ?_;rw [<-at0_get h1,<-at0_get h2];exact h k h1
def net (P:List ((Int×Int)×Int)) (k:Nat):Int:=(P.map fun p=>(if k=p.1.1.toNat then -p.2 else 0)+(if k=p.1.2.toNat then p.2 else 0)).sum
theorem net_cons (p:(Int×Int)×Int) (P:List ((Int×Int)×Int)) (k:Nat):net (p::P) k=(if k=p.1.1.toNat then -p.2 else 0)+(if k=p.1.2.toNat then p.2 else 0)+net P k:=by unfold net;rw [List.map_cons,List.sum_cons]
theorem movS_cons (l:List Int) (p:(Int×Int)×Int) (P:List ((Int×Int)×Int)):movS l (p::P)=movS (mv1 l p.1 (-p.2) p.2) P:=rfl
theorem movS_at: ∀(P:List ((Int×Int)×Int)) (l:List Int) (k:Nat),k<l.length ->at0 (movS l P) k=at0 l k+net P k
 | [],l,k,_=>by simp [movS,net]
 |p::P,l,k,h=>by
  rw [movS_cons,movS_at P _ k (by rw [mv1_length];exact h),mv1_at,net_cons];by_cases h1:k=p.1.1.toNat<;>by_cases h2:k=p.1.2.toNat<;>simp only [h,h1,h2,and_true,if_true,if_false,false_and,true_and]<;>omega
def isL (c:C) (l:List Int):Prop:=nrm c=C.sl l.length (ints l)/\ ∀{R:Type} (k:Nat ->List C ->Option R),asSl c k=k l.length (ints l)
theorem isL_sl (l:List Int):isL (C.sl l.length (ints l)) l:=⟨by rw [nrm_sl],fun k=>by rw [asSl_sl]⟩
section
variable (fu d:Nat) (hf:18446744073709551616<=fu)
include hf
theorem sp_Ints (a b:List Int) (ha:a.length<=1000000) (hb:b.length<=1000000):cl fu (d+1) fn_synopticref25_Ints [V.c (C.sl a.length (ints a)),V.c (C.sl b.length (ints b))] []=OK (B (decide (a=b))):=by
 rw [eq_synopticref25_Ints];by_cases hl:a.length=b.length
 ·rcases first_or_none (fun j=>at0 a j≠at0 b j) a.length with hn|⟨k,hk,hne,hlt⟩
  ·rw [decide_eq_true (ext_at0 hl fun k hk=>Classical.not_not.1 (hn k hk))];simp (disch:=omega) only [hdt_eq,QM,QD];rw [iter_runx (fun j:Nat=>(false,((j:Nat):Int),())) 0 (false,((a.length:Nat):Int),()) a.length ?_ ?_ ?_ (by omega)]
   ·simp (disch:=omega) only [hdt_eq,QM,QD]
   ·rfl
   ·intro j hj;have e1:=ints_at0 a hj;have e2:=ints_at0 b (i:=j) (by omega);have e3:=Classical.not_not.1 (hn j hj);rw [<-e3] at e2;simp (disch:=omega) only [hdt_eq,QM,QD,Int.toNat_natCast,Nat.mul_one,e1,e2];rfl
   ·simp (disch:=omega) only [hdt_eq,QM,QD]
  ·rw [decide_eq_false (fun e:a=b=>hne (by rw [e]))];simp (disch:=omega) only [hdt_eq,QM,QD];rw [iter_runx (fun j:Nat=>(false,((j:Nat):Int),())) 1 (false,((k:Nat):Int),()) k ?_ ?_ ?_ (by omega)]
   ·simp (disch:=omega) only [hdt_eq,QM,QD]
   ·rfl
   ·intro j hj;have e1:=ints_at0 a (i:=j) (by omega);have e2:=ints_at0 b (i:=j) (by omega);have e3:=Classical.not_not.1 (hlt j hj);rw [<-e3] at e2;simp (disch:=omega) only [hdt_eq,QM,QD,Int.toNat_natCast,Nat.mul_one,e1,e2];rfl
   ·have e1:=ints_at0 a (i:=k) (by omega);have e2:=ints_at0 b (i:=k) (by omega);simp (disch:=omega) only [hdt_eq,QM,QD,Int.toNat_natCast,Nat.mul_one,e1,e2]
 ·rw [decide_eq_false (fun e:a=b=>hl (by rw [e]))];simp (disch:=omega) only [hdt_eq,QM,QD]
theorem sp_Same29 (n m:Int) (c1 c2 c3 c4:C) {a b a' b':List Int} (h1:isL c1 a) (h2:isL c2 b) (h3:isL c3 a') (h4:isL c4 b') (l1:a.length<=1000000) (l2:b.length<=1000000) (l3:a'.length<=1000000) (l4:b'.length<=1000000):
  cl fu (d+2) fn_synopticref29_Same [V.agg [C.v (.int .i64 n),c1,c2],V.agg [C.v (.int .i64 m),c3,c4]] []=OK (B (decide (n=m/\a=a'/\b=b'))):=by
 have e1:=sp_Ints fu d hf a a' l1 l3;have e2:=sp_Ints fu d hf b b' l2 l4;rw [eq_synopticref29_Same,h1.1,h2.1,h3.1,h4.1];by_cases q1:n=m
 ·by_cases q2:a=a'
  ·rw [decide_eq_true q2] at e1;rw [show decide (n=m/\a=a'/\b=b')=decide (b=b') from decide_eq_decide.2 ⟨fun q=>q.2.2,fun q=>⟨q1,q2,q⟩⟩];simp (disch:=omega) only [hdt_eq,QM,QD,e1,e2]
  ·rw [decide_eq_false q2] at e1;rw [decide_eq_false (fun q:n=m/\a=a'/\b=b'=>q2 q.2.1)];simp (disch:=omega) only [hdt_eq,QM,QD,e1]
 ·rw [decide_eq_false (fun q:n=m/\a=a'/\b=b'=>q1 q.1)];simp (disch:=omega) only [hdt_eq,QM,QD]
omit hf in
theorem wid_rep {lo hi:Int} {n:Nat} {v:Int} (h:lo<=v/\v<=hi):wid lo hi (List.replicate n v):=fun x hx=>by rw [List.eq_of_mem_replicate hx];exact h
end
end Go.Proofs.YtoaanfjcjbghaaaGreatDoor
/- slices.Repeat, Rest. -/
namespace Go.Proofs.YtoaanfjcjbghaaaGreatDoor
open Go Go.PM Go.Grid
attribute [local congr] hd_bind hd_need hd_cond hd_unc hd_uncV hd_uncO hd_unI hd_asI hd_asB hd_asS hd_asSl hd_asFn hd_asP hd_rC hd_rA hd_rT hd_rG hd_rP hd_rO hd_rN hd_rF hd_rS hd_rW hd_nilV hd_natD hd_bd hd_iter hd_over hd_sliceC hd_asMp hd_asYF
theorem ints_app (a b:List Int):ints (a++b)=ints a++ints b:=List.map_append
theorem take_rep (t q:Nat) (v:Int) (r:List Int) (h:q<=t):(ints (List.replicate t v++r)).take q=ints (List.replicate q v):=by
 have e:ints (List.replicate t v++r)=ints (List.replicate q v)++ints (List.replicate (t-q) v++r):=by
  rw [<-ints_app,<-List.append_assoc,List.replicate_append_replicate,show q+(t-q)=t by omega]
 rw [e];exact List.take_left' (by rw [ik_length,List.length_replicate])
theorem put_rep (m t q:Nat) (v:Int) (h2:t+q<=m):putAt (ints (List.replicate t v++List.replicate (m-t) 0)) t (ints (List.replicate q v))=ints (List.replicate (t+q) v++List.replicate (m-(t+q)) 0):=by
 unfold putAt;have e1:ints (List.replicate t v++List.replicate (m-t) 0)=ints (List.replicate t v)++ints (List.replicate (m-t) 0):=ints_app _ _;have e2:ints (List.replicate (m-t) (0:Int))=ints (List.replicate q 0)++ints (List.replicate (m-(t+q)) 0):=by
  rw [<-ints_app,List.replicate_append_replicate,show q+(m-(t+q))=m-t by omega]
 rw [e1,List.take_left' (by rw [ik_length,List.length_replicate]),e2,<-List.append_assoc];rw [List.drop_left' (by rw [List.length_append,ik_length,ik_length,ik_length,List.length_replicate,List.length_replicate,List.length_replicate])];rw [ints_app,<-List.replicate_append_replicate,ints_app]
theorem reps_ints (m:Nat) (v:Int):reps m [C.v (.int .i64 v)]=ints (List.replicate m v):=by
 unfold reps
 induction m with
 |zero=>rfl
 |succ m ih=>rw [List.replicate_succ,List.flatten_cons,ih,List.replicate_succ];rfl
section
variable (fu d:Nat) (hf:18446744073709551616<=fu)
theorem sp_Mul (m:Nat) (h:m=0\/ ∃n,freq n/\m=(nodes n).length):cl fu (d+2) fn_bits_Mul [V.c (C.v (.int .u64 1)),V.c (C.v (.int .u64 (m:Int)))] []=OK (V.tup [V.c (C.v (.int .u64 0)),V.c (C.v (.int .u64 (m:Int)))]):=by
 rw [eq_bits_Mul,eq_bits_Mul64];rcases h with rfl|⟨n,h,rfl⟩
 ·show @Eq (Option Out) _ _;kernel_rfl
 ·rw [nodes_length h];rcases freq_cases h with rfl|rfl|rfl|rfl|rfl|rfl|rfl|rfl<;>(show @Eq (Option Out) _ _;kernel_rfl)
include hf
theorem sp_Repeat (v:Int) (m:Nat) (h:m=0\/ ∃n,freq n/\m=(nodes n).length):cl fu (d+3) fn_slices_Repeat_sint_int [V.c (C.sl 1 [C.v (.int .i64 v)]),I (m:Int)] []=OK (V.c (C.sl m (ints (List.replicate m v)))):=by
 have hm:m<=700:=by
  rcases h with rfl|⟨n,h,rfl⟩
  ·omega
  ·exact nodes_le h
 have hM:=sp_Mul fu d m h;have u1:IntKind.u64.wrap ((1:Nat):Int)=1:=rfl;have u2:IntKind.u64.wrap (m:Int)=(m:Int):=IntWalk.u64_in _ (by omega);rw [eq_slices_Repeat_sint_int,u1,u2];have hl:(ints (List.replicate m (0:Int))).length=m:=by rw [ik_length,List.length_replicate]
 simp (disch:=omega) only [hdt_eq,QM,QD,hM,Int.toNat_natCast,reps_ints,hl,Nat.mul_one];by_cases h0:m=0
 ·subst h0;rw [show Nat.min 1 0=0 from rfl];obtain ⟨f,rfl⟩: ∃f,fu=f+1:=⟨fu-1,by omega⟩;rfl
 ·rw [show Nat.min 1 m=0+1 from by have:Nat.min 1 m=1:=Nat.min_eq_left (by omega);rw [this]];have p0:putAt (ints (List.replicate m (0:Int))) 0 [C.v (.int .i64 v)]=ints (List.replicate 1 v++List.replicate (m-1) 0):=by
   have:=put_rep m 0 1 v (by omega);rw [List.replicate_zero,List.nil_append,Nat.sub_zero,Nat.zero_add] at this;exact this
  have l0: ∀t,t<=m ->(ints (List.replicate t v++List.replicate (m-t) (0:Int))).length=m:=fun t ht=>by rw [ik_length,List.length_append,List.length_replicate,List.length_replicate];omega
  have tk:List.take ((0+1)*1) [C.v (.int .i64 v)]=[C.v (.int .i64 v)]:=rfl;have l1:=l0 1 (by omega);simp (disch:=omega) only [hdt_eq,QM,QD,Int.toNat_natCast,reps_ints,hl,Nat.mul_one,tk,p0,l1,List.length_cons,List.length_nil,Nat.zero_add];rw [iter_measx (A:=List C×Int×Unit) (fun y=> ∃t,1<=t/\t<=m/\y=(ints (List.replicate t v++List.replicate (m-t) (0:Int)),(t:Int),())) (fun y=>m-y.2.1.toNat) 0 (ints (List.replicate m v),(m:Int),()) ⟨1,by omega,by omega,rfl⟩ (by show m-_<fu;omega) ?_]
  ·have tm:List.take m (ints (List.replicate m v))=ints (List.replicate m v):=List.take_of_length_le (by rw [ik_length,List.length_replicate];exact Nat.le_refl _);simp (disch:=omega) only [hdt_eq,QM,QD,ik_length,List.length_replicate,Nat.div_one,Nat.mul_one,tm,Nat.zero_add]
  ·rintro y ⟨t,h1,h2,rfl⟩
   have lt:=l0 t h2;by_cases hlt:t<m
   ·obtain ⟨q,hq⟩: ∃q,Nat.min t (m-t)=q+1:=⟨Nat.min t (m-t)-1,by have:0<Nat.min t (m-t):=Nat.lt_min.2 ⟨by omega,by omega⟩;omega⟩;have q1:q+1<=t:=hq▸Nat.min_le_left _ _;have q2:q+1<=m-t:=hq▸Nat.min_le_right _ _;have l2:=l0 (t+(q+1)) (by omega);have tk:=take_rep t (q+1) v (List.replicate (m-t) (0:Int)) q1;have pt:=put_rep m t (q+1) v (by omega);refine .inl ⟨(ints (List.replicate (t+(q+1)) v++List.replicate (m-(t+(q+1))) (0:Int)),((t+(q+1):Nat):Int),()), ?_,⟨t+(q+1),by omega,by omega,rfl⟩, ?_⟩
    ·simp (disch:=omega) only [hdt_eq,QM,QD,lt,Nat.div_one,Nat.mul_one,Int.toNat_natCast,Nat.zero_add,hq,tk,pt,l2];rfl
    ·show m-((t+(q+1):Nat):Int).toNat<m-((t:Nat):Int).toNat;omega
   ·obtain rfl:t=m:=by omega
    right;simp (disch:=omega) only [hdt_eq,QM,QD,lt,Nat.div_one,Nat.mul_one];rw [Nat.sub_self,List.replicate_zero,List.append_nil]
theorem sp_FromField (n:Nat) (h:freq n) (dp:List Int) (h1:dp.length=(nodes n).length) (hw:wid 0 16777216 dp):
  cl fu (d+11) fn_model_FromField [I n,V.c (C.sl dp.length (ints dp))] []=OK (V.tup [V.agg (stC n dp (List.replicate (edg n).length 0)),I 0]):=by
 have hNl:=nodes_le h;have heL:=edg_le h;have hN0:0<(nodes n).length:=by rw [nodes_length h];omega
 have e3:=sp_grid_Edges fu (d+1) hf n h;have k1:=sp_Clone fu (d+9) dp (by omega) (by omega);have e4:=sp_CheckS fu d hf n h dp (List.replicate (edg n).length 0) h1 (List.length_replicate ..) hw (wid_rep (by omega));unfold stC at*
 rw [List.length_replicate] at e4⊢;generalize edg n=E at*
 have htk:List.take dp.length (ints dp)=ints dp:=List.take_of_length_le (by rw [ik_length];exact Nat.le_refl _);rw [eq_model_FromField];simp (disch:=omega) only [hdt_eq,QM,QD,e3,k1,out0,rP_ptr,ik_length,Nat.mul_one,Nat.zero_add,htk,reps_ints,Int.toNat_natCast,e4,decide_true]
theorem sp_Rest (n:Nat) (h:freq n) (v:Int) (hv:0<=v/\v<=16777216):cl fu (d+12) fn_model_Rest [I n,I v] []=OK (V.tup [V.agg (stC n (List.replicate (nodes n).length v) (List.replicate (edg n).length 0)),I 0]):=by
 have e1:=sp_grid_Count fu (d+9) n h;have e2:=sp_Repeat fu (d+8) hf v (nodes n).length (.inr ⟨n,h,rfl⟩);have e3:=sp_FromField fu d hf n h (List.replicate (nodes n).length v) (List.length_replicate ..) (wid_rep hv);unfold stC at*
 rw [List.length_replicate] at e3⊢;rw [eq_model_Rest];simp (disch:=omega) only [hdt_eq,QM,QD,e1,e2,e3,List.length_cons,List.length_nil,Nat.zero_add,Nat.reduceAdd]
end
end Go.Proofs.YtoaanfjcjbghaaaGreatDoor
/- Amounts, neighbours: what laws of several chapters lean on. -/
namespace Go.Proofs.YtoaanfjcjbghaaaGreatDoor
open Go Go.PM Go.Grid
attribute [local congr] hd_bind hd_need hd_cond hd_unc hd_uncV hd_uncO hd_unI hd_asI hd_asB hd_asS hd_asSl hd_asFn hd_asP hd_rC hd_rA hd_rT hd_rG hd_rP hd_rO hd_rN hd_rF hd_rS hd_rW hd_nilV hd_natD hd_bd hd_iter hd_over hd_sliceC hd_asMp hd_asYF
theorem bytes_take {l:List Int} (h: ∀x∈l,0<=x/\x<=255) {k:Nat} (hk:k<=1000):bytes (l.take k):=⟨fun x hx=>h x (List.mem_of_mem_take hx),by rw [List.length_take];omega⟩
def rs (dp:List Int) (r:List Int):Int:=(r.map fun k=>at0 dp k.toNat).sum
theorem push1_getD (R:List (List Int)) (j:Nat) (z:Int) (i:Nat):(push1 R j z).getD i []=if i=j/\i<R.length then R.getD i []++[z] else R.getD i []:=by
 unfold push1;rw [List.getD_eq_getElem?_getD,List.getElem?_set];by_cases h1:j=i
 ·subst h1;by_cases h2:j<R.length
  ·rw [if_pos rfl,if_pos h2,if_pos ⟨rfl,h2⟩];rfl
  ·rw [if_pos rfl,if_neg h2,if_neg (fun q=>h2 q.2),List.getD_eq_getElem?_getD,List.getElem?_eq_none (by omega)]
 ·rw [if_neg h1,if_neg (fun q=>h1 q.1.symm),List.getD_eq_getElem?_getD]
theorem push_in (N:Nat) (i:Nat): ∀(E:List Ed) (R:List (List Int)),(∀e∈E,(0<=e.1/\e.1<(N:Nat))/\(0<=e.2/\e.2<(N:Nat)))->(∀z∈R.getD i [],0<=z/\z<(N:Nat))-> ∀z∈(E.foldl pushE R).getD i [],0<=z/\z<(N:Nat)
 | [],R,_,h=>h
 |e::E,R,hE,h=>by
  have he:=hE e (List.mem_cons_self ..);refine push_in N i E _ (fun e' h'=>hE e' (List.mem_cons_of_mem _ h')) ?_;have one: ∀(R:List (List Int)) (j:Nat) (x:Int),(0<=x/\x<(N:Nat))->(∀z∈R.getD i [],0<=z/\z<(N:Nat))-> ∀z∈(push1 R j x).getD i [],0<=z/\z<(N:Nat):=fun R j x hx hR z hz=>by
   rw [push1_getD] at hz;split at hz
   ·rcases List.mem_append.1 hz with hz|hz
    ·exact hR z hz
    ·rw [List.mem_singleton.1 hz];exact hx
   ·exact hR z hz
  exact one _ _ _ he.1 (one _ _ _ he.2 h)
theorem nxt_length (n:Nat):(nxt n).length=(nodes n).length:=by unfold nxt;rw [List.length_map,pushed_length]
theorem nxt_getD (n i:Nat) (hi:i<(nodes n).length):(nxt n).getD i []=sortI ((pushed (nodes n).length (edg n)).getD i []):=by
 unfold nxt;have hp:i<(pushed (nodes n).length (edg n)).length:=by rw [pushed_length];exact hi
 rw [List.getD_eq_getElem?_getD,List.getElem?_map,List.getD_eq_getElem?_getD,List.getElem?_eq_getElem hp];rfl
theorem rep_getD (N i:Nat):(List.replicate N ([]:List Int)).getD i []=[]:=by
 rw [List.getD_eq_getElem?_getD,List.getElem?_replicate];split<;>rfl
theorem nxt_in {n:Nat} (h:freq n) {i:Nat} (hi:i<(nodes n).length): ∀z∈(nxt n).getD i [],0<=z/\z<((nodes n).length:Nat):=by
 rw [nxt_getD n i hi];intro z hz;refine push_in (nodes n).length i _ _ (edg_in h) (by rw [rep_getD];intro z hz;cases hz) z ((sortI_perm _).mem_iff.1 hz)
theorem nxt_le {n:Nat} (h:freq n) {i:Nat} (hi:i<(nodes n).length):((nxt n).getD i []).length<=30000:=by
 have:=edg_le h;have hp:i<(pushed (nodes n).length (edg n)).length:=by rw [pushed_length];exact hi
 rw [nxt_getD n i hi,(sortI_perm _).length_eq,List.getD_eq_getElem?_getD,List.getElem?_eq_getElem hp];exact Nat.le_trans (pushed_le _ _ _ (List.getElem_mem hp)) (by omega)
theorem zip_range {E:List (Int×Int)} {am:List Int} (h:am.length=E.length):E.zip am=(List.range E.length).map fun j=>(E.getD j (0,0),at0 am j):=by
 refine List.ext_getElem (by rw [List.length_zip,List.length_map,List.length_range];omega) fun j h1 h2=> ?_;rw [List.length_zip] at h1;rw [List.getElem_zip,List.getElem_map,List.getElem_range,getD_get E (by omega),at0_get (by omega)]
theorem amL_wid {E:List (Int×Int)} {dp fw:List Int} {dg:List Int} (c:Nat) (hw:wid 0 16777216 dp) (hd: ∀e∈E,1<=at0 dg e.1.toNat/\1<=at0 dg e.2.toNat):wid (-16777216) 16777216 (amL dp dg fw c E E.length):=by
 intro v hv;unfold amL at hv;obtain ⟨j,hj,rfl⟩:=List.mem_map.1 hv;have hj:=List.mem_range.1 hj;have hd:=hd (E.getD j (0,0)) (by rw [getD_get E hj];exact List.getElem_mem hj);unfold amE;generalize E.getD j (0,0)=e at*
 have L1:=lim_bd (dp:=dp) (dg:=dg) (k:=e.1) (m:=16777216) (wid_at0 hw (by omega) _) hd.1;have L2:=lim_bd (dp:=dp) (dg:=dg) (k:=e.2) (m:=16777216) (wid_at0 hw (by omega) _) hd.2;have L3:=amt_bd (w:=shr (at0 fw j) c) L1.1 L2.1;have:=wid_at0 hw (by omega) e.1.toNat;have:=wid_at0 hw (by omega) e.2.toNat;omega
theorem edg_pos {n:Nat} (h:freq n):0<(edg n).length:=by
 have hm:tc n (pt n 0 1 0) (pt n 0 0 1) (pt n 0 0 0)∈tri n:=by
  have hn:=h;unfold freq at hn;unfold tri faceC rowC cellsAt;simp only [List.mem_flatMap,List.mem_range];exact ⟨0,by omega,0,by omega,0,by omega,List.mem_cons_self ..⟩
 exact List.length_pos_of_mem ((edg_mem n _).2 ((rawE_mem n _).2 ⟨_,hm,List.mem_cons_self ..⟩))
section
variable (fu d:Nat) (hf:18446744073709551616<=fu)
include hf
theorem sp_Neighbours (n:Nat) (h:freq n) (i:Nat) (hi:i<(nodes n).length):cl fu (d+9) fn_grid_Neighbours [I n,I i] []=OK (V.tup [V.c (C.sl ((nxt n).getD i []).length (ints ((nxt n).getD i []))),I 0]):=by
 obtain ⟨c,e⟩:=sp_Build fu d hf n h;have e0:=sp_freq fu (d+6) n h;have e1:=sp_grid_Count fu (d+5) n h;have hl:=nxt_length n;have hd:((nxt n).map fun r=>C.sl r.length (ints r)).drop i=C.sl ((nxt n).getD i []).length (ints ((nxt n).getD i []))::((nxt n).map fun r=>C.sl r.length (ints r)).drop (i+1):=by
  have hi':i<((nxt n).map fun r=>C.sl r.length (ints r)).length:=by rw [List.length_map,hl];exact hi
  rw [List.drop_eq_getElem_cons hi',List.getElem_map,List.getD_eq_getElem?_getD,List.getElem?_eq_getElem (by omega)];rfl
 have hn:cl fu (d+8) fn_grid_node [I n,I i] []=OK (B true):=by
  rw [eq_grid_node];simp (disch:=omega) only [hdt_eq,QM,QD,List.length_cons,List.length_nil,Nat.zero_add,Nat.reduceAdd,e0,e1]
 generalize edg n=E at*
 generalize fl plc (nodes n)=nc at*
 generalize esn 0 (nodes n)=es at*
 generalize nxt n=nx at*
 generalize (nodes n).length=N at*
 rw [eq_grid_Neighbours];simp (disch:=omega) only [hdt_eq,QM,QD,hn,e,out0,rP_ptr,List.length_cons,List.length_nil,Nat.zero_add,Nat.reduceAdd,Int.toNat_natCast,Nat.mul_one,hd]
end
end Go.Proofs.YtoaanfjcjbghaaaGreatDoor
/- Slopes, accelerated flows, steps. -/
namespace Go.Proofs.YtoaanfjcjbghaaaGreatDoor
open Go Go.PM Go.Grid
attribute [local congr] hd_bind hd_need hd_cond hd_unc hd_uncV hd_uncO hd_unI hd_asI hd_asB hd_asS hd_asSl hd_asFn hd_asP hd_rC hd_rA hd_rT hd_rG hd_rP hd_rO hd_rN hd_rF hd_rS hd_rW hd_nilV hd_natD hd_bd hd_iter hd_over hd_sliceC hd_asMp hd_asYF
def clp (x:Int):Int:=if 16777216<(if -16777216>x then -16777216 else x) then 16777216 else if -16777216>x then -16777216 else x
theorem clp_bd (x:Int): -16777216<=clp x/\clp x<=16777216:=by
 unfold clp
 repeat' split
 all_goals omega
def slE (dp:List Int) (E:List (Int×Int)) (j:Nat):Int:=at0 dp (E.getD j (0,0)).1.toNat-at0 dp (E.getD j (0,0)).2.toNat
def slp (dp:List Int) (E:List (Int×Int)) (k:Nat):List Int:=(List.range k).map (slE dp E)
def acc1 (a b:Nat) (f s:Int):Int:=clp (f+(shr s b-shr f a))
def accE (a b:Nat) (dp fw:List Int) (E:List (Int×Int)) (j:Nat):Int:=acc1 a b (at0 fw j) (slE dp E j)
def accL (a b:Nat) (dp fw:List Int) (E:List (Int×Int)) (k:Nat):List Int:=(List.range k).map (accE a b dp fw E)
theorem slp_length (dp:List Int) (E:List (Int×Int)) (k:Nat):(slp dp E k).length=k:=by simp [slp]
theorem accL_length (a b:Nat) (dp fw:List Int) (E:List (Int×Int)) (k:Nat):(accL a b dp fw E k).length=k:=by simp [accL]
theorem slp_snoc (dp:List Int) (E:List (Int×Int)) (k:Nat):slp dp E (k+1)=slp dp E k++[slE dp E k]:=by simp [slp,List.range_succ]
theorem accL_snoc (a b:Nat) (dp fw:List Int) (E:List (Int×Int)) (k:Nat):accL a b dp fw E (k+1)=accL a b dp fw E k++[accE a b dp fw E k]:=by simp [accL,List.range_succ]
theorem map_range_at (f:Nat ->Int) (n:Nat) {j:Nat} (h:j<n):at0 ((List.range n).map f) j=f j:=by
 unfold at0;rw [List.getD_eq_getElem?_getD,List.getElem?_map,List.getElem?_range h];rfl
theorem slE_bd {dp:List Int} (h:wid 0 16777216 dp) (E:List (Int×Int)) (j:Nat): -16777216<=slE dp E j/\slE dp E j<=16777216:=by
 unfold slE;have h1:=wid_at0 h (by omega) (E.getD j (0,0)).1.toNat;have h2:=wid_at0 h (by omega) (E.getD j (0,0)).2.toNat;omega
theorem accL_wid (a b:Nat) (dp fw:List Int) (E:List (Int×Int)) (k:Nat):wid (-16777216) 16777216 (accL a b dp fw E k):=fun v hv=>by
 unfold accL at hv;obtain ⟨j,_,rfl⟩:=List.mem_map.1 hv;exact clp_bd _
theorem shr_bd {w:Int} (s:Nat) {m:Int} (hm:0<=m) (h: -m<=w/\w<=m): -m-1<=shr w s/\shr w s<=m:=by
 unfold shr;have hp:(1:Int)<=2^s:=by
  have:0<2^s:=Nat.pow_pos (by omega);have e:((2^s:Nat):Int)=(2:Int)^s:=by push_cast;rfl
  omega
 generalize (2:Int)^s=q at*
 rw [Int.fdiv_eq_ediv_of_nonneg _ (by omega)];constructor
 ·refine Int.le_ediv_of_mul_le (by omega) ?_;have:(-m-1)*q<=(-m-1)*1:=Int.mul_le_mul_of_nonpos_left (by omega) hp;omega
 ·have h1:w/q<=m/q:=Int.ediv_le_ediv (by omega) h.2;have h2:m/q<=m:=Int.ediv_le_self _ hm;omega
section
variable (fu d:Nat) (hf:18446744073709551616<=fu)
include hf
set_option maxHeartbeats 4000000 in
theorem sp_Slopes (n:Nat) (h:freq n) (dp fw:List Int) (h1:dp.length=(nodes n).length) (h2:fw.length=(edg n).length) (h3:wid 0 16777216 dp) (h4:wid (-16777216) 16777216 fw):
  cl fu (d+11) fn_model_Slopes [V.agg (stC n dp fw)] []=OK (V.tup [V.c (C.sl (edg n).length (ints (slp dp (edg n) (edg n).length))),I 0]):=by
 have hNl:=nodes_le h;have heL:=edg_le h;have e1:=sp_CheckS fu d hf n h dp fw h1 h2 h3 h4;have e2:=sp_grid_Edges fu (d+1) hf n h;have hin:=edg_in h;have hsl:=fun k=>slp_length dp (edg n) k;have hbd:=fun j=>slE_bd h3 (edg n) j;have hls:=fun k=>slp_snoc dp (edg n) k;unfold stC at*
 generalize hE:edg n=E at*
 generalize (nodes n).length=N at*
 rw [eq_model_Slopes];simp (disch:=omega) only [hdt_eq,QM,QD,e1,e2];rw [iter_runx (fun j:Nat=>(ints (slp dp E j),((j:Nat):Int),())) 0 (ints (slp dp E E.length),((E.length:Nat):Int),()) E.length ?_ ?_ ?_ (by omega)]
 ·have htk:List.take E.length (ints (slp dp E E.length))=ints (slp dp E E.length):=List.take_of_length_le (by rw [ik_length,hsl];exact Nat.le_refl _);simp (disch:=omega) only [hdt_eq,QM,QD,ik_length,hsl,Nat.div_one,Nat.mul_one,Nat.zero_add,htk]
 ·rfl
 ·intro j hj;have hea:=fl_at edC_length hj;have hin:=hin E[j] (List.getElem_mem hj);have hgd:=getD_get E hj;have hsE:slE dp E j=at0 dp E[j].1.toNat-at0 dp E[j].2.toNat:=by unfold slE;rw [hgd]
  have hbd:=hbd j;have hls:=hls j;have hslj:=hsl j;generalize slE dp E j=z at*
  generalize E[j]=e at*
  obtain ⟨ea,eb⟩:=e;simp only at hin hsE;obtain ⟨x,rfl⟩: ∃x:Nat,ea=x:=⟨ea.toNat,by omega⟩;obtain ⟨y,rfl⟩: ∃y:Nat,eb=y:=⟨eb.toNat,by omega⟩;rw [Int.toNat_natCast,Int.toNat_natCast] at hsE;have g1:=ints_at0 dp (i:=x) (by omega);have g2:=ints_at0 dp (i:=y) (by omega);have b1:=wid_at0 h3 (by omega) x;have b2:=wid_at0 h3 (by omega) y;have edx:edC ((x:Int),(y:Int))=[C.v (.int .i64 (x:Int)),C.v (.int .i64 (y:Int))]:=rfl;rw [edx] at hea;rw [hls];simp (disch:=omega) only [hdt_eq,QM,QD,List.cons_append,List.nil_append,Int.toNat_natCast,Nat.mul_one,Nat.div_one,hea,g1,g2,<-hsE,ik_length,hslj,List.length_append,List.length_cons,List.length_nil,Nat.zero_add,ints_snoc];rfl
 ·simp (disch:=omega) only [hdt_eq,QM,QD,ik_length,hsl,Nat.div_one,Nat.mul_one]
end
end Go.Proofs.YtoaanfjcjbghaaaGreatDoor
/- Steps of the model, one after the other. -/
namespace Go.Proofs.YtoaanfjcjbghaaaGreatDoor
open Go Go.PM Go.Grid
attribute [local congr] hd_bind hd_need hd_cond hd_unc hd_uncV hd_uncO hd_unI hd_asI hd_asB hd_asS hd_asSl hd_asFn hd_asP hd_rC hd_rA hd_rT hd_rG hd_rP hd_rO hd_rN hd_rF hd_rS hd_rW hd_nilV hd_natD hd_bd hd_iter hd_over hd_sliceC hd_asMp hd_asYF
def stF (n a b:Nat) (dp fw:List Int):List Int:=accL a b dp fw (edg n) (edg n).length
def stA (n a b c:Nat) (dp fw:List Int):List Int:=amL dp (degS (nodes n).length (edg n)) (stF n a b dp fw) c (edg n) (edg n).length
def stD (n a b c:Nat) (dp fw:List Int):List Int:=movS dp ((edg n).zip (stA n a b c dp fw))
def stB (n a b c:Nat) (dp fw:List Int):List Int:=brL dp (degS (nodes n).length (edg n)) (stF n a b dp fw) c (edg n) (edg n).length
def stBad (n a b c:Nat) (dp fw:List Int):Bool:=outB 0 16777216 (stD n a b c dp fw)
structure Vst (n:Nat) (dp fw:List Int):Prop where
 dl:dp.length=(nodes n).length
 fl:fw.length=(edg n).length
 dw:wid 0 16777216 dp
 fw:wid (-16777216) 16777216 fw
theorem StOk.vst {n:Nat} {dp fw:List Int} (h:StOk n dp fw):Vst n dp fw:=⟨h.dl,h.fl,h.dw,wid_mono h.fw (by omega) (by omega)⟩
theorem stF_length (n a b:Nat) (dp fw:List Int):(stF n a b dp fw).length=(edg n).length:=accL_length ..
theorem stA_length (n a b c:Nat) (dp fw:List Int):(stA n a b c dp fw).length=(edg n).length:=amL_length ..
theorem stB_length (n a b c:Nat) (dp fw:List Int):(stB n a b c dp fw).length=(edg n).length:=brL_length ..
theorem stD_length (n a b c:Nat) (dp fw:List Int):(stD n a b c dp fw).length=dp.length:=movS_length ..
theorem deg_pos {n:Nat} (h:freq n): ∀e∈edg n,1<=at0 (degS (nodes n).length (edg n)) e.1.toNat/\1<=at0 (degS (nodes n).length (edg n)) e.2.toNat:=fun e he=>by
 have:=edg_in h e he;exact ⟨degS_pos ⟨e,he, .inl rfl⟩ (by omega),degS_pos ⟨e,he, .inr rfl⟩ (by omega)⟩
theorem Vst.acc {n:Nat} {dp fw:List Int} (h:Vst n dp fw) (a b:Nat):Vst n dp (stF n a b dp fw):=⟨h.dl,stF_length ..,h.dw,accL_wid _ _ _ _ _ _⟩
theorem Vst.step {n:Nat} {dp fw:List Int} (h:Vst n dp fw) {a b c:Nat} (ho:stBad n a b c dp fw=false):Vst n (stD n a b c dp fw) (stF n a b dp fw):=⟨by rw [stD_length];exact h.dl,stF_length ..,outB_f.1 ho,accL_wid _ _ _ _ _ _⟩
theorem stA_wid {n:Nat} (hn:freq n) {dp fw:List Int} (h:Vst n dp fw) (a b c:Nat):wid (-16777216) 16777216 (stA n a b c dp fw):=amL_wid c h.dw (deg_pos hn)
def runN (n a b c:Nat):Nat ->List Int×List Int ->Option (List Int×List Int)
 |0,s=>some s
 |k+1,s=>if stBad n a b c s.1 s.2 then none else runN n a b c k (stD n a b c s.1 s.2,stF n a b s.1 s.2)
theorem runN_add (n a b c:Nat): ∀(k m:Nat) (s:List Int×List Int),runN n a b c (k+m) s=(runN n a b c k s).bind (runN n a b c m)
 |0,m,s=>by rw [Nat.zero_add];rfl
 |k+1,m,s=>by
  rw [show k+1+m=(k+m)+1 by omega];simp only [runN];split
  ·rfl
  ·exact runN_add n a b c k m _
def runO (n:Nat) (o:Option (List Int×List Int)):Option Out:=match o with
 |some s=>OK (V.tup [V.agg (stC n s.1 s.2),I 0])
 |none=>OK (V.tup [V.agg [C.v (.int .i64 0),C.nl,C.nl],I 7])
def stpO (n a b c:Nat) (dp fw:List Int):Option Out:=bif stBad n a b c dp fw then OK (V.tup [V.agg [C.v (.int .i64 0),C.nl,C.nl],V.c C.nl,I 7]) else OK (V.tup [V.agg (stC n (stD n a b c dp fw) (stF n a b dp fw)),V.c (C.sl (stB n a b c dp fw).length (ints (stB n a b c dp fw))),I 0])
section
variable (fu d:Nat) (hf:18446744073709551616<=fu)
include hf
set_option maxHeartbeats 4000000 in
theorem sp_Accelerate (n:Nat) (h:freq n) (dp fw:List Int) (hv:Vst n dp fw) (a b c:Nat) (ha:1<=a/\a<=4) (hb:1<=b/\b<=4) (hc:1<=c/\c<=4):
  cl fu (d+12) fn_model_Accelerate [V.agg [C.v (.int .i64 (a:Int)),C.v (.int .i64 (b:Int)),C.v (.int .i64 (c:Int))],V.agg (stC n dp fw)] []=OK (V.tup [V.agg (stC n dp (stF n a b dp fw)),I 0]):=by
 have hNl:=nodes_le h;have heL:=edg_le h;have hN0:0<(nodes n).length:=by rw [nodes_length h];omega
 have h1:=hv.dl;have h2:=hv.fl;have h3:=hv.dw;have e1:=sp_CheckScheme fu (d+5) hf a b c ha hb hc;have e2:=sp_Slopes fu d hf n h dp fw h1 h2 h3 hv.fw;have k1:=sp_Clone fu (d+10) dp (by omega) (by omega);have hal:=fun k=>accL_length a b dp fw (edg n) k;have has:=fun k=>accL_snoc a b dp fw (edg n) k;have hsl:=slp_length dp (edg n) (edg n).length;have hsa: ∀{j:Nat},j<(edg n).length ->at0 (slp dp (edg n) (edg n).length) j=slE dp (edg n) j:=fun hj=>map_range_at _ _ hj;have hbd:=fun j=>slE_bd h3 (edg n) j;have ma:min a (IntKind.bits .i64)=a:=by show min a 64=a;omega
 have mb:min b (IntKind.bits .i64)=b:=by show min b 64=b;omega
 unfold stF;unfold stC at*
 rw [hal];have hac: ∀j,accE a b dp fw (edg n) j=clp (at0 fw j+(shr (slE dp (edg n) j) b-shr (at0 fw j) a)):=fun j=>rfl;generalize slp dp (edg n) (edg n).length=sl at*
 generalize hE:edg n=E at*
 generalize (nodes n).length=N at*
 rw [eq_model_Accelerate];simp (disch:=omega) only [hdt_eq,QM,QD,e1,e2,k1,out0,rP_ptr,ik_length,Nat.mul_one];rw [iter_runx (fun j:Nat=>(((j:Nat):Int),((0:Int),C.nl,C.nl,()),((n:Int),ints dp,ints (accL a b dp fw E j),()),())) 0 (((fw.length:Nat):Int),((0:Int),C.nl,C.nl,()),((n:Int),ints dp,ints (accL a b dp fw E E.length),()),()) fw.length ?_ ?_ ?_ (by omega)]
 ·have htk1:List.take dp.length (ints dp)=ints dp:=List.take_of_length_le (by rw [ik_length];exact Nat.le_refl _);have htk2:List.take E.length (ints (accL a b dp fw E E.length))=ints (accL a b dp fw E E.length):=List.take_of_length_le (by rw [ik_length,hal];exact Nat.le_refl _);simp (disch:=omega) only [hdt_eq,QM,QD,ik_length,hal,Nat.div_one,Nat.mul_one,Nat.zero_add,htk1,htk2]
 ·rfl
 ·intro j hj;have hjE:j<E.length:=by omega
  have i1:=ints_at0 fw hj;have i2:=ints_at0 sl (i:=j) (by omega);have b1:=wid_at0 hv.fw (by omega) j;have b2:=hbd j;have hac:=hac j;have has:=has j;have halj:=hal j;rw [hsa hjE] at i2;rw [has];have q1:=shr_bd b (by omega:(0:Int)<=16777216) b2;have q2:=shr_bd a (by omega:(0:Int)<=16777216) b1;have f1:Int.fdiv (slE dp E j) (2^b)=shr (slE dp E j) b:=rfl;have f2:Int.fdiv (at0 fw j) (2^a)=shr (at0 fw j) a:=rfl;generalize accE a b dp fw E j=z at*
  generalize shr (slE dp E j) b=p at*
  generalize shr (at0 fw j) a=q at*
  generalize slE dp E j=s at*
  generalize at0 fw j=f at*
  have hz:(if 16777216<(if -16777216>f+(p-q) then -16777216 else f+(p-q)) then 16777216 else if -16777216>f+(p-q) then -16777216 else f+(p-q))=z:=hac.symm;simp (disch:=omega) only [hdt_eq,QM,QD,Int.toNat_natCast,Nat.mul_one,Nat.div_one,i1,i2,ma,mb,f1,f2,hz,ik_length,halj,List.length_append,List.length_cons,List.length_nil,Nat.zero_add,ints_snoc];rfl
 ·have e0:fw.length=E.length:=h2;rw [e0];simp (disch:=omega) only [hdt_eq,QM,QD,ik_length,hal,Nat.div_one,Nat.mul_one]
theorem sp_Step (n:Nat) (h:freq n) (dp fw:List Int) (hv:Vst n dp fw) (a b c:Nat) (ha:1<=a/\a<=4) (hb:1<=b/\b<=4) (hc:1<=c/\c<=4):
  cl fu (d+15) fn_model_Step [V.agg [C.v (.int .i64 (a:Int)),C.v (.int .i64 (b:Int)),C.v (.int .i64 (c:Int))],V.agg (stC n dp fw)] []=stpO n a b c dp fw:=by
 have e1:=sp_Accelerate fu d hf n h dp fw hv a b c ha hb hc;have v2:=hv.acc a b;have e2:=sp_Amounts fu d hf n h dp (stF n a b dp fw) v2.dl v2.fl v2.dw v2.fw a b c ha hb hc;have e3:=sp_Move fu d hf n h dp (stF n a b dp fw) v2.dl v2.fl v2.dw v2.fw (stA n a b c dp fw) (stA_length ..) (stA_wid h hv a b c);have hlA:=stA_length n a b c dp fw;have hlB:=stB_length n a b c dp fw;have hA:amL dp (degS (nodes n).length (edg n)) (stF n a b dp fw) c (edg n) (edg n).length=stA n a b c dp fw:=rfl;have hB:brL dp (degS (nodes n).length (edg n)) (stF n a b dp fw) c (edg n) (edg n).length=stB n a b c dp fw:=rfl;have hD:movS dp ((edg n).zip (stA n a b c dp fw))=stD n a b c dp fw:=rfl;rw [hA,hB] at e2;rw [hD,hlA] at e3;unfold stpO stBad;rw [hlB];unfold stC at*
 generalize stA n a b c dp fw=am at*
 generalize stB n a b c dp fw=br at*
 generalize stD n a b c dp fw=D at*
 generalize stF n a b dp fw=F at*
 rw [eq_model_Step];have f1:=eq_model_accelerate fu (d+13) (a:Int) (b:Int) (c:Int);have f2:=eq_model_move fu (d+13) (a:Int) (b:Int) (c:Int);have g1:=eq_model_accelerate_1 fu (d+12) (n:Int) (C.sl dp.length (ints dp)) (C.sl fw.length (ints fw)) C.nl [C.v (.int .i64 (a:Int)),C.v (.int .i64 (b:Int)),C.v (.int .i64 (c:Int))];have g2:=eq_model_move_1 fu (d+12) (n:Int) (C.sl dp.length (ints dp)) (C.sl F.length (ints F)) C.nl [C.v (.int .i64 (a:Int)),C.v (.int .i64 (b:Int)),C.v (.int .i64 (c:Int))];simp (disch:=omega) only [hdt_eq,QM,QD,e1,List.length_cons,List.length_nil,Nat.zero_add,Nat.reduceAdd] at g1;cases ho:outB 0 16777216 D with
 |true=>
  rw [ho] at e3;simp (disch:=omega) only [hdt_eq,QM,QD,e2,e3,List.length_cons,List.length_nil,Nat.zero_add,Nat.reduceAdd] at g2;simp (disch:=omega) only [hdt_eq,QM,QD,f1,f2];rw [eq_model_chain_model_progress_do];simp (disch:=omega) only [hdt_eq,QM,QD,g1,g2,List.length_cons,List.length_nil,Nat.zero_add,Nat.reduceAdd]
 |false=>
  rw [ho] at e3;simp (disch:=omega) only [hdt_eq,QM,QD,e2,e3,List.length_cons,List.length_nil,Nat.zero_add,Nat.reduceAdd] at g2;simp (disch:=omega) only [hdt_eq,QM,QD,f1,f2];rw [eq_model_chain_model_progress_do];simp (disch:=omega) only [hdt_eq,QM,QD,g1,g2,List.length_cons,List.length_nil,Nat.zero_add,Nat.reduceAdd]
end
end Go.Proofs.YtoaanfjcjbghaaaGreatDoor
/- Runs of the model; states at rest. -/
namespace Go.Proofs.YtoaanfjcjbghaaaGreatDoor
open Go Go.PM Go.Grid
attribute [local congr] hd_bind hd_need hd_cond hd_unc hd_uncV hd_uncO hd_unI hd_asI hd_asB hd_asS hd_asSl hd_asFn hd_asP hd_rC hd_rA hd_rT hd_rG hd_rP hd_rO hd_rN hd_rF hd_rS hd_rW hd_nilV hd_natD hd_bd hd_iter hd_over hd_sliceC hd_asMp hd_asYF
theorem at0_repl (n:Nat) (v:Int) {k:Nat} (h:k<n):at0 (List.replicate n v) k=v:=by
 unfold at0;rw [List.getD_eq_getElem?_getD,List.getElem?_replicate,if_pos h];rfl
theorem net_zero: ∀(P:List ((Int×Int)×Int)) (k:Nat),(∀p∈P,p.2=0)->net P k=0
 | [],k,_=>rfl
 |p::P,k,h=>by
  rw [net_cons,net_zero P k fun q hq=>h q (List.mem_cons_of_mem _ hq),h p (List.mem_cons_self ..)]
  repeat' split
  all_goals rfl
theorem map_rep (f:Nat ->Int) (n:Nat) (v:Int) (h: ∀j,j<n ->f j=v):(List.range n).map f=List.replicate n v:=by
 refine ext_at0 (by simp) fun k hk=> ?_;rw [List.length_map,List.length_range] at hk;rw [map_range_at f n hk,at0_repl n v hk,h k hk]
theorem shr_zero (s:Nat):shr 0 s=0:=by unfold shr;exact Int.zero_fdiv _
theorem rest_F {n:Nat} (h:freq n) (a b:Nat) (v:Int):stF n a b (List.replicate (nodes n).length v) (List.replicate (edg n).length 0)=List.replicate (edg n).length 0:=by
 refine map_rep _ _ _ fun j hj=> ?_;have hin:=edg_in h _ (List.getElem_mem hj);unfold accE acc1 slE;rw [at0_repl _ _ hj,getD_get _ hj,at0_repl _ _ (by omega),at0_repl _ _ (by omega),Int.sub_self,shr_zero,shr_zero];rfl
theorem rest_A {n:Nat} (h:freq n) (a b c:Nat) {v:Int} (hv:0<=v/\v<=16777216):stA n a b c (List.replicate (nodes n).length v) (List.replicate (edg n).length 0)=List.replicate (edg n).length 0:=by
 unfold stA;rw [rest_F h];refine map_rep _ _ _ fun j hj=> ?_;have hd:=deg_pos h _ (List.getElem_mem hj);have hw:wid 0 16777216 (List.replicate (nodes n).length v):=wid_rep hv;unfold amE;rw [at0_repl _ _ hj,getD_get _ hj,shr_zero];have L1:=lim_bd (dp:=List.replicate (nodes n).length v) (k:=(edg n)[j].1) (m:=16777216) (wid_at0 hw (by omega) _) hd.1;have L2:=lim_bd (dp:=List.replicate (nodes n).length v) (k:=(edg n)[j].2) (m:=16777216) (wid_at0 hw (by omega) _) hd.2;unfold amt;rw [if_neg (by omega),if_neg (by omega)]
theorem rest_D {n:Nat} (h:freq n) (a b c:Nat) {v:Int} (hv:0<=v/\v<=16777216):stD n a b c (List.replicate (nodes n).length v) (List.replicate (edg n).length 0)=List.replicate (nodes n).length v:=by
 unfold stD;rw [rest_A h a b c hv];refine ext_at0 (movS_length ..) fun k hk=> ?_;rw [movS_length] at hk;rw [movS_at _ _ _ hk,net_zero _ _ fun p hp=>List.eq_of_mem_replicate (List.of_mem_zip hp).2,Int.add_zero]
theorem rest_run {n:Nat} (h:freq n) (a b c:Nat) {v:Int} (hv:0<=v/\v<=16777216): ∀k,runN n a b c k (List.replicate (nodes n).length v,List.replicate (edg n).length 0)=some (List.replicate (nodes n).length v,List.replicate (edg n).length 0)
 |0=>rfl
 |k+1=>by
  simp only [runN];have hb:stBad n a b c (List.replicate (nodes n).length v) (List.replicate (edg n).length 0)=false:=by
   unfold stBad;rw [rest_D h a b c hv];exact outB_f.2 (wid_rep hv)
  rw [hb,rest_D h a b c hv,rest_F h];simp only [Bool.false_eq_true,if_false];exact rest_run h a b c hv k
theorem rest_vst (n:Nat) {v:Int} (hv:0<=v/\v<=16777216):Vst n (List.replicate (nodes n).length v) (List.replicate (edg n).length 0):=⟨List.length_replicate ..,List.length_replicate ..,wid_rep hv,wid_rep (by omega)⟩
theorem runN_bad {n a b c j m:Nat} {s t:List Int×List Int} (h:runN n a b c j s=some t) (hb:stBad n a b c t.1 t.2=true) (hj:j<m):runN n a b c m s=none:=by
 obtain ⟨k,rfl⟩: ∃k,m=j+(k+1):=⟨m-j-1,by omega⟩;rw [runN_add,h];show runN n a b c (k+1) t=none;simp only [runN,hb,if_true]
theorem runN_ok {n a b c j:Nat} {s t:List Int×List Int} (h:runN n a b c j s=some t) (hb:stBad n a b c t.1 t.2=false):runN n a b c (j+1) s=some (stD n a b c t.1 t.2,stF n a b t.1 t.2):=by
 rw [runN_add,h];show runN n a b c 1 t=_;simp only [runN,hb];rfl
section
variable (fu d:Nat) (hf:18446744073709551616<=fu)
include hf
set_option maxHeartbeats 4000000 in
theorem sp_Run (n:Nat) (h:freq n) (dp fw:List Int) (hv:Vst n dp fw) (a b c:Nat) (ha:1<=a/\a<=4) (hb:1<=b/\b<=4) (hc:1<=c/\c<=4) (m:Nat) (hm:m<=400):
  cl fu (d+16) fn_model_Run [V.agg [C.v (.int .i64 (a:Int)),C.v (.int .i64 (b:Int)),C.v (.int .i64 (c:Int))],V.agg (stC n dp fw),I (m:Int)] []=runO n (runN n a b c m (dp,fw)):=by
 have hNl:=nodes_le h;have heL:=edg_le h;have hN0:0<(nodes n).length:=by rw [nodes_length h];omega
 have hE0:0<(edg n).length:=edg_pos h;have h1:=hv.dl;have h2:=hv.fl;have e1:=sp_CheckScheme fu (d+8) hf a b c ha hb hc;have e2:=sp_CheckS fu (d+4) hf n h dp fw h1 h2 hv.dw hv.fw;have k1:=sp_Clone fu (d+14) dp (by omega) (by omega);have k2:=sp_Clone fu (d+14) fw (by omega) (by omega);have hst:=fun (s:List Int×List Int) (hs:Vst n s.1 s.2)=>sp_Step fu d hf n h s.1 s.2 hs a b c ha hb hc;have htk1:List.take dp.length (ints dp)=ints dp:=List.take_of_length_le (by rw [ik_length];exact Nat.le_refl _);have htk2:List.take fw.length (ints fw)=ints fw:=List.take_of_length_le (by rw [ik_length];exact Nat.le_refl _);have ec:cl fu (d+15) fn_model_check [V.agg [C.v (.int .i64 (a:Int)),C.v (.int .i64 (b:Int)),C.v (.int .i64 (c:Int))],V.agg (stC n dp fw)] []=OK (I 0):=by
  unfold stC at*
  rw [eq_model_check];simp (disch:=omega) only [hdt_eq,QM,QD,e1,e2]
 unfold stpO at hst;unfold stC at*
 rw [eq_model_Run];simp (disch:=omega) only [hdt_eq,QM,QD,ec,k1,k2,out0,rP_ptr,ik_length,Nat.mul_one,Nat.zero_add,htk1,htk2];refine iter_bind_meas (A:=Int×Int×(Int×C×C×Unit)×(Int×C×C×Unit)×Unit) (B:=Out) (fu:=fu) (fun o=>o=runO n (runN n a b c m (dp,fw)))
  (fun y=> ∃(j:Nat) (s:List Int×List Int),j<=m/\Vst n s.1 s.2/\runN n a b c j (dp,fw)=some s/\y=(0,(j:Int),(0,C.nl,C.nl,()),((n:Int),C.sl s.1.length (ints s.1),C.sl s.2.length (ints s.2),()),())) (fun y=>m-y.2.1.toNat)
  (fun e z=>e=0/\(∃s:List Int×List Int,runN n a b c m (dp,fw)=some s/\z=(0,(m:Int),(0,C.nl,C.nl,()),((n:Int),C.sl s.1.length (ints s.1),C.sl s.2.length (ints s.2),()),()))\/e=1/\runN n a b c m (dp,fw)=none/\ ∃j:Int,z=(7,j,(0,C.nl,C.nl,()),(0,C.nl,C.nl,()),())) ?_ ?_ ?_ ?_
 ·exact ⟨0,(dp,fw),by omega,hv,rfl,rfl⟩
 ·show m-_<fu;omega
 ·rintro y ⟨j,s,hj,hs,hr,rfl⟩
  by_cases hlt:j<m
  ·have hst:=hst s hs;cases hbad:stBad n a b c s.1 s.2 with
   |true=>
    rw [hbad] at hst;refine .inr ⟨1,_, ?_, .inr ⟨rfl,runN_bad hr hbad hlt,(j:Int),rfl⟩⟩;simp (disch:=omega) only [hdt_eq,QM,QD,hst,List.length_cons,List.length_nil,Nat.zero_add,Nat.reduceAdd]
   |false=>
    rw [hbad] at hst;refine .inl ⟨_, ?_,⟨j+1,(stD n a b c s.1 s.2,stF n a b s.1 s.2),by omega,hs.step hbad,runN_ok hr hbad,rfl⟩, ?_⟩
    ·simp (disch:=omega) only [hdt_eq,QM,QD,hst,List.length_cons,List.length_nil,Nat.zero_add,Nat.reduceAdd];rfl
    ·show m-((j+1:Nat):Int).toNat<m-((j:Nat):Int).toNat;omega
  ·obtain rfl:j=m:=by omega
   refine .inr ⟨0,_, ?_, .inl ⟨rfl,s,hr,rfl⟩⟩;simp (disch:=omega) only [hdt_eq,QM,QD]
 ·rintro e z (⟨rfl,s,hr,rfl⟩|⟨rfl,hr,j,rfl⟩)
  ·rw [hr];unfold runO stC;simp (disch:=omega) only [hdt_eq,QM,QD]
  ·rw [hr];unfold runO;simp (disch:=omega) only [hdt_eq,QM,QD]
theorem sp_awake30:cl fu (d+17) fn_synopticlaw30_awake [] []=OK (B true):=by
 have h:freq 1:=by unfold freq;omega
 have hv0:(0:Int)<=500/\(500:Int)<=16777216:=by omega
 have e1:=sp_Rest fu (d+4) hf 1 h 500 hv0;have e2:=sp_Run fu d hf 1 h _ _ (rest_vst 1 hv0) 2 1 3 (by omega) (by omega) (by omega) 4 (by omega);rw [rest_run h 2 1 3 hv0] at e2;unfold runO at e2;have e3:=sp_Same29 fu (d+14) hf 1 1 _ _ _ _ (isL_sl (List.replicate (nodes 1).length 500)) (isL_sl (List.replicate (edg 1).length 0)) (isL_sl (List.replicate (nodes 1).length 500)) (isL_sl (List.replicate (edg 1).length 0)) (by rw [List.length_replicate];have:=nodes_le h;omega) (by rw [List.length_replicate];have:=edg_le h;omega) (by rw [List.length_replicate];have:=nodes_le h;omega) (by rw [List.length_replicate];have:=edg_le h;omega);rw [decide_eq_true (⟨rfl,rfl,rfl⟩:(1:Int)=1/\List.replicate (nodes 1).length (500:Int)=List.replicate (nodes 1).length 500/\List.replicate (edg 1).length (0:Int)=List.replicate (edg 1).length 0)] at e3;have hl:(List.replicate (nodes 1).length (500:Int)).length=12:=by rw [List.length_replicate,nodes_length h]
 unfold stC at*
 have hl':((((List.replicate (nodes 1).length (500:Int)).length:Nat):Int)==12)=true:=by rw [hl];rfl
 rw [Int.natCast_one] at e1 e2;replace e2:cl fu (d+16) fn_model_Run [V.agg [C.v (.int .i64 2),C.v (.int .i64 1),C.v (.int .i64 3)],V.agg [C.v (.int .i64 1),_,_],I 4] []=_:=e2;generalize List.replicate (nodes 1).length (500:Int)=dp at*
 generalize List.replicate (edg 1).length (0:Int)=fw at*
 rw [eq_synopticlaw30_awake];simp (disch:=omega) only [hdt_eq,QM,QD,e1,e2,e3,hl',List.length_cons,List.length_nil,Nat.zero_add,Nat.reduceAdd]
end
end Go.Proofs.YtoaanfjcjbghaaaGreatDoor
/- ModelConserves, ModelParts, ModelRests answer true. -/
namespace Go.Proofs.YtoaanfjcjbghaaaGreatDoor
open Go Go.PM Go.Grid
attribute [local congr] hd_bind hd_need hd_cond hd_unc hd_uncV hd_uncO hd_unI hd_asI hd_asB hd_asS hd_asSl hd_asFn hd_asP hd_rC hd_rA hd_rT hd_rG hd_rP hd_rO hd_rN hd_rF hd_rS hd_rW hd_nilV hd_natD hd_bd hd_iter hd_over hd_sliceC hd_asMp hd_asYF
section
variable (fu d:Nat) (hf:18446744073709551616<=fu)
theorem u8_mod (x:Int) (hx:0<=x/\x<=255) (n:Nat) (hn:1<=n/\n<=1000): ∃m:Nat,m<n/\Int.tmod (IntKind.i64.wrap x) (n:Int)=(m:Int):=by
 rw [wrap_in (by omega) (by omega),IntWalk.rem_in _ _ hx.1];have h1:0<=x%(n:Int):=Int.emod_nonneg _ (by omega);have h2:x%(n:Int)<n:=Int.emod_lt_of_pos _ (by omega);exact ⟨(x%(n:Int)).toNat,by omega,by omega⟩
include hf
end
end Go.Proofs.YtoaanfjcjbghaaaGreatDoor
