/- Parts put together: PQg, PQh, PQi, PQj, Ga, Gb, Et. -/
import Derived.Test.YtjmempcalaliiaaGreatDoorJ5
import Derived.Shelf.SlSortCmp.WholeK
import Derived.Shelf.SlSortCmp.NoneTotal
import Derived.Test.YtjmempcalaliiaaGreatDoorProg
import Derived.Shelf.SlicesQ.Reverse
import Derived.Shelf.SlSortFuncK.RowK2
import Derived.Lib.SlicesCompact
import Derived.Sort.WalkB12
set_option linter.unusedSimpArgs false
set_option linter.unusedVariables false
open Array renaming extract_size→Zy4
open Go.IntKind renaming i64→Zx2
open List renaming replicate→Zyx,range→Zyf,mem_map→Zyz,mem_flatMap→Zy0,getElem_toArray→Zy3
open Nat renaming beq→Zx3,add_mul→Zyk,mul_comm→Zyy,ble→Zx4,dvd_mul_left→Zy1,eq_zero_or_pos→Zy2,add_assoc→Zyi
namespace Go.PM
open Go Go.Sort Go.RowKit
def Ss (k n:Nat) (zs:List Int):Array (List Int):=((Zyf n).map λi=>(zs.drop (i*k)).take k).toArray
def encR (k:Nat) (x:List Int):List Value:=(Zyf k).map λi=> .int .i64 (x.getD i 0)
def celR (k:Nat) (x:List Int):List C:=(Zyf k).map λi=> .v (.int .i64 (x.getD i 0))
def R0 (k:Nat) (d:Array (List Int)):List Int:=(Zyf (d.size*k)).map λt=>(d[t/k]!).getD (t%k) 0
theorem Zb0 (k:Nat) (d:Array (List Int)):(R0 k d).length=d.size*k:=by simp[R0]
theorem Sz (k n:Nat) (zs:List Int):(Ss k n zs).size=n:=by simp[Ss]
theorem Zil (k:Nat) (d:Array (List Int)):flatK (encR k) k d=((R0 k d).map (Value.int .i64)).toArray:=by
 apply ext_get!
 ·simp[R0]
 ·intro t ht;have ht':t<d.size*k:=by simpa using ht
  have hk:0<k:=by
   rcases Zy2 k with h|h
   ·subst h;simp at ht'
   ·exact h
  rw[get_flatK _ _ _ t ht'];have hm:t%k<k:=Zxs _ hk;rw[getElem!_pos _ (t%k) (by simpa[encR]using hm),getElem!_pos _ t (by simpa[R0]using ht')];simp[encR,R0]
theorem Wo {k n:Nat} {zs:List Int} (h:zs.length=n*k):R0 k (Ss k n zs)=zs:=by
 apply Zwa
 ·simp[R0,Ss,h]
 ·intro t h1 h2;have hk:0<k:=by
   rcases Zy2 k with h'|h'
   ·subst h';simp at h;subst h;simp at h2
   ·exact h'
  have hm:t%k<k:=Zxs _ hk;have hd:t/k<n:=Nat.div_lt_of_lt_mul (by rw[Zxt];omega);have e:t/k*k+t%k=t:=Nat.div_add_mod' t k;simp only[R0,Zvn,Zxc,Ss];rw[getElem!_pos _ (t/k) (by simpa using hd)];simp only[Zy3,Zvn,Zxc,Ztj];rw[Ztm,if_pos hm,Ztr,e,Zs6 h2];rfl
def N2 (k:Nat) (cf:List Int->List Int->Int) (n:Nat) (zs:List Int):Array (List Int):=
 pdq (Go.Proofs.ltOf cf) (Ss k n zs) 0 (Ss k n zs).size (Lib.bitLen (Ss k n zs).size) true true
def sortFuncP (te:TypeId) (k:Nat) (fc:FuncId) (cf:List Int->List Int->Int) (args:List V) (objs:List Obj):Option Out:=
 match args,objs with
 | [.own s off n, .c (.fn f [])],[.sb t fz cs]=>(Tt cs).bind λzs=>need (Zx3 s OUT&&Zx3 off 0&&Zx3 f fc&&Zx3 t te&&Zx3 fz 0&&Zx3 zs.length (n*k)&&Zx4 n 4611686018427387903) (some ⟨.tup [],[.sb te 0 (ints (R0 k (N2 k cf n zs)))],none⟩)
 |_,_=>none
theorem Cw {k:Nat} {cf:List Int->List Int->Int} (hO:SWO (Go.Proofs.ltOf cf)) (n:Nat) (zs:List Int):
  PermIn 0 (Ss k n zs).size (Ss k n zs) (N2 k cf n zs)/\SortedIn (Go.Proofs.ltOf cf) 0 (Ss k n zs).size (N2 k cf n zs):=
 pdq_sorts (Go.Proofs.ltOf cf) hO (Ss k n zs) 0 (Ss k n zs).size (Lib.bitLen (Ss k n zs).size) true true (Zt4 _) (Ztf _) (Or.inl rfl)
theorem Zgx {k:Nat} {cf:List Int->List Int->Int} (hO:SWO (Go.Proofs.ltOf cf)) (n:Nat) (zs:List Int):(N2 k cf n zs).size=n:=by
 rw[(Cw hO n zs).1.1,Sz]
theorem Zei (cur:Array Value) (zs:List Int):putCells id 0 (zs.map (Value.int .i64)).toArray cur=putCells (Value.int .i64) 0 zs.toArray cur:=by
 apply Array.ext
 ·simp[putCells]
 ·intro i h1 h2;by_cases h:i<zs.length
  ·have h3:(zs.map (Value.int .i64)).toArray[i]! =Value.int .i64 zs.toArray[i]! :=by
    rw[getElem!_pos _ i (by simpa using h),getElem!_pos _ i (by simpa using h)];simp
   simp[putCells,h]
  ·simp[putCells,h]
theorem Wp (w:World) (g:Nat) (zs:List Int):putRow id w g 0 (zs.map (Value.int .i64)).toArray=putRow (Value.int .i64) w g 0 zs.toArray:=by
 unfold putRow;have e:(putCells id 0 (zs.map (Value.int .i64)).toArray)=putCells (Value.int .i64) 0 zs.toArray:=funext λcur=>Zei cur zs;rw[e]
theorem Zej {w:World} {g:Nat} {zs:List Int} (h:Holds (Value.int .i64) w g 0 zs.toArray):Holds id w g 0 (zs.map (Value.int .i64)).toArray:=by
 intro j hj;have hj':j<zs.length:=by simpa using hj
 have h1:=h j (by simpa using hj');rw[getElem!_pos _ j (by simpa using hj')]at h1⊢;simpa using h1
theorem Zb1 {P:Program} {G:Nat->Option (List C)} {f fc:FuncId} {te:TypeId} {n:Nat} {zs news:List Int} (hlen:news.length=zs.length) (hnz:n=0->zs=[])
  (hC: ∀(g cap:Nat) (w:World),Holds (Value.int .i64) w g 0 zs.toArray->g<w.heap.size->Calls P f #[.slice (some ⟨g,0,none⟩) n cap, .func (.func fc) #[] #[]] w λe w'=>e= .returned (.tuple #[])/\ ∃q os,w'=grow (putRow (Value.int .i64) (Sort.ahead w q) g 0 news.toArray) os)
  (hN: ∀(w:World),Calls P f #[.slice none 0 0, .func (.func fc) #[] #[]] w λe w'=>e= .returned (.tuple #[])/\w'=w):
  S8 P G f [.own OUT 0 n, .c (.fn fc [])] [.sb te 0 (ints zs)] ⟨.tup [],[.sb te 0 (ints news)],none⟩:=by
 intro pt E us j hlen' hD _ hG hargs;obtain⟨u,v,rfl⟩: ∃u v,us=[u,v]:=by
  match us,hlen' with
  | [u,v],_=>exact⟨u,v,rfl⟩
 have hu:=hargs 0 _ u rfl rfl;have hv:=hargs 1 _ v rfl rfl;obtain rfl:v= .func (.func fc) #[] #[]:=by
  cases hv with|c h=>
  cases h with|fn hs _=>
  rw[Zth hs]
 have hG':Good P (Yp pt E j) E (Zo [.sb te 0 (zs.map λi=>C.v (.int .i64 i))] none) (λ_=>False):=hG;have hu':RV P E (Zo [.sb te 0 (ints zs)] none) (.own OUT 0 n) u:=hu;have hl:(Zo [.sb te 0 (ints zs)] none) OUT= .sb te 0 (ints zs):=by rw[Uo,if_pos rfl]
 generalize hz:n=n0 at hu';cases hu' with
 |ownDead h=>rw[hl]at h;cases h
 |ownMx h=>rw[hl]at h;cases h
 |own0 _ _ h=>exact absurd rfl h
 |ownNil h1 h2=>
  have hz0:zs=[]:=hnz hz;subst hz0;have hn0:news=[]:=Zth (by simpa using hlen);subst hn0;refine(hN E.w).mono λe w' ⟨he,hw⟩=> ?_;subst hw;exact⟨_,E,he,rfl,hG', .tup rfl (λi x u h=>by cases h),λk _ g hg=> .inr ⟨hg,rfl⟩⟩
 | @own _ _ _ g cap t fz cs h1 h2 h3 h4 h5=>
  subst hz;obtain⟨k1,k2⟩:=holds_of (enc:=Value.int .i64) Zbz hG' h1;refine(hC g cap E.w k1 k2).mono λe w' ⟨he,q,os,hw⟩=> ?_;subst hw;obtain⟨g1,_⟩:=Ju (m:=0) Zby hG' hlen (Zt4 _) h1 q os;exact⟨_,_,he,rfl,g1, .tup rfl (λi x u h=>by cases h),λk _ g hg=> .inr ⟨hg,rfl⟩⟩
theorem sortFuncP_ok {P:Program} {G:Nat->Option (List C)} {f fc:FuncId} {te:TypeId} {k:Nat} {cf:List Int->List Int->Int} {args:List V} {objs:List Obj} {out:Out} (hO:SWO (Go.Proofs.ltOf cf))
  (hC: ∀(g cap:Nat) (d:Array (List Int)) (w:World),HoldsK (encR k) k w g 0 d->g<w.heap.size->d.size<4611686018427387904->
   Calls P f #[.slice (some ⟨g,0,none⟩) d.size cap, .func (.func fc) #[] #[]] w λe w'=>e= .returned (.tuple #[])/\ ∃q os,w'=Go.Proofs.sortWorldK (encR k) k w g 0 q (pdq (Go.Proofs.ltOf cf) d 0 d.size (Lib.bitLen d.size) true true) os)
  (hN: ∀(w:World),Calls P f #[.slice none 0 0, .func (.func fc) #[] #[]] w λe w'=>e= .returned (.tuple #[])/\w'=w)
  (h:sortFuncP te k fc cf args objs=some out):S8 P G f args objs out:=by
 unfold sortFuncP at h;split at h
 case h_2=>cases h
 case h_1 s off n f' t fz cs=>
  obtain⟨zs,h1,h2⟩:=Ztd.1 h;obtain⟨hb,h3⟩:=Zb h2;cases h3;simp only[Zs1]at hb;obtain⟨⟨⟨⟨⟨⟨e1,e2⟩,e3⟩,e4⟩,e5⟩,e6⟩,e7⟩:=hb;have e1:=Zs0 e1;have e2:=Zs0 e2;have e3:=Zs0 e3;have e4:=Zs0 e4;have e5:=Zs0 e5;have e6:=Zs0 e6;have e7:=Zs5 e7;subst e1 e2 e3 e4 e5;rw[Pv h1];have hsz:=Zgx (k:=k) hO n zs;refine Zb1 (by rw[Zb0,hsz,e6]) (λe=>Zth (by rw[e6,e,Zub])) (λg cap w k1 k2=> ?_) hN;have hH:HoldsK (encR k) k w g 0 (Ss k n zs):=by
   show Holds id w g 0 (flatK (encR k) k (Ss k n zs));rw[Zil,Wo e6];exact Zej k1
  have key:=hC g cap (Ss k n zs) w hH k2 (by rw[Sz];omega);have e8:(Ss k n zs).size=n:=Sz _ _ _;have key2:Calls P f #[.slice (some ⟨g,0,none⟩) n cap, .func (.func f') #[] #[]] w λe w'=>e= .returned (.tuple #[])/\ ∃q os,w'=Go.Proofs.sortWorldK (encR k) k w g 0 q (N2 k cf n zs) os:=by
   have:=key;rw[show Value.slice (some ⟨g,0,none⟩) (Ss k n zs).size cap=Value.slice (some ⟨g,0,none⟩) n cap by rw[e8]]at this;exact this
  refine key2.mono λe w' ⟨he,q,os,hw⟩=>⟨he,q,os, ?_⟩;rw[hw];unfold Go.Proofs.sortWorldK putRowK;rw[Zil,Wp]
theorem grown_of {W w':World} (h:Below W.heap.size W w') (hd:W.drawn<=w'.drawn): ∃q os',w'=grow (W.drewN q) os':=by
 refine⟨w'.drawn-W.drawn,w'.heap.extract W.heap.size w'.heap.size, ?_⟩;have hh:w'.heap=W.heap++w'.heap.extract W.heap.size w'.heap.size:=by
  apply Array.ext
  ·have:=h.size;simp;omega
  ·intro i h1 h2;by_cases hi:i<W.heap.size
   ·have:=h.block i hi;rw[Zts h1,Zts hi]at this;rw[Array.getElem_append_left hi];exact Option.some.inj this
   ·rw[Array.getElem_append_right (by omega)];simp only[Array.getElem_extract]
    congr 1
    omega
 have h1:=h.os;have h2:=h.tape;have h3:=h.output;cases w' with
 |mk heap tape drawn os output=>
  cases W with
  |mk heap' tape' drawn' os' output'=>
   simp only at h1 h2 h3 hd hh;subst h1 h2 h3;show _=({heap:=heap'++_,tape:=_,drawn:=drawn'+(drawn-drawn'),os:=_,output:=_}:World);have e:drawn'+(drawn-drawn')=drawn:=by omega
   rw[e]
   congr 1
abbrev noPrims:Prims:={fn:=λ_=>none,iter:=λ_ _ _=>none}
theorem cmpLays_of {P:Program} {laid:FuncId->Laid} {fu d:Nat} {fc:FuncId} {k:Nat} {cf:List Int->List Int->Int} (hm:P.follows .mixedOrders=true)
  (h: ∀x y:List Int,callN P noPrims laid fu d fc [.agg (celR k x), .agg (celR k y)] []=some ⟨I (cf x y),[],none⟩) (blk off size:Nat) (w:World):Go.Proofs.CmpLays P fc #[] (encR k) k cf blk off size w:=by
 intro m os dk _ x y;have hrc: ∀(W:World) (Pr:Nat->Nat->Prop) (x:List Int),RCs W Pr (celR k x) (encR k x):=by
  intro W Pr x;refine⟨by simp[celR,encR],λj c u hc hu=> ?_⟩;unfold celR at hc;unfold encR at hu;rw[Ztg]at hc hu;cases hj:(Zyf k)[j]? with
  |none=>rw[hj]at hc;cases hc
  |some i=>rw[hj]at hc hu;cases hc;cases hu;exact .v rfl
 have key:=Zrh (P:=P) (prim:=noPrims) (laid:=laid) (fu:=fu) (d:=d) ⟨λf g args objs out e _=>(by cases e),λf e=>(by cases e)⟩ (λd f caps xs e=>by cases e) hm (h x y) rfl (Go.Proofs.sortWorldK (encR k) k w blk off m dk os) (λg cs e=>by cases e)
  [.agg (encR k x).toArray, .agg (encR k y).toArray] rfl (λi z u hz hu=>by
   match i,hz,hu with
   |0,hz,hu=>cases hz;cases hu;exact .agg (hrc _ _ x)
   |1,hz,hu=>cases hz;cases hu;exact .agg (hrc _ _ y)
   |i+2,hz,hu=>cases hz)
 refine key.mono λe w' ⟨u,E',he,hb,hd,_,hr⟩=> ?_;have:=hr.scalar;subst this;exact⟨he,grown_of hb hd⟩
theorem Zb2 {α β:Type} {g:α->β}: ∀{p q:List β},p.Perm q-> ∀l:List α,q=l.map g-> ∃l':List α,l'.Perm l/\p=l'.map g:=by
 intro p q h
 induction h with
 |nil=>intro l e;exact⟨l, .refl _,e⟩
 | @cons x p q _ ih=>
  intro l e;cases l with
  |nil=>cases e
  |cons a l=>
   simp only[Zua,List.cons.injEq]at e;obtain⟨l',h1,h2⟩:=ih l e.2;exact⟨a::l',h1.cons a,by rw[h2,e.1];rfl⟩
 |swap x y p=>
  intro l e
  match l,e with
  |a::b::l,e=>
   simp only[Zua,List.cons.injEq]at e;exact⟨b::a::l, .swap a b l,by rw[e.1,e.2.1,e.2.2];rfl⟩
  | [],e=>cases e
  | [a],e=>simp at e
 |trans _ _ ih1 ih2=>
  intro l e;obtain⟨l1,h1,h2⟩:=ih2 l e;obtain⟨l2,h3,h4⟩:=ih1 l1 h2;exact⟨l2,h3.trans h1,h4⟩
theorem Jv {A:Type} {k:Nat} {g:A->List Int} (hg: ∀x,(g x).length=k) (l:List A):Ss k l.length (l.flatMap g)=(l.map g).toArray:=by
 unfold Ss
 congr 1
 apply Zwa
 ·simp
 ·intro i h1 h2;have hi:i<l.length:=by simpa using h1
  simp only[Zvn,Zxc];have hd: ∀(i:Nat) (l:List A),(l.flatMap g).drop (i*k)=(l.drop i).flatMap g:=by
   intro i
   induction i with
   |zero=>intro l;simp
   |succ i ih=>
    intro l;cases l with
    |nil=>simp
    |cons a l=>
     rw[Zuq,Zt9,Zvt,Zxq,Zvm (by rw[hg];omega),hg,Zvw,Zt3,ih l];rfl
  rw[hd,Ztz hi,Zuq,Zvv,hg,Zv8,Zuy,Zvc,Ztc (by rw[hg];exact Ztf _)]
theorem Zkp {A:Type} {k:Nat} {g:A->List Int} (hg: ∀x,(g x).length=k) (l:List A):R0 k (l.map g).toArray=l.flatMap g:=by
 rw[<-Jv hg l];refine Wo ?_
 induction l with
 |nil=>simp
 |cons a l ih=>rw[Zuq,Ztb,ih,hg,Zs3,Zt9];omega
theorem Cx {A:Type} {k:Nat} {g:A->List Int} (hg: ∀x,(g x).length=k) {cf:List Int->List Int->Int} (hO:SWO (Go.Proofs.ltOf cf)) (l:List A):
  ∃l':List A,l'.Perm l/\l'.Pairwise (λa b=> ¬cf (g b) (g a)<0)/\R0 k (N2 k cf l.length (l.flatMap g))=l'.flatMap g:=by
 obtain⟨⟨h1,_,h2⟩,h3⟩:=Cw (k:=k) hO l.length (l.flatMap g);rw[Sz]at h2 h3;rw[Sz]at h1;have e1:((N2 k cf l.length (l.flatMap g)).extract 0 l.length)=N2 k cf l.length (l.flatMap g):=by
  have e:=Zy4 (xs:=N2 k cf l.length (l.flatMap g));rw[h1]at e;exact e
 have e2:((Ss k l.length (l.flatMap g)).extract 0 l.length)=Ss k l.length (l.flatMap g):=by
  have:=Sz k l.length (l.flatMap g);have e:=Zy4 (xs:=Ss k l.length (l.flatMap g));rw[this]at e;exact e
 rw[e1,e2,Jv hg]at h2;obtain⟨l',h4,h5⟩:=Zb2 h2 l rfl;have e3:N2 k cf l.length (l.flatMap g)=(l'.map g).toArray:=by
  rw[<-h5]
 refine⟨l',h4, ?_,by rw[e3,Zkp hg]⟩;rw[Zwc];intro i j hi hj hij;have h6:=h3 i j (Zt4 _) hij (by rw[<-h4.length_eq];exact hj);rw[e3,getElem!_pos _ i (by simpa using hi),getElem!_pos _ j (by simpa using hj)]at h6;simp only[Zy3,Zvn,Go.Proofs.ltOf,decide_eq_false_iff_not]at h6;exact h6
def cmpZ (a b:Int):Int:=if a<b then -1 else if b<a then 1 else 0
def lexZ:List Nat->List Int->List Int->Int
 | [],_,_=>0
 |i::is,x,y=>if cmpZ (x.getD i 0) (y.getD i 0)=0 then lexZ is x y else cmpZ (x.getD i 0) (y.getD i 0)
theorem cmpZ_cases (a b:Int):cmpZ a b= -1/\a<b\/cmpZ a b=0/\a=b\/cmpZ a b=1/\b<a:=by
 unfold cmpZ;by_cases h:a<b
 ·rw[if_pos h];exact .inl ⟨rfl,h⟩
 ·rw[if_neg h];by_cases h2:b<a
  ·rw[if_pos h2];exact .inr (.inr ⟨rfl,h2⟩)
  ·rw[if_neg h2];exact .inr (.inl ⟨rfl,by omega⟩)
theorem Se {i:Nat} {is:List Nat} {x y:List Int}:lexZ (i::is) x y<0↔x.getD i 0<y.getD i 0\/x.getD i 0=y.getD i 0/\lexZ is x y<0:=by
 show(if cmpZ (x.getD i 0) (y.getD i 0)=0 then lexZ is x y else cmpZ (x.getD i 0) (y.getD i 0))<0↔_;rcases cmpZ_cases (x.getD i 0) (y.getD i 0)with⟨h,h2⟩|⟨h,h2⟩|⟨h,h2⟩
 ·rw[h,if_neg (by omega)];omega
 ·rw[h,if_pos rfl];omega
 ·rw[h,if_neg (by omega)];omega
theorem lexZ_swo (is:List Nat):SWO (Go.Proofs.ltOf (lexZ is)):=by
 have key: ∀is:List Nat,(∀x,¬lexZ is x x<0)/\(∀x y z,lexZ is x y<0->lexZ is y z<0->lexZ is x z<0)/\(∀x y z,¬lexZ is x y<0-> ¬lexZ is y z<0-> ¬lexZ is x z<0):=by
  intro is
  induction is with
  |nil=>exact⟨λx h=>by simp[lexZ]at h,λx y z h=>by simp[lexZ]at h,λx y z _ _ h=>by simp[lexZ]at h⟩
  |cons i is ih=>
   obtain⟨a,b,c⟩:=ih;refine⟨λx h=> ?_,λx y z h1 h2=> ?_,λx y z h1 h2 h3=> ?_⟩
   ·rw[Se]at h;have:=a x;omega
   ·rw[Se]at h1 h2⊢;have:=b x y z;omega
   ·rw[Se]at h1 h2 h3;have:=c x y z;omega
 obtain⟨a,b,c⟩:=key is;exact⟨λx=>decide_eq_false (a x),λx y z h1 h2=>decide_eq_true (b x y z (of_decide_eq_true h1) (of_decide_eq_true h2)),λx y z h1 h2=>decide_eq_false (c x y z (of_decide_eq_false h1) (of_decide_eq_false h2))⟩
end Go.PM
namespace Go.Proofs.YtjmempcalaliiaaGreatDoor
open Go Go.PM Go.Shelf Go.RowKit Go.Lib Go.Sort
set_option maxRecDepth 100000
abbrev Ed:=Int×Int
def Ta (x:Ed):List Value:=[.int .i64 x.1, .int .i64 x.2]
theorem Zek (x:Ed):(Ta x).length=2:=rfl
theorem Znp (x:Ed): ∀v∈Ta x,v.oneCell'=true:=by
 intro v hv;simp only[Ta,Ztl,Zvo,or_false]at hv;rcases hv with rfl|rfl<;>rfl
theorem Wq (d:Array Ed) (k:Nat) (x:Ed) (hk:k<d.size):setMany (flatK Ta 2 d) (k*2) (Ta x)=flatK Ta 2 (d.setIfInBounds k x):=by
 apply ext_get!
 ·simp
 ·intro t ht;have ht':t<d.size*2:=by simpa using ht
  rw[get_setMany _ _ _ t (by simpa using ht'),get_flatK _ _ _ t ht',get_flatK _ _ _ t (by simpa using ht')];have hl:(Ta x).length=2:=rfl;rw[hl];by_cases h:k*2<=t/\t<k*2+2
  ·rw[if_pos h];have e1:t/2=k:=by omega
   have e2:t%2=t-k*2:=by omega
   rw[e1,e2,getElem!_set_same d k x hk]
  ·rw[if_neg h,getElem!_set_other d k (t/2) x (by omega)]
theorem Fh: ∀(a b:List Value) (s:Nat) (F:Array Value),setMany F s (a++b)=setMany (setMany F s a) (s+a.length) b
 | [],b,s,F=>by simp[setMany]
 |v::a,b,s,F=>by
  rw[Zt1,setMany,Fh a b (s+1),setMany,Zs3]
  congr 1;omega
theorem Wr: ∀(xs:List Ed) (d:Array Ed) (k:Nat),k+xs.length<=d.size->setMany (flatK Ta 2 d) (k*2) (xs.flatMap Ta)=flatK Ta 2 (lay d k xs)
 | [],d,k,_=>rfl
 |x::xs,d,k,h=>by
  simp only[Zs3]at h;rw[Zuq,Fh,Wq d k x (by omega),lay,show k*2+(Ta x).length=(k+1)*2 by simp[Ta];omega];exact Wr xs _ (k+1) (by simp;omega)
theorem Zsc (n:Nat):(Zyx n ((0,0):Ed)).flatMap Ta=Zyx (n*2) (Value.int .i64 0):=by
 induction n with
 |zero=>rfl
 |succ n ih=>rw[Zvi,Zuq,ih,Zt9,Zvi,Zvi];rfl
theorem Znq:Tryz.prog.follows .mixedOrders=true:=by kernel_rfl
theorem rcsE (w:World) (x:Ed):PM.RCs w (λ_ _=>False) [.v (.int .i64 x.1), .v (.int .i64 x.2)] (Ta x):=by
 refine⟨rfl,λj c u hc hu=> ?_⟩
 match j,hc,hu with
 |0,hc,hu=>cases hc;cases hu;exact .v rfl
 |1,hc,hu=>cases hc;cases hu;exact .v rfl
 |j+2,hc,hu=>cases hc
theorem eqE (x y:Ed):eqT Tryz.prog 20 83 [.v (.int .i64 x.1), .v (.int .i64 x.2)] [.v (.int .i64 y.1), .v (.int .i64 y.2)]=some (decide (x=y)):=by
 have h:eqT Tryz.prog 20 83 [.v (.int .i64 x.1), .v (.int .i64 x.2)] [.v (.int .i64 y.1), .v (.int .i64 y.2)]=some ((x.1==y.1)&&((x.2==y.2)&&true)):=by kernel_rfl
 rw[h]
 congr 1
 rw[Zu0];obtain⟨a,b⟩:=x;obtain⟨c,d⟩:=y;simp
theorem Znr {x:Ed} {a:Value} (h:Gr Tryz.prog 83 (Ta x) a):a= .agg (Ta x).toArray:=by
 rcases h with⟨_,rfl⟩|⟨ha,_⟩
 ·rfl
 ·rw[show Xi Tryz.prog 83=true by kernel_rfl]at ha;cases ha
theorem runE (x y:Ed) (w:World):(Op.equalIn 10000 83 (.agg (Ta x).toArray) (.agg (Ta y).toArray)).run Tryz.prog w= .ok (decide (x=y)) w:=by
 obtain⟨_,a,a',ha,ha',hr⟩:=Ho (P:=Tryz.prog) w 20 83 _ _ _ _ (rcsE w x) (rcsE w y) _ (eqE x y) 10000 (by omega);rw[Znr ha,Znr ha']at hr;exact hr
theorem eqlE (x y:Ed) (w:World):Sem.run Tryz.prog (binOp .eql 83 (.agg (Ta x).toArray) (.agg (Ta y).toArray)) w= .ok (.bool (decide (x=y))) w:=by
 rw[run_eql_struct,runE];rfl
theorem neqE (x y:Ed) (w:World):Sem.run Tryz.prog (binOp .neq 83 (.agg (Ta x).toArray) (.agg (Ta y).toArray)) w= .ok (.bool (!decide (x=y))) w:=by
 rw[run_neq_struct,runE];rfl
theorem Zsd (op:BinOp) (a b:Operand) (x y:Ed) (w:World):Sem.run Tryz.prog (eqGuard op 83 a b (.agg (Ta x).toArray) (.agg (Ta y).toArray)) w= .ok () w:=
 run_eqGuard_agg w op 83 a b _ _ (by kernel_rfl)
theorem Zse (w:World) (ty:TypeId) (b o n c:Nat) (hn:0<n) (hc: ∀j,j<n*2->(w.cell? ⟨b,o+j,none⟩).isSome=true) (hf: ∀j,j<n*2->w.frozen? ⟨b,o+j,none⟩=false):
  (Builtin.clear_ #[76] ty #[.slice (some ⟨b,o,none⟩) n c]).run Tryz.prog w= .ok (.tuple #[]) (w.setCells b o (Zyx (n*2) (.int .i64 0))):=by
 have hzc:(Builtin.zeroCells (Value.agg #[.int .i64 0, .int .i64 0]).cells n).toList=Zyx (n*2) (.int .i64 0):=by
  simp only[Value.cells,Builtin.zeroCells];apply Zwa
  ·simp
  ·intro i h1 h2;have h3:i%2<2:=Zxs _ (by decide);have:i%2=0\/i%2=1:=by omega
   rcases this with e|e<;>simp[e]
 have hst:=run_storeCells_cells (P:=Tryz.prog) b o (Zyx (n*2) (.int .i64 0)) 0 w (by simpa using hc) (by simpa using hf) (by intro v hv';rw[Zwe hv'];rfl);simp only[Zug]at hst;obtain⟨m,rfl⟩: ∃m,n=m+1:=⟨n-1,by omega⟩;simp[Builtin.clear_,run_underlying Tryz.underlying76,Tryz.zeroValue83,hzc,hst]
set_option maxHeartbeats 4000000 in
theorem Zel {P:Program} (F:P.funcs[111]? =some Tryz.f111) (mixed:P.follows .mixedOrders=true)
  (t0:P.underlying 0=some (.tuple #[])) (a0: ∀w,(isAgg 0).run P w= .ok false w) (z0: ∀w,(Go.sizeOf 0).run P w= .ok 1 w) (v0: ∀w,(zeroValue 0).run P w= .ok (.tuple #[]) w)
  (t3:P.underlying 3=some (.int .i64)) (a3: ∀w,(isAgg 3).run P w= .ok false w) (z3: ∀w,(Go.sizeOf 3).run P w= .ok 1 w) (v3: ∀w,(zeroValue 3).run P w= .ok (.int .i64 0) w)
  (t4:P.underlying 4=some .bool) (a4: ∀w,(isAgg 4).run P w= .ok false w) (z4: ∀w,(Go.sizeOf 4).run P w= .ok 1 w) (v4: ∀w,(zeroValue 4).run P w= .ok (.bool false) w)
  (t22:P.underlying 76=some (.slice 83)) (a22: ∀w,(isAgg 76).run P w= .ok false w) (z22: ∀w,(Go.sizeOf 76).run P w= .ok 1 w) (v22: ∀w,(zeroValue 76).run P w= .ok (.slice none 0 0) w)
  (k:Nat) (aE: ∀w,(isAgg 83).run P w= .ok true w) (zE: ∀w,(Go.sizeOf 83).run P w= .ok k w)
  (enc:Ed->List Value) (hk: ∀x,(enc x).length=k) (h1: ∀x,∀v∈enc x,v.oneCell'=true)
  (heq': ∀(x y:Ed) (w:World),Sem.run P (binOp .eql 83 (.agg (enc x).toArray) (.agg (enc y).toArray)) w= .ok (.bool (decide (x=y))) w)
  (hne': ∀(x y:Ed) (w:World),Sem.run P (binOp .neq 83 (.agg (enc x).toArray) (.agg (enc y).toArray)) w= .ok (.bool (!decide (x=y))) w)
  (hgd': ∀(op:BinOp) (a b:Operand) (x y:Ed) (w:World),Sem.run P (eqGuard op 83 a b (.agg (enc x).toArray) (.agg (enc y).toArray)) w= .ok () w)
  (hset: ∀(dk:Array Ed) (i:Nat) (x:Ed),i<dk.size->setMany (flatK enc k dk) (i*k) (enc x)=flatK enc k (dk.setIfInBounds i x))
  (zs:Nat->List Value) (hclr: ∀(W:World) (ty:TypeId) (b o n c:Nat),0<n->(∀j,j<n*k->(W.cell? ⟨b,o+j,none⟩).isSome=true)->(∀j,j<n*k->W.frozen? ⟨b,o+j,none⟩=false)->(Builtin.clear_ #[76] ty #[.slice (some ⟨b,o,none⟩) n c]).run P W= .ok (.tuple #[]) (W.setCells b o (zs n)))
  (hzs: ∀(n:Nat),(zs n).length=n*k) (hlay: ∀(dk:Array Ed) (i n:Nat),i+n<=dk.size->setMany (flatK enc k dk) (i*k) (zs n)=flatK enc k (lay dk i (Zyx n (0,0))))
  (blk off cap:Nat) (d:Array Ed) (w:World) (hH:HoldsK enc k w blk off d) (hsz:d.size<=9223372036854775807) (hcap:d.size<=cap):
  Calls P 111 #[.slice (some ⟨blk,off,none⟩) d.size cap] w λe w'=>e= .returned (.slice (some ⟨blk,off,none⟩) (compactUpTo d d.size).length cap)/\ ∃q,w'=putRowK enc k (Sort.ahead w q) blk off (compactUpTo d d.size++Zyx (d.size-(compactUpTo d d.size).length) (0,0)).toArray:=by
 have same: ∀q,(∀j,j<d.size->keeps d j=true)->(compactUpTo d d.size).length=d.size/\w.drewN q=putRowK enc k (Sort.ahead w q) blk off (compactUpTo d d.size++Zyx (d.size-(compactUpTo d d.size).length) (0,0)).toArray:=by
  intro q hall;have e:compactUpTo d d.size=d.toList:=by rw[compactUpTo_all d _ hall,range_map_get]
  rw[e];refine⟨by simp, ?_⟩;simp only[Array.length_toList,Zv8,List.replicate_zero,Zvc,Array.toArray_toList];exact(putRowK_self enc k (Sort.ahead w q) blk off d (holdsK_ahead enc k w q blk off d hH)).symm
 have HS:Aside (∀q,(∀j,j<d.size->keeps d j=true)->(compactUpTo d d.size).length=d.size/\w.drewN q=putRowK enc k (Sort.ahead w q) blk off (compactUpTo d d.size++Zyx (d.size-(compactUpTo d d.size).length) (0,0)).toArray):=same;clear same;have HH:Aside (HoldsK enc k w blk off d):=hH;have HSET:Aside (∀(dk:Array Ed) (i:Nat) (x:Ed),i<dk.size->setMany (flatK enc k dk) (i*k) (enc x)=flatK enc k (dk.setIfInBounds i x)):=hset;have HCLR:Aside (∀(W:World) (ty:TypeId) (b o n c:Nat),0<n->(∀j,j<n*k->(W.cell? ⟨b,o+j,none⟩).isSome=true)->(∀j,j<n*k->W.frozen? ⟨b,o+j,none⟩=false)->(Builtin.clear_ #[76] ty #[.slice (some ⟨b,o,none⟩) n c]).run P W= .ok (.tuple #[]) (W.setCells b o (zs n))):=hclr;have HZS:Aside (∀(n:Nat),(zs n).length=n*k):=hzs;have HLAY:Aside (∀(dk:Array Ed) (i n:Nat),i+n<=dk.size->setMany (flatK enc k dk) (i*k) (zs n)=flatK enc k (lay dk i (Zyx n (0,0)))):=hlay;have HKK:Aside (∀x,(enc x).length=k):=hk;have H1:Aside (∀x,∀v∈enc x,v.oneCell'=true):=h1;clear hH hset hclr hzs hlay;by_cases h2:d.size<2
 ·clear hk h1
  go_enter F,Tryz.ntmps111
  go_wp2
  go_ret
  obtain⟨e1,e2⟩:=HS.out 0 (λj hj=>keeps_lt_one d j (by omega));exact⟨by rw[e1];rfl,0,e2⟩
 ·clear hk h1
  go_enter F,Tryz.ntmps111
  go_wp2
  go_loopg [3] d.size (λg s3 wr=> ∃i q:Nat,1<=i/\i<=d.size/\d.size-i<=g/\s3= .int .i64 i/\wr=w.drewN q/\Aside (∀j,j<i->keeps d j=true))
  case atStart=>exact⟨1,0,Ztf _,by omega,by omega,rfl,rfl,keeps_lt_one d⟩
  case round=>
   obtain⟨i,q,hi1,hi,hg,rfl,rfl,A⟩:=hrel;by_cases hlt:i<d.size
   ·obtain⟨ip,rfl⟩: ∃ip,i=ip+1:=⟨i-1,by omega⟩;have hwp:Zx2.wrap (ip:Int)=(ip:Int):=by rw[IntKind.wrap_i64];omega
    have jz:(ip:Int)+1<(d.size:Int):=by omega
    have jz1:(ip:Int)<(d.size:Int):=by omega
    have p0:(0:Int)<=(ip:Int)+1:=by omega
    have e0:((ip:Int)+1).toNat=ip+1:=by omega
    have l1: ∀m,Sem.run P (loadCellsFrom ⟨blk,off+(ip+1)*k,none⟩ 0 k #[]) ((w.drewN q).drewN m)= .ok (enc d[ip+1]!).toArray ((w.drewN q).drewN m):=λm=>run_loadCellsFrom_list P _ _ _ k (HKK.out _) (HoldsK.cells (holdsK_ahead enc k w (q+m) blk off d HH.out) HKK.out hlt);have l0: ∀m,Sem.run P (loadCellsFrom ⟨blk,off+ip*k,none⟩ 0 k #[]) ((w.drewN q).drewN m)= .ok (enc d[ip]!).toArray ((w.drewN q).drewN m):=λm=>run_loadCellsFrom_list P _ _ _ k (HKK.out _) (HoldsK.cells (holdsK_ahead enc k w (q+m) blk off d HH.out) HKK.out (by omega));generalize hx:d[ip+1]! =x at l1;generalize hy:d[ip]! =y at l0;have B:Aside (d[ip+1]! =x/\d[ip]! =y):=⟨hx,hy⟩;clear hx hy;generalize hwq:w.drewN q=wq at l1 l0⊢;have WQ:Aside (∀n,wq.drewN n=putRowK enc k (Sort.ahead w (q+n)) blk off d):=λn=>by
     rw[<-hwq,World.drewN_drewN];exact(putRowK_self enc k (Sort.ahead w (q+n)) blk off d (holdsK_ahead enc k w (q+n) blk off d HH.out)).symm
    have WQ2:Aside (∀n,wq.drewN n=w.drewN (q+n)):=λn=>by rw[<-hwq,World.drewN_drewN]
    clear hwq;by_cases hdup:x=y
    ·subst hdup
     go_wp2_with fail
     go_quiet_o (fail)
     go_wp2
     clear l0 l1
     go_loopg [3,5] d.size (λg s3 s5 wr=> ∃(kk k2 q2:Nat) (dk:Array Ed),s3= .int .i64 kk/\s5= .int .i64 k2/\1<=k2/\ip+1+k2<=d.size/\d.size-(ip+1+k2)<=g/\Aside (wr=putRowK enc k (Sort.ahead w q2) blk off dk)/\Aside (CompInv d (ip+1+k2) kk dk))
     case atStart=>exact⟨ip+1,1,q+nq,d,rfl,rfl,Ztf _,by omega,by omega,WQ.out nq,CompInv.start A.out (keeps_neg (by omega) (by rw[show ip+1-1=ip from rfl,B.out.1,B.out.2]))⟩
     case round=>
      obtain⟨kk,k2,q2,dk,rfl,rfl,h3,hle,hg2,W2,I2⟩:=hrel;have hkk:=I2.out.lt;have hds:=I2.out.size;have hHk: ∀m,HoldsK enc k (wr.drewN m) blk off dk:=λm=>by
       rw[W2.out];exact holdsK_putRowK enc k (Sort.ahead w (q2+m)) blk off d dk (holdsK_ahead enc k w (q2+m) blk off d HH.out) hds
      by_cases hlt2:ip+1+k2<d.size
      ·obtain⟨kp,rfl⟩: ∃kp,k2=kp+1:=⟨k2-1,by omega⟩;have hwk:Zx2.wrap (kp:Int)=(kp:Int):=by rw[IntKind.wrap_i64];omega
       have kz:(kp:Int)+1<((d.size-(ip+1):Nat):Int):=by omega
       have kz1:(kp:Int)<((d.size-(ip+1):Nat):Int):=by omega
       have kp0:(0:Int)<=(kp:Int)+1:=by omega
       have ke0:((kp:Int)+1).toNat=kp+1:=by omega
       have bnd:kk*k+k<=dk.size*k:=by
        have:=Zup k (show kk+1<=dk.size by omega);rwa [Zyk,Zvx]at this
       have lm: ∀m,Sem.run P (loadCellsFrom ⟨blk,off+(ip+1)*k+(kp+1)*k,none⟩ 0 k #[]) (wr.drewN m)= .ok (enc d[ip+1+(kp+1)]!).toArray (wr.drewN m):=λm=>by
        rw[<-I2.out.high (ip+1+(kp+1)) (by omega),show off+(ip+1)*k+(kp+1)*k=off+(ip+1+(kp+1))*k by rw[Zyk (ip+1) (kp+1)];omega];exact run_loadCellsFrom_list P _ _ _ k (HKK.out _) (HoldsK.cells (hHk m) HKK.out (by omega))
       have lp: ∀m,Sem.run P (loadCellsFrom ⟨blk,off+(ip+1)*k+kp*k,none⟩ 0 k #[]) (wr.drewN m)= .ok (enc d[ip+1+kp]!).toArray (wr.drewN m):=λm=>by
        rw[<-I2.out.high (ip+1+kp) (by omega),show off+(ip+1)*k+kp*k=off+(ip+1+kp)*k by rw[Zyk (ip+1) kp];omega];exact run_loadCellsFrom_list P _ _ _ k (HKK.out _) (HoldsK.cells (hHk m) HKK.out (by omega))
       have st: ∀m,Sem.run P (storeCells ⟨blk,off+kk*k,none⟩ (enc d[ip+1+(kp+1)]!) 0) (wr.drewN m)= .ok () ((wr.drewN m).setCells blk (off+kk*k) (enc d[ip+1+(kp+1)]!)):=λm=>
        stores_of_holds P (hHk m) (kk*k) _ (by rw[HKK.out,size_flatK];exact bnd) (H1.out _)
       have WS:Aside (∀m,(wr.drewN m).setCells blk (off+kk*k) (enc d[ip+1+(kp+1)]!)=putRowK enc k (Sort.ahead w (q2+m)) blk off (dk.setIfInBounds kk d[ip+1+(kp+1)]!)):=λm=>by
        rw[W2.out,putRowK_drewN];unfold putRowK;rw[setCells_putRow _ _ _ _ _ _ (by rw[HKK.out,size_flatK];exact bnd),HSET.out _ _ _ (by omega)]
       have hsz2:(enc d[ip+1+(kp+1)]!).length=k:=HKK.out _;clear hHk bnd;generalize hu:d[ip+1+(kp+1)]! =u at lm st WS hsz2;generalize hv:d[ip+1+kp]! =v at lp;have C:Aside (d[ip+1+(kp+1)]! =u/\d[ip+1+kp]! =v):=⟨hu,hv⟩;clear hu hv;by_cases huv:u=v
       ·subst huv
        go_wp2_with fail
        go_quiet_o (fail)
        go_wp2
        go_roundg (d.size-(ip+1+(kp+1+1)))
        case measure=>omega
        case rel=>exact⟨kk,kp+1+1,q2+nq,dk,rfl,by go_num,by omega,by omega,Ztf _,by show _=_;rw[W2.out,putRowK_drewN],I2.out.skip (keeps_neg (by omega) (by rw[show ip+1+(kp+1)-1=ip+1+kp from rfl,C.out.1,C.out.2]))⟩
       ·go_wp2_with fail
        go_quiet_o (fail)
        go_wp2
        go_roundg (d.size-(ip+1+(kp+1+1)))
        case measure=>omega
        case rel=>exact⟨kk+1,kp+1+1,q2+nq,dk.setIfInBounds kk u,by go_num,by go_num,by omega,by omega,Ztf _,WS.out nq,by have:=I2.out.keep hlt2 (keeps_pos (by rw[show ip+1+(kp+1)-1=ip+1+kp from rfl,C.out.1,C.out.2];exact huv));rwa [C.out.1]at this⟩
      ·have hend:ip+1+k2=d.size:=by omega
       have hH0:HoldsK enc k wr blk off dk:=by have:=hHk 0;exact this
       have hin:kk+(d.size-kk)<=dk.size:=by omega
       have hb:kk*k+(d.size-kk)*k=d.size*k:=by rw[<-Zyk];congr 1;omega
       have hcl: ∀ty,(Builtin.clear_ #[76] ty #[.slice (some ⟨blk,off+kk*k,none⟩) (d.size-kk) (cap-kk)]).run P wr= .ok (.tuple #[]) (wr.setCells blk (off+kk*k) (zs (d.size-kk))):=λty=>
        HCLR.out wr ty blk (off+kk*k) _ _ (by omega) (λj hj=>by rw[Zyi,(hH0 (kk*k+j) (by rw[size_flatK,hds];omega)).1];rfl) (λj hj=>by rw[Zyi];exact(hH0 (kk*k+j) (by rw[size_flatK,hds];omega)).2)
       have WC:Aside (wr.setCells blk (off+kk*k) (zs (d.size-kk))=putRowK enc k (Sort.ahead w q2) blk off (lay dk kk (Zyx (d.size-kk) (0,0)))):=by
        show _=_;rw[W2.out];unfold putRowK;rw[setCells_putRow _ _ _ _ _ _ (by rw[HZS.out,size_flatK,hds,hb];exact Ztf _),HLAY.out _ _ _ hin]
       clear hHk hH0 hb hin
       go_wp2
       go_ret
       have hI:=I2.out;rw[hend]at hI;refine⟨by rw[hI.len];rfl,q2, ?_⟩;rw[hI.len,<-hI.done (0,0),<-WC.out]
    ·go_wp2_with fail
     go_quiet_o (fail)
     go_wp2
     go_roundg (d.size-(ip+1+1))
     case measure=>omega
     case rel=>
      refine⟨ip+1+1,q+nq,by omega,by omega,Ztf _,by go_num,WQ2.out nq,(show Aside _ from λj hj=> ?_)⟩;by_cases e:j=ip+1
      ·subst e;exact keeps_pos (by rw[show ip+1-1=ip from rfl,B.out.1,B.out.2];exact hdup)
      ·exact A.out j (by omega)
   ·have:i=d.size:=by omega
    subst this
    go_wp2
    go_ret
    obtain⟨e1,e2⟩:=HS.out q A.out;exact⟨by rw[e1];rfl,q,e2⟩
end Go.Proofs.YtjmempcalaliiaaGreatDoor
namespace Go.Proofs.YtjmempcalaliiaaGreatDoor
open Go Go.PM Go.Shelf Go.RowKit Go.Lib Go.Sort
def Uv (l:List Ed):List Int:=l.flatMap λx=>[x.1,x.2]
theorem Q6 (l:List Ed):(Uv l).length=l.length*2:=by
 induction l with
 |nil=>rfl
 |cons x l ih=>simp only[Uv,Zuq,Ztb,Zs3,Zs9]at ih⊢;omega
theorem Ns (x:Ed) (l:List Ed):Uv (x::l)=x.1::x.2::Uv l:=rfl
theorem Zb3 (a b:List Ed):Uv (a++b)=Uv a++Uv b:=by simp[Uv]
def Mw:List Int->Option (List Ed)
 | []=>some []
 |a::b::r=>(Mw r).map ((a,b):: ·)
 |_=>none
theorem Zgy (l:List Ed):Mw (Uv l)=some l:=by
 induction l with
 |nil=>rfl
 |cons x l ih=>rw[Ns,Mw,ih];rfl
theorem Zem: ∀{zs:List Int} {l:List Ed},Mw zs=some l->zs=Uv l
 | [],l,h=>by cases h;rfl
 | [a],l,h=>by cases h
 |a::b::r,l,h=>by
  unfold Mw at h;obtain⟨l',h1,h2⟩:=Ztu.1 h;subst h2;rw[Zem h1,Ns]
theorem Ws: ∀(l:List Ed) (t:Nat),t<l.length*2->((Uv l).map (Value.int .i64)).toArray[t]! =(Ta l.toArray[t/2]!)[t%2]!
 | [],t,h=>by simp at h
 |x::l,t,h=>by
  simp only[Zs3]at h;have hlen:(Uv (x::l)).length=(l.length+1)*2:=by rw[Q6,Zs3]
  match t with
  |0=>rfl
  |1=>rfl
  |t+2=>
   have ht:t<l.length*2:=by omega
   have ih:=Ws l t ht;have e1:(t+2)/2=t/2+1:=by omega
   have e2:(t+2)%2=t%2:=by omega
   have h1:((Uv (x::l)).map (Value.int .i64)).toArray[t+2]! =((Uv l).map (Value.int .i64)).toArray[t]! :=by
    rw[Ns];simp
   have h2:(x::l).toArray[t/2+1]! =l.toArray[t/2]! :=by simp
   rw[h1,ih,e1,e2,h2]
theorem Zim (l:List Ed):flatK Ta 2 l.toArray=((Uv l).map (Value.int .i64)).toArray:=by
 apply ext_get!
 ·simp[Q6]
 ·intro t ht;have ht':t<l.length*2:=by simpa using ht
  rw[get_flatK _ _ _ t (by simpa using ht'),Ws l t ht']
set_option maxRecDepth 100000 in
theorem Zns (blk cap:Nat) (l:List Ed) (w:World) (hH:Holds (Value.int .i64) w blk 0 (Uv l).toArray) (hsz:l.length<=9223372036854775807) (hcap:l.length<=cap):
  Calls Tryz.prog 111 #[.slice (some ⟨blk,0,none⟩) l.length cap] w λe w'=>e= .returned (.slice (some ⟨blk,0,none⟩) (Lib.compact l).length cap)/\ ∃q,w'=putRow (Value.int .i64) (Sort.ahead w q) blk 0 (Uv (Lib.compact l++Zyx (l.length-(Lib.compact l).length) (0,0))).toArray:=by
 have hHK:HoldsK Ta 2 w blk 0 l.toArray:=by
  show Holds id w blk 0 (flatK Ta 2 l.toArray);rw[Zim];exact Zej hH
 have key:=Zel (P:=Tryz.prog) Tryz.func111 Znq Tryz.underlying0 Tryz.isAgg0 Tryz.sizeOf0 Tryz.zeroValue0 Tryz.underlying3 Tryz.isAgg3 Tryz.sizeOf3 Tryz.zeroValue3 Tryz.underlying4 Tryz.isAgg4 Tryz.sizeOf4 Tryz.zeroValue4
  Tryz.underlying76 Tryz.isAgg76 Tryz.sizeOf76 Tryz.zeroValue76 2 Tryz.isAgg83 Tryz.sizeOf83 Ta Zek Znp eqlE neqE Zsd (λdk i x h=>Wq dk i x h) (λn=>Zyx (n*2) (.int .i64 0))
  (λW ty b o n c hn hc hf=>Zse W ty b o n c hn hc hf) (λn=>by simp) (λdk i n h=>by rw[<-Zsc];exact Wr _ dk i (by simpa using h)) blk 0 cap l.toArray w hHK (by simpa using hsz) (by simpa using hcap)
 have e1:(compactUpTo l.toArray l.toArray.size)=Lib.compact l:=by simp[Lib.compact]
 rw[e1]at key;simp only[Zxg]at key;refine key.mono λe w' ⟨he,q,hw⟩=>⟨he,q, ?_⟩;rw[hw];unfold putRowK;rw[Zim,Wp]
set_option maxRecDepth 100000 in
theorem Znt (w:World):Calls Tryz.prog 111 #[.slice none 0 0] w λe w'=>e= .returned (.slice none 0 0)/\w'=w:=by
 have mixed:=Znq
 go_enter Tryz.func111,Tryz.ntmps111
 go_wp2
 go_ret
 exact⟨rfl,rfl⟩
theorem Zkq {P:Program} {G:Nat->Option (List C)} {f:FuncId} {te:TypeId} {n m:Nat} {zs news:List Int} (hlen:news.length=zs.length) (hnz:n=0->zs=[]/\m=0) (hm:m*2<=zs.length) (hmn:m<=n)
  (hC: ∀(g cap:Nat) (w:World),Holds (Value.int .i64) w g 0 zs.toArray->g<w.heap.size->n<=cap->Calls P f #[.slice (some ⟨g,0,none⟩) n cap] w λe w'=>e= .returned (.slice (some ⟨g,0,none⟩) m cap)/\ ∃q os,w'=grow (putRow (Value.int .i64) (Sort.ahead w q) g 0 news.toArray) os)
  (hN: ∀(w:World),Calls P f #[.slice none 0 0] w λe w'=>e= .returned (.slice none 0 0)/\w'=w):
  S8 P G f [.own OUT 0 n] [.sb te 0 (ints zs)] ⟨.c (.sl m (ints (news.take (m*2)))),[.sb te zs.length (ints news)],none⟩:=by
 intro pt E us j hlen' hD _ hG hargs;obtain⟨u,rfl⟩: ∃u,us=[u]:=by
  match us,hlen' with
  | [u],_=>exact⟨u,rfl⟩
 have hu:=hargs 0 _ u rfl rfl;have hG':PM.Good P (Yp pt E j) E (Zo [.sb te 0 (zs.map λi=>C.v (.int .i64 i))] none) (λ_=>False):=hG;have hu':RV P E (Zo [.sb te 0 (ints zs)] none) (.own OUT 0 n) u:=hu;have hl:(Zo [.sb te 0 (ints zs)] none) OUT= .sb te 0 (ints zs):=by rw[Uo,if_pos rfl]
 generalize hz:n=n0 at hu';cases hu' with
 |ownDead h=>rw[hl]at h;cases h
 |ownMx h=>rw[hl]at h;cases h
 |own0 _ _ h=>exact absurd rfl h
 |ownNil h1 h2=>
  obtain⟨hz0,hm0⟩:=hnz hz;subst hz0;subst hm0;have hn0:news=[]:=Zth (by simpa using hlen);subst hn0;refine(hN E.w).mono λe w' ⟨he,hw⟩=> ?_;subst hw;exact⟨_,E,he,rfl,hG', .c (.sl0 (Zt4 _)),λk _ g hg=> .inr ⟨hg,rfl⟩⟩
 | @own _ _ _ g cap t fz cs h1 h2 h3 h4 h5=>
  subst hz;obtain⟨k1,k2⟩:=holds_of (enc:=Value.int .i64) Zbz hG' h1;refine(hC g cap E.w k1 k2 h3).mono λe w' ⟨he,q,os,hw⟩=> ?_;subst hw;obtain⟨g1,g2⟩:=Ju (m:=zs.length) Zby hG' hlen (Ztf _) h1 q os;refine⟨_,_,he,rfl,g1, .c ?_,λk _ g hg=> .inr ⟨hg,rfl⟩⟩;have hget: ∀(i:Nat) (c:C),(ints (news.take (m*2)))[i]? =some c->i<zs.length/\(news.map λi=>C.v (.int .i64 i))[i]? =some c:=by
   intro i c hi;have hi:((news.take (m*2)).map λi=>C.v (.int .i64 i))[i]? =some c:=hi;rw[Zxl,Ztm]at hi;split at hi
   ·rename_i him;exact⟨by omega,hi⟩
   ·cases hi
  refine RC.sl (us:=λi=>((grow (putRow (Value.int .i64) (Sort.ahead E.w q) g 0 news.toArray) os).cell? ⟨g,i,none⟩).getD undef) (Ztq hmn h3) h4 (λi c hi=> ?_) (λi c hi=> ?_)
  ·obtain⟨him,hi⟩:=hget i c hi;obtain⟨u,e1,e2⟩:=g2 i him c hi;exact⟨by rw[Zs4,e1];rfl, .inr ⟨rfl,by omega⟩⟩
  ·obtain⟨him,hi⟩:=hget i c hi;obtain⟨u,e1,e2⟩:=g2 i him c hi;rw[e1];exact e2
def Zen (l:List Ed) (n:Nat):List Ed:=Lib.compact l++Zyx (n-(Lib.compact l).length) (0,0)
theorem Fi {l:List Ed} {n:Nat} (h:(Lib.compact l).length<=n):(Zen l n).length=n:=by
 unfold Zen;rw[Ztb,Zv3];omega
def compactEP (te:TypeId) (args:List V) (objs:List PM.Obj):Option Out:=
 match args,objs with
 | [.own s off n],[.sb t fz cs]=>(Tt cs).bind λzs=>(Mw zs).bind λl=>need (Zx3 s OUT&&Zx3 off 0&&Zx3 t te&&Zx3 fz 0&&Zx3 l.length n&&Zx4 n 4611686018427387903&&Zx4 (Lib.compact l).length n)
   (some ⟨.c (.sl (Lib.compact l).length (ints (Uv (Lib.compact l)))),[.sb te cs.length (ints (Uv (Zen l n)))],none⟩)
 |_,_=>none
set_option maxRecDepth 100000 in
theorem compactEP_ok {G:Nat->Option (List C)} {args:List V} {objs:List PM.Obj} {out:Out} (h:compactEP 83 args objs=some out):S8 Tryz.prog G 111 args objs out:=by
 unfold compactEP at h;split at h
 case h_2=>cases h
 case h_1 s off n t fz cs=>
  obtain⟨zs,h1,h⟩:=Ztd.1 h;obtain⟨l,h2,h⟩:=Ztd.1 h;obtain⟨hb,h3⟩:=Zb h;cases h3;simp only[Zs1]at hb;obtain⟨⟨⟨⟨⟨⟨e1,e2⟩,e3⟩,e4⟩,e5⟩,e6⟩,e7⟩:=hb;have e1:=Zs0 e1;have e2:=Zs0 e2;have e3:=Zs0 e3;have e4:=Zs0 e4;have e5:=Zs0 e5;have e6:=Zs5 e6;have e7:=Zs5 e7;subst e1 e2 e3 e4 e5;have hcs:=Pv h1;have hzs:=Zem h2;have hlz:zs.length=l.length*2:=by rw[hzs,Q6]
  rw[hcs,show(ints zs).length=zs.length from Ze _ _];have hln:(Uv (Zen l l.length)).length=zs.length:=by rw[Q6,Fi e7,hlz]
  have key:=Zkq (P:=Tryz.prog) (G:=G) (f:=111) (te:=83) (n:=l.length) (m:=(Lib.compact l).length) (zs:=zs) hln (λh0=>⟨Zth (by omega),by omega⟩) (by omega) e7
   (λg cap w k1 k2 k3=>(Zns g cap l w (hzs▸k1) (by omega) k3).mono λe w' ⟨he,q,hw⟩=>⟨he,q, #[],by rw[grow_empty];exact hw⟩) Znt
  have ht:(Uv (Zen l l.length)).take ((Lib.compact l).length*2)=Uv (Lib.compact l):=by
   unfold Zen;rw[Zb3,<-Q6 (Lib.compact l),Zxy]
  rw[ht]at key;exact key
end Go.Proofs.YtjmempcalaliiaaGreatDoor
namespace Go.PM
open Go Go.Sort
theorem Zgz {P:Program} {pt:Nat->TypeId} {E:Env} {j:JT} {t:TypeId} {fz:Nat} {cs:List C} {g:Nat} (hG:Good P (Yp pt E j) E (Zo [.ob t fz cs] none) (λ_=>False)) (hr:E.rho OUT=some g):
  Good P (Yp pt E j) E (Zo [.sb t fz cs] none) (λ_=>False):=
 {hG with
  obj:=λs _=>by
   have h1:=hG.obj s (λh=>h);rw[Uo]at h1⊢;by_cases e:s=OUT
   ·subst e;rw[if_pos rfl]at h1⊢;cases h1 with|ob h hb hf=>exact .sb h hb hf
   ·rw[if_neg e]at h1⊢;cases h1 with|dead h=>exact .dead h
  prot:=λb k h=>⟨(hG.prot b k h).1,λs hs=>by
   have h1:=(hG.prot b k h).2 s hs;rw[Uo]at h1⊢;by_cases e:s=OUT
   ·rw[if_pos e]at h1⊢;exact h1
   ·rw[if_neg e]at h1⊢;exact h1⟩
  pnd:=λs h=>h.elim}
theorem Zg0 {P:Program} {pt:Nat->TypeId} {E E':Env} {j:JT} {t:TypeId} {fz:Nat} {cs:List C} {g:Nat} (hG:Good P (Yp pt E j) E' (Zo [.sb t fz cs] none) (λ_=>False)) (hr:E'.rho OUT=some g):
  Good P (Yp pt E j) E' (Zo [.ob t fz cs] none) (λ_=>False):=
 {hG with
  obj:=λs _=>by
   have h1:=hG.obj s (λh=>h);rw[Uo]at h1⊢;by_cases e:s=OUT
   ·subst e;rw[if_pos rfl]at h1⊢;cases h1 with
    |sb h hb hf=>exact .ob h hb hf
    |sbNil h=>rw[hr]at h;cases h
   ·rw[if_neg e]at h1⊢;cases h1 with|dead h=>exact .dead h
  prot:=λb k h=>⟨(hG.prot b k h).1,λs hs=>by
   have h1:=(hG.prot b k h).2 s hs;rw[Uo]at h1⊢;by_cases e:s=OUT
   ·rw[if_pos e]at h1⊢;exact h1
   ·rw[if_neg e]at h1⊢;exact h1⟩
  pnd:=λs h=>h.elim}
section
variable {P:Program} {α:Type} [Inhabited α] {enc:α->Value} {cel:α->C}
theorem Zkr {G:Nat->Option (List C)} {f:FuncId} {te:TypeId} {zs news:List α} (hrc: ∀w Pr a,RC w Pr (cel a) (enc a)) (hcr: ∀w Pr a u,RC w Pr (cel a) u->u=enc a) (hlen:news.length=zs.length)
  (hC: ∀(g cap:Nat) (w:World),Holds enc w g 0 zs.toArray->g<w.heap.size->zs.length<=cap->Calls P f #[.slice (some ⟨g,0,none⟩) zs.length cap] w λe w'=>e= .returned (.tuple #[])/\ ∃n os,w'=grow (putRow enc (Sort.ahead w n) g 0 news.toArray) os):
  S8 P G f [.ws OUT zs.length] [.ob te 0 (zs.map cel)] ⟨.tup [],[.ob te 0 (news.map cel)],none⟩:=by
 intro pt E us j hlen' hD _ hG hargs;obtain⟨u,rfl⟩: ∃u,us=[u]:=by
  match us,hlen' with
  | [u],_=>exact⟨u,rfl⟩
 have hu:=hargs 0 _ u rfl rfl;have hG':Good P (Yp pt E j) E (Zo [.ob te 0 (zs.map cel)] none) (λ_=>False):=hG;have hu':RV P E (Zo [.ob te 0 (zs.map cel)] none) (.ws OUT zs.length) u:=hu;have hl:(Zo [.ob te 0 (zs.map cel)] none) OUT= .ob te 0 (zs.map cel):=by rw[Uo,if_pos rfl]
 cases hu' with
 |wsDead h=>rw[hl]at h;cases h
 | @ws _ _ g h1 hn=>
  have hS:=Zgz hG' h1;obtain⟨k1,k2⟩:=holds_of hcr hS h1;refine(hC g zs.length E.w k1 k2 (Ztf _)).mono λe w' ⟨he,n,os,hw⟩=> ?_;subst hw;obtain⟨g1,_⟩:=Ju (m:=0) hrc hS hlen (Zt4 _) h1 n os;exact⟨_,_,he,rfl,Zg0 g1 h1, .tup rfl (λi x u h=>by cases h),λk _ g hg=> .inr ⟨hg,rfl⟩⟩
end
def sortWsP (t:TypeId) (args:List V) (objs:List Obj):Option Out:=
 match args,objs with
 | [.ws s n],[.ob t' fz cs]=>(Tt cs).bind λl=>need (Zx3 s OUT&&Zx3 n l.length&&Zx3 t' t&&Zx3 fz 0&&Zx4 l.length 4611686018427387903) (some ⟨.tup [],[.ob t 0 (ints (Vh l))],none⟩)
 |_,_=>none
variable {P:Program} {G:Nat->Option (List C)} {f:FuncId} {t:TypeId} {args:List V} {objs:List Obj} {out:Out}
theorem sortWsP_ok (hC: ∀(blk off cap:Nat) (zs:List Int) (w:World) (_:Holds (Value.int .i64) w blk off zs.toArray) (_:blk<w.heap.size) (_:zs.length<4611686018427387904),
   Calls P f #[.slice (some ⟨blk,off,none⟩) zs.length cap] w λe w'=>e= .returned (.tuple #[])/\ ∃n os,w'=grow (putRow (Value.int .i64) (Sort.ahead w n) blk off (zs.mergeSort λx y=>decide (x<=y)).toArray) os)
  (h:sortWsP t args objs=some out):S8 P G f args objs out:=by
 unfold sortWsP at h;split at h
 case h_2=>cases h
 case h_1 s n t' fz cs=>
  obtain⟨l,h1,h⟩:=Ztd.1 h;obtain⟨hb,h3⟩:=Zb h;cases h3;simp only[Zs1]at hb;obtain⟨⟨⟨⟨e1,e2⟩,e3⟩,e4⟩,e5⟩:=hb;have e1:=Zs0 e1;have e2:=Zs0 e2;have e3:=Zs0 e3;have e4:=Zs0 e4;have e5:=Zs5 e5;subst e1 e2 e3 e4;rw[Pv h1];exact Zkr (enc:=Value.int .i64) (cel:=λi=> .v (.int .i64 i)) Zby Zbz (by simp) (λg cap w k1 k2 _=>hC g 0 cap l w k1 k2 (by omega))
def orP (g g':List V->List Obj->Option Out) (args:List V) (objs:List Obj):Option Out:=match g args objs with|some o=>some o|none=>g' args objs
theorem orP_ok {g g':List V->List Obj->Option Out} {Q:Prop} (h1:g args objs=some out->Q) (h2:g' args objs=some out->Q) (h:orP g g' args objs=some out):Q:=by
 unfold orP at h;split at h
 ·rename_i o ho;injection h with h
  subst h;exact h1 ho
 ·exact h2 h
end Go.PM
namespace Go.Grid
structure Pl where
 f:Nat
 a:Nat
 b:Nat
 c:Nat
 deriving DecidableEq,Inhabited
def crnL:List (Nat×Nat×Nat):=[(0,1,2),(0,2,3),(0,3,4),(0,4,5),(0,5,1),(1,6,2),(2,7,3),(3,8,4),(4,9,5),(5,10,1),
 (6,7,2),(7,8,3),(8,9,4),(9,10,5),(10,6,1),(11,7,6),(11,8,7),(11,9,8),(11,10,9),(11,6,10)]
def crn (f:Nat):Nat×Nat×Nat:=crnL.getD f (0,1,2)
def Pl.ok (p:Pl):Prop:=p.f<20/\p.a+p.b+p.c=840
instance (p:Pl):Decidable p.ok:=inferInstanceAs (Decidable (_/\_))
def wt3 (k:Nat×Nat×Nat) (a b c v:Nat):Nat:=if v=k.1 then a else if v=k.2.1 then b else if v=k.2.2 then c else 0
def wt (p:Pl) (v:Nat):Nat:=wt3 (crn p.f) p.a p.b p.c v
def onW (w:Nat->Nat) (f:Nat):Pl:=⟨f,w (crn f).1,w (crn f).2.1,w (crn f).2.2⟩
def Pl.full (p:Pl):Bool:=p.a+p.b+p.c==840
def Znu (w:Nat->Nat):List Pl:=((Zyf 20).map (onW w)).filter Pl.full
def Rf (p:Pl):List Pl:=Znu (wt p)
def norm (p:Pl):Pl:=(Rf p).headD p
def Apart (k:Nat×Nat×Nat):Prop:=k.1≠k.2.1/\k.1≠k.2.2/\k.2.1≠k.2.2
instance (k:Nat×Nat×Nat):Decidable (Apart k):=inferInstanceAs (Decidable (_/\_/\_))
theorem Pw (f:Nat):Apart (crn f):=by
 by_cases h:f<20
 ·exact(by decide: ∀f:Fin 20,Apart (crn f)) ⟨f,h⟩
 ·have:crn f=(0,1,2):=by unfold crn;rw[List.getD_eq_getElem?_getD,List.getElem?_eq_none (by simp[crnL];omega)];rfl
  rw[this];decide
theorem Znv (k:Nat×Nat×Nat) (a b c:Nat):wt3 k a b c k.1=a:=by simp[wt3]
theorem Znw {k:Nat×Nat×Nat} (h:Apart k) (a b c:Nat):wt3 k a b c k.2.1=b:=by simp[wt3,Ne.symm h.1]
theorem Znx {k:Nat×Nat×Nat} (h:Apart k) (a b c:Nat):wt3 k a b c k.2.2=c:=by simp[wt3,Ne.symm h.2.1,Ne.symm h.2.2]
theorem Cy (p:Pl):onW (wt p) p.f=p:=by
 cases p with
 |mk f a b c=>
  have h:=Pw f;simp only[onW,wt,Znv,Znw h,Znx h]
theorem Ek {k:Nat×Nat×Nat} (h:Apart k) (a b c v:Nat):wt3 k a b c v=(if v=k.1 then a else 0)+(if v=k.2.1 then b else 0)+(if v=k.2.2 then c else 0):=by
 obtain⟨h1,h2,h3⟩:=h;unfold wt3;by_cases e1:v=k.1
 ·have e2: ¬v=k.2.1:=λe=>h1 (e1.symm.trans e);have e3: ¬v=k.2.2:=λe=>h2 (e1.symm.trans e);simp only[if_pos e1,if_neg e2,if_neg e3,Nat.add_zero]
 ·by_cases e2:v=k.2.1
  ·have e3: ¬v=k.2.2:=λe=>h3 (e2.symm.trans e);simp only[if_neg e1,if_pos e2,if_neg e3,Nat.add_zero,Nat.zero_add]
  ·by_cases e3:v=k.2.2
   ·simp only[if_neg e1,if_neg e2,if_pos e3,Nat.zero_add]
   ·simp only[if_neg e1,if_neg e2,if_neg e3]
def Fj (l:Nat×Nat×Nat) (k a:Nat):Nat:=(if l.1=k then a else 0)+(if l.2.1=k then a else 0)+(if l.2.2=k then a else 0)
theorem Cz {l:Nat×Nat×Nat} (h:Apart l) (k a:Nat):Fj l k a<=a:=by
 obtain⟨h1,h2,h3⟩:=h;unfold Fj
 (repeat' split)<;>omega
theorem Kq {l:Nat×Nat×Nat} {k:Nat} (h1: ¬l.1=k) (h2: ¬l.2.1=k) (h3: ¬l.2.2=k) (a:Nat):Fj l k a=0:=by
 unfold Fj;rw[if_neg h1,if_neg h2,if_neg h3]
theorem Zny {k k':Nat×Nat×Nat} (h:Apart k) (h':Apart k') {a b c:Nat} (hs:wt3 k a b c k'.1+wt3 k a b c k'.2.1+wt3 k a b c k'.2.2=a+b+c) (v:Nat):
  wt3 k' (wt3 k a b c k'.1) (wt3 k a b c k'.2.1) (wt3 k a b c k'.2.2) v=wt3 k a b c v:=by
 have hp:Fj k' k.1 a+Fj k' k.2.1 b+Fj k' k.2.2 c=a+b+c:=by
  rw[Ek h,Ek h,Ek h]at hs;unfold Fj;omega
 have l1:=Cz h' k.1 a;have l2:=Cz h' k.2.1 b;have l3:=Cz h' k.2.2 c;by_cases e1:v=k'.1
 ·rw[e1,Znv]
 ·by_cases e2:v=k'.2.1
  ·rw[e2,Znw h']
  ·by_cases e3:v=k'.2.2
   ·rw[e3,Znx h']
   ·have hz: ∀x y z,wt3 k' x y z v=0:=λx y z=>by simp only[wt3,e1,e2,e3,if_false]
    rw[hz];have q1: ∀{j:Nat},v=j-> ¬k'.1=j:=λe e'=>e1 (e.trans e'.symm);have q2: ∀{j:Nat},v=j-> ¬k'.2.1=j:=λe e'=>e2 (e.trans e'.symm);have q3: ∀{j:Nat},v=j-> ¬k'.2.2=j:=λe e'=>e3 (e.trans e'.symm);rw[Ek h];have r1:(if v=k.1 then a else 0)=0:=by
     split
     ·rename_i e;have:=Kq (q1 e) (q2 e) (q3 e) a;omega
     ·rfl
    have r2:(if v=k.2.1 then b else 0)=0:=by
     split
     ·rename_i e;have:=Kq (q1 e) (q2 e) (q3 e) b;omega
     ·rfl
    have r3:(if v=k.2.2 then c else 0)=0:=by
     split
     ·rename_i e;have:=Kq (q1 e) (q2 e) (q3 e) c;omega
     ·rfl
    rw[r1,r2,r3]
theorem Mx {p:Pl}:p.full=true↔p.a+p.b+p.c=840:=by simp[Pl.full]
theorem Lc {p q:Pl}:q∈Rf p↔ ∃f,f<20/\onW (wt p) f=q/\q.a+q.b+q.c=840:=by
 simp only[Rf,Znu,List.mem_filter,Zyz,List.mem_range,Mx];constructor
 ·rintro ⟨⟨f,h1,h2⟩,h3⟩;exact⟨f,h1,h2,h3⟩
 ·rintro ⟨f,h1,h2,h3⟩;exact⟨⟨f,h1,h2⟩,h3⟩
theorem C0 {p:Pl} (h:p.ok):p∈Rf p:=Lc.2 ⟨p.f,h.1,Cy p,h.2⟩
theorem Zeo {p q:Pl} (h:p.ok) (hq:q∈Rf p):q.ok/\wt q=wt p:=by
 obtain⟨f,h1,rfl,h3⟩:=Lc.1 hq;refine⟨⟨h1,h3⟩,funext λv=> ?_⟩;have hs:wt p (crn f).1+wt p (crn f).2.1+wt p (crn f).2.2=p.a+p.b+p.c:=by rw[h.2];exact h3
 exact Zny (Pw p.f) (Pw f) hs v
theorem Jw {p:Pl} (h:p.ok):norm p∈Rf p:=by
 unfold norm;have:=C0 h;cases e:Rf p with
 |nil=>rw[e]at this;cases this
 |cons x r=>simp
theorem El {p:Pl} (h:p.ok):(norm p).ok:=(Zeo h (Jw h)).1
theorem Em {p:Pl} (h:p.ok):wt (norm p)=wt p:=(Zeo h (Jw h)).2
theorem Ld {p:Pl} (h:p.ok): ∃r,Rf p=norm p::r:=by
 unfold norm;have:=C0 h;cases e:Rf p with
 |nil=>rw[e]at this;cases this
 |cons x r=>exact⟨r,rfl⟩
theorem Zg1 {p q:Pl} (h:p.ok) (hq:q.ok) (e:wt p=wt q):norm p=norm q:=by
 obtain⟨r,h1⟩:=Ld h;obtain⟨r',h2⟩:=Ld hq;have:Rf p=Rf q:=by unfold Rf;rw[e]
 rw[h1,h2]at this;exact(List.cons.inj this).1
theorem Zks {p:Pl} (h:p.ok):norm (norm p)=norm p:=Zg1 (El h) h (Em h)
theorem Zep {p q:Pl} (hf:p.f=q.f) (e:wt p=wt q):p=q:=by
 rw[<-Cy p,<-Cy q,e,hf]
theorem Zg2 {p q:Pl} (h:p.ok) (hq:q.ok) (hf:p.f=q.f) (e:norm p=norm q):p=q:=
 Zep hf ((Em h).symm.trans ((congrArg wt e).trans (Em hq)))
theorem Zeq: ∀f g:Fin 20,((crn f).1=(crn g).1\/(crn f).1=(crn g).2.1\/(crn f).1=(crn g).2.2)->((crn f).2.1=(crn g).1\/(crn f).2.1=(crn g).2.1\/(crn f).2.1=(crn g).2.2)->
  ((crn f).2.2=(crn g).1\/(crn f).2.2=(crn g).2.1\/(crn f).2.2=(crn g).2.2)->f=g:=by decide
theorem Zg3 {p:Pl} (h:p.ok) (ha:0<p.a) (hb:0<p.b) (hc:0<p.c):norm p=p:=by
 have hw:=Em h;have hn:=El h;refine Zep ?_ hw;have pos: ∀v,0<wt (norm p) v->v=(crn (norm p).f).1\/v=(crn (norm p).f).2.1\/v=(crn (norm p).f).2.2:=by
  intro v hv;simp only[wt,wt3]at hv;split at hv
  ·left;assumption
  ·split at hv
   ·right;left;assumption
   ·split at hv
    ·right;right;assumption
    ·omega
 have h1:=pos (crn p.f).1 (by rw[hw];simp only[wt,Znv];exact ha);have h2:=pos (crn p.f).2.1 (by rw[hw];simp only[wt,Znw (Pw p.f)];exact hb);have h3:=pos (crn p.f).2.2 (by rw[hw];simp only[wt,Znx (Pw p.f)];exact hc);have:=Zeq ⟨p.f,h.1⟩ ⟨(norm p).f,hn.1⟩ h1 h2 h3;exact(congrArg Fin.val this).symm
end Go.Grid
namespace Go.Grid
def Yb (n:Nat):Prop:=1<=n/\n<=8
theorem Q0 {n:Nat} (h:Yb n):n=1\/n=2\/n=3\/n=4\/n=5\/n=6\/n=7\/n=8:=by unfold Yb at h;omega
theorem Rh {n:Nat} (h:Yb n):n*(840/n)=840:=by
 rcases Q0 h with rfl|rfl|rfl|rfl|rfl|rfl|rfl|rfl<;>rfl
theorem Vi {n:Nat} (h:Yb n):105<=840/n/\840/n<=840:=by
 rcases Q0 h with rfl|rfl|rfl|rfl|rfl|rfl|rfl|rfl<;>decide
def pt (n f i j:Nat):Pl:=⟨f,i*(840/n),j*(840/n),(n-i-j)*(840/n)⟩
def row (n f i:Nat):List Pl:=(Zyf (n+1-i)).map (pt n f i)
def face (n f:Nat):List Pl:=(Zyf (n+1)).flatMap (row n f)
def pts (n:Nat):List Pl:=(Zyf 20).flatMap (face n)
def isN (p:Pl):Bool:=decide (norm p=p)
def Zg (n:Nat):List Pl:=(pts n).filter isN
theorem En {n:Nat} {p:Pl}:p∈pts n↔ ∃f i j,f<20/\i+j<=n/\pt n f i j=p:=by
 simp only[pts,face,row,Zy0,List.mem_range,Zyz];constructor
 ·rintro ⟨f,h1,i,h2,j,h3,e⟩;exact⟨f,i,j,h1,by omega,e⟩
 ·rintro ⟨f,i,j,h1,h2,e⟩;exact⟨f,h1,i,by omega,j,by omega,e⟩
theorem Zg4 {n i j:Nat} (h:Yb n) (hij:i+j<=n):i*(840/n)+j*(840/n)+(n-i-j)*(840/n)=840:=by
 rw[<-Zyk,<-Zyk,show i+j+(n-i-j)=n by omega];exact Rh h
theorem Znz {n f i j:Nat} (h:Yb n) (hf:f<20) (hij:i+j<=n):(pt n f i j).ok:=⟨hf,Zg4 h hij⟩
theorem C1 {n:Nat} (h:Yb n) {p:Pl} (hp:p∈pts n):p.ok:=by
 obtain⟨f,i,j,h1,h2,rfl⟩:=En.1 hp;exact Znz h h1 h2
theorem Zg5 {n:Nat} (h:Yb n) {p:Pl} (hp:p.ok) (ha:840/n∣p.a) (hb:840/n∣p.b) (hc:840/n∣p.c):p∈pts n:=by
 obtain⟨i,ei⟩:=ha;obtain⟨j,ej⟩:=hb;obtain⟨k,ek⟩:=hc;have hs:=hp.2;have hm:=Rh h;have hst:=Vi h;have e:i+j+k=n:=by
  have h1:(i+j+k)*(840/n)=n*(840/n):=by
   rw[hm,Zyk,Zyk,Zyy i,Zyy j,Zyy k,<-ei,<-ej,<-ek];exact hs
  exact Nat.eq_of_mul_eq_mul_right (by omega) h1
 refine En.2 ⟨p.f,i,j,hp.1,by omega, ?_⟩;cases p with
 |mk f a b c=>
  simp only at ei ej ek;simp only[pt,Pl.mk.injEq,true_and];refine⟨by rw[ei,Zyy],by rw[ej,Zyy], ?_⟩;rw[ek,show n-i-j=k by omega,Zyy]
theorem Zg6 {p:Pl} (h:p.ok) (P:Nat->Prop) (h0:P 0) (ha:P p.a) (hb:P p.b) (hc:P p.c):P (norm p).a/\P (norm p).b/\P (norm p).c:=by
 have hw: ∀v,P (wt p v):=λv=>by
  unfold wt wt3;split
  ·exact ha
  ·split
   ·exact hb
   ·split
    ·exact hc
    ·exact h0
 obtain⟨f,_,e,_⟩:=Lc.1 (Jw h);rw[<-e];exact⟨hw _,hw _,hw _⟩
theorem Zer {n:Nat} (h:Yb n) {p:Pl} (hp:p∈pts n):norm p∈Zg n:=by
 have ho:=C1 h hp;obtain⟨f,i,j,h1,h2,e⟩:=En.1 hp;obtain⟨d1,d2,d3⟩:=Zg6 ho (λx=>840/n∣x) (Nat.dvd_zero _) (by rw[<-e];exact Zy1 _ _) (by rw[<-e];exact Zy1 _ _) (by rw[<-e];exact Zy1 _ _);refine List.mem_filter.2 ⟨Zg5 h (El ho) d1 d2 d3, ?_⟩;exact decide_eq_true (Zks ho)
def plt (p q:Pl):Prop:=p.f<q.f\/p.f=q.f/\(p.a<q.a\/p.a=q.a/\p.b<q.b)
instance (p q:Pl):Decidable (plt p q):=inferInstanceAs (Decidable (_\/_/\(_\/_/\_)))
theorem Kr (p:Pl): ¬plt p p:=by unfold plt;omega
theorem Zkt {p q r:Pl} (h:plt p q) (h':plt q r):plt p r:=by unfold plt at*;omega
theorem Q7 {A B:Type} {R:B->B->Prop} {g:A->List B}: ∀{l:List A} {Q:A->A->Prop},l.Pairwise Q->(∀x∈l,(g x).Pairwise R)->(∀x∈l,∀y∈l,Q x y-> ∀u∈g x,∀v∈g y,R u v)->(l.flatMap g).Pairwise R
 | [],_,_,_,_=>by simp
 |x::l,Q,hp,h1,h2=>by
  rw[List.flatMap_cons,List.pairwise_append];obtain⟨p1,p2⟩:=List.pairwise_cons.1 hp;refine⟨h1 x (by simp),Q7 p2 (λy hy=>h1 y (by simp[hy])) (λy hy z hz hq=>h2 y (by simp[hy]) z (by simp[hz]) hq),λu hu v hv=> ?_⟩;obtain⟨y,hy,hv⟩:=Zy0.1 hv;exact h2 x (by simp) y (by simp[hy]) (p1 y hy) u hu v hv
theorem Ri (n:Nat):(Zyf n).Pairwise (λa b=>a<b):=List.pairwise_lt_range
theorem Zg7 {n:Nat} (h:Yb n):(pts n).Pairwise plt:=by
 have hst:=Vi h;have hmul: ∀{i j:Nat},i<j->i*(840/n)<j*(840/n):=λhij=>Nat.mul_lt_mul_of_pos_right hij (by omega);have hrow: ∀{f i u},u∈row n f i->u.f=f/\u.a=i*(840/n):=λhu=>by
  obtain⟨j,_,rfl⟩:=Zyz.1 hu;exact⟨rfl,rfl⟩
 have hface: ∀{f u},u∈face n f->u.f=f:=λhu=>by
  obtain⟨i,_,hu⟩:=Zy0.1 hu;exact(hrow hu).1
 refine Q7 (Ri 20) (λf _=> ?_) λf _ g _ hfg u hu v hv=> .inl (by rw[hface hu,hface hv];exact hfg);refine Q7 (Ri _) (λi _=> ?_) λi _ j _ hij u hu v hv=> .inr ⟨by rw[(hrow hu).1,(hrow hv).1], .inl (by rw[(hrow hu).2,(hrow hv).2];exact hmul hij)⟩;refine List.Pairwise.map _ (λa b hab=> ?_) (Ri _);exact .inr ⟨rfl, .inr ⟨rfl,hmul hab⟩⟩
theorem Zb4 {n:Nat} (h:Yb n):(Zg n).Pairwise plt:=(Zg7 h).filter _
def idx (n:Nat) (p:Pl):Nat:=(Zg n).idxOf (norm p)
theorem C2 {n:Nat} (h:Yb n) {p:Pl} (hp:p∈pts n):idx n p<(Zg n).length:=List.idxOf_lt_length_of_mem (Zer h hp)
theorem Zg8 {n:Nat} (h:Yb n) {p:Pl} (hp:p∈pts n):(Zg n)[idx n p]'(C2 h hp)=norm p:=List.getElem_idxOf (C2 h hp)
theorem Zp9 {n:Nat} (h:Yb n) {p q:Pl} (hp:p∈pts n) (hq:q∈pts n) (hf:p.f=q.f) (e:idx n p=idx n q):p=q:=by
 refine Zg2 (C1 h hp) (C1 h hq) hf ?_;rw[<-Zg8 h hp,<-Zg8 h hq]
 congr 1
theorem Tb {n:Nat} (h:Yb n):(Zg n).length=10*n*n+2:=by
 rcases Q0 h with rfl|rfl|rfl|rfl|rfl|rfl|rfl|rfl<;>kernel_rfl
end Go.Grid
namespace Go.Grid
def Xr (i j k:Nat):Nat×Nat×Nat:=if i<=j then(if j<=k then(i,j,k)else if i<=k then(i,k,j)else(k,i,j))else(if i<=k then(j,i,k)else if j<=k then(j,k,i)else(k,j,i))
def tc (n:Nat) (p q r:Pl):Nat×Nat×Nat:=Xr (idx n p) (idx n q) (idx n r)
def X7 (n f a b:Nat):List (Nat×Nat×Nat):=tc n (pt n f (a+1) b) (pt n f a (b+1)) (pt n f a b)::if a+b+1<n then[tc n (pt n f a (b+1)) (pt n f (a+1) b) (pt n f (a+1) (b+1))]else[]
def rowC (n f a:Nat):List (Nat×Nat×Nat):=(Zyf (n-a)).flatMap (X7 n f a)
def Jx (n f:Nat):List (Nat×Nat×Nat):=(Zyf n).flatMap (rowC n f)
def tri (n:Nat):List (Nat×Nat×Nat):=(Zyf 20).flatMap (Jx n)
section
variable {α:Type} (le:α->α->Bool)
def Zg9 (x:α):List α->List α
 | []=>[x]
 |y::l=>if le x y then x::y::l else y::Zg9 x l
def Rj (l:List α):List α:=l.foldr (Zg9 le) []
end
def leT (a b:Nat×Nat×Nat):Bool:=decide (a.1<b.1)||(decide (a.1=b.1)&&(decide (a.2.1<b.2.1)||(decide (a.2.1=b.2.1)&&decide (a.2.2<=b.2.2))))
def leZ (a b:Int×Int):Bool:=decide (a.1<b.1)||(decide (a.1=b.1)&&decide (a.2<=b.2))
def Ks (t:Nat×Nat×Nat):List (Int×Int):=[((t.1:Int),(t.2.1:Int)),((t.1:Int),(t.2.2:Int)),((t.2.1:Int),(t.2.2:Int))]
def C3 (n:Nat):List (Int×Int):=(Rj leT (tri n)).flatMap Ks
def edg (n:Nat):List (Int×Int):=Lib.compact (Rj leZ (C3 n))
end Go.Grid
