/- Parts put together: Da, Db, Dc, Pl, Pm, Iy, Pn, Po, Pp, Dd, Df, Dg, Dh, Di. -/
import Derived.Test.YtjmempcalaliiaaGreatDoorJ8
set_option linter.unusedSimpArgs false
set_option linter.unusedVariables false
/- Products of changes: the transposed step, in plain numbers. -/
namespace Go.Proofs.YtjmempcalaliiaaGreatDoor
open Go Go.PM Go.Grid
attribute [local congr] Zu Zv Zw Yd Zx Zy Ye Yf Yg Yh Zz Z0 Yi Yx Yy Yz Y1 Y2 Y5 Y6 Y7 Y8 Y4 Z2 Z3 Y9 Z4 Z5 Zk Z6 Z1
def So (a b:List Int):Int:=((List.range a.length).map λk=>at0 a k*at0 b k).sum
theorem T9 {f g:Nat->Int} (n:Nat) (h: ∀j,j<n->f j=g j):((List.range n).map f).sum=((List.range n).map g).sum:=
 congrArg List.sum (Zvc λj hj=>h j (Zus.1 hj))
theorem Bp: ∀n:Nat,((List.range n).map λ_=>(0:Int)).sum=0
 |0=>rfl
 |n+1=>by simp only[Zun,Zup,Zxt,Bp n,Zt7,Zwf,Zw4,List.sum_nil];rfl
theorem My (f:Nat->Int) (n:Nat):((List.range (n+1)).map f).sum=((List.range n).map f).sum+f n:=by
 simp only[Zun,Zup,Zxt,Zt7,Zwf,Zw4,List.sum_nil,Zvs]
theorem Bq (f:Nat->Int) (x:Nat): ∀n,x<n->((List.range n).map λk=>if k=x then f k else 0).sum=f x
 |0,h=>by omega
 |n+1,h=>by
  rw[My];by_cases e:n=x
  ·subst e;rw[if_pos rfl,T9 n (g:=λ_=>0) (λj hj=>if_neg (by omega)),Bp,Zwh]
  ·rw[if_neg e,Bq f x n (by omega),Zvs]
theorem parts (N:Nat) (x y:Nat->Nat) (al be w:Nat->Int): ∀M,(∀j,j<M->x j<N/\y j<N)->
  ((List.range N).map λk=>w k*((List.range M).map λj=>(if k=x j then al j else 0)+(if k=y j then be j else 0)).sum).sum=((List.range M).map λj=>w (x j)*al j+w (y j)*be j).sum
 |0,_=>by
  show((List.range N).map λk=>w k*0).sum=0;rw[T9 N (g:=λ_=>0) (λj _=>Zvt _),Bp]
 |M+1,h=>by
  have h1:=parts N x y al be w M λj hj=>h j (by omega);have hM:=h M (by omega);rw[My (λj=>w (x j)*al j+w (y j)*be j),<-h1];have e: ∀k,w k*((List.range (M+1)).map λj=>(if k=x j then al j else 0)+(if k=y j then be j else 0)).sum=w k*((List.range M).map λj=>(if k=x j then al j else 0)+(if k=y j then be j else 0)).sum+((if k=x M then w k*al M else 0)+(if k=y M then w k*be M else 0)):=by
   intro k;rw[My (λj=>(if k=x j then al j else 0)+(if k=y j then be j else 0)),Zw8,Zw8]
   congr 1
   congr 1
   ·split
    ·rfl
    ·exact Zvt _
   ·split
    ·rfl
    ·exact Zvt _
  rw[T9 N (λk _=>e k),Nn,Nn,Bq (λk=>w k*al M) (x M) N hM.1,Bq (λk=>w k*be M) (y M) N hM.2]
theorem wA (x y:Int):IntKind.i64.wrap (IntKind.i64.wrap x+y)=IntKind.i64.wrap (x+y):=by simp only[IntKind.wrap_i64];omega
theorem wB (x y:Int):IntKind.i64.wrap (x+IntKind.i64.wrap y)=IntKind.i64.wrap (x+y):=by simp only[IntKind.wrap_i64];omega
theorem wC (x y:Int):IntKind.i64.wrap (x-IntKind.i64.wrap y)=IntKind.i64.wrap (x+ -y):=by simp only[IntKind.wrap_i64];omega
theorem Zqo {l:List Int} {i:Nat} (h:i<l.length) (v:Int) (k:Nat):at0 (l.set i v) k=if k=i then v else at0 l k:=by
 unfold at0;rw[Ztj,Zws];by_cases e:i=k
 ·rw[if_pos e,if_pos (by omega),if_pos e.symm];rfl
 ·rw[if_neg e,if_neg (λq=>e q.symm),Ztj]
theorem wset {D:List Int} {T:Nat->Int} {x:Nat} {v:Int} (u:Int) (hD: ∀k,k<D.length->at0 D k=IntKind.i64.wrap (T k)) (hx:x<D.length) (hv:v=IntKind.i64.wrap (T x+u)):
  ∀k,k<(D.set x v).length->at0 (D.set x v) k=IntKind.i64.wrap (T k+if k=x then u else 0):=by
 intro k hk;rw[Zvf]at hk;rw[Zqo hx];by_cases e:k=x
 ·rw[if_pos e,if_pos e,hv,e]
 ·rw[if_neg e,if_neg e,Zvs,hD k hk]
def zE (a b c:Nat) (br gd gf:List Int) (E:List (Int×Int)) (j:Nat):Int:=(scB a b c:Int)*at0 gf j+if at0 br j=0 then(tr a b:Int)*(at0 gd (E.getD j (0,0)).2.toNat-at0 gd (E.getD j (0,0)).1.toNat)else 0
def alE (a b c:Nat) (dg br gd gf:List Int) (E:List (Int×Int)) (j:Nat):Int:=zE a b c br gd gf E j+if at0 br j=1 then Int.tdiv (sc a b c) (at0 dg (E.getD j (0,0)).1.toNat)*(at0 gd (E.getD j (0,0)).2.toNat-at0 gd (E.getD j (0,0)).1.toNat)else 0
def beE (a b c:Nat) (dg br gd gf:List Int) (E:List (Int×Int)) (j:Nat):Int:= -(zE a b c br gd gf E j)+if at0 br j= -1 then -(Int.tdiv (sc a b c) (at0 dg (E.getD j (0,0)).2.toNat)*(at0 gd (E.getD j (0,0)).2.toNat-at0 gd (E.getD j (0,0)).1.toNat))else 0
def sS (a b c:Nat) (dg br gd gf:List Int) (E:List (Int×Int)) (J k:Nat):Int:=((List.range J).map λj=>(if k=(E.getD j (0,0)).1.toNat then alE a b c dg br gd gf E j else 0)+(if k=(E.getD j (0,0)).2.toNat then beE a b c dg br gd gf E j else 0)).sum
theorem Zij (a b c:Nat) (dg br gd gf:List Int) (E:List (Int×Int)) (J k:Nat):sS a b c dg br gd gf E (J+1) k=sS a b c dg br gd gf E J k+((if k=(E.getD J (0,0)).1.toNat then alE a b c dg br gd gf E J else 0)+(if k=(E.getD J (0,0)).2.toNat then beE a b c dg br gd gf E J else 0)):=My _ _
theorem Zhd (a b c:Nat) (dg br gd gf:List Int) (E:List (Int×Int)) (hE: ∀e∈E,e.1.toNat<gd.length/\e.2.toNat<gd.length) (hg: ∀i,-1099511627776<=at0 gd i/\at0 gd i<=1099511627776):
  ∀J,J<=E.length-> ∀k,k<(aDS a b c dg br gd gf E J).length->at0 (aDS a b c dg br gd gf E J) k=IntKind.i64.wrap ((sc a b c:Int)*at0 gd k+sS a b c dg br gd gf E J k)
 |0,_=>by
  intro k hk;show at0 (gd.map λx=>IntKind.i64.wrap ((sc a b c:Int)*x)) k=_;rw[Zcg (λx=>IntKind.i64.wrap ((sc a b c:Int)*x)) (by rw[Zvt];rfl)];show _=IntKind.i64.wrap ((sc a b c:Int)*at0 gd k+0);rw[Zvs]
 |J+1,hJ=>by
  have ih:=Zhd a b c dg br gd gf E hE hg J (by omega);have hl:=Rl a b c dg br gd gf E J;have hEJ:=hE E[J] (Zt0 (by omega));rw[Bo];unfold W7 aD1;have hm:am gd E J=at0 gd (E.getD J (0,0)).2.toNat-at0 gd (E.getD J (0,0)).1.toNat:=by
   unfold am;have h1:=hg (E.getD J (0,0)).2.toNat;have h2:=hg (E.getD J (0,0)).1.toNat;exact Xj (by omega) (by omega)
  rw[hm];have hx:(E.getD J (0,0)).1.toNat<(aDS a b c dg br gd gf E J).length:=by rw[hl,Qi E (by omega)];exact hEJ.1
  have hy:(E.getD J (0,0)).2.toNat<(aDS a b c dg br gd gf E J).length:=by rw[hl,Qi E (by omega)];exact hEJ.2
  have hS:=λk=>Zij a b c dg br gd gf E J k;have hz:aZ a b c (at0 br J) (at0 gd (E.getD J (0,0)).2.toNat-at0 gd (E.getD J (0,0)).1.toNat) (at0 gf J)=IntKind.i64.wrap (zE a b c br gd gf E J):=by
   unfold aZ zE;split
   ·rw[wA,wB]
   ·rw[Zvs]
  rw[hz];unfold alE beE at hS;generalize zE a b c br gd gf E J=z at*
  generalize at0 gd (E.getD J (0,0)).2.toNat-at0 gd (E.getD J (0,0)).1.toNat=m at*
  generalize (E.getD J (0,0)).1.toNat=x at*
  generalize (E.getD J (0,0)).2.toNat=y at*
  generalize aDS a b c dg br gd gf E J=D at*
  generalize Int.tdiv (sc a b c) (at0 dg x)=qx at*
  generalize Int.tdiv (sc a b c) (at0 dg y)=qy at*
  generalize at0 br J=r at*
  have two: ∀(D:List Int) (T:Nat->Int),(∀k,k<D.length->at0 D k=IntKind.i64.wrap (T k))->x<D.length->y<D.length-> ∀k,k<(aD2 (IntKind.i64.wrap z) x y D).length->at0 (aD2 (IntKind.i64.wrap z) x y D) k=IntKind.i64.wrap (T k+(if k=x then z else 0)+(if k=y then -z else 0)):=by
   intro D T hD hx hy;have h1:=wset (D:=D) (T:=T) (x:=x) (v:=IntKind.i64.wrap (at0 D x+IntKind.i64.wrap z)) z hD hx (by rw[hD x hx,wA,wB]);have hy1:y<(D.set x (IntKind.i64.wrap (at0 D x+IntKind.i64.wrap z))).length:=by rw[Zvf];exact hy
   exact wset (-z) h1 hy1 (by rw[h1 y hy1,wC,wA])
  intro k hk;by_cases q1:r=1
  ·rw[if_pos q1]at hk⊢;have h1:=wset (D:=D) (x:=x) (v:=IntKind.i64.wrap (at0 D x+IntKind.i64.wrap (qx*m))) (qx*m) ih hx (by rw[ih x hx,wA,wB]);rw[two _ _ h1 (by rw[Zvf];exact hx) (by rw[Zvf];exact hy) k hk,hS k,if_pos q1,if_neg (show ¬r= -1 by omega)]
   congr 1
   repeat' split
   all_goals omega
  ·rw[if_neg q1]at hk⊢;by_cases q2:r= -1
   ·rw[if_pos q2]at hk⊢;have h1:=wset (D:=D) (x:=y) (v:=IntKind.i64.wrap (at0 D y-IntKind.i64.wrap (qy*m))) (-(qy*m)) ih hy (by rw[ih y hy,wC,wA]);rw[two _ _ h1 (by rw[Zvf];exact hx) (by rw[Zvf];exact hy) k hk,hS k,if_neg q1,if_pos q2]
    congr 1
    repeat' split
    all_goals omega
   ·rw[if_neg q2]at hk⊢;rw[two _ _ ih hx hy k hk,hS k,if_neg q1,if_neg q2]
    congr 1
    repeat' split
    all_goals omega
end Go.Proofs.YtjmempcalaliiaaGreatDoor
/- The transposed step is exact: products of changes, in plain numbers. -/
namespace Go.Proofs.YtjmempcalaliiaaGreatDoor
open Go Go.PM Go.Grid
attribute [local congr] Zu Zv Zw Yd Zx Zy Ye Yf Yg Yh Zz Z0 Yi Yx Yy Yz Y1 Y2 Y5 Y6 Y7 Y8 Y4 Z2 Z3 Y9 Z4 Z5 Zk Z6 Z1
theorem Zqp {n:Nat} (hn:n=1\/n=2):(edg n).length<=120:=by
 have h:decide ((edg n).length<=120)=true:=by rcases hn with rfl|rfl<;>kernel_rfl
 exact of_decide_eq_true h
theorem mbd {p x P m:Int} (hp:0<=p/\p<=P) (hx: -m<=x/\x<=m) (hm:0<=m): -(P*m)<=p*x/\p*x<=P*m:=Rj hp hx hm
section
variable (a b c:Nat) (ha:a<=4) (hb:b<=4) (hc:c<=4)
include ha hb hc
theorem Zss:(0:Int)<=tr a b/\(tr a b:Int)<=7680:=by
 have h1:=Zri a b c;have h2:=Ny ha hb hc;have h3:=Zcf a b c;have h4:0<2^c:=Zxy (by omega);have h5:tr a b<=tr a b*2^c:=Zv0 _ h4;omega
theorem Zst:(0:Int)<=tp a b/\(tp a b:Int)<=7680:=by
 have h1:=Zrj a b c;have h2:=Ny ha hb hc;have h4:0<2^c:=Zxy (by omega);have h5:tp a b<=tp a b*2^c:=Zv0 _ h4;omega
theorem Zsu {dg br gd gf:List Int} {E:List (Int×Int)} (hd: ∀k,(∃e∈E,k=e.1.toNat\/k=e.2.toNat)->1<=at0 dg k) (g1: ∀i,-1099511627776<=at0 gd i/\at0 gd i<=1099511627776) (g2: ∀i,-1099511627776<=at0 gf i/\at0 gf i<=1099511627776) {j:Nat} (hj:j<E.length):
  (-25332747903959040<=alE a b c dg br gd gf E j/\alE a b c dg br gd gf E j<=25332747903959040)/\(-25332747903959040<=beE a b c dg br gd gf E j/\beE a b c dg br gd gf E j<=25332747903959040):=by
 have hs:=Ny ha hb hc;have hB:=Zcf a b c;have ht:=Zss a b c ha hb hc;have hx:=hd (E.getD j (0,0)).1.toNat ⟨E[j],Zt0 hj, .inl (by rw[Qi E hj])⟩;have hy:=hd (E.getD j (0,0)).2.toNat ⟨E[j],Zt0 hj, .inr (by rw[Qi E hj])⟩;have qx:=Ep (s:=(sc a b c:Int)) (by omega) hx;have qy:=Ep (s:=(sc a b c:Int)) (by omega) hy;have h1:=g1 (E.getD j (0,0)).2.toNat;have h2:=g1 (E.getD j (0,0)).1.toNat;have h3:=g2 j;have b1:=mbd (p:=(scB a b c:Int)) (P:=7680) ⟨by omega,by omega⟩ h3 (by omega);unfold alE beE zE;generalize hm:at0 gd (E.getD j (0,0)).2.toNat-at0 gd (E.getD j (0,0)).1.toNat=m;have hm': -2199023255552<=m/\m<=2199023255552:=by omega
 have b2:=mbd (p:=(tr a b:Int)) (P:=7680) ht hm' (by omega);have b3:=mbd (p:=Int.tdiv (sc a b c) (at0 dg (E.getD j (0,0)).1.toNat)) (P:=7680) ⟨qx.1,by omega⟩ hm' (by omega);have b4:=mbd (p:=Int.tdiv (sc a b c) (at0 dg (E.getD j (0,0)).2.toNat)) (P:=7680) ⟨qy.1,by omega⟩ hm' (by omega);generalize (scB a b c:Int)*at0 gf j=p1 at*
 generalize (tr a b:Int)*m=p2 at*
 generalize Int.tdiv (sc a b c) (at0 dg (E.getD j (0,0)).1.toNat)*m=p3 at*
 generalize Int.tdiv (sc a b c) (at0 dg (E.getD j (0,0)).2.toNat)*m=p4 at*
 generalize at0 br j=r
 repeat' split
 all_goals omega
theorem Zrn {dg br gd gf:List Int} {E:List (Int×Int)} (hd: ∀k,(∃e∈E,k=e.1.toNat\/k=e.2.toNat)->1<=at0 dg k) (g1: ∀i,-1099511627776<=at0 gd i/\at0 gd i<=1099511627776) (g2: ∀i,-1099511627776<=at0 gf i/\at0 gf i<=1099511627776) (k:Nat):
  ∀J,J<=E.length-> -((J:Int)*50665495807918080)<=sS a b c dg br gd gf E J k/\sS a b c dg br gd gf E J k<=(J:Int)*50665495807918080
 |0,_=>by
  show -((0:Int)*_)<=0/\(0:Int)<=0*_;omega
 |J+1,h=>by
  have ih:=Zrn hd g1 g2 k J (by omega) (br:=br);have hb:=Zsu a b c ha hb hc (br:=br) hd g1 g2 (j:=J) (by omega);rw[Zij];generalize sS a b c dg br gd gf E J k=S at*
  generalize alE a b c dg br gd gf E J=p at*
  generalize beE a b c dg br gd gf E J=q at*
  repeat' split
  all_goals omega
def qFE (a b c:Nat) (br gd gf:List Int) (E:List (Int×Int)) (j:Nat):Int:=((sc a b c:Int)-scA a b c)*at0 gf j+if at0 br j=0 then(tp a b:Int)*(at0 gd (E.getD j (0,0)).2.toNat-at0 gd (E.getD j (0,0)).1.toNat)else 0
theorem Zsv {br gd gf:List Int} {E:List (Int×Int)} (g1: ∀i,-1099511627776<=at0 gd i/\at0 gd i<=1099511627776) (g2: ∀i,-1099511627776<=at0 gf i/\at0 gf i<=1099511627776) {j:Nat} (hj:j<E.length):
  at0 (aFS a b c br gd gf E E.length) j=qFE a b c br gd gf E j:=by
 unfold aFS;rw[Qd _ _ hj];have hs:=Ny ha hb hc;have hA:=Bj a b c;have ht:=Zst a b c ha hb hc;have h1:=g1 (E.getD j (0,0)).2.toNat;have h2:=g1 (E.getD j (0,0)).1.toNat;have h3:=g2 j;have hm:am gd E j=at0 gd (E.getD j (0,0)).2.toNat-at0 gd (E.getD j (0,0)).1.toNat:=by
  unfold am;exact Xj (by omega) (by omega)
 have hf:Int.fdiv ((sc a b c:Int)-scA a b c) (2^c)=tp a b:=by rw[Zob];exact Ld _ _
 unfold aFl qFE;rw[hm,hf];generalize hm:at0 gd (E.getD j (0,0)).2.toNat-at0 gd (E.getD j (0,0)).1.toNat=m;have hm': -2199023255552<=m/\m<=2199023255552:=by omega
 have b1:=mbd (p:=(sc a b c:Int)-scA a b c) (P:=7680) ⟨by omega,by omega⟩ h3 (by omega);have b2:=mbd (p:=(tp a b:Int)) (P:=7680) ht hm' (by omega);generalize ((sc a b c:Int)-scA a b c)*at0 gf j=p1 at*
 generalize (tp a b:Int)*m=p2 at*
 split
 ·rw[wA,wB];exact Xj (by omega) (by omega)
 ·rw[Zvs];exact Xj (by omega) (by omega)
omit ha hb hc in
theorem Zqq {dg br hd hf gd gf:List Int} {E:List (Int×Int)} {j:Nat} (hbr: -1<=at0 br j/\at0 br j<=1):
  at0 gd (E.getD j (0,0)).1.toNat* -(tAm a b c dg br hd hf E j)+at0 gd (E.getD j (0,0)).2.toNat*tAm a b c dg br hd hf E j+tF a b c hd hf E j*at0 gf j=at0 hd (E.getD j (0,0)).1.toNat*alE a b c dg br gd gf E j+at0 hd (E.getD j (0,0)).2.toNat*beE a b c dg br gd gf E j+at0 hf j*qFE a b c br gd gf E j:=by
 unfold tAm tF alE beE qFE zE tG;generalize (sc a b c:Int)-scA a b c=s1;generalize at0 gd (E.getD j (0,0)).1.toNat=gx;generalize at0 gd (E.getD j (0,0)).2.toNat=gy;generalize at0 hd (E.getD j (0,0)).1.toNat=hx;generalize at0 hd (E.getD j (0,0)).2.toNat=hy;generalize at0 hf j=f;generalize at0 gf j=g;generalize Int.tdiv (sc a b c) (at0 dg (E.getD j (0,0)).1.toNat)=q1;generalize Int.tdiv (sc a b c) (at0 dg (E.getD j (0,0)).2.toNat)=q2;generalize (scB a b c:Int)=s2;generalize (tr a b:Int)=t1;generalize (tp a b:Int)=t2;generalize at0 br j=r at*
 rcases(show r=0\/r=1\/r= -1 by omega)with rfl|rfl|rfl
 ·simp only[if_true,show((0:Int)=1)=False from by simp,show((0:Int)= -1)=False from by simp,if_false]
  grind
 ·simp only[if_true,show((1:Int)=0)=False from by simp,show((1:Int)= -1)=False from by simp,if_false]
  grind
 ·simp only[if_true,show((-1:Int)=0)=False from by simp,show((-1:Int)=1)=False from by simp,if_false]
  grind
theorem Zk0 {n:Nat} (hn:n=1\/n=2) {br hd hf gd gf:List Int} (l1:hd.length=(Zg n).length) (l2:hf.length=(edg n).length) (l3:gd.length=(Zg n).length) (l4:gf.length=(edg n).length) (w1:wid (-1) 1 br)
  (w2:wid (-1099511627776) 1099511627776 gd) (w3:wid (-1099511627776) 1099511627776 gf):
  So (tDL a b c (Yo (Zg n).length (edg n)) br hd hf (edg n)) gd+So (tFL a b c hd hf (edg n) (edg n).length) gf=So hd (aDS a b c (Yo (Zg n).length (edg n)) br gd gf (edg n) (edg n).length)+So hf (aFS a b c br gd gf (edg n) (edg n).length):=by
 have h:Yc n:=by unfold Yc;omega
 have hin:=Re h;have h120:=Zqp hn;have hdp:=Zce h;have g1:=λi=>Rz w2 (by omega) i;have g2:=λi=>Rz w3 (by omega) i;have hbr:=λi=>Rz w1 (by omega) i;have hd1: ∀k,(∃e∈edg n,k=e.1.toNat\/k=e.2.toNat)->1<=at0 (Yo (Zg n).length (edg n)) k:=by
  rintro k ⟨e,he,rfl|rfl⟩
  ·exact(hdp e he).1
  ·exact(hdp e he).2
 generalize hdg:Yo (Zg n).length (edg n)=dg at*
 generalize hE:edg n=E at*
 generalize (Zg n).length=N at*
 have hN: ∀e∈E,e.1.toNat<gd.length/\e.2.toNat<gd.length:=λe he=>by have:=hin e he;omega
 have hXY: ∀j,j<E.length->(E.getD j (0,0)).1.toNat<N/\(E.getD j (0,0)).2.toNat<N:=λj hj=>by
  have:=hin E[j] (Zt0 hj);rw[Qi E hj];omega
 have pD: ∀k,k<N->at0 (tDL a b c dg br hd hf E) k=(sc a b c:Int)*at0 hd k+((List.range E.length).map λj=>(if k=(E.getD j (0,0)).1.toNat then -(tAm a b c dg br hd hf E j)else 0)+(if k=(E.getD j (0,0)).2.toNat then tAm a b c dg br hd hf E j else 0)).sum:=by
  intro k hk;rw[Zso _ _ _ _ _ _ _ _ (by omega)];unfold tAL;rw[Zqk]
 have qD: ∀k,k<N->at0 (aDS a b c dg br gd gf E E.length) k=(sc a b c:Int)*at0 gd k+sS a b c dg br gd gf E E.length k:=by
  intro k hk;rw[Zhd a b c dg br gd gf E hN g1 E.length (Ztg _) k (by rw[Rl];omega)];have b1:=Zrn a b c ha hb hc (br:=br) hd1 g1 g2 k E.length (Ztg _);have b2:=mbd (p:=(sc a b c:Int)) (P:=7680) ⟨by omega,by have:=Ny ha hb hc;omega⟩ (g1 k) (by omega);exact Xj (by omega) (by omega)
 have e1:So (tDL a b c dg br hd hf E) gd=((List.range N).map λk=>(sc a b c:Int)*(at0 hd k*at0 gd k)).sum+((List.range E.length).map λj=>at0 gd (E.getD j (0,0)).1.toNat* -(tAm a b c dg br hd hf E j)+at0 gd (E.getD j (0,0)).2.toNat*tAm a b c dg br hd hf E j).sum:=by
  unfold So;rw[Kz,l1,<-parts N (λj=>(E.getD j (0,0)).1.toNat) (λj=>(E.getD j (0,0)).2.toNat) (λj=> -(tAm a b c dg br hd hf E j)) (λj=>tAm a b c dg br hd hf E j) (λk=>at0 gd k) E.length hXY,<-Nn];refine T9 N λk hk=> ?_;rw[pD k hk,Int.add_mul,Zwk,Zwe (List.sum _) (at0 gd k)]
 have e2:So hd (aDS a b c dg br gd gf E E.length)=((List.range N).map λk=>(sc a b c:Int)*(at0 hd k*at0 gd k)).sum+((List.range E.length).map λj=>at0 hd (E.getD j (0,0)).1.toNat*alE a b c dg br gd gf E j+at0 hd (E.getD j (0,0)).2.toNat*beE a b c dg br gd gf E j).sum:=by
  unfold So;rw[l1,<-parts N (λj=>(E.getD j (0,0)).1.toNat) (λj=>(E.getD j (0,0)).2.toNat) (λj=>alE a b c dg br gd gf E j) (λj=>beE a b c dg br gd gf E j) (λk=>at0 hd k) E.length hXY,<-Nn];refine T9 N λk hk=> ?_;rw[qD k hk,Zw8,Int.mul_left_comm];rfl
 have e3:So (tFL a b c hd hf E E.length) gf=((List.range E.length).map λj=>tF a b c hd hf E j*at0 gf j).sum:=by
  unfold So;rw[Ky];refine T9 _ λj hj=> ?_;unfold tFL;rw[Qd _ _ hj]
 have e4:So hf (aFS a b c br gd gf E E.length)=((List.range E.length).map λj=>at0 hf j*qFE a b c br gd gf E j).sum:=by
  unfold So;rw[l2];refine T9 _ λj hj=> ?_;rw[Zsv a b c ha hb hc g1 g2 hj]
 rw[e1,e2,e3,e4,Int.add_assoc,Int.add_assoc,<-Nn,<-Nn]
 congr 1
 exact T9 _ λj hj=>Zqq a b c (hbr j)
end
end Go.Proofs.YtjmempcalaliiaaGreatDoor
/- Products of lists, in integers of 128 bits. -/
namespace Go.Proofs.YtjmempcalaliiaaGreatDoor
open Go Go.PM Go.Grid
theorem Zqr (x:Nat):IntKind.u64.wrap (BitVec.ofInt (IntKind.bits .u64) (x:Int)&&&BitVec.ofInt (IntKind.bits .u64) 4294967295).toNat=((x%4294967296:Nat):Int):=by
 have h:=Zmz (kd:= .u64) (by decide) x 32 (by decide);simp only[Nat.reducePow,Nat.reduceSub]at h;rw[show(4294967295:Int)=((4294967295:Nat):Int) from rfl,h];exact IntWalk.u64_in _ ⟨by omega,by omega⟩
theorem shr32 (x:Nat):Int.fdiv (x:Int) (2^32)=((x/4294967296:Nat):Int):=Zm0 x 32
theorem Lg (x:Int):IntKind.u64.wrap x=x%18446744073709551616:=by simp[IntKind.wrap,IntKind.bits,IntKind.signed]
theorem Zol (x:Nat):IntKind.u64.wrap (x:Int)=((x%18446744073709551616:Nat):Int):=by rw[Lg];omega
theorem Zsw (x y:Nat):IntKind.u64.wrap ((x:Int)*(y:Int))=((x*y%18446744073709551616:Nat):Int):=by rw[<-Zve,Zol]
theorem Zsx (x y:Nat):IntKind.u64.wrap ((x:Int)+(y:Int))=(((x+y)%18446744073709551616:Nat):Int):=by rw[<-Zt2,Zol]
theorem Hg {a b:Nat} (ha:a<4294967296) (hb:b<4294967296):a*b<=4294967295*4294967295:=Nat.mul_le_mul (by omega) (by omega)
theorem Zom (fu d:Nat) (a b:Nat) (ha:a<18446744073709551616) (hb:b<18446744073709551616):
  cl fu (d+1) fn_bits_Mul64 [V.c (C.v (.int .u64 a)),V.c (C.v (.int .u64 b))] []=OK (V.tup [V.c (C.v (.int .u64 ((a*b/18446744073709551616:Nat):Int))),V.c (C.v (.int .u64 ((a*b%18446744073709551616:Nat):Int)))]):=by
 rw[eq_bits_Mul64];simp only[Zra,Zqr,shr32,Zsw,Zsx,Option.some.injEq,Out.mk.injEq,and_true,V.tup.injEq,List.cons.injEq,V.c.injEq,C.v.injEq,Value.int.injEq,true_and,Int.ofNat_inj];generalize hx0:a%4294967296=x0;generalize hx1:a/4294967296=x1;generalize hy0:b%4294967296=y0;generalize hy1:b/4294967296=y1;have h00:=Hg (a:=x0) (b:=y0) (by omega) (by omega);have h10:=Hg (a:=x1) (b:=y0) (by omega) (by omega);have h01:=Hg (a:=x0) (b:=y1) (by omega) (by omega);have h11:=Hg (a:=x1) (b:=y1) (by omega) (by omega);have hab:a*b=x1*y1*18446744073709551616+(x1*y0+x0*y1)*4294967296+x0*y0:=by
  have e1:a=x1*4294967296+x0:=by omega
  have e2:b=y1*4294967296+y0:=by omega
  rw[e1,e2];simp only[Nat.add_mul,Nat.mul_add];have e3:x1*4294967296*(y1*4294967296)=x1*y1*18446744073709551616:=by rw[Nat.mul_mul_mul_comm]
  have e4:x1*4294967296*y0=x1*y0*4294967296:=by rw[Nat.mul_right_comm]
  have e5:x0*(y1*4294967296)=x0*y1*4294967296:=by rw[Nat.mul_assoc]
  rw[e3,e4,e5];omega
 rw[hab];generalize x0*y0=p at*
 generalize x1*y0=q at*
 generalize x0*y1=r at*
 generalize x1*y1=s at*
 omega
theorem rCl_0 {R:Type} (f:FuncId) (k:Option R):rCl (V.clo f 1000000) f 0 k=k:=by
 show need (Nat.beq f f&&Nat.beq 1000000 (OUT+0)) k=k;rw[Zuk];rfl
attribute [local congr] Zu Zv Zw Yd Zx Zy Ye Yf Yg Yh Zz Z0 Yi Yx Yy Yz Y1 Y2 Y5 Y6 Y7 Y8 Y4 Z2 Z3 Y9 Z4 Z5 Zk Z6 Z1
def hiW (z:Int):Int:=IntKind.i64.wrap (z/18446744073709551616)
def loW (z:Int):Int:=z%18446744073709551616
abbrev wdC (z:Int):List C:=[C.v (.int .i64 (hiW z)),C.v (.int .u64 (loW z))]
theorem Zon (z:Int):0<=loW z:=Int.emod_nonneg _ (by decide)
section
variable (fu d:Nat) (hfu:18446744073709551616<=fu)
theorem Zhe (a b:Int) (ha: -9223372036854775808<=a/\a<=9223372036854775807) (hb: -9223372036854775808<=b/\b<=9223372036854775807):cl fu (d+2) fn_precision_Product [I a,I b] []=OK (V.agg (wdC (a*b))):=by
 obtain⟨p,hp⟩: ∃p:Nat,(p:Int)=a%18446744073709551616:=⟨(a%18446744073709551616).toNat,by omega⟩;obtain⟨q,hq⟩: ∃q:Nat,(q:Int)=b%18446744073709551616:=⟨(b%18446744073709551616).toNat,by omega⟩;have e1:=Zom fu d p q (by omega) (by omega);rw[eq_precision_Product];simp only[Lg,<-hp,<-hq];have hP:((p*q:Nat):Int)=(p:Int)*(q:Int):=Zve ..;by_cases ka:a<0
 ·have xa:a=(p:Int)-18446744073709551616:=by omega
  by_cases kb:b<0
  ·have xb:b=(q:Int)-18446744073709551616:=by omega
   have hz:a*b=((p*q:Nat):Int)-18446744073709551616*p-18446744073709551616*q+340282366920938463463374607431768211456:=by rw[xa,xb,hP];grind
   simp(disch:=omega)only[Zc,QM,QD,e1];unfold wdC hiW loW;rw[hz];generalize p*q=s;simp only[IntKind.wrap_i64,Lg,Option.some.injEq,Out.mk.injEq,and_true,V.agg.injEq,List.cons.injEq,C.v.injEq,Value.int.injEq,true_and];omega
  ·have xb:b=(q:Int):=by omega
   have hz:a*b=((p*q:Nat):Int)-18446744073709551616*q:=by rw[xa,xb,hP];grind
   simp(disch:=omega)only[Zc,QM,QD,e1];unfold wdC hiW loW;rw[hz];generalize p*q=s;simp only[IntKind.wrap_i64,Lg,Option.some.injEq,Out.mk.injEq,and_true,V.agg.injEq,List.cons.injEq,C.v.injEq,Value.int.injEq,true_and];omega
 ·have xa:a=(p:Int):=by omega
  by_cases kb:b<0
  ·have xb:b=(q:Int)-18446744073709551616:=by omega
   have hz:a*b=((p*q:Nat):Int)-18446744073709551616*p:=by rw[xa,xb,hP];grind
   simp(disch:=omega)only[Zc,QM,QD,e1];unfold wdC hiW loW;rw[hz];generalize p*q=s;simp only[IntKind.wrap_i64,Lg,Option.some.injEq,Out.mk.injEq,and_true,V.agg.injEq,List.cons.injEq,C.v.injEq,Value.int.injEq,true_and];omega
  ·have xb:b=(q:Int):=by omega
   have hz:a*b=((p*q:Nat):Int):=by rw[xa,xb,hP]
   simp(disch:=omega)only[Zc,QM,QD,e1];unfold wdC hiW loW;rw[hz];generalize p*q=s;simp only[IntKind.wrap_i64,Lg,Option.some.injEq,Out.mk.injEq,and_true,V.agg.injEq,List.cons.injEq,C.v.injEq,Value.int.injEq,true_and];omega
theorem Zik (x y:Int):cl fu (d+1) fn_precision_Add [V.agg (wdC x),V.agg (wdC y)] []=OK (V.agg (wdC (x+y))):=by
 have h1:=Zon x;have h2:=Zon y;rw[eq_precision_Add,decide_eq_true h1,decide_eq_true h2];show OK (V.agg [_,_])=_;unfold wdC hiW loW;simp only[IntKind.wrap_i64,Option.some.injEq,Out.mk.injEq,and_true,V.agg.injEq,List.cons.injEq,C.v.injEq,Value.int.injEq,true_and];omega
theorem Zoo:cl fu (d+1) fn_precision_total [] []=some ⟨V.clo fn_precision_total_1 1000000,[.ob ty_api_Wide 0 (wdC 0)],none⟩:=by
 rw[eq_precision_total];rfl
theorem Br (a b z:Int) (ha: -9223372036854775808<=a/\a<=9223372036854775807) (hb: -9223372036854775808<=b/\b<=9223372036854775807):
  cl fu (d+3) fn_precision_total_1 [I a,I b,V.ptr 1000000 0] [.ob ty_api_Wide 0 (wdC z)]=some ⟨V.agg (wdC (z+a*b)),[.ob ty_api_Wide 0 (wdC (z+a*b))],none⟩:=by
 have e1:=Zhe fu d a b ha hb;have e2:=Zik fu (d+1) z (a*b);unfold wdC at*
 rw[eq_precision_total_1];simp(disch:=omega)only[Zc,QM,QD,e1,e2,Zs4,Zs8,Zs3,Nat.reduceAdd]
def Hh (a b:List Int) (j:Nat):Int:=((List.range j).map λk=>at0 a k*at0 b k).sum
theorem Zk1 (a b:List Int) (j:Nat):Hh a b (j+1)=Hh a b j+at0 a j*at0 b j:=My _ _
include hfu
set_option maxHeartbeats 1000000 in
theorem Zil (a b:List Int) (hl:a.length=b.length) (l1:a.length<=1000000) (wa:wid (-9223372036854775808) 9223372036854775807 a) (wb:wid (-9223372036854775808) 9223372036854775807 b):
  cl fu (d+4) fn_precision_Dot [V.c (C.sl a.length (ints a)),V.c (C.sl b.length (ints b))] []=OK (V.tup [V.agg (wdC (So a b)),I 0]):=by
 have e0:cl fu (d+3) fn_precision_total [] []=some ⟨V.clo fn_precision_total_1 1000000,[.ob ty_api_Wide 0 (wdC (Hh a b 0))],none⟩:=Zoo fu (d+2);have e1:=Br fu d 0 0 (Hh a b 0) (by omega) (by omega);rw[Zvt,Zvs]at e1;have et:=λx y z hx hy=>Br fu d x y z hx hy;have hd:So a b=Hh a b a.length:=rfl;rw[hd];unfold wdC at*
 rw[eq_precision_Dot];simp(disch:=omega)only[Zc,QM,QD,e0,rCl_0,e1,Zem,Zs4,Zs8,Zs3,Nat.reduceAdd];rw[Zs (λj:Nat=>(((j:Nat):Int),((0:Int),(0:Int),()),(hiW (Hh a b j),loW (Hh a b j),()),(hiW (Hh a b j),loW (Hh a b j),()),())) 0 (((a.length:Nat):Int),((0:Int),(0:Int),()),(hiW (Hh a b a.length),loW (Hh a b a.length),()),(hiW (Hh a b a.length),loW (Hh a b a.length),()),()) a.length ?_ ?_ ?_ (by omega)]
 ·simp(disch:=omega)only[Zc,QM,QD]
 ·rfl
 ·intro j hj;have i1:=Zt a hj;have i2:=Zt b (i:=j) (by omega);have b1:=Ug wa (by omega) j;have b2:=Ug wb (by omega) j;have e2:=et (at0 a j) (at0 b j) (Hh a b j) b1 b2;rw[<-Zk1]at e2;simp(disch:=omega)only[Zc,QM,QD,Zs5,Ztc,i1,i2,e2,Zs4,Zs8,Zs3,Nat.reduceAdd];rfl
 ·simp(disch:=omega)only[Zc,QM,QD]
theorem Zim (a b a' b':List Int) (h1:a.length=a'.length) (h2:b.length=b'.length) (l1:a.length<=1000000) (l2:b.length<=1000000) (w1:wid (-9223372036854775808) 9223372036854775807 a) (w2:wid (-9223372036854775808) 9223372036854775807 b) (w3:wid (-9223372036854775808) 9223372036854775807 a') (w4:wid (-9223372036854775808) 9223372036854775807 b'):
  cl fu (d+5) fn_tangent_Dot [V.agg [C.sl a.length (ints a),C.sl b.length (ints b)],V.agg [C.sl a'.length (ints a'),C.sl b'.length (ints b')]] []=OK (V.tup [V.agg (wdC (So a a'+So b b')),I 0]):=by
 have e1:=Zil fu d hfu a a' h1 l1 w1 w3;have e2:=Zil fu d hfu b b' h2 l2 w2 w4;have e3:=Zik fu (d+3) (So a a') (So b b');unfold wdC at*
 rw[eq_tangent_Dot];simp(disch:=omega)only[Zc,QM,QD,e1,e2,e3,Zs4,Zs8,Zs3,Nat.reduceAdd]
end
end Go.Proofs.YtjmempcalaliiaaGreatDoor
/- The reference's Apply of the transposed step. -/
namespace Go.Proofs.YtjmempcalaliiaaGreatDoor
open Go Go.PM Go.Grid
attribute [local congr] Zu Zv Zw Yd Zx Zy Ye Yf Yg Yh Zz Z0 Yi Yx Yy Yz Y1 Y2 Y5 Y6 Y7 Y8 Y4 Z2 Z3 Y9 Z4 Z5 Zk Z6 Z1
section
variable (fu d:Nat) (hfu:18446744073709551616<=fu)
include hfu
end
end Go.Proofs.YtjmempcalaliiaaGreatDoor
/- Both programs' Apply of the transposed step, at any numbers. -/
namespace Go.Proofs.YtjmempcalaliiaaGreatDoor
open Go Go.PM Go.Grid
attribute [local congr] Zu Zv Zw Yd Zx Zy Ye Yf Yg Yh Zz Z0 Yi Yx Yy Yz Y1 Y2 Y5 Y6 Y7 Y8 Y4 Z2 Z3 Y9 Z4 Z5 Zk Z6 Z1
def bA (l:List Int):C:=C.sl l.length (ints l)
section
variable (fu d:Nat) (hfu:18446744073709551616<=fu)
include hfu
end
end Go.Proofs.YtjmempcalaliiaaGreatDoor
/- The iterators that this seat's programs meet: the edges, and slices.Backward. -/
namespace Go.Proofs.YtjmempcalaliiaaGreatDoor
open Go Go.PM Go.Grid
attribute [local congr] Zu Zv Zw Yd Zx Zy Ye Yf Yg Yh Zz Z0 Yi Yx Yy Yz Y1 Y2 Y5 Y6 Y7 Y8 Y4 Z2 Z3 Y9 Z4 Z5 Zk Z6 Z1
theorem Nq (cs:List C):(backL cs).length=cs.length:=by simp[backL]
theorem Zk2 (cs:List C) {i:Nat} (h:i<cs.length):(backL cs)[i]'(by rw[Nq];exact h)=[I ((cs.length-1-i:Nat):Int),V.c (cs[cs.length-1-i]'(by omega))]:=by
 simp only[backL,Zvj,List.getElem_reverse,List.getElem_zipIdx,List.length_zipIdx,Zs3]
theorem Zhf (cs:List C) {i:Nat} (h:i<cs.length):(backL cs).drop i=[I ((cs.length-1-i:Nat):Int),V.c (cs[cs.length-1-i]'(by omega))]::(backL cs).drop (i+1):=by
 rw[Zt4 (by rw[Nq];exact h),Zk2 cs h]
theorem Zop (cs:List C) {i q:Nat} (h:i<cs.length) (hq:q=cs.length-1-i) (hql:q<cs.length):(backL cs).drop i=[I (q:Int),V.c cs[q]]::(backL cs).drop (i+1):=by
 subst hq;exact Zhf cs h
section
variable (fu d:Nat) (hf:18446744073709551616<=fu)
include hf
theorem Zqs (cs:List C) (hl:cs.length<=1000000) (l:Nat) (go:Nat->Bool) (c0:C) (hc0: ∀{R:Type} (k:Nat->List C->Option R),asSl c0 k=k cs.length cs) (r:List C):
  ∃out lg,cl fu (d+1) fn_slices_Backward_sapi_Branch_api_Branch_1 [V.c (C.yl l go (backL cs)),V.c (C.cp (c0::r))] []=some out/\out.log=some lg/\(lg.st=true\/lg.rest=[]):=by
 have hll:=Nq cs;have hd:=λ{i q:Nat} (h:i<cs.length) (hq:q=cs.length-1-i) (hql:q<cs.length)=>Zop cs h hq hql;rw[eq_slices_Backward_sapi_Branch_api_Branch_1];generalize backL cs=BL at*
 have hc1:=λ{R:Type} (k:Nat->List C->Option R)=>hc0 k;simp(disch:=omega)only[Zc,QM,QD,hc1];refine Uw (A:=Int×Log×Unit) (B:=Out) (fu:=fu) (λo=> ∃out lg,o=some out/\out.log=some lg/\(lg.st=true\/lg.rest=[]))
  (λs=> ∃i:Nat,i<=cs.length/\s=((cs.length:Int)-1-(i:Int),⟨l,go,i,BL.drop i,false⟩,())) (λs=>(s.1+1).toNat) (λ_ z=>z.2.1.st=true\/z.2.1.rest=[]) ⟨0,by omega, ?_⟩ ?_ ?_ ?_
 ·simp
 ·show((cs.length:Int)-1+1).toNat<fu;omega
 ·rintro y ⟨i,hi,rfl⟩
  by_cases hlt:i<cs.length
  ·obtain⟨q,hq⟩: ∃q:Nat,q=cs.length-1-i:=⟨_,rfl⟩;have hqi:(cs.length:Int)-1-(i:Int)=(q:Int):=by omega
   have hql:q<cs.length:=by omega
   have hat:=Zt4 hql;have hd:=hd hlt hq hql;rw[hqi];cases hg:go i with
   |true=>
    refine .inl ⟨((cs.length:Int)-1-((i+1:Nat):Int),⟨l,go,i+1,BL.drop (i+1),false⟩,()), ?_,⟨i+1,by omega,rfl⟩, ?_⟩
    ·rw[show(cs.length:Int)-1-((i+1:Nat):Int)=(q:Int)-1 by omega];simp(disch:=omega)only[Zc,QM,QD,Zs5,Ztc,hc1,hat,hd,Js,Jt,hg]
    ·show((cs.length:Int)-1-((i+1:Nat):Int)+1).toNat<((q:Int)+1).toNat;omega
   |false=>
    refine .inr ⟨1,((q:Int),⟨l,go,i+1,BL.drop (i+1),true⟩,()), ?_, .inl rfl⟩;simp(disch:=omega)only[Zc,QM,QD,Zs5,Ztc,hc1,hat,hd,Js,Jt,hg]
  ·refine .inr ⟨0,((cs.length:Int)-1-(i:Int),⟨l,go,i,BL.drop i,false⟩,()), ?_, .inr ?_⟩
   ·simp(disch:=omega)only[Zc,QM,QD]
   ·show BL.drop i=[];rw[Zw7];omega
 ·rintro e z hz
  refine⟨⟨V.tup [],[],some z.2.1⟩,z.2.1, ?_,rfl,hz⟩;cases e<;>rfl
omit d in
theorem iterOk:Zbo Tryz.prog prim laid fu:=by
 intro d f caps xs h l go;replace h:(bif Nat.ble 10 d then iterC f caps else none)=some xs:=h;cases hd:Nat.ble 10 d with
 |false=>rw[hd]at h;cases h
 |true=>
  rw[hd]at h;replace h:iterC f caps=some xs:=h;have hd:=Zs6 hd;obtain⟨d',rfl⟩: ∃d',d=d'+10:=⟨d-10,by omega⟩;unfold iterC at h;cases hfq:Nat.beq f fn_flux_edges_1 with
  |false=>
   rw[hfq]at h;simp only[cf]at h;cases hfv:Nat.beq f fn_slices_Backward_sapi_Branch_api_Branch_1 with
   |false=>rw[hfv]at h;cases h
   |true=>
    have hfe:=Zs1 hfv;subst hfe;rw[hfv]at h;simp only[ct]at h;split at h
    ·rename_i c;unfold asP at h;split at h
     ·rename_i cs;cases cs with
      |nil=>cases h
      |cons c r=>
       replace h:asSl c (λn l=>need (Nat.beq n l.length&&Nat.ble n 1000000) (some (backL l)))=some xs:=h;have fin: ∀(n:Nat) (cs:List C),need (Nat.beq n cs.length&&Nat.ble n 1000000) (some (backL cs))=some xs->n=cs.length/\cs.length<=1000000/\xs=backL cs:=λn cs h=>by
        obtain⟨hc,h⟩:=Za h;rw[Zs2]at hc;have h1:=Zs1 hc.1;have h2:=Zs6 hc.2;cases h;exact⟨h1,by omega,rfl⟩
       unfold asSl at h;split at h
       ·rename_i p hp;obtain⟨e1,h3,rfl⟩:=fin _ _ h;refine Zqs fu (d'+9) hf p.2 h3 l go _ (λk=> ?_) r;unfold asSl;rw[hp];show k p.1 p.2=_;rw[e1]
       ·cases h
     ·cases h
    ·cases h
  |true=>
   have hfe:=Zs1 hfq;subst hfe;rw[hfq]at h;simp only[ct]at h;split at h
   ·rename_i c;unfold asP at h;split at h
    ·rename_i cs;cases cs with
     |nil=>cases h
     |cons c r=>
      replace h:asI .i64 c (λn=>need (decide (1<=n)&&decide (n<=8)) (some (edgesL n.toNat)))=some xs:=h;unfold asI at h;split at h
      ·split at h
       ·rename_i kd i hk;subst hk;obtain⟨hc,h⟩:=Za h;rw[Zs2]at hc;have h1:=of_decide_eq_true hc.1;have h2:=of_decide_eq_true hc.2;cases h;obtain⟨n,rfl⟩: ∃n:Nat,i=n:=⟨i.toNat,by omega⟩;exact Zn4 fu d' hf n (by unfold Yc;omega) l go r
       ·cases h
      ·cases h
    ·cases h
   ·cases h
omit hf in
theorem Zk3 (cs:List C) (hl:cs.length<=1000000):prim.iter (d+10) fn_slices_Backward_sapi_Branch_api_Branch_1 [C.cp [C.sl cs.length cs]]=some (backL cs):=by
 show(bif Nat.ble 10 (d+10)then iterC fn_slices_Backward_sapi_Branch_api_Branch_1 [C.cp [C.sl cs.length cs]]else none)=_;rw[show Nat.ble 10 (d+10)=true from Zux (by omega)];show need (Nat.beq cs.length cs.length&&Nat.ble cs.length 1000000) (some (backL cs))=_;rw[Zuk,Zux hl];rfl
end
end Go.Proofs.YtjmempcalaliiaaGreatDoor
/- Both programs' Compose of transposed steps, at any numbers. -/
namespace Go.Proofs.YtjmempcalaliiaaGreatDoor
open Go Go.PM Go.Grid
attribute [local congr] Zu Zv Zw Yd Zx Zy Ye Yf Yg Yh Zz Z0 Yi Yx Yy Yz Y1 Y2 Y5 Y6 Y7 Y8 Y4 Z2 Z3 Y9 Z4 Z5 Zk Z6 Z1
section
variable (fu d:Nat) (hfu:18446744073709551616<=fu)
include hfu
omit hfu in
theorem Lh (l:List Int) (hl:l.length<=1000000):cl fu (d+1) fn_slices_Clone_sint_int [V.c (C.sl l.length (ints l))] []=some ⟨V.own 1000000 0 l.length,[.sb ty_int 0 (ints l)],none⟩:=by
 by_cases h:0<l.length
 ·exact Ha fu d l h hl
 ·obtain rfl:l=[]:=Zti (by omega);rw[eq_slices_Clone_sint_int];exact Zjv (some (⟨V.own 1000000 0 0,[.sb ty_int 0 []],none⟩:Out))
end
end Go.Proofs.YtjmempcalaliiaaGreatDoor
/- Both programs' Sensitivity, at any numbers; Same of changes. -/
namespace Go.Proofs.YtjmempcalaliiaaGreatDoor
open Go Go.PM Go.Grid
attribute [local congr] Zu Zv Zw Yd Zx Zy Ye Yf Yg Yh Zz Z0 Yi Yx Yy Yz Y1 Y2 Y5 Y6 Y7 Y8 Y4 Z2 Z3 Y9 Z4 Z5 Zk Z6 Z1
section
variable (fu d:Nat) (hfu:18446744073709551616<=fu)
include hfu
end
end Go.Proofs.YtjmempcalaliiaaGreatDoor
/- The example of chapter 32. -/
namespace Go.Proofs.YtjmempcalaliiaaGreatDoor
open Go Go.PM Go.Grid
attribute [local congr] Zu Zv Zw Yd Zx Zy Ye Yf Yg Yh Zz Z0 Yi Yx Yy Yz Y1 Y2 Y5 Y6 Y7 Y8 Y4 Z2 Z3 Y9 Z4 Z5 Zk Z6 Z1
theorem Zoq: ∀j,j<12->(List.replicate j (1:Int)++List.replicate (12-j) 0).set j 1=List.replicate (j+1) 1++List.replicate (12-(j+1)) 0:=by decide+kernel
theorem Ze3: ∀j,j<13->(List.replicate j (1:Int)++List.replicate (12-j) 0).length=12:=by decide+kernel
section
variable (fu d:Nat) (hfu:18446744073709551616<=fu)
include hfu
theorem Zhg:cl fu (d+13) fn_synopticlaw32_awake [] []=OK (B true):=by
 have h1:(edg 1).length=30:=by kernel_rfl
 have h2:(Zg 1).length=12:=by kernel_rfl
 have v1:at0 (aDS 1 1 1 (Yo (Zg 1).length (edg 1)) (List.replicate 30 0) (List.replicate 12 1) (List.replicate 30 0) (edg 1) (edg 1).length) 5=120:=by kernel_rfl
 have v2:at0 (aFS 1 1 1 (List.replicate 30 0) (List.replicate 12 1) (List.replicate 30 0) (edg 1) (edg 1).length) 9=0:=by kernel_rfl
 have k1:=Rl 1 1 1 (Yo (Zg 1).length (edg 1)) (List.replicate 30 0) (List.replicate 12 1) (List.replicate 30 0) (edg 1) (edg 1).length;have k2:=Np 1 1 1 (List.replicate 30 0) (List.replicate 12 1) (List.replicate 30 0) (edg 1) (edg 1).length;have ap:=W8 fu d hfu 1 (by unfold Yc;omega) 1 1 1 (by omega) (by omega) (by omega) (List.replicate 30 0) (List.replicate 12 1) (List.replicate 30 0) (by rw[h1];rfl) (by rw[h2];rfl) (by rw[h1];rfl) (λv hv=>by rw[Zvl hv];omega) (λv hv=>by rw[Zvl hv];omega) (λv hv=>by rw[Zvl hv];omega);generalize aDS 1 1 1 (Yo (Zg 1).length (edg 1)) (List.replicate 30 0) (List.replicate 12 1) (List.replicate 30 0) (edg 1) (edg 1).length=X at*
 generalize aFS 1 1 1 (List.replicate 30 0) (List.replicate 12 1) (List.replicate 30 0) (edg 1) (edg 1).length=Y at*
 rw[h1]at ap k2;replace k1:X.length=12:=k1;replace ap:cl fu (d+12) fn_adjoint_Apply [V.agg [C.v (.int .i64 1),C.v (.int .i64 1),C.v (.int .i64 1)],I 1,V.c (C.sl 30 (ints (List.replicate 30 0))),V.agg [C.sl 12 (ints (List.replicate 12 1)),C.sl 30 (ints (List.replicate 30 0))]] []=OK (V.tup [V.agg [C.sl 12 (ints X),C.sl 30 (ints Y)],I 0]):=ap;have i1:=Zt X (i:=5) (by omega);have i2:=Zt Y (i:=9) (by omega);rw[v1]at i1;rw[v2]at i2;have hz:ints (List.replicate 30 0)=[C.v (.int .i64 0),C.v (.int .i64 0),C.v (.int .i64 0),C.v (.int .i64 0),C.v (.int .i64 0),C.v (.int .i64 0),C.v (.int .i64 0),C.v (.int .i64 0),C.v (.int .i64 0),C.v (.int .i64 0),C.v (.int .i64 0),C.v (.int .i64 0),C.v (.int .i64 0),C.v (.int .i64 0),C.v (.int .i64 0),C.v (.int .i64 0),C.v (.int .i64 0),C.v (.int .i64 0),C.v (.int .i64 0),C.v (.int .i64 0),C.v (.int .i64 0),C.v (.int .i64 0),C.v (.int .i64 0),C.v (.int .i64 0),C.v (.int .i64 0),C.v (.int .i64 0),C.v (.int .i64 0),C.v (.int .i64 0),C.v (.int .i64 0),C.v (.int .i64 0)]:=rfl;have hzl:(ints (List.replicate 30 0)).length=30:=rfl;have ho:List.take 12 (ints (List.replicate 12 1++List.replicate 0 0))=ints (List.replicate 12 1):=rfl;have hz3:List.take 30 (ints (List.replicate 30 0))=ints (List.replicate 30 0):=rfl;rw[eq_synopticlaw32_awake];rw[<-hz];generalize ints (List.replicate 30 0)=Z at*
 rw[Zs (λj:Nat=>(((j:Nat):Int),(ints (List.replicate j 1++List.replicate (12-j) 0),Z,()),())) 0 (((12:Nat):Int),(ints (List.replicate 12 1++List.replicate 0 0),Z,()),()) 12 ?_ ?_ ?_ (by omega)]
 ·have hol:(List.replicate 12 (1:Int)++List.replicate 0 0).length=12:=rfl;simp(disch:=omega)only[Zc,QM,QD,Ze,hol,hzl,hz3,ho,Ztl,Ztc,Zs3,ap,i1,i2,Zs4,Zs8,Nat.reduceAdd]
 ·rfl
 ·intro j hj;have s1:=Zoq j hj;have s2:=Ze3 j (by omega);have s3:=Ze3 (j+1) (by omega);have p1:=Pw (List.replicate j (1:Int)++List.replicate (12-j) 0) (i:=j) (by omega) 1;rw[s1]at p1;generalize List.replicate j (1:Int)++List.replicate (12-j) 0=A at*
  generalize List.replicate (j+1) (1:Int)++List.replicate (12-(j+1)) 0=A' at*
  simp(disch:=omega)only[Zc,QM,QD,Ze,s2,s3,hzl,Zs5,Ztl,Ztc,Zs3,p1];rfl
 ·have hol:(List.replicate 12 (1:Int)++List.replicate (12-12) 0).length=12:=rfl;simp(disch:=omega)only[Zc,QM,QD,Ze,hol,hzl,Ztl,Ztc]
end
end Go.Proofs.YtjmempcalaliiaaGreatDoor
/- AdjointExact answers true. -/
namespace Go.Proofs.YtjmempcalaliiaaGreatDoor
open Go Go.PM Go.Grid
attribute [local congr] Zu Zv Zw Yd Zx Zy Ye Yf Yg Yh Zz Z0 Yi Yx Yy Yz Y1 Y2 Y5 Y6 Y7 Y8 Y4 Z2 Z3 Y9 Z4 Z5 Zk Z6 Z1
theorem Zcj (x:Int): -9223372036854775808<=IntKind.i64.wrap x/\IntKind.i64.wrap x<=9223372036854775807:=by simp only[IntKind.wrap_i64];omega
theorem Zqt {a b c:Nat} {dg br gd gf:List Int} {E:List (Int×Int)} (hE: ∀e∈E,e.1.toNat<gd.length/\e.2.toNat<gd.length) (hg: ∀i,-1099511627776<=at0 gd i/\at0 gd i<=1099511627776):wid (-9223372036854775808) 9223372036854775807 (aDS a b c dg br gd gf E E.length):=
 Eo λk hk=>by
  rw[Zhd a b c dg br gd gf E hE hg E.length (Ztg _) k hk];exact Zcj _
theorem Zqu {a b c:Nat} {br gd gf:List Int} {E:List (Int×Int)}:wid (-9223372036854775808) 9223372036854775807 (aFS a b c br gd gf E E.length):=
 Eo λk hk=>by
  rw[Np]at hk;unfold aFS;rw[Qd _ _ hk];unfold aFl;split
  ·exact Zcj _
  ·exact Zcj _
section
variable (fu d:Nat) (hfu:18446744073709551616<=fu)
include hfu
end
end Go.Proofs.YtjmempcalaliiaaGreatDoor
/- Steps of changes, one after the other: forth and transposed. -/
namespace Go.Proofs.YtjmempcalaliiaaGreatDoor
open Go Go.PM Go.Grid
attribute [local congr] Zu Zv Zw Yd Zx Zy Ye Yf Yg Yh Zz Z0 Yi Yx Yy Yz Y1 Y2 Y5 Y6 Y7 Y8 Y4 Z2 Z3 Y9 Z4 Z5 Zk Z6 Z1
def R8 (s:List Int×List Int):Bool:= !Vr (-1099511627776) 1099511627776 s.1&& !Vr (-1099511627776) 1099511627776 s.2
theorem Bs {s:List Int×List Int} (h:R8 s=true):wid (-1099511627776) 1099511627776 s.1/\wid (-1099511627776) 1099511627776 s.2:=by
 unfold R8 at h;rw[Zs2,Ztw,Ztw]at h;exact⟨Qo.1 h.1,Qo.1 h.2⟩
def F4 (n a b c:Nat) (h:List Int×List Int) (br:List Int):List Int×List Int:=(tDL a b c (Yo (Zg n).length (edg n)) br h.1 h.2 (edg n),tFL a b c h.1 h.2 (edg n) (edg n).length)
def Bt (n a b c:Nat) (g:List Int×List Int) (br:List Int):List Int×List Int:=(aDS a b c (Yo (Zg n).length (edg n)) br g.1 g.2 (edg n) (edg n).length,aFS a b c br g.1 g.2 (edg n) (edg n).length)
def tC (n a b c:Nat):List (List Int)->List Int×List Int->Option (List Int×List Int)
 | [],s=>some s
 |br::r,s=>if R8 s=true then tC n a b c r (F4 n a b c s br)else none
def aC (n a b c:Nat):List (List Int)->List Int×List Int->Option (List Int×List Int)
 | [],g=>some g
 |br::r,g=>(aC n a b c r g).bind λq=>if R8 q=true then some (Bt n a b c q br)else none
def Sa (n:Nat) (s:List Int×List Int):Prop:=s.1.length=(Zg n).length/\s.2.length=(edg n).length
def Gh (n:Nat) (br:List Int):Prop:=br.length=(edg n).length/\wid (-1) 1 br
theorem Mz {n a b c:Nat} {s:List Int×List Int} (h:Sa n s) (br:List Int):Sa n (F4 n a b c s br):=⟨(Kz ..).trans h.1,Ky ..⟩
theorem Ze4 {n a b c:Nat} {s:List Int×List Int} (h:Sa n s) (br:List Int):Sa n (Bt n a b c s br):=⟨(Rl ..).trans h.1,Np ..⟩
theorem Zor {n a b c:Nat}: ∀{brs:List (List Int)} {s p:List Int×List Int},Sa n s->tC n a b c brs s=some p->Sa n p
 | [],s,p,h,e=>by injection e with e;subst e;exact h
 |br::r,s,p,h,e=>by
  unfold tC at e;split at e
  ·exact Zor (Mz h br) e
  ·cases e
theorem Bu {n a b c:Nat}: ∀{brs:List (List Int)} {s p:List Int×List Int},Sa n s->aC n a b c brs s=some p->Sa n p
 | [],s,p,h,e=>by injection e with e;subst e;exact h
 |br::r,s,p,h,e=>by
  unfold aC at e;obtain⟨q,e1,e2⟩:=Zth.1 e;split at e2
  ·injection e2 with e2;subst e2;exact Ze4 (Bu h e1) br
  ·cases e2
def w64 (s:List Int×List Int):Prop:=wid (-9223372036854775808) 9223372036854775807 s.1/\wid (-9223372036854775808) 9223372036854775807 s.2
theorem Zsy {n a b c:Nat} (hn:n=1\/n=2) (ha:a<=4) (hb:b<=4) (hc:c<=4) {s:List Int×List Int} (h:Sa n s) (ok:R8 s=true) (br:List Int):w64 (F4 n a b c s br):=by
 obtain⟨w1,w2⟩:=Bs ok;have b1:=Rz w1 (by omega);have b2:=Rz w2 (by omega);exact⟨V6 (Zql (br:=br) ha hb hc hn (by omega) h.1 b1 b2) (by omega) (by omega),V6 (Zqm ha hb hc (E:=edg n) (by omega) b1 b2 (edg n).length) (by omega) (by omega)⟩
theorem tC_w {n a b c:Nat} (hn:n=1\/n=2) (ha:a<=4) (hb:b<=4) (hc:c<=4): ∀{brs:List (List Int)} {s p:List Int×List Int},Sa n s->w64 s->tC n a b c brs s=some p->w64 p
 | [],s,p,h,hw,e=>by injection e with e;subst e;exact hw
 |br::r,s,p,h,hw,e=>by
  unfold tC at e;split at e
  ·rename_i ok;exact tC_w hn ha hb hc (Mz h br) (Zsy hn ha hb hc h ok br) e
  ·cases e
theorem Zsz {n a b c:Nat} (hf:Yc n) {s:List Int×List Int} (h:Sa n s) (ok:R8 s=true) (br:List Int):w64 (Bt n a b c s br):=by
 obtain⟨w1,w2⟩:=Bs ok;have b1:=Rz w1 (by omega);have hl:=h.1;exact⟨Zqt (λe he=>by have:=Re hf e he;omega) b1,Zqu⟩
theorem aC_w {n a b c:Nat} (hf:Yc n): ∀{brs:List (List Int)} {s p:List Int×List Int},Sa n s->w64 s->aC n a b c brs s=some p->w64 p
 | [],s,p,h,hw,e=>by injection e with e;subst e;exact hw
 |br::r,s,p,h,hw,e=>by
  unfold aC at e;obtain⟨q,e1,e2⟩:=Zth.1 e;split at e2
  ·rename_i ok;injection e2 with e2;subst e2;exact Zsz hf (Bu h e1) ok br
  ·cases e2
def dot2 (p q:List Int×List Int):Int:=So p.1 q.1+So p.2 q.2
theorem Bv {n a b c:Nat} (hn:n=1\/n=2) (ha:a<=4) (hb:b<=4) (hc:c<=4): ∀{brs:List (List Int)} (_: ∀br∈brs,Gh n br) {h g p q:List Int×List Int},Sa n h->Sa n g->tC n a b c brs h=some p->aC n a b c brs g=some q->dot2 p g=dot2 h q
 | [],_,h,g,p,q,l1,l2,e1,e2=>by injection e1 with e1;injection e2 with e2;subst e1;subst e2;rfl
 |br::r,hbr,h,g,p,q,l1,l2,e1,e2=>by
  unfold tC at e1;unfold aC at e2;obtain⟨q',e3,e4⟩:=Zth.1 e2;split at e1
  ·split at e4
   ·rename_i ok;injection e4 with e4
    subst e4;have ih:=Bv hn ha hb hc (λx hx=>hbr x (Ztq _ hx)) (Mz l1 br) l2 e1 e3;have hb0:=hbr br (Zub ..);have lq:=Bu l2 e3;obtain⟨w1,w2⟩:=Bs ok;rw[ih];exact Zk0 a b c ha hb hc hn l1.1 l1.2 lq.1 lq.2 hb0.2 w1 w2
   ·cases e4
  ·cases e1
def cO (o:Option (List Int×List Int)):Option Out:=match o with
 |some s=>OK (V.tup [V.agg [C.sl s.1.length (ints s.1),C.sl s.2.length (ints s.2)],I 0])
 |none=>OK (V.tup [V.agg [C.nl,C.nl],I 1])
section
variable (fu d:Nat) (hfu:18446744073709551616<=fu)
include hfu
omit hfu in
theorem Zos {n:Nat} {br:List Int} {s:List Int×List Int} (ok:R8 s=false): ¬isCh (n:Int) br s.1 s.2:=by
 rintro ⟨m,_,_,_,_,_,_,w1,w2⟩
 unfold R8 at ok;rw[Qo.2 w1,Qo.2 w2]at ok;cases ok
theorem Hi (n:Nat) (h:Yc n) (a b c:Nat) (ha:1<=a/\a<=4) (hb:1<=b/\b<=4) (hc:1<=c/\c<=4) (br:List Int) (hbr:Gh n br) (s:List Int×List Int) (hs:Sa n s) (ok:R8 s=false):
  cl fu (d+12) fn_tangent_Apply [V.agg [C.v (.int .i64 (a:Int)),C.v (.int .i64 (b:Int)),C.v (.int .i64 (c:Int))],I n,V.c (C.sl br.length (ints br)),V.agg [C.sl s.1.length (ints s.1),C.sl s.2.length (ints s.2)]] []=OK (V.tup [V.agg [C.nl,C.nl],I 1])/\
  cl fu (d+12) fn_adjoint_Apply [V.agg [C.v (.int .i64 (a:Int)),C.v (.int .i64 (b:Int)),C.v (.int .i64 (c:Int))],I n,V.c (C.sl br.length (ints br)),V.agg [C.sl s.1.length (ints s.1),C.sl s.2.length (ints s.2)]] []=OK (V.tup [V.agg [C.nl,C.nl],I 1]):=by
 have hNl:=Yw h;have heL:=Qc h;have l0:=hbr.1;have l1:=hs.1;have l2:=hs.2;have e1:=Bm fu (d+4) hfu a b c ha hb hc;have e2:=(Zha fu (d+1) hfu (n:Int) br (Zn7 s.1) (Zn7 s.2) (by omega) (by omega) (by omega)).2 (Zos ok);constructor
 ·rw[eq_tangent_Apply];simp(disch:=omega)only[Zc,QM,QD,e1,e2]
 ·rw[eq_adjoint_Apply];simp(disch:=omega)only[Zc,QM,QD,e1,e2]
theorem Zk4 (n:Nat) (hn:n=1\/n=2) (a b c:Nat) (ha:1<=a/\a<=4) (hb:1<=b/\b<=4) (hc:1<=c/\c<=4) (br:List Int) (hbr:Gh n br) (s:List Int×List Int) (hs:Sa n s):
  cl fu (d+12) fn_tangent_Apply [V.agg [C.v (.int .i64 (a:Int)),C.v (.int .i64 (b:Int)),C.v (.int .i64 (c:Int))],I n,V.c (C.sl br.length (ints br)),V.agg [C.sl s.1.length (ints s.1),C.sl s.2.length (ints s.2)]] []=cO (if R8 s=true then some (F4 n a b c s br)else none):=by
 cases ok:R8 s with
 |true=>
  obtain⟨w1,w2⟩:=Bs ok;have r:=Zkz fu d hfu n hn a b c ha hb hc br s.1 s.2 hbr.1 hs.1 hs.2 hbr.2 1099511627776 (by omega) w1 w2;have q:=Mz (a:=a) (b:=b) (c:=c) hs br;rw[r,if_pos rfl];show _=OK (V.tup [V.agg [C.sl (F4 n a b c s br).1.length (ints (F4 n a b c s br).1),C.sl (F4 n a b c s br).2.length (ints (F4 n a b c s br).2)],I 0]);rw[q.1.trans hs.1.symm,q.2];rfl
 |false=>exact(Hi fu d hfu n (J8 hn) a b c ha hb hc br hbr s hs ok).1
theorem Zhh (n:Nat) (h:Yc n) (a b c:Nat) (ha:1<=a/\a<=4) (hb:1<=b/\b<=4) (hc:1<=c/\c<=4) (br:List Int) (hbr:Gh n br) (s:List Int×List Int) (hs:Sa n s):
  cl fu (d+12) fn_adjoint_Apply [V.agg [C.v (.int .i64 (a:Int)),C.v (.int .i64 (b:Int)),C.v (.int .i64 (c:Int))],I n,V.c (C.sl br.length (ints br)),V.agg [C.sl s.1.length (ints s.1),C.sl s.2.length (ints s.2)]] []=cO (if R8 s=true then some (Bt n a b c s br)else none):=by
 cases ok:R8 s with
 |true=>
  obtain⟨w1,w2⟩:=Bs ok;have r:=W8 fu d hfu n h a b c ha hb hc br s.1 s.2 hbr.1 hs.1 hs.2 hbr.2 w1 w2;have q:=Ze4 (a:=a) (b:=b) (c:=c) hs br;rw[r,if_pos rfl];show _=OK (V.tup [V.agg [C.sl (Bt n a b c s br).1.length (ints (Bt n a b c s br).1),C.sl (Bt n a b c s br).2.length (ints (Bt n a b c s br).2)],I 0]);rw[q.1.trans hs.1.symm,q.2];rfl
 |false=>exact(Hi fu d hfu n h a b c ha hb hc br hbr s hs ok).2
end
end Go.Proofs.YtjmempcalaliiaaGreatDoor
/- Both compositions: what they hand out. -/
namespace Go.Proofs.YtjmempcalaliiaaGreatDoor
open Go Go.PM Go.Grid
theorem W9 {T A:Type} (body:T->A->Option (Nat×A)): ∀(xs ys:List T) (x:A),overK body (xs++ys) x=(overK body xs x).bind λp=>match p.1 with|0=>overK body ys p.2|m+1=>some (m+1,p.2)
 | [],ys,x=>rfl
 |i::r,ys,x=>by
  show(body i x).bind _=((body i x).bind _).bind _;cases body i x with
  |none=>rfl
  |some p=>
   obtain⟨e,y⟩:=p;cases e with
   |zero=>exact W9 body r ys y
   |succ m=>rfl
theorem Zqv (n a b c:Nat) (br:List Int) (r:List (List Int)) (s:List Int×List Int):tC n a b c (br::r) s=if R8 s=true then tC n a b c r (F4 n a b c s br)else none:=rfl
theorem Zqw (n a b c:Nat) (br:List Int) (r:List (List Int)) (g:List Int×List Int):aC n a b c (br::r) g=(aC n a b c r g).bind λq=>if R8 q=true then some (Bt n a b c q br)else none:=rfl
def bk (m:Nat) (cs:List C):List (List V):=((cs.zipIdx m).reverse).map λp=>[I ((p.2:Nat):Int),V.c p.1]
theorem Zqx (m:Nat) (c:C) (cs:List C):bk m (c::cs)=bk (m+1) cs++[[I ((m:Nat):Int),V.c c]]:=by
 unfold bk;rw[List.zipIdx_cons,List.reverse_cons,Zup];rfl
theorem Zin {A:Type} {body:List V->A->Option (Nat×A)} (st:List Int×List Int->A) (bd:A) {n a b c:Nat}
  (h: ∀(i:Int) (br:List Int) (s:List Int×List Int),Gh n br->Sa n s->body [I i,V.c (bA br)] (st s)=if R8 s=true then some (0,st (Bt n a b c s br))else some (1,bd)):
  ∀(brs:List (List Int)) (_: ∀br∈brs,Gh n br) (m:Nat) (s:List Int×List Int) (_:Sa n s) (x:A) (_:x=st s),overK body (bk m (brs.map bA)) x=match aC n a b c brs s with|some q=>some (0,st q)|none=>some (1,bd)
 | [],_,m,s,_,x,hx=>by subst hx;rfl
 |br::r,hbr,m,s,hs,x,hx=>by
  rw[Zt7,Zqx,W9,Zin st bd h r (λy hy=>hbr y (Ztq _ hy)) (m+1) s hs x hx,Zqw];cases hq:aC n a b c r s with
  |none=>rfl
  |some q=>
   show(body [I ((m:Nat):Int),V.c (bA br)] (st q)).bind _=_;rw[h _ br q (hbr br (Zub ..)) (Bu hs hq)];show _=match(if R8 q=true then some (Bt n a b c q br)else none)with|some q=>some (0,st q)|none=>some (1,bd)
   split<;>rfl
theorem map_drop {brs:List (List Int)} {j:Nat} (h:j<brs.length):List.drop j (brs.map bA)=C.sl brs[j].length (ints brs[j])::List.drop (j+1) (brs.map bA):=by
 rw[Zt4 (by rw[Zte];exact h),Zvj];rfl
attribute [local congr] Zu Zv Zw Yd Zx Zy Ye Yf Yg Yh Zz Z0 Yi Yx Yy Yz Y1 Y2 Y5 Y6 Y7 Y8 Y4 Z2 Z3 Y9 Z4 Z5 Zk Z6 Z1
section
variable (fu d:Nat) (hfu:18446744073709551616<=fu)
include hfu
theorem Zck (n:Nat) (hn:n=1\/n=2) (a b c:Nat) (ha:1<=a/\a<=4) (hb:1<=b/\b<=4) (hc:1<=c/\c<=4) (br:List Int) (hbr:Gh n br) (s:List Int×List Int) (hs:Sa n s):
  cl fu (d+13) fn_tangent_Compose_1 [V.agg [C.sl s.1.length (ints s.1),C.sl s.2.length (ints s.2)],V.c (C.sl br.length (ints br)),V.c (C.cp [C.v (.int .i64 (a:Int)),C.v (.int .i64 (b:Int)),C.v (.int .i64 (c:Int))]),V.c (C.cp [C.v (.int .i64 (n:Int))])] []=cO (if R8 s=true then some (F4 n a b c s br)else none):=by
 have ap:=Zk4 fu d hfu n hn a b c ha hb hc br hbr s hs;generalize (if R8 s=true then some (F4 n a b c s br)else none)=o at*
 rw[eq_tangent_Compose_1];cases o with
 |none=>
  unfold cO at*
  simp(disch:=omega)only[Zc,QM,QD,ap,Zs4,Zs8,Zs3,Nat.reduceAdd]
 |some t=>
  unfold cO at*
  simp(disch:=omega)only[Zc,QM,QD,ap,Zs4,Zs8,Zs3,Nat.reduceAdd]
set_option maxHeartbeats 1000000 in
theorem Zot (n:Nat) (hn:n=1\/n=2) (a b c:Nat) (ha:1<=a/\a<=4) (hb:1<=b/\b<=4) (hc:1<=c/\c<=4) (brs:List (List Int)) (hbr: ∀br∈brs,Gh n br) (hk:brs.length<=1000) (s:List Int×List Int) (hs:Sa n s):
  cl fu (d+14) fn_tangent_fold_api_Change_api_Branch [V.c (C.sl brs.length (brs.map bA)),V.agg [C.sl s.1.length (ints s.1),C.sl s.2.length (ints s.2)],V.c (C.fn fn_tangent_Compose_1 [C.cp [C.v (.int .i64 (a:Int)),C.v (.int .i64 (b:Int)),C.v (.int .i64 (c:Int))],C.cp [C.v (.int .i64 (n:Int))]])] []=cO (tC n a b c brs s):=by
 have ap:=λbr h t ht=>Zck fu d hfu n hn a b c ha hb hc br h t ht;rw[eq2_tangent_fold_api_Change_api_Branch];refine Uw (A:=Int×Int×(C×C×Unit)×(C×C×Unit)×Unit) (B:=Out) (fu:=fu) (λo=>o=cO (tC n a b c brs s))
  (λy=> ∃(j:Nat) (t:List Int×List Int),j<=brs.length/\Sa n t/\tC n a b c (brs.drop j) t=tC n a b c brs s/\y=(0,(j:Int),(C.sl t.1.length (ints t.1),C.sl t.2.length (ints t.2),()),(C.nl,C.nl,()),())) (λy=>brs.length-y.2.1.toNat)
  (λe z=>e=0/\(∃t:List Int×List Int,tC n a b c brs s=some t/\z=(0,(brs.length:Int),(C.sl t.1.length (ints t.1),C.sl t.2.length (ints t.2),()),(C.nl,C.nl,()),()))\/e=1/\tC n a b c brs s=none/\ ∃j:Int,z=(1,j,(C.nl,C.nl,()),(C.nl,C.nl,()),())) ?_ ?_ ?_ ?_
 ·exact⟨0,s,by omega,hs,rfl,rfl⟩
 ·show brs.length-_<fu;omega
 ·rintro y ⟨j,t,hj,ht,hr,rfl⟩
  by_cases hlt:j<brs.length
  ·have hdr:=map_drop hlt;have hbj:=hbr brs[j] (Zt0 hlt);have e1:=ap brs[j] hbj t ht;have hd:=Zt4 hlt;rw[hd,Zqv]at hr;cases ok:R8 t with
   |true=>
    rw[ok,if_pos rfl]at e1 hr;unfold cO at e1;refine .inl ⟨_, ?_,⟨j+1,F4 n a b c t brs[j],by omega,Mz ht _,hr,rfl⟩, ?_⟩
    ·simp(disch:=omega)only[Zc,QM,QD,Zs5,Ztc,hdr,e1,Zs4,Zs8,Zs3,Nat.reduceAdd];rfl
    ·show brs.length-((j+1:Nat):Int).toNat<brs.length-((j:Nat):Int).toNat;omega
   |false=>
    rw[ok,if_neg (by simp)]at e1 hr;unfold cO at e1;refine .inr ⟨1,_, ?_, .inr ⟨rfl,hr.symm,(j:Int),rfl⟩⟩;simp(disch:=omega)only[Zc,QM,QD,Zs5,Ztc,hdr,e1,Zs4,Zs8,Zs3,Nat.reduceAdd]
  ·obtain rfl:j=brs.length:=by omega
   rw[List.drop_length]at hr;refine .inr ⟨0,_, ?_, .inl ⟨rfl,t,hr.symm,rfl⟩⟩;simp(disch:=omega)only[Zc,QM,QD]
 ·rintro e z (⟨rfl,t,hr,rfl⟩|⟨rfl,hr,j,rfl⟩)
  ·rw[hr];unfold cO;simp(disch:=omega)only[Zc,QM,QD]
  ·rw[hr];unfold cO;simp(disch:=omega)only[Zc,QM,QD]
theorem Zou (n:Nat) (hn:n=1\/n=2) (a b c:Nat) (ha:1<=a/\a<=4) (hb:1<=b/\b<=4) (hc:1<=c/\c<=4) (brs:List (List Int)) (hbr: ∀br∈brs,Gh n br) (hk:brs.length<=1000) (s:List Int×List Int) (hs:Sa n s):
  cl fu (d+15) fn_tangent_Compose [V.agg [C.v (.int .i64 (a:Int)),C.v (.int .i64 (b:Int)),C.v (.int .i64 (c:Int))],I n,V.c (C.sl brs.length (brs.map bA)),V.agg [C.sl s.1.length (ints s.1),C.sl s.2.length (ints s.2)]] []=cO (tC n a b c brs s):=by
 have h:=J8 hn;have hNl:=Yw h;have heL:=Qc h;have l1:=hs.1;have l2:=hs.2;have k1:=Lh fu (d+13) s.1 (by omega);have k2:=Lh fu (d+13) s.2 (by omega);have t1:List.take s.1.length (ints s.1)=ints s.1:=Ztd (by rw[Ze];exact Ztg _);have t2:List.take s.2.length (ints s.2)=ints s.2:=Ztd (by rw[Ze];exact Ztg _);have e1:=Zot fu d hfu n hn a b c ha hb hc brs hbr hk s hs;generalize tC n a b c brs s=o at*
 rw[eq_tangent_Compose];cases o with
 |none=>
  unfold cO at*
  simp(disch:=omega)only[Zc,QM,QD,k1,k2,Zem,Kq,Ze,Ztc,Zs3,t1,t2,e1,Zs4,Zs8,Nat.reduceAdd]
 |some t=>
  unfold cO at*
  simp(disch:=omega)only[Zc,QM,QD,k1,k2,Zem,Kq,Ze,Ztc,Zs3,t1,t2,e1,Zs4,Zs8,Nat.reduceAdd]
theorem Zov (n:Nat) (h:Yc n) (a b c:Nat) (ha:1<=a/\a<=4) (hb:1<=b/\b<=4) (hc:1<=c/\c<=4) (brs:List (List Int)) (hbr: ∀br∈brs,Gh n br) (hk:brs.length<=1000) (s:List Int×List Int) (hs:Sa n s):
  cl fu (d+14) fn_adjoint_Compose [V.agg [C.v (.int .i64 (a:Int)),C.v (.int .i64 (b:Int)),C.v (.int .i64 (c:Int))],I n,V.c (C.sl brs.length (brs.map bA)),V.agg [C.sl s.1.length (ints s.1),C.sl s.2.length (ints s.2)]] []=cO (aC n a b c brs s):=by
 have hNl:=Yw h;have heL:=Qc h;have l1:=hs.1;have l2:=hs.2;have k1:=Lh fu (d+12) s.1 (by omega);have k2:=Lh fu (d+12) s.2 (by omega);have t1:List.take s.1.length (ints s.1)=ints s.1:=Ztd (by rw[Ze];exact Ztg _);have t2:List.take s.2.length (ints s.2)=ints s.2:=Ztd (by rw[Ze];exact Ztg _);have kb:=Zk3 (d+3) (brs.map bA) (by rw[Zte];omega);rw[Zte]at kb;have ap:=λbr h' t ht=>Zhh fu (d+1) hfu n h a b c ha hb hc br h' t ht;rw[eq_adjoint_Compose,eq_slices_Backward_sapi_Branch_api_Branch];simp(disch:=omega)only[Zc,QM,QD,k1,k2,Zem,Kq,Ze,Ztc,Zs3,t1,t2,kb];rw[show backL (brs.map bA)=bk 0 (brs.map bA) from rfl];rw[Zin (n:=n) (a:=a) (b:=b) (c:=c) (λs=>((C.nl,C.nl,()),((0:Int),()),(C.sl s.1.length (ints s.1),C.sl s.2.length (ints s.2),()),())) ((C.nl,C.nl,()),((1:Int),()),(C.nl,C.nl,()),()) ?_ brs hbr 0 s hs _ rfl]
 ·cases aC n a b c brs s with
  |none=>rfl
  |some q=>rfl
 ·intro i br t hb0 ht;have e1:=ap br hb0 t ht;unfold bA;cases ok:R8 t with
  |true=>
   rw[ok,if_pos rfl]at e1;rw[if_pos rfl];unfold cO at e1;simp(disch:=omega)only[Zc,QM,QD,e1,Zs4,Zs8,Zs3,Nat.reduceAdd]
  |false=>
   rw[ok,if_neg (by simp)]at e1;rw[if_neg (by simp)];unfold cO at e1;simp(disch:=omega)only[Zc,QM,QD,e1,Zs4,Zs8,Zs3,Nat.reduceAdd]
end
end Go.Proofs.YtjmempcalaliiaaGreatDoor
/- AdjointSensitivity answers true. -/
namespace Go.Proofs.YtjmempcalaliiaaGreatDoor
open Go Go.PM Go.Grid
section
variable {n a b c:Nat} (hn:n=1\/n=2) (ha:a<=4) (hb:b<=4) (hc:c<=4)
include hn ha hb hc
end
attribute [local congr] Zu Zv Zw Yd Zx Zy Ye Yf Yg Yh Zz Z0 Yi Yx Yy Yz Y1 Y2 Y5 Y6 Y7 Y8 Y4 Z2 Z3 Y9 Z4 Z5 Zk Z6 Z1
section
variable (fu d:Nat)
variable (hfu:18446744073709551616<=fu)
include hfu
end
end Go.Proofs.YtjmempcalaliiaaGreatDoor
/- AdjointComposes answers true. -/
namespace Go.Proofs.YtjmempcalaliiaaGreatDoor
open Go Go.PM Go.Grid
theorem Zs0 (n a b c:Nat) (dp fw:List Int):Gh n (stB n a b c dp fw):=⟨Kx ..,Eo λk hk=>by
 rw[Kx]at hk;rw[Zsn n a b c dp fw hk];unfold brE brn
 repeat' split
 all_goals omega⟩
theorem Zow (brs:List (List Int)) (br:List Int):brs.map bA++[C.sl br.length (ints br)]=(brs++[br]).map bA:=by
 rw[Zup];rfl
attribute [local congr] Zu Zv Zw Yd Zx Zy Ye Yf Yg Yh Zz Z0 Yi Yx Yy Yz Y1 Y2 Y5 Y6 Y7 Y8 Y4 Z2 Z3 Y9 Z4 Z5 Zk Z6 Z1
section
variable (fu d:Nat) (hfu:18446744073709551616<=fu)
include hfu
set_option maxHeartbeats 4000000 in
theorem sp_AdjointComposes (l:List Int) (hl: ∀x∈l,0<=x/\x<=255) (st:Int) (hst:0<=st/\st<=255):cl fu (d+18) fn_synopticlaw32_AdjointComposes [V.c (C.sl l.length (ik .u8 l)),V.c (C.v (.int .u8 st))] []=OK (B true):=by
 have hA:=Zhg fu (d+4) hfu;have hb:=Zg4 hl (k:=300) (by omega);have hN:=Zqc fu (d+16) l 300;replace hN:cl fu (d+17) fn_synopticfield_New [V.c (C.sl l.length (ik .u8 l)),I 300] []=_:=hN;generalize l.take 300=bs at hb hN;obtain⟨n,j1,hn,hj1,c1⟩:=Zb8 fu (d+14) hb (i:=0) (by omega);have h:=J8 hn;obtain⟨a,b,c,j2,ha,hb',hc,hj2,c2⟩:=Zkt fu (d+14) hb hj1;obtain⟨dp0,fw0,j3,ok0,hj3,c3⟩:=Zn3 fu (d+7) hfu hb hj2 n h;obtain⟨hd,hf,j4,h1,h2,h3,h4,hj4,c4⟩:=W4 fu (d+7) hfu hb hj3 n h 9 (by omega) 9 (by omega);obtain⟨gd,gf,j5,g1,g2,g3,g4,hj5,c5⟩:=W4 fu (d+7) hfu hb hj4 n h 9 (by omega) 9 (by omega);replace c4:cl fu (d+17) fn_synopticfield_Codes_Change [V.ptr 1000000 0,I n,I 9] _=_:=c4;replace c5:cl fu (d+17) fn_synopticfield_Codes_Change [V.ptr 1000000 0,I n,I 9] _=_:=c5;have heL:=Qc h;have hNl:=Yw h;have hNp:=Zg5 h;obtain⟨m,hm,s1⟩: ∃m:Nat,(1<=m/\m<=3)/\IntKind.i64.wrap (1+Int.tmod (IntKind.i64.wrap st) 3)=(m:Int):=by
  rw[Xj (x:=st) (by omega) (by omega),Int.tmod_eq_emod_of_nonneg hst.1,Xj (by omega) (by omega)];exact⟨(1+st%3).toNat,by omega,by omega⟩
 have stp:=λdp fw hv=>Zqi fu (d+2) hfu n h dp fw hv a b c ha hb' hc;have hs:Sa n (hd,hf):=⟨h1,h2⟩;have hg:Sa n (gd,gf):=⟨g1,g2⟩;have wh:w64 (hd,hf):=⟨V6 h3 (by omega) (by omega),V6 h4 (by omega) (by omega)⟩;have wg:w64 (gd,gf):=⟨V6 g3 (by omega) (by omega),V6 g4 (by omega) (by omega)⟩;unfold Xh stC at*
 rw[eq_synopticlaw32_AdjointComposes,s1];simp(disch:=omega)only[Zc,QM,QD,Zem,Kq,Zq9,hA,hN,c1,c2,c3,Zs4,Zs8,Zs3,Nat.reduceAdd];refine Uw (A:=Bool×List C×Int×(Int×C×C×Unit)×(C×Int×Unit)×Unit) (B:=Out) (fu:=fu) (λo=>o=OK (B true))
  (λy=> ∃(brs:List (List Int)) (dp fw:List Int),(∀br∈brs,Gh n br)/\brs.length<=m/\Vst n dp fw/\y=(false,brs.map bA,((brs.length:Nat):Int),((n:Int),C.sl dp.length (ints dp),C.sl fw.length (ints fw),()),(C.sl bs.length (ik .u8 bs),(j3:Int),()),())) (λy=>m-y.2.2.1.toNat)
  (λe z=>e=0/\ ∃(brs:List (List Int)) (k n1:Int) (x1 x2:C),(∀br∈brs,Gh n br)/\brs.length<=3/\z=(false,brs.map bA,k,(n1,x1,x2,()),(C.sl bs.length (ik .u8 bs),(j3:Int),()),())) ?_ ?_ ?_ ?_
 ·exact⟨[],dp0,fw0,λx hx=>(List.not_mem_nil hx).elim,by simp only[Zs8];omega,ok0.vst,rfl⟩
 ·show m-_<fu;omega
 ·rintro y ⟨brs,dp,fw,hbr,hlm,hv,rfl⟩
  by_cases hlt:brs.length<m
  ·have e1:=stp dp fw hv;unfold stpO at e1;cases ho:Zih n a b c dp fw with
   |true=>
    rw[ho]at e1;replace e1:_=OK (V.tup [V.agg [C.v (.int .i64 0),C.nl,C.nl],V.c C.nl,I 7]):=e1;refine .inr ⟨0,(false,brs.map bA,((brs.length:Nat):Int),((n:Int),C.sl dp.length (ints dp),C.sl fw.length (ints fw),()),(C.sl bs.length (ik .u8 bs),(j3:Int),()),()), ?_,rfl,brs,_,_,_,_,hbr,by omega,rfl⟩;simp(disch:=omega)only[Zc,QM,QD,e1,Zte,Ztl,Ztc,Zs4,Zs8,Zs3,Nat.reduceAdd]
   |false=>
    rw[ho]at e1;replace e1:_=OK (V.tup [V.agg (stC n (stD n a b c dp fw) (stF n a b dp fw)),V.c (C.sl (stB n a b c dp fw).length (ints (stB n a b c dp fw))),I 0]):=e1;unfold stC at e1;have hv':=hv.step ho;have hB:=Zs0 n a b c dp fw;refine .inl ⟨_, ?_,⟨brs++[stB n a b c dp fw],stD n a b c dp fw,stF n a b dp fw, ?_,by rw[Ztb,Zvw];omega,hv',rfl⟩, ?_⟩
    ·have hw:IntKind.i64.wrap (((brs.length:Nat):Int)+1)=(((brs++[stB n a b c dp fw]).length:Nat):Int):=by
      rw[Xj (by omega) (by omega),Ztb,Zvw];rfl
     simp(disch:=omega)only[Zc,QM,QD,e1,Zte,Ztb,Ztl,Ztc,Zs4,Zs8,Zs3,Nat.reduceAdd,Zow];rfl
    ·intro x hx;rcases Zu6.1 hx with hx|hx
     ·exact hbr x hx
     ·rw[Zwn]at hx;subst hx;exact hB
    ·show m-(((brs++[stB n a b c dp fw]).length:Nat):Int).toNat<m-((brs.length:Nat):Int).toNat;rw[Ztb,Zvw];omega
  ·refine .inr ⟨0,(false,brs.map bA,((brs.length:Nat):Int),((n:Int),C.sl dp.length (ints dp),C.sl fw.length (ints fw),()),(C.sl bs.length (ik .u8 bs),(j3:Int),()),()), ?_,rfl,brs,_,_,_,_,hbr,by omega,rfl⟩;simp(disch:=omega)only[Zc,QM,QD,Zte,Ztl,Ztc]
 ·rintro e z ⟨rfl,brs,k,n1,x1,x2,hbr,hl3,rfl⟩
  have t1:=Zou fu (d+2) hfu n hn a b c ha hb' hc brs hbr (by omega) (hd,hf) hs;have t2:=Zov fu (d+3) hfu n h a b c ha hb' hc brs hbr (by omega) (gd,gf) hg;have tk:List.take brs.length (brs.map bA)=brs.map bA:=Ztd (by rw[Zte];exact Ztg _);cases hp:tC n a b c brs (hd,hf)with
  |none=>
   rw[hp]at t1;cases hq:aC n a b c brs (gd,gf)with
   |none=>
    rw[hq]at t2;unfold cO at*
    simp(disch:=omega)only[Zc,QM,QD,c4,c5,t1,t2,tk,Zte,Ztl,Ztc,Zs4,Zs8,Zs3,Nat.reduceAdd]
   |some q=>
    rw[hq]at t2;unfold cO at*
    simp(disch:=omega)only[Zc,QM,QD,c4,c5,t1,t2,tk,Zte,Ztl,Ztc,Zs4,Zs8,Zs3,Nat.reduceAdd]
  |some p=>
   rw[hp]at t1;cases hq:aC n a b c brs (gd,gf)with
   |none=>
    rw[hq]at t2;unfold cO at*
    simp(disch:=omega)only[Zc,QM,QD,c4,c5,t1,t2,tk,Zte,Ztl,Ztc,Zs4,Zs8,Zs3,Nat.reduceAdd]
   |some q=>
    rw[hq]at t2;have key:=Bv hn ha.2 hb'.2 hc.2 hbr hs hg hp hq;have lp:=Zor hs hp;have lq:=Bu hg hq;have wp:=tC_w hn ha.2 hb'.2 hc.2 hs wh hp;have wq:=aC_w h hg wg hq;have k1:=Zim fu (d+12) hfu p.1 p.2 gd gf (by rw[lp.1,g1]) (by rw[lp.2,g2]) (by rw[lp.1];omega) (by rw[lp.2];omega) wp.1 wp.2 wg.1 wg.2;have k2:=Zim fu (d+12) hfu hd hf q.1 q.2 (by rw[lq.1,h1]) (by rw[lq.2,h2]) (by omega) (by omega) wh.1 wh.2 wq.1 wq.2;replace key:So p.1 gd+So p.2 gf=So hd q.1+So hf q.2:=key;rw[key]at k1;unfold cO wdC at*
    simp(disch:=omega)only[Zc,QM,QD,c4,c5,t1,t2,tk,k1,k2,beq_self_eq_true,Bool.and_self,Zte,Ztl,Ztc,Zs4,Zs8,Zs3,Nat.reduceAdd]
end
end Go.Proofs.YtjmempcalaliiaaGreatDoor
