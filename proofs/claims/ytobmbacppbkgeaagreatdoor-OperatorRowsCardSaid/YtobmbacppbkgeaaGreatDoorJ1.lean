/- Parts put together: PMa, PMb, PMc, PMd, PMe, PMf, PMg. -/
import Derived.WalkKit
import Derived.Orders
import Derived.RangeFuncNested
import Derived.OrdersIn
import Derived.TacticsIn
import Derived.LoopNIn
import Derived.RangeFuncCalls
import Derived.RangeFuncLeaves
import Derived.Laws.StructEq
set_option linter.defProp false
set_option linter.unusedSimpArgs false
set_option linter.unusedVariables false
open Go.IntKind renaming i64→Zqu
open List renaming range→Zq6
open Nat renaming beq→Zqv,ble→Zqw,blt→Zq3,succ→Zq4,max→Zq5,max_le→Zq7,lt_trans→Zq8,add_assoc→Zq9
namespace Go.PM
open Go
def Zmp:=@Nat.eq_of_beq_eq_true
def Zmq:=@Bool.and_eq_true
def Zmr:=@List.length_nil
def Zms:=@List.length_cons
def Zmt:=@Nat.zero_add
def Zmu:=@Nat.le_of_ble_eq_true
def Zmv:=@Int.toNat_natCast
def Zmw:=@List.cons_append
def Zmx:=@List.getElem?_eq_some_iff
def Zmy:=@Array.getElem?_eq_some_iff
def Zmz:=@List.nil_append
def Zm0:=@List.getElem?_eq_getElem
def Zm1:=@List.take_of_length_le
def Zm2:=@Int.natCast_one
def Zm3:=@Int.natCast_add
def Zm4:=@List.mem_of_getElem?
def Zm5:=@Nat.zero_mul
def Zm6:=@Option.bind_eq_some_iff
def Zm7:=@List.all_eq_true
def Zm8:=@Nat.le_refl
def Zm9:=@List.getElem?_map
def Zna:=@List.eq_nil_of_length_eq_zero
def Znb:=@List.length_append
def Znc:=@List.getElem?_take
def Znd:=@List.getElem?_drop
def Zne:=@Nat.lt_of_lt_of_le
def Znf:=@List.getElem_mem
def Zng:=@Option.isSome_iff_exists
def Znh:=@Bool.and_eq_true_iff
def Zni:=@Nat.le_trans
def Znj:=@Array.getElem?_eq_getElem
def Znk:=@Nat.zero_div
def Znl:=@List.mem_cons
def Znm:=@List.mem_cons_of_mem
def Znn:=@Bool.not_eq_true'
def Zno:=@List.drop_succ_cons
def Znp:=@List.mem_iff_getElem
def Znq:=@Option.map_eq_some_iff
def Znr:=@List.length_take
def Zns:=@List.drop_zero
def Znt:=@List.getElem?_append_left
def Znu:=@List.take_succ_eq_append_getElem
def Znv:=@Nat.zero_le
def Znw:=@Int.toNat_zero
def Znx:=@Option.bind_some
def Zny:=@List.append_assoc
def Znz:=@Nat.add_zero
def Zn0:=@List.map_cons
def Zn1:=@List.take_zero
def Zn2:=@List.getElem?_append
def Zn3:=@List.mem_append_left
def Zn4:=@List.take_succ_cons
def Zn5:=@Array.getD_eq_getD_getElem?
def Zn6:=@Nat.mul_one
def Zn7:=@Bool.or_eq_true
def Zn8:=@List.append_nil
def Zn9:=@Nat.mul_le_mul_right
def Zoa:=@Int.toNat_one
def Zob:=@Int.zero_add
def Zoc:=@List.mem_append
def Zod:=@Array.getElem_setIfInBounds_ne
def Zoe:=@List.getElem?_append_right
def Zof:=@List.drop_eq_getElem_cons
def Zog:=@Nat.mul_div_cancel
def Zoh:=@List.mem_filterMap
def Zoi:=@Int.cast_ofNat_Int
def Zoj:=@List.mem_append_right
def Zok:=@List.getD_eq_getElem?_getD
def Zol:=@Nat.min_eq_left
def Zom:=@List.length_drop
def Zon:=@Nat.one_mul
def Zoo:=@Array.size_setIfInBounds
def Zop:=@Bool.eq_iff_iff
def Zoq:=@List.all_cons
def Zor:=@Bool.and_self
def Zos:=@List.any_eq_false
def Zot:=@Nat.succ_mul
def Zou:=@Option.getD_some
def Zov:=@Array.toList_map
def Zow:=@List.take_length
def Zox:=@Nat.beq_refl
def Zoy:=@Nat.le_of_eq
def Zoz:=@List.getElem?_set_self
def Zo0:=@Nat.pos_of_ne_zero
def Zo1:=@List.pairwise_cons
def Zo2:=@Option.isSome_some
def Zo3:=@Array.mem_of_getElem?
def Zo4:=@List.foldl_cons
def Zo5:=@List.getElem?_set_ne
def Zo6:=@List.pairwise_append
def Zo7:=@Nat.mul_comm
def Zo8:=@List.take_append_of_le_length
def Zo9:=@Nat.add_comm
def Zpa:=@List.foldr_cons
def Zpb:=@List.length_map
def Zpc:=@List.nodup_cons
def Zpd:=@List.map_append
def Zpe:=@Nat.lt_irrefl
def Zpf:=@List.getElem?_toArray
def Zpg:=@List.mem_of_mem_take
def Zph:=@Nat.sub_self
def Zpi:=@List.take_append
def Zpj:=@List.map_nil
def Zpk:=@List.any_eq_true
def Zpl:=@List.not_mem_nil
def Zpm:=@List.mem_or_eq_of_mem_set
def Zpn:=@List.map_congr_left
def Zpo:=@Option.map_some
def Zpp:=@Int.natCast_mul
def Zpq:=@Bool.false_eq_true
def Zpr:=@Option.isSome_none
def Zps:=@Nat.add_sub_cancel_left
def Zpt:=@List.set_eq_take_append_cons_drop
def Zpu:=@List.mem_map
def Zpv:=@List.nodup_nil
def Zpw:=@Int.le_trans
def Zpx:=@List.getElem_cons_zero
def Zpy:=@Array.getElem?_toList
def Zpz:=@Nat.ble_eq_true_of_le
def Zp0:=@List.getElem?_eq_none
def Zp1:=@List.take_append_drop
def Zp2:=@Int.mul_tdiv_add_tmod
def Zp3:=@Nat.lt_succ_self
def Zp4:=@Array.eq_empty_of_size_eq_zero
def Zp5:=@Option.getD_none
def Zp6:=@List.getElem?_of_mem
def Zp7:=@Int.mul_le_mul_of_nonneg_left
def Zp8:=@Nat.sub_zero
def Zp9:=@Array.foldl_toList
def Zqa:=@List.mapM_cons
def Zqb:=@Array.getElem?_map
def Zqc:=@List.drop_drop
def Zqd:=@Int.natCast_nonneg
def Zqe:=@Array.mapM_eq_mapM_toList
def Zqf:=@List.pairwise_iff_getElem
def Zqg:=@List.getElem?_eq_none_iff
def Zqh:=@List.nodup_append
def Zqi:=@List.mem_range'_1
def Zqj:=@List.flatMap_cons
def Zqk:=@List.sum_cons
def Zql:=@Nat.le_of_not_lt
def Zqm:=@List.filter_cons
def Zqn:=@List.map_map
def Zqo:=@Nat.le_of_lt
def Zqp:=@Nat.div_add_mod
def Zqq:=@List.length_set
def Zqr:=@List.take_drop
def Zqs:=@Nat.mul_pos
def Zqt:=@List.take_take
mutual
inductive C where
 |v (x:Value)
 |nl
 |sl (n:Nat) (cs:List C)
 |cp (cs:List C)
 |fn (f:FuncId) (caps:List C)
 |yl (l:Nat) (go:Nat->Bool) (xs:List (List V))
 |mp (kt et:TypeId) (ka va:Option Nat) (es:List (List C×List C))
 |bx (c:C)
inductive V where
 |c (x:C)
 |agg (cs:List C)
 |tup (vs:List V)
 |ptr (s off:Nat)
 |own (s off n:Nat)
 |mp (s:Nat)
 |ws (s n:Nat)
 |fs (n:Nat) (cs:List C)
 |nq (n:Nat) (neg:Bool)
 |gh (s:Nat)
 |ent (s n j:Nat)
 |est (j:Nat)
 |mag (xs:List V)
 |rw(s g j n:Nat)
 |rp (s g j n:Nat)
 |clo (f:FuncId) (s:Nat)
 |un
 |und
end
instance:Inhabited C:=⟨.nl⟩
instance:Inhabited V:=⟨.und⟩
inductive PC where
 |c (x:C)
 |r (te:TypeId) (row:List C)
 deriving Inhabited
inductive Rws where
 |ps (l:List PC)
 |rs (te:TypeId) (rows:List (List C))
 deriving Inhabited
inductive Obj where
 |dead
 |ob (t:TypeId) (fz:Nat) (cs:List C)
 |sb (t:TypeId) (fz:Nat) (cs:List C)
 |mx (t:TypeId) (xs:List V)
 |mp (kt et:TypeId) (es:List (List C×List C))
 |cl (n:Nat)
 |mr (kt et te:TypeId) (es:List (List C×List C))
 |mf (kt et te:TypeId) (es:List (List C×List C)) (q:Option (Nat×List C)) (kc:List C) (x:V)
 |it (kt et:TypeId) (ka va:Option Nat) (es:List (List C×List C))
 |ir (n:Nat) (x:V)
 |pk (g:Nat) (t:TypeId) (q:Rws) (pe:Option (Nat×TypeId×List C))
 deriving Inhabited
structure Log where
 l:Nat
 go:Nat->Bool
 i:Nat
 rest:List (List V)
 st:Bool
 deriving Inhabited
structure Loc where
 fn:Nat->Obj
 log:Option Log
instance:CoeFun Loc (λ_=>Nat->Obj):=⟨Loc.fn⟩
structure Sl where
 fn:Nat->V
 length:Nat
def Sl.set (l:Sl) (t:Nat) (x:V):Sl:=⟨λt'=>bif Zqv t' t then x else l.fn t',l.length⟩
def Sl.map (g:V->V) (l:Sl):Sl:=⟨λt=>g (l.fn t),l.length⟩
def Sl.get (l:Sl) (t:Nat):V:=bif Zq3 t l.length then l.fn t else .und
structure St where
 slots:Sl
 loc:Loc
def Loc.put (l:Loc) (s:Nat) (o:Obj):Loc:=⟨λs'=>bif Zqv s' s then o else l s',l.log⟩
def St.get (σ:St) (t:Nat):V:=σ.slots.get t
def St.put (σ:St) (d:Option Nat) (x:V) (l:Loc):St:=
 match d with
 |some t=>⟨σ.slots.set t x,l⟩
 |none=>⟨σ.slots,l⟩
structure Out where
 r:V
 objs:List Obj
 log:Option Log
abbrev I (n:Int):V:= .c (.v (.int .i64 n))
abbrev B (b:Bool):V:= .c (.v (.bool b))
def Em:Value->Bool
 | .bool _| .int _ _| .float _ _| .complex _ _ _| .string _| .pointer none| .map none| .chan none| .nilFunc| .nilIface=>true
 |_=>false
def C1:Value->Option C
 | .slice none 0 0=>some .nl
 | .func (.func f) first captured=>if first.size=0/\captured.size=0 then some (.fn f [])else none
 |x=>if Em x then some (.v x)else none
def M6:List Value->Option (List C)
 | []=>some []
 |x::r=>match C1 x,M6 r with
  |some c,some cs=>some (c::cs)
  |_,_=>none
def Kh (x:Value):V:=
 match x with
 | .agg cs=>match M6 cs.toList with|some l=> .agg l|none=> .und
 |x=>match C1 x with|some c=> .c c|none=> .und
def St.ev (gl:Nat->Option (List C)) (σ:St):Operand->V
 | .tmp t=>σ.get t
 | .const x=>Kh x
 | .global g=>match gl g with|some cs=> .c (.cp cs)|none=> .und
 | .func f=> .c (.fn f [])
section
variable {R:Type}
def asI (kd:IntKind) (c:C) (k:Int->Option R):Option R:=
 match c with
 | .v (.int kd' n)=>if kd'=kd then k n else none
 |_=>none
def asB (c:C) (k:Bool->Option R):Option R:=
 match c with
 | .v (.bool b)=>k b
 |_=>none
def asS (c:C) (k:ByteArray->Option R):Option R:=
 match c with
 | .v (.string s)=>k s
 |_=>none
def slOf (c:C):Option (Nat×List C):=
 match c with
 | .sl n cs=>some (n,cs)
 | .nl=>some (0,[])
 |_=>none
def asSl (c:C) (k:Nat->List C->Option R):Option R:=
 match slOf c with
 |some p=>k p.1 p.2
 |none=>none
def Zet (c:C) (k:FuncId->List C->Option R):Option R:=
 match c with
 | .fn f cs=>k f cs
 |_=>none
def C2 (c:C) (ky:Nat->Option R) (k:FuncId->List C->Option R):Option R:=
 match c with
 | .fn f cs=>k f cs
 | .yl l _ _=>ky l
 |_=>none
def asP (c:C) (k:List C->Option R):Option R:=
 match c with
 | .cp cs=>k cs
 |_=>none
def unc (cs:List C) (k:C->List C->Option R):Option R:=
 match cs with
 | []=>none
 |c::r=>k c r
def need (b:Bool) (k:Option R):Option R:=bif b then k else none
end
inductive Lf where
 |i (k:IntKind)
 |b
 |s
 |o
 deriving DecidableEq,Inhabited
def Ub {R:Type} (l:Lf) (c:C) (k:C->Option R):Option R:=
 match l with
 | .i kd=>asI kd c λn=>k (.v (.int kd n))
 | .b=>asB c λb=>k (.v (.bool b))
 | .s=>asS c λs=>k (.v (.string s))
 | .o=>k c
def U3 {R:Type}:List Lf->List C->(List C->Option R)->Option R
 | [],_,k=>k []
 |l::ls,cs,k=>unc cs λc r=>Ub l c λc'=>U3 ls r λcs'=>k (c'::cs')
def leaves (P:Program):Nat->TypeId->Option (List Lf)
 |0,_=>none
 |d+1,t=>
  match P.underlying t with
  |some (.int k)=>some [.i k]
  |some .bool=>some [.b]
  |some .string=>some [.s]
  |some (.struct fs)=>fs.toList.foldr (λf acc=>match leaves P d f.type,acc with|some a,some b=>some (a++b)|_,_=>none) (some [])
  |some (.array _ _)=>none
  |some _=>some [.o]
  |none=>none
def Yi (P:Program) (t:TypeId):Bool:=
 match P.underlying t with
 |some (.struct _)|some (.array _ _)=>true
 |_=>false
def Zg (P:Program) (t:TypeId):Nat:=match P.info? t with|some i=>i.size|none=>0
def ldC {R:Type} (P:Program) (t:TypeId) (cs:List C) (k:V->Option R):Option R:=
 match P.info? t with
 |none=>none
 |some i=>
  match Yi P t with
  |true=>
   match leaves P 20 t with
   |some ls=>need (Zqv ls.length i.size) (U3 ls cs λl=>k (.agg l))
   |none=>need (Zqw i.size cs.length) (k (.agg (cs.take i.size)))
  |false=>
   match leaves P 20 t with
   |some [l]=>unc cs λc _=>Ub l c λc'=>k (.c c')
   |_=>none
def Ki {R:Type} (op:BinOp) (kd:IntKind) (a b:Int) (k:V->Option R):Option R:=
 match op with
 | .add=>k (.c (.v (.int kd (kd.wrap (a+b)))))
 | .sub=>k (.c (.v (.int kd (kd.wrap (a-b)))))
 | .mul=>k (.c (.v (.int kd (kd.wrap (a*b)))))
 | .quo=>need (!(b==0)) (k (.c (.v (.int kd (kd.wrap (a.tdiv b))))))
 | .rem=>need (!(b==0)) (k (.c (.v (.int kd (a.tmod b)))))
 | .and=>k (.c (.v (.int kd (kd.wrap (BitVec.ofInt kd.bits a&&&BitVec.ofInt kd.bits b).toNat))))
 | .or=>k (.c (.v (.int kd (kd.wrap (BitVec.ofInt kd.bits a|||BitVec.ofInt kd.bits b).toNat))))
 | .xor=>k (.c (.v (.int kd (kd.wrap (BitVec.ofInt kd.bits a^^^BitVec.ofInt kd.bits b).toNat))))
 | .andNot=>k (.c (.v (.int kd (kd.wrap (BitVec.ofInt kd.bits a&&& ~~~ BitVec.ofInt kd.bits b).toNat))))
 | .eql=>k (B (a==b))
 | .neq=>k (B (a !=b))
 | .lss=>k (B (decide (a<b)))
 | .leq=>k (B (decide (a<=b)))
 | .gtr=>k (B (decide (a>b)))
 | .geq=>k (B (decide (a≥b)))
 |_=>none
def Kj {R:Type} (op:BinOp) (a b:ByteArray) (k:V->Option R):Option R:=
 match op with
 | .add=>need (Zqw (a.size+b.size) 9223372036854775807) (k (.c (.v (.string (a++b)))))
 | .eql=>k (B (a.toList==b.toList))
 | .neq=>k (B (!(a.toList==b.toList)))
 | .lss=>k (B (Op.bytesLess a.toList b.toList))
 | .leq=>k (B (Op.bytesLess a.toList b.toList||a.toList==b.toList))
 | .gtr=>k (B (!(Op.bytesLess a.toList b.toList||a.toList==b.toList)))
 | .geq=>k (B (!(Op.bytesLess a.toList b.toList)))
 |_=>none
def Df {R:Type} (op:BinOp) (kd:IntKind) (a b:Int) (k:V->Option R):Option R:=
 match op with
 | .shl=>need (!(decide (b<0))) (k (.c (.v (.int kd (kd.wrap (a*2^(min b.toNat kd.bits)))))))
 | .shr=>need (!(decide (b<0))) (k (.c (.v (.int kd (a.fdiv (2^(min b.toNat kd.bits)))))))
 |_=>none
def eqT (P:Program):Nat->TypeId->List C->List C->Option Bool
 |0,_,_,_=>none
 |d+1,t,cs,ds=>
  match P.underlying t with
  |some (.int _)=>match cs,ds with
   | .v (.int k a)::_, .v (.int k' b)::_=>if k=k' then some (a==b)else none
   |_,_=>none
  |some .bool=>match cs,ds with
   | .v (.bool a)::_, .v (.bool b)::_=>some (a==b)
   |_,_=>none
  |some .string=>match cs,ds with
   | .v (.string a)::_, .v (.string b)::_=>some (a.toList==b.toList)
   |_,_=>none
  |some (.struct fs)=>
   bif P.stoodInHeld t then none else
   fs.toList.foldr (fun f acc => bif f.name == "_" then none else match eqT P d f.type ((cs.drop f.offset).take (Zg P f.type)) ((ds.drop f.offset).take (Zg P f.type)), acc with
    |some a,some b=>some (a&&b)
    |_,_=>none) (some true)
  |_=>none
def S5 {R:Type} (P:Program) (op:BinOp) (t:TypeId) (x y:V) (k:V->Option R):Option R:=
 match x,y with
 | .c (.v (.int kd a)), .c (.v (.int kd' b))=>
  match op with
  | .shl| .shr=>Df op kd a b k
  |_=>if kd=kd' then Ki op kd a b k else none
 | .c (.v (.string a)), .c (.v (.string b))=>Kj op a b k
 | .c (.v (.bool a)), .c (.v (.bool b))=>
  match P.underlying t,op with
  |some .bool, .eql=>k (B (a==b))
  |some .bool, .neq=>k (B (!(a==b)))
  |_,_=>none
 | .agg cs, .agg ds=>
  match Yi P t,P.eqGuardType P.depth t,eqT P 20 t cs ds with
  |true,false,some b=>
   match op with
   | .eql=>k (B b)
   | .neq=>k (B (!b))
   |_=>none
  |_,_,_=>none
 | .c (.sl n _), .c .nl=>
  match P.underlying t,op with
  |some (.slice _), .eql=>k (.nq n false)
  |some (.slice _), .neq=>k (.nq n true)
  |_,_=>none
 | .c .nl, .c .nl=>
  match P.underlying t,op with
  |some (.slice _), .eql=>k (B true)
  |some (.slice _), .neq=>k (B false)
  |_,_=>none
 |_,_=>none
noncomputable def same {R:Type} (a b:Option R):Option R:= @ite _ (a=b) (Classical.propDecidable _) a none
def unV {R:Type} (op:UnOp) (x:V) (k:V->Option R):Option R:=
 match op,x with
 | .neg, .c (.v (.int kd n))=>k (.c (.v (.int kd (kd.wrap (0-n)))))
 | .xor, .c (.v (.int kd n))=>k (.c (.v (.int kd (kd.wrap (BitVec.ofInt kd.bits (bif kd.signed then -1 else kd.max)^^^BitVec.ofInt kd.bits n).toNat))))
 | .not, .c (.v (.bool b))=>k (B (!b))
 |_,_=>none
def N3 {R:Type} (P:Program) (src dst:TypeId) (x:V) (k:V->Option R):Option R:=
 match P.underlying src,P.underlying dst,x with
 |some _,some (.int kd), .c (.v (.int _ n))=>k (.c (.v (.int kd (kd.wrap n))))
 |some _,some .string, .c (.v (.string s))=>k (.c (.v (.string s)))
 |some _,some .string, .c (.v (.int _ n))=>k (.c (.v (.string (Utf8.encode n))))
 |_,_,_=>none
def Zgv (b:Bool) (x y:V):V:=
 match x,y with
 | .c (.v (.bool p)), .c (.v (.bool q))=>B (bif b then p else q)
 |x,y=>bif b then x else y
def OUT:Nat:=1000000
def frz (l:Loc) (s n:Nat):Loc:=
 match l s with
 | .ob t fz cs=>l.put s (.ob t (Zq5 fz n) cs)
 | .sb t fz cs=>l.put s (.sb t (Zq5 fz n) cs)
 |_=>l
def live:Obj->Bool
 | .dead=>false
 |_=>true
def Z4:Obj->Option (TypeId×Nat×List C)
 | .ob t fz cs=>some (t,fz,cs)
 | .sb t fz cs=>some (t,fz,cs)
 |_=>none
def asPc {R:Type} (p:PC) (k:C->Option R):Option R:=match p with| .c c=>k c|_=>none
def asRow {R:Type} (te:TypeId) (p:PC) (k:List C->Option R):Option R:=
 match p with
 | .r te' row=>need (Zqv te' te) (k row)
 | .c c=>match c with
  | .nl=>k []
  |_=>none
def asRw {R:Type} (te:TypeId) (p:PC) (k:List C->Option R):Option R:=
 match p with
 | .r te' row=>need (Zqv te' te) (k row)
 |_=>none
def Zeu {R:Type} (ps:List PC) (k:PC->List PC->Option R):Option R:=match ps with| []=>none|p::r=>k p r
def Rws.len:Rws->Nat
 | .ps l=>l.length
 | .rs _ rows=>rows.length
def Rws.at (q:Rws) (j:Nat):Option PC:=
 match q with
 | .ps l=>l[j]?
 | .rs te rows=>(rows[j]?).map (.r te)
def Rws.look {R:Type} (q:Rws) (j:Nat) (k:PC->Option R):Option R:=
 match q with
 | .ps l=>match l[j]? with
  |some p=>k p
  |none=>none
 | .rs te rows=>need (Zq3 j rows.length) (k (.r te (rows.getD j [])))
def Rws.put (q:Rws) (j:Nat) (te:TypeId) (row:List C):Rws:=
 match q with
 | .ps l=> .ps (l.set j (.r te row))
 | .rs te' rows=> .rs te' (rows.set j row)
def gen:Obj->Option (Nat×Bool)
 | .pk g _ _ pe=>some (g,pe.isSome)
 |_=>none
def Tg (P:Program) (t:TypeId):Option Nat:=match Yi P t with|true=>some (Zg P t)|false=>none
def En:Obj->Bool
 | .mx _ _=>true
 | .cl _=>true
 |_=>false
def H3 (P:Program) (te:TypeId) (es:List (List C×List C)):List (List C×List C):=es.map λe=>(e.1,[.sl (e.2.length/Zg P te) e.2])
def Xd {R:Type} (P:Program) (strict:Bool) (x:V) (l:Loc) (k:List C->Loc->Option R):Option R:=
 match x with
 | .c c=>k [c] l
 | .agg cs=>k cs l
 | .own s off n=>
  match strict,Z4 (l s)with
  |false,some (t,_,cs)=>need (Zqw (off+n*Zg P t) cs.length) (k [.sl n ((cs.drop off).take (n*Zg P t))] (frz l s (off+n*Zg P t)))
  |_,_=>none
 | .ptr s off=>
  match strict,Z4 (l s)with
  |false,some (_,_,cs)=>k [.cp (cs.drop off)] (frz l s cs.length)
  |_,_=>none
 | .mp s=>
  match strict,l s with
  |false, .mp kt et es=>k [.mp kt et (Tg P kt) (Tg P et) es] (l.put s (.cl 1))
  |false, .mr kt et te es=>need (!Yi P et) (k [.mp kt et (Tg P kt) (Tg P et) (H3 P te es)] (l.put s (.cl 1)))
  |_,_=>none
 | .rw s g j n=>
  match strict,l s with
  |false, .pk g' t (.ps ps) none=>need (Zqv g g')<|match ps[j]? with
   |some (.r te row)=>need (Zqv (n*Zg P te) row.length&& !Nat.beq (Zg P te) 0) (k [.sl n row] (l.put s (.pk (Zq4 g') t (.ps (ps.set j (.c (.sl n row)))) none)))
   |_=>none
  |_,_=>none
 | .ws s n=>
  match strict,l s with
  |false, .pk _ _ (.rs te rows) none=>need (Zqv n rows.length) (k [.sl n (rows.map λr=> .sl (r.length/Zg P te) r)] (l.put s (.cl rows.length)))
  |_,_=>none
 |_=>none
def Qv {R:Type} (P:Program) (strict:Bool):List V->Loc->(List C->Loc->Option R)->Option R
 | [],l,k=>k [] l
 | .c c::r,l,k=>Qv P strict r l λcs l2=>k (c::cs) l2
 | .own s off n::r,l,k=>Xd P strict (.own s off n) l λcs l1=>match cs with
  | [c]=>Qv P strict r l1 λcs l2=>k (c::cs) l2
  |_=>none
 | .mp s::r,l,k=>Xd P strict (.mp s) l λcs l1=>match cs with
  | [c]=>Qv P strict r l1 λcs l2=>k (c::cs) l2
  |_=>none
 | .ws s n::r,l,k=>Xd P strict (.ws s n) l λcs l1=>match cs with
  | [c]=>Qv P strict r l1 λcs l2=>k (c::cs) l2
  |_=>none
 |_::_,_,_=>none
def pur {R:Type} (P:Program) (strict:Bool) (x:V) (l:Loc) (k:List C->Loc->Option R):Option R:=
 match x with
 | .ptr s off=>
  match l s with
  | .mx _ xs=>match strict with
   |true=>none
   |false=>Qv P false xs l λcs l1=>match l1 s with
    | .mx _ _=>k [.cp (cs.drop off)] (l1.put s (.cl cs.length))
    |_=>none
  |_=>Xd P strict (.ptr s off) l k
 |x=>Xd P strict x l k
def Nx {R:Type} (P:Program) (strict:Bool):List V->Loc->(List (List C)->Loc->Option R)->Option R
 | [],l,k=>k [] l
 |x::r,l,k=>pur P strict x l λcs l1=>Nx P strict r l1 λps l2=>k (cs::ps) l2
def V.at (s:Nat):V->Bool
 | .ptr s' _=>Zqv s' s
 | .own s' _ _=>Zqv s' s
 | .mp s'=>Zqv s' s
 | .gh s'=>Zqv s' s
 | .ws s' _=>Zqv s' s
 | .ent s' _ _=>Zqv s' s
 | .tup _=>true
 | .mag _=>true
 | .rw s' _ _ _=>Zqv s' s
 | .rp s' _ _ _=>Zqv s' s
 | .clo _ s'=>Zqv s' s
 |_=>false
def V.struck:V->V
 | .ent _ _ j=> .est j
 |_=> .und
def V.kill (s:Nat) (x:V):V:=bif x.at s then x.struck else x
def Obj.kill (s:Nat) (o:Obj):Obj:=
 match o with
 | .mx t xs=> .mx t (xs.map (V.kill s))
 | .mf kt et te es q kc x=> .mf kt et te es q kc (x.kill s)
 | .ir n x=> .ir n (x.kill s)
 |o=>o
def Loc.kill (s:Nat) (l:Loc):Loc:=⟨λs'=>bif Zqv s' s then .dead else(l s').kill s,l.log⟩
def St.kill (σ:St) (s:Nat):St:=⟨σ.slots.map (V.kill s),σ.loc.kill s⟩
def Yd (ss:List Nat) (sl:Sl):Sl:=ss.foldr (λs sl=>sl.map (V.kill s)) sl
def putAt (cs:List C) (off:Nat) (xs:List C):List C:=cs.take off++xs++cs.drop (off+xs.length)
def putAtV (cs:List V) (off:Nat) (xs:List V):List V:=cs.take off++xs++cs.drop (off+xs.length)
def isMp:Obj->Bool
 | .mp _ _ _=>true
 |_=>false
def Uw (P:Program) (t:TypeId):Option (List C):=
 match P.info? t with
 |some i=>match i.zero with
  |some z=>match M6 z.cells.toList with
   |some cs=>bif Zqv cs.length i.size then some cs else none
   |none=>none
  |none=>none
 |none=>none
def Qw (n:Nat) (zs:List C):List C:=(List.replicate n zs).flatten
def V2 {R:Type} (place:Nat->Option (Nat×Nat)):List Nat->List (List C)->List C->(List C->Option R)->Option R
 |i::is,xs::r,cs,k=>
  match place i with
  |none=>none
  |some (off,sz)=>need (Zqv xs.length sz&&Zqw (off+xs.length) cs.length) (V2 place is r (putAt cs off xs) k)
 |_,_,cs,k=>k cs
def Zdq (l:Loc):V->Option (List V)
 | .c c=>some [.c c]
 | .agg cs=>some (cs.map .c)
 | .own s off n=>bif (Z4 (l s)).isSome then some [.own s off n]else none
 | .mp s=>bif isMp (l s)then some [.mp s]else none
 |_=>none
def H4 (l:Loc):List V->Option (List (List V))
 | []=>some []
 |x::r=>match Zdq l x,H4 l r with
  |some p,some ps=>some (p::ps)
  |_,_=>none
def Sk {R:Type} (place:Nat->Option (Nat×Nat)):List Nat->List (List V)->List V->(List V->Option R)->Option R
 |i::is,xs::r,cs,k=>
  match place i with
  |none=>none
  |some (off,sz)=>need (Zqv xs.length sz&&Zqw (off+xs.length) cs.length) (Sk place is r (putAtV cs off xs) k)
 |_,_,cs,k=>k cs
def Lf.ty:Lf->Type
 | .i _=>Int
 | .b=>Bool
 | .s=>ByteArray
 | .o=>C
def Lf.get {R:Type} (l:Lf) (c:C) (k:l.ty->Option R):Option R:=
 match l,k with
 | .i kd,k=>asI kd c k
 | .b,k=>asB c k
 | .s,k=>asS c k
 | .o,k=>k c
def Lf.put (l:Lf) (x:l.ty):C:=
 match l,x with
 | .i kd,n=> .v (.int kd n)
 | .b,x=> .v (.bool x)
 | .s,x=> .v (.string x)
 | .o,c=>c
def R1:List Lf->Type
 | []=>Unit
 |l::r=>l.ty×R1 r
def R1.get {R:Type}:(ls:List Lf)->List C->(R1 ls->Option R)->Option R
 | [],_,k=>k ()
 |l::r,cs,k=>unc cs λc cs'=>l.get c λx=>R1.get r cs' λy=>k (x,y)
def R1.put:(ls:List Lf)->R1 ls->List C
 | [],_=>[]
 |l::r,(x,y)=>l.put x::R1.put r y
inductive MK where
 |lf (l:Lf)
 |ow (s:Nat) (ty:TypeId)
 |mp (s:Nat) (kt et:TypeId)
 |ws (s:Nat) (ty te:TypeId)
def MK.ty:MK->Type
 | .lf l=>l.ty
 | .ow _ _=>List C
 | .mp _ _ _=>List (List C×List C)
 | .ws _ _ _=>List (List C)
def C3:List MK->Type
 | []=>Unit
 |m::r=>m.ty×C3 r
def MK.site:MK->Option Nat
 | .lf _=>none
 | .ow s _=>some s
 | .mp s _ _=>some s
 | .ws s _ _=>some s
inductive PK where
 |lf (l:Lf)
 |rw(te:TypeId)
def PK.ty:PK->Type
 | .lf l=>l.ty
 | .rw _=>List C
def PK.ok (P:Program):PK->Bool
 | .lf _=>true
 | .rw te=> !Nat.beq (Zg P te) 0
def Zgw:List PK->Type
 | []=>Unit
 |m::r=>m.ty×Zgw r
def R4 {R:Type}:(ks:List PK)->List PC->(Zgw ks->Option R)->Option R
 | [],ps,k=>match ps with
  | []=>k ()
  |_::_=>none
 |m::r,ps,k=>Zeu ps λp ps=>match m,k with
  | .lf l,k=>asPc p λc=>l.get c λy=>R4 r ps λz=>k (y,z)
  | .rw te,k=>asRow te p λrow=>R4 r ps λz=>k (row,z)
def Xb:(ks:List PK)->Zgw ks->List PC
 | [],_=>[]
 | .lf l::r,(y,z)=> .c (l.put y)::Xb r z
 | .rw te::r,(y,z)=> .r te y::Xb r z
inductive Keep where
 |lf (t:Nat) (l:Lf)
 |ag (t:Nat) (ls:List Lf)
 |ao (t:Nat)
 |ow (t s:Nat) (ty:TypeId)
 |us (t s:Nat) (ty:TypeId)
 |ob (s:Nat) (ty:TypeId) (ls:List Lf) (ts:List (Nat×Nat))
 |oo (s:Nat) (ty:TypeId) (ts:List (Nat×Nat))
 |mx (s:Nat) (ty:TypeId) (ms:List MK) (ts:List (Nat×Nat)) (wt:List (Nat×Nat))
 |mp (s:Nat) (kt et:TypeId) (ts:List Nat)
 |mr (s:Nat) (kt et te:TypeId) (ts:List Nat)
 |pk (s:Nat) (ty:TypeId) (ks:List PK) (ts:List (Nat×Nat))
 |rx (s:Nat) (ty te:TypeId) (ts:List Nat)
 |lg
def Keep.ty:Keep->Type
 | .lf _ l=>l.ty
 | .ag _ ls=>R1 ls
 | .ao _=>List C
 | .ow _ _ _=>List C
 | .us _ _ _=>Nat×List C
 | .ob _ _ ls _=>R1 ls
 | .oo _ _ _=>List C
 | .mx _ _ ms _ _=>C3 ms
 | .mp _ _ _ _=>List (List C×List C)
 | .mr _ _ _ _ _=>List (List C×List C)
 | .pk _ _ ks _=>Zgw ks
 | .rx _ _ _ _=>List (List C)
 | .lg=>Log
def Keep.sites:Keep->List Nat
 | .ow _ s _=>[s]
 | .us _ s _=>[s]
 | .ob s _ _ _=>[s]
 | .oo s _ _=>[s]
 | .mx s _ ms _ _=>s::ms.filterMap MK.site
 | .mp s _ _ _=>[s]
 | .mr s _ _ _ _=>[s]
 | .pk s _ _ _=>[s]
 | .rx s _ _ _=>[s]
 |_=>[]
def Qx:List Keep->Type
 | []=>Unit
 |k::r=>k.ty×Qx r
def CLO:Nat:=1000000000
def ptV (s off:Nat):V:=bif Zq3 off CLO then .ptr s off else .clo (off-CLO) s
def M7 (σ:St) (s:Nat) (ts:List (Nat×Nat)):Bool:=
 ts.all λp=>match σ.get p.1 with| .ptr s' off=>Zqv s' s&&Zqv off p.2&&Zq3 p.2 CLO| .clo f s'=>Zqv s' s&&Zqv (CLO+f) p.2|_=>false
def Xj (s:Nat):List (Nat×Nat)->Sl->Sl
 | [],sl=>sl
 |p::r,sl=>Xj s r (sl.set p.1 (ptV s p.2))
def Zla (σ:St) (s:Nat) (ts:List Nat):Bool:=
 ts.all λt=>match σ.get t with| .mp s'=>Zqv s' s|_=>false
def U4 (s:Nat):List Nat->Sl->Sl
 | [],sl=>sl
 |t::r,sl=>U4 s r (sl.set t (.mp s))
def wssAt (σ:St) (s n:Nat) (ts:List Nat):Bool:=
 ts.all λt=>match σ.get t with| .ws s' n'=>Zqv s' s&&Zqv n' n|_=>false
def Vy (s n:Nat):List Nat->Sl->Sl
 | [],sl=>sl
 |t::r,sl=>Vy s n r (sl.set t (.ws s n))
def C4 {R:Type} (P:Program) (ty:TypeId) (x:V) (lv:Loc) (k:List C->Loc->Option R):Option R:=
 match x with
 | .own s' off n=>match lv s' with
  | .ob ty' fz cs=>need (Zqv ty' ty&&Zqv off 0&&Zqv (n*Zg P ty) cs.length&&Zqv fz 0&& !Nat.beq (Zg P ty) 0) (k cs (lv.put s' .dead))
  | .sb ty' fz cs=>need (Zqv ty' ty&&Zqv off 0&&Zqv (n*Zg P ty) cs.length&&Zqv fz 0&& !Nat.beq (Zg P ty) 0) (k cs (lv.put s' .dead))
  |_=>none
 | .c .nl=>k [] lv
 |_=>none
def C5 {R:Type} (s:Nat) (kt et:TypeId) (x:V) (lv:Loc) (k:List (List C×List C)->Loc->Option R):Option R:=
 match x with
 | .mp s'=>match lv s' with
  | .mp kt' et' es=>need (Zqv s' s&&Zqv kt' kt&&Zqv et' et) (k es (lv.put s .dead))
  |_=>none
 |_=>none
def C6 {R:Type} (s:Nat) (ty te:TypeId) (x:V) (lv:Loc) (k:List (List C)->Loc->Option R):Option R:=
 match x with
 | .ws s' n=>match lv s' with
  | .pk _ ty' q pe=>match q,pe with
   | .rs te' rows,none=>need (Zqv s' s&&Zqv ty' ty&&Zqv te' te&&Zqv n rows.length) (k rows (lv.put s .dead))
   |_,_=>none
  |_=>none
 |_=>none
def Tz {R:Type} (P:Program):(ms:List MK)->List V->Loc->(C3 ms->Loc->Option R)->Option R
 | [],xs,lv,k=>match xs with
  | []=>k () lv
  |_::_=>none
 |m::r,xs,lv,k=>match xs with
  | []=>none
  |x::xs=>match m,k with
   | .lf l,k=>match x with
    | .c c=>l.get c λy=>Tz P r xs lv λz lv2=>k (y,z) lv2
    |_=>none
   | .ow _ ty,k=>C4 P ty x lv λy lv1=>Tz P r xs lv1 λz lv2=>k (y,z) lv2
   | .mp s kt et,k=>C5 s kt et x lv λy lv1=>Tz P r xs lv1 λz lv2=>k (y,z) lv2
   | .ws s ty te,k=>C6 s ty te x lv λy lv1=>Tz P r xs lv1 λz lv2=>k (y,z) lv2
def Zv (P:Program):(ms:List MK)->C3 ms->List V
 | [],_=>[]
 | .lf l::r,(y,z)=> .c (l.put y)::Zv P r z
 | .ow s ty::r,(y,z)=> .own s 0 (y.length/Zg P ty)::Zv P r z
 | .mp s _ _::r,(_,z)=> .mp s::Zv P r z
 | .ws s _ _::r,(y,z)=> .ws s y.length::Zv P r z
def Xx (P:Program):(ms:List MK)->C3 ms->Loc->Loc
 | [],_,l=>l
 | .lf _::r,(_,z),l=>Xx P r z l
 | .ow s ty::r,(y,z),l=>Xx P r z (l.put s (.sb ty 0 y))
 | .mp s kt et::r,(y,z),l=>Xx P r z (l.put s (.mp kt et y))
 | .ws s ty te::r,(y,z),l=>Xx P r z (l.put s (.pk 0 ty (.rs te y) none))
def A2 (σ:St) (xs:List V) (wt:List (Nat×Nat)):Bool:=
 wt.all λp=>match σ.get p.1,xs[p.2]? with
  | .ws s n,some (.ws s' n')=>Zqv s s'&&Zqv n n'&&live (σ.loc s)
  |_,_=>false
def Qf (cells:List V):List (Nat×Nat)->Sl->Sl
 | [],sl=>sl
 |p::r,sl=>match cells[p.2]? with
  |some (.ws s n)=>Qf cells r (sl.set p.1 (.ws s n))
  |_=>Qf cells r sl
def Keep.get {R:Type} (P:Program) (kp:Keep) (σ:St) (lv:Loc) (k:kp.ty->Loc->Option R):Option R:=
 match kp,k with
 | .lf t l,k=>match σ.get t with| .c c=>l.get c λx=>k x lv|_=>none
 | .ag t ls,k=>match σ.get t with| .agg cs=>need (Zqv cs.length ls.length) (R1.get ls cs λx=>k x lv)|_=>none
 | .ao t,k=>match σ.get t with| .agg cs=>k cs lv|_=>none
 | .ow t _ ty,k=>C4 P ty (σ.get t) lv k
 | .us t s ty,k=>match σ.get t with
  | .own s' off n=>match lv s' with
   | .sb ty' fz cs=>need (Zqv s' s&&Zqv ty' ty&&Zqv off 0&&Zqv fz 0) (k (n,cs) (lv.put s' .dead))
   |_=>none
  |_=>none
 | .ob s ty ls ts,k=>match lv s with
  | .ob ty' fz cs=>need (Zqv ty' ty&&Zqv fz 0&&Zqv cs.length ls.length&&M7 σ s ts) (R1.get ls cs λx=>k x (lv.put s .dead))
  |_=>none
 | .oo s ty ts,k=>match lv s with
  | .ob ty' fz cs=>need (Zqv ty' ty&&Zqv fz 0&&M7 σ s ts) (k cs (lv.put s .dead))
  |_=>none
 | .mx s ty ms ts wt,k=>match lv s with
  | .mx ty' xs=>need (A2 σ xs wt&&(Zqv ty' ty&&M7 σ s ts)) (Tz P ms xs (lv.put s .dead) k)
  | .ob ty' fz cs=>need (A2 σ [] wt&&(Zqv ty' ty&&Zqv fz 0&&M7 σ s ts)) (Tz P ms (cs.map .c) (lv.put s .dead) k)
  |_=>none
 | .mp s kt et ts,k=>match lv s with
  | .mp kt' et' es=>need (Zqv kt' kt&&Zqv et' et&&Zla σ s ts) (k es (lv.put s .dead))
  |_=>none
 | .mr s kt et te ts,k=>match lv s with
  | .mr kt' et' te' es=>need (Zqv kt' kt&&Zqv et' et&&Zqv te' te&&Zla σ s ts) (k es (lv.put s .dead))
  |_=>none
 | .pk s ty ks ts,k=>match lv s with
  | .pk _ ty' q pe=>match q,pe with
   | .ps ps,none=>need (Zqv ty' ty&&M7 σ s ts&&ks.all (PK.ok P)) (R4 ks ps λz=>k z (lv.put s .dead))
   |_,_=>none
  | .ob ty' fz cs=>need (Zqv ty' ty&&Zqv fz 0&&M7 σ s ts&&ks.all (PK.ok P)) (R4 ks (cs.map .c) λz=>k z (lv.put s .dead))
  |_=>none
 | .rx s ty te ts,k=>match lv s with
  | .pk _ ty' q pe=>match q,pe with
   | .rs te' rows,none=>need (Zqv ty' ty&&Zqv te' te&&wssAt σ s rows.length ts) (k rows (lv.put s .dead))
   |_,_=>none
  |_=>none
 | .lg,k=>match lv.log with|some x=>k x ⟨lv.fn,none⟩|none=>none
def Keep.put (P:Program) (kp:Keep) (x:kp.ty) (σ:St):St:=
 match kp,x with
 | .lf t l,x=>⟨σ.slots.set t (.c (l.put x)),σ.loc⟩
 | .ag t ls,x=>⟨σ.slots.set t (.agg (R1.put ls x)),σ.loc⟩
 | .ao t,x=>⟨σ.slots.set t (.agg x),σ.loc⟩
 | .ow t s ty,x=>⟨σ.slots.set t (.own s 0 (x.length/Zg P ty)),σ.loc.put s (.sb ty 0 x)⟩
 | .us t s ty,x=>⟨σ.slots.set t (.own s 0 x.1),σ.loc.put s (.sb ty 0 x.2)⟩
 | .ob s ty ls ts,x=>⟨Xj s ts σ.slots,σ.loc.put s (.ob ty 0 (R1.put ls x))⟩
 | .oo s ty ts,x=>⟨Xj s ts σ.slots,σ.loc.put s (.ob ty 0 x)⟩
 | .mx s ty ms ts wt,x=>⟨Qf (Zv P ms x) wt (Xj s ts σ.slots),(Xx P ms x σ.loc).put s (.mx ty (Zv P ms x))⟩
 | .mp s kt et ts,x=>⟨U4 s ts σ.slots,σ.loc.put s (.mp kt et x)⟩
 | .mr s kt et te ts,x=>⟨U4 s ts σ.slots,σ.loc.put s (.mr kt et te x)⟩
 | .pk s ty ks ts,x=>⟨Xj s ts σ.slots,σ.loc.put s (.pk 0 ty (.ps (Xb ks x)) none)⟩
 | .rx s ty te ts,x=>⟨Vy s x.length ts σ.slots,σ.loc.put s (.pk 0 ty (.rs te x) none)⟩
 | .lg,x=>⟨σ.slots,⟨σ.loc.fn,some x⟩⟩
def Zdr {R:Type} (P:Program):(ks:List Keep)->St->Loc->(Qx ks->Option R)->Option R
 | [],_,_,k=>k ()
 |kp::r,σ,lv,k=>kp.get P σ lv λx lv'=>Zdr P r σ lv' λy=>k (x,y)
def Yg (P:Program):(ks:List Keep)->Qx ks->St->St
 | [],_,σ=>σ
 |kp::r,(x,y),σ=>Yg P r y (kp.put P x σ)
inductive Ex where
 |normal
 |exit (id:Nat)
 |ret
 deriving DecidableEq,Inhabited
inductive Shp where
 |s (l:Lf)
 |a (ls:List Lf)
 deriving Inhabited
structure Keeps where
 ks:List Keep
 fz:List Nat:=[]
 ex:List Ex
 sh:List Shp:=[]
 fzc:List (Nat×Nat):=[]
 rm:Option Nat:=none
 deriving Inhabited
def nodupB:List Nat->Bool
 | []=>true
 |a::r=>(!(r.any (Zqv a)))&&nodupB r
def Keep.inner:Keep->Bool
 | .ow _ s _=>Zq3 s OUT
 | .mx s _ ms _ _=>Zq3 s OUT&&(ms.filterMap MK.site).all λs=>Zq3 s OUT
 |_=>true
def Mh {R:Type} (P:Program) (kp:Keeps) (σ:St) (k:Qx kp.ks->Option R):Option R:=
 need (nodupB (kp.ks.flatMap Keep.sites)&&kp.ks.all Keep.inner) (Zdr P kp.ks σ σ.loc k)
def Zbn {R:Type} (P:Program):List Nat->St->(St->Option R)->Option R
 | [],σ,k=>k σ
 |t::r,σ,k=>match σ.get t with
  | .own s off n=>pur P false (.own s off n) σ.loc λcs l=>match cs with
   | [c]=>Zbn P r ⟨σ.slots.set t (.c c),l⟩ k
   |_=>none
  | .ptr s off=>pur P false (.ptr s off) σ.loc λcs l=>match cs with
   | [c]=>Zbn P r ⟨σ.slots.set t (.c c),l⟩ k
   |_=>none
  | .rw s g j n=>pur P false (.rw s g j n) σ.loc λcs l=>match cs with
   | [c]=>Zbn P r ⟨σ.slots.set t (.c c),l⟩ k
   |_=>none
  |_=>Zbn P r σ k
def refV:V->Bool
 | .own _ _ _=>true
 | .mp _=>true
 | .ws _ _=>true
 |_=>false
def A3 {R:Type} (P:Program):List (Nat×Nat)->St->(St->Option R)->Option R
 | [],σ,k=>k σ
 |p::r,σ,k=>match σ.loc p.1 with
  | .mx _ xs=>match xs[p.2]? with
   |some x=>match refV x with
    |true=>pur P false x σ.loc λcs l=>match cs with
     | [c]=>match l p.1 with
      | .mx ty2 xs2=>need (Zq3 p.2 xs2.length) (A3 P r ⟨σ.slots,l.put p.1 (.mx ty2 (putAtV xs2 p.2 [.c c]))⟩ k)
      |_=>none
     |_=>none
    |false=>A3 P r σ k
   |none=>A3 P r σ k
  |_=>A3 P r σ k
def frzA {R:Type} (P:Program) (ts:List Nat) (ps:List (Nat×Nat)) (σ:St) (k:St->Option R):Option R:=Zbn P ts σ λσ=>A3 P ps σ k
def Zlt (ws:List Nat) (sl:Sl):Sl:=⟨λt=>bif ws.any (Zqv t)then .und else sl.fn t,sl.length⟩
def V.plain:V->V
 | .c y=> .c y
 | .agg cs=> .agg cs
 |_=> .und
def St.clean (ws:List Nat) (σ:St):St:=⟨(Zlt ws σ.slots).map V.plain,⟨λ_=> .dead,none⟩⟩
def U9:List Ex->Ex->Option Nat
 | [],_=>none
 |e::r,x=>match decide (e=x)with
  |true=>some 0
  |false=>match U9 r x with|some n=>some (n+1)|none=>none
def H5 {R:Type}:List Ex->Nat->(Ex->Option R)->Option R
 | [],_,_=>none
 | [e],_,k=>k e
 |e::r,n,k=>match n with
  |0=>k e
  |m+1=>H5 r m k
structure Cfg where
 P:Program
 call:FuncId->List V->List Obj->Option Out
 iter:FuncId->List C->Option (List (List V))
 rnd:Bool
 fuel:Nat
 own:Nat->Bool
 keep:Nat->Keeps
 join:Nat->Option Keeps
 exp:List (Option TypeId)
 xo:FuncId->List (Option TypeId)
 hand:FuncId->List Nat
 glob:Nat->Option (List C)
 loud:Nat->Bool
 lh:List Nat
 fzb:FuncId->Bool
 mix:Nat->Bool
 bar:Nat->Bool
 nr:Bool
 al:List Nat:=[]
 unr:Nat->Nat
 ent:Option (Nat×V×V)
 rd:Nat->List Nat:=λ_=>[]
 pr:Nat->List Nat:=λ_=>[]
 lost:FuncId->Bool:=λ_=>false
 add:Option FuncId:=none
def Uj:List Nat->Nat->Nat->Option Nat
 | [],_,_=>none
 |s'::r,s,i=>bif Zqv s' s then some i else Uj r s (i+1)
def A4 (strict:Bool) (hd:List Nat):Bool:=
 match strict,hd with
 |false,n::_=>Zqv n 1
 |_,_=>false
def nrm (c:C):C:=
 match c with
 | .nl=> .sl 0 []
 |c=>c
def Zgx (hd:List Nat) (c:C):C:=
 match hd with
 |n::_=>bif Zqv n 2 then nrm c else c
 | []=>c
def Ye {R:Type} (P:Program) (strict:Bool):List Nat->List V->Loc->List Nat->(List V->Loc->List Nat->Option R)->Option R
 |_,[],l,ss,k=>k [] l ss
 |hd,x::r,l,ss,k=>
  match x with
  | .c c=>Ye P strict hd.tail r l ss λys l' ss'=>k (.c (Zgx hd c)::ys) l' ss'
  | .agg cs=>Ye P strict hd.tail r l ss λys l' ss'=>k (.agg cs::ys) l' ss'
  | .own s off n=>match A4 strict hd with
   |true=>match Uj ss s 0 with
    |some i=>Ye P strict hd.tail r l ss λys l' ss'=>k (.own (OUT+i) off n::ys) l' ss'
    |none=>Ye P strict hd.tail r l (ss++[s]) λys l' ss'=>k (.own (OUT+ss.length) off n::ys) l' ss'
   |false=>pur P strict (.own s off n) l λcs l1=>match cs with
    | [c]=>Ye P strict hd.tail r l1 ss λys l' ss'=>k (.c c::ys) l' ss'
    |_=>none
  | .ptr s off=>match strict with
   |true=>none
   |false=>match Uj ss s 0 with
    |some i=>Ye P strict hd.tail r l ss λys l' ss'=>k (.ptr (OUT+i) off::ys) l' ss'
    |none=>Ye P strict hd.tail r l (ss++[s]) λys l' ss'=>k (.ptr (OUT+ss.length) off::ys) l' ss'
  | .ws s n=>match A4 strict hd with
   |false=>none
   |true=>match Uj ss s 0 with
    |some i=>Ye P strict hd.tail r l ss λys l' ss'=>k (.ws (OUT+i) n::ys) l' ss'
    |none=>Ye P strict hd.tail r l (ss++[s]) λys l' ss'=>k (.ws (OUT+ss.length) n::ys) l' ss'
  |_=>none
def rC {R:Type} (x:V) (k:C->Option R):Option R:=match x with| .c c=>k c|_=>none
def rA {R:Type} (x:V) (k:List C->Option R):Option R:=match x with| .agg cs=>k cs|_=>none
def rT {R:Type} (x:V) (k:List V->Option R):Option R:=match x with| .tup vs=>k vs|_=>none
def Zgy (te:Nat):FuncId:=te/CLO
def C7 (te:Nat):TypeId:=te%CLO
def rCl {R:Type} (x:V) (f0:FuncId) (m:Nat) (k:Option R):Option R:=match x with| .clo f s=>need (Zqv f f0&&Zqv s (OUT+m)) k|_=>none
def rP {R:Type} (x:V) (m:Nat) (k:Option R):Option R:=match x with| .ptr s off=>need (Zqv s (OUT+m)&&Zqv off 0) k|_=>none
def uncV {R:Type} (xs:List V) (k:V->List V->Option R):Option R:=match xs with| []=>none|x::r=>k x r
def uncO {R:Type} (xs:List Obj) (k:Obj->List Obj->Option R):Option R:=match xs with| []=>none|x::r=>k x r
def rO {R:Type} (o:Obj) (t fz:Nat) (k:List C->Option R):Option R:=match o with| .ob t' fz' cs=>need (Zqv t' t&&Zqv fz' fz) (k cs)|_=>none
def rF {R:Type} (o:Obj) (t:Nat) (k:Nat->List C->Option R):Option R:=match o with| .sb t' fz cs=>need (Zqv t' t&&Zqw fz cs.length) (k fz cs)|_=>none
def rS {R:Type} (o:Obj) (t fz:Nat) (k:List C->Option R):Option R:=match o with| .sb t' fz' cs=>need (Zqv t' t&&Zqv fz' fz) (k cs)|_=>none
def rW {R:Type} (x:V) (m:Nat) (k:Nat->Option R):Option R:=match x with| .own s off n=>need (Zqv s (OUT+m)&&Zqv off 0) (k n)|_=>none
def Mi {R:Type} (P:Program) (t:TypeId) (x:V) (k:V->Option R):Option R:=
 match Yi P t with
 |true=>rA x λcs=>match leaves P 20 t with
  |some ls=>need (Zqv cs.length ls.length) (U3 ls cs λl=>k (.agg l))
  |none=>k (.agg cs)
 |false=>match leaves P 20 t with
  |some [l]=>rC x λc=>Ub l c λc'=>k (.c c')
  |_=>none
def Mj {R:Type} (P:Program):List TypeId->List V->(List V->Option R)->Option R
 | [],xs,k=>match xs with
  | []=>k []
  |_::_=>none
 |t::r,xs,k=>uncV xs λx ys=>Mi P t x λv=>Mj P r ys λvs=>k (v::vs)
def Mk {R:Type} (P:Program) (t:TypeId) (x:V) (k:V->Option R):Option R:=
 match P.underlying t with
 |some (.tuple ts)=>match ts.toList with
  | []=>k .und
  |ts=>rT x λxs=>Mj P ts xs λvs=>k (.tup vs)
 |_=>Mi P t x k
def Ut {R:Type}:List Lf->List PC->List PC->(List PC->Option R)->Option R
 | [],[],ps,k=>match ps with
  | []=>k []
  |_::_=>none
 |l::ls,o::os,ps,k=>Zeu ps λp r=>match o with
  | .c _=>asPc p λc=>Ub l c λc'=>Ut ls os r λqs=>k (.c c'::qs)
  | .r te _=>asRw te p λrow=>Ut ls os r λqs=>k (.r te row::qs)
 |_,_,_,_=>none
def rPk {R:Type} (o:Obj) (t:TypeId) (k:List PC->Option R):Option R:=
 match o with
 | .pk _ t' q pe=>match q,pe with
  | .ps ps,none=>need (Zqv t' t) (k ps)
  |_,_=>none
 |_=>none
def Uu {R:Type} (P:Program) (fb:Bool):List Nat->List Obj->Loc->(List Obj->Loc->Option R)->Option R
 | [],os,l,k=>k os l
 |s::r,os,l,k=>
  match l s with
  | .ob t fz cs=>uncO os λo os'=>rO o t fz λcs'=>
   match leaves P 20 t with
   |some ls=>need (Zqv cs'.length ls.length&&Zqv cs.length ls.length) (U3 ls cs' λcs2=>Uu P fb r os' (l.put s (.ob t fz cs2)) k)
   |none=>need (Zqv cs'.length cs.length) (Uu P fb r os' (l.put s (.ob t fz cs')) k)
  | .sb t fz cs=>uncO os λo os'=>match fb with
   |false=>rS o t fz λcs'=>need (Zqv cs'.length cs.length) (Uu P fb r os' (l.put s (.sb t fz cs')) k)
   |true=>rF o t λfz' cs'=>need (Zqv cs'.length cs.length) (Uu P fb r os' (l.put s (.sb t fz' cs')) k)
  | .pk g t (.ps ps) none=>uncO os λo os'=>rPk o t λps'=>match leaves P 20 t with
   |some ls=>need (Zqv ps.length ls.length) (Ut ls ps ps' λqs=>Uu P fb r os' (l.put s (.pk (Zq4 g) t (.ps qs) none)) k)
   |none=>none
  |_=>none
def M8 (l:Loc):List Nat->Bool
 | []=>true
 |s::r=>match l s with| .ob _ _ _=>M8 l r| .sb _ _ _=>M8 l r| .pk _ _ (.ps _) none=>M8 l r|_=>false
def Vz (l:Loc):List Nat->Bool
 | []=>true
 |s::r=>match l s with| .ob _ _ _=>Vz l r| .sb _ _ _=>Vz l r| .pk _ _ (.ps _) none=>Vz l r| .dead=>Vz l r|_=>false
def noYl:List V->Bool
 | .c (.yl _ _ _)::_=>false
 |_=>true
def Xy (d i:Nat):Nat:=100000+64*d+i
def take1 {R:Type} (P:Program) (m site i:Nat) (x:Option TypeId) (ty:TypeId) (v:V) (os:List Obj) (l:Loc) (k:V->Nat->List Obj->Loc->List Nat->Option R):Option R:=
 match x with
 |none=>Mi P ty v λy=>k y i os l []
 |some te=>need (Zq3 site OUT)<|match P.underlying ty with
  |some (.pointer _)=>rP v (m+i) (uncO os λo os'=>rO o te 0 λcs=>match leaves P 20 te with
   |some ls=>need (Zqv cs.length ls.length) (U3 ls cs λcs2=>k (.ptr site 0) (i+1) os' ((l.kill site).put site (.ob te 0 cs2)) [site])
   |none=>k (.ptr site 0) (i+1) os' ((l.kill site).put site (.ob te 0 cs)) [site])
  |some (.slice _)=>rW v (m+i) λn=>uncO os λo os'=>rS o te 0 λcs=>need (Zqv (n*Zg P te) cs.length&& !Nat.beq (Zg P te) 0) (k (.own site 0 n) (i+1) os' ((l.kill site).put site (.sb te 0 cs)) [site])
  |some (.func ..)=>rCl v (Zgy te) (m+i) (uncO os λo os'=>rO o (C7 te) 0 λcs=>match leaves P 20 (C7 te)with
   |some ls=>need (Zqv cs.length ls.length) (U3 ls cs λcs2=>k (.clo (Zgy te) site) (i+1) os' ((l.kill site).put site (.ob (C7 te) 0 cs2)) [site])
   |none=>k (.clo (Zgy te) site) (i+1) os' ((l.kill site).put site (.ob (C7 te) 0 cs)) [site])
  |_=>none
def rG {R:Type} (x:V) (k:List V->Option R):Option R:=match x with| .mag xs=>k xs|_=>none
def cellT (P:Program) (t:TypeId):Option (TypeId×Option TypeId):=
 match Yi P t with
 |true=>none
 |false=>match P.underlying t with
  |some (.slice el)=>some (t,some el)
  |some _=>some (t,none)
  |none=>none
def C8 (P:Program) (t:TypeId):Option (List (TypeId×Option TypeId)):=
 match P.underlying t with
 |some (.struct fs)=>fs.toList.mapM λf=>cellT P f.type
 |_=>none
def T2 {R:Type} (P:Program) (m d:Nat):Nat->Nat->List (TypeId×Option TypeId)->List V->List Obj->Loc->(List V->Loc->List Nat->Option R)->Option R
 |_,_,[],xs,_,l,k=>match xs with
  | []=>k [] l []
  |_::_=>none
 |j,i,q::ts,xs,os,l,k=>uncV xs λx r=>match q.2 with
  |none=>Mi P q.1 x λy=>T2 P m d j i ts r os l λys l' ks=>k (y::ys) l' ks
  |some te=>need (!live (l (Xy d j))&&Zq3 (Xy d j) OUT)<|rW x (m+i) λn=>uncO os λo os'=>rS o te 0 λcs=>
    need (Zqv (n*Zg P te) cs.length&& !Nat.beq (Zg P te) 0) (T2 P m d (j+1) (i+1) ts r os' ((l.kill (Xy d j)).put (Xy d j) (.sb te 0 cs)) λys l' ks=>k (.own (Xy d j) 0 n::ys) l' (Xy d j::ks))
def Ru {R:Type} (P:Program) (m d:Nat):Nat->Nat->List (Option TypeId)->List TypeId->List V->List Obj->Loc->(List V->Loc->List Nat->Option R)->Option R
 |_,_,_,[],xs,_,l,k=>match xs with
  | []=>k [] l []
  |_::_=>none
 |j,i,xo,t::ts,xs,os,l,k=>uncV xs λx ys=>match(xo.headD none).bind λ_=>C8 P t with
  |some cts=>rG x λzs=>T2 P m d j i cts zs os l λzs' l' ks=>Mj P ts ys λvs=>k (.mag zs'::vs) l' ks
  |none=>need (!live (l (Xy d j)))<|take1 P m (Xy d j) i (xo.headD none) t x os l λy i' os' l' ks=>Ru P m d (j+1) i' xo.tail ts ys os' l' λys' l2 ks2=>k (y::ys') l2 (ks++ks2)
def N4 {R:Type} (P:Program) (m d:Nat) (xo:List (Option TypeId)) (ty:TypeId) (v:V) (os:List Obj) (l:Loc) (k:V->Loc->List Nat->Option R):Option R:=
 match P.underlying ty with
 |some (.tuple ts)=>rT v λxs=>Ru P m d 0 0 xo ts.toList xs os l λys l' ks=>k (.tup ys) l' ks
 |_=>match(xo.headD none).bind λ_=>C8 P ty with
  |some cts=>rG v λzs=>T2 P m d 0 0 cts zs os l λzs' l' ks=>k (.mag zs') l' ks
  |none=>take1 P m d 0 (xo.headD none) ty v os l λy _ _ l' ks=>k y l' ks
def Lf.isO:Lf->Bool
 | .o=>true
 |_=>false
def Dg (P:Program) (t:TypeId):Bool:=
 match leaves P 20 t with
 |some ls=>ls.all λl=> !l.isO
 |none=>false
def Dh (P:Program) (t:TypeId):Bool:=
 match P.underlying t with
 |some (.tuple ts)=>ts.toList.all (Dg P)
 |_=>Dg P t
def thaw (ss:List Nat) (b:Bool) (l l2:Loc):Loc:=
 match ss,b with
 | [],true=>l
 |_,_=>l2
def Je {R:Type} (cf:Cfg) (strict:Bool) (xo:List (Option TypeId)) (ss:List Nat) (out:Out) (ty:TypeId) (dst:Option Nat) (l1:Loc) (k:V->Loc->List Nat->Option R):Option R:=
 match ss,strict,xo,dst with
 | [s],false,_::_,some d=>uncO out.objs λ_ rest=>N4 cf.P 1 d xo ty out.r rest (l1.kill s) k
 |_,_,_,_=>none
def A5 (cf:Cfg) (hd:List Nat) (f:FuncId):Bool:=match hd with| []=>false|_::_=>cf.lost f
def Um {R:Type} (cf:Cfg) (strict:Bool) (hd:List Nat) (xo:List (Option TypeId)) (f:FuncId) (args:List V) (ty:TypeId) (dst:Option Nat) (l:Loc) (k:V->Loc->List Nat->Option R):Option R:=
 Ye cf.P strict hd args l [] λys l1 ss=>
  need (M8 l1 ss&&noYl ys)<|(cf.call f ys (ss.map l1)).bind λout=>
   match A5 cf hd f with
   |true=>Je cf strict xo ss out ty dst l1 k
   |false=>Uu cf.P (cf.fzb f) ss out.objs l1 λrest l2=>
    match xo,strict,dst with
    |_::_,false,some d=>N4 cf.P ss.length d xo ty out.r rest l2 k
    |_,_,_=>Mk cf.P ty out.r λv=>k v (thaw ss (Dh cf.P ty) l l2) []
def Z7 (v:V):Bool:=match v with| .c _=>true| .agg _=>true|_=>false
def S6 {R:Type} (te:TypeId) (row:List C) (fb:Bool) (os:List Obj) (k:List C->Option R):Option R:=
 uncO os λo os'=>match os',o with
  | [], .sb te' fz cs=>need (Zqv te' te&&Zqv cs.length row.length&&Zqv fz (bif fb then cs.length else 0)) (k cs)
  |_,_=>none
def Vk {R:Type} (cf:Cfg) (f:FuncId) (s g j n:Nat) (rest:List V) (ty:TypeId) (l:Loc) (k:V->Loc->List Nat->Option R):Option R:=
 match l s with
 | .pk g' t q none=>need (Zqv g g'&&rest.all Z7)<|q.look j λp=>match p with
  | .r te row=>need (Zqv (n*Zg cf.P te) row.length&& !Nat.beq (Zg cf.P te) 0)<|
   (cf.call f (.own OUT 0 n::rest) [.sb te 0 row]).bind λout=>S6 te row (cf.fzb f) out.objs λrow'=>match cf.fzb f with
    |false=>Mk cf.P ty out.r λv=>k v (l.put s (.pk g' t (q.put j te row') none)) []
    |true=>match q with
     | .ps ps=>Mk cf.P ty out.r λv=>k v (l.put s (.pk (Zq4 g') t (.ps (ps.set j (.c (.sl n row')))) none)) []
     | .rs _ _=>none
  | .c _=>none
 |_=>none
def N5 {R:Type} (cf:Cfg) (strict:Bool) (hd:List Nat) (xo:List (Option TypeId)) (f:FuncId) (args:List V) (ty:TypeId) (dst:Option Nat) (l:Loc) (k:V->Loc->List Nat->Option R):Option R:=
 match strict,args with
 |false, .rw s g j n::rest=>Vk cf f s g j n rest ty l k
 |_,_=>Um cf strict hd xo f args ty dst l k
def addB (cf:Cfg) (f:FuncId):Bool:=match cf.add with|some f0=>Zqv f f0|none=>false
def C9 {R:Type} (xs:List V) (l:Loc) (k:V->Loc->List Nat->Option R):Option R:=
 match xs with
 | [.c x, .c y, .c z]=>asI .u64 x λa=>asI .u64 y λb=>asI .u64 z λc=>need (decide (0<=a)&&decide (0<=b)&&decide (0<=c)&&decide (c<=1))
   (k (.tup [.c (.v (.int .u64 ((a+b+c)%18446744073709551616))), .c (.v (.int .u64 ((a+b+c)/18446744073709551616)))]) l [])
 |_=>none
def Sm {R:Type} (cf:Cfg) (strict:Bool) (f:FuncId) (args:List V) (ty:TypeId) (dst:Option Nat) (l:Loc) (k:V->Loc->List Nat->Option R):Option R:=
 match addB cf f with
 |true=>C9 args l k
 |false=>N5 cf strict (cf.hand f) (cf.xo f) f args ty dst l k
open Classical in
noncomputable def eqV (a b:List V):Bool:=decide (a=b)
noncomputable def Ml {R:Type} (P:Program) (strict:Bool) (n:Nat) (args:List V) (l:Loc) (k:V->Loc->List Nat->Option R):Option R:=
 match strict with
 |true=>none
 |false=>Ye P false [] args l [] λys l1 ss=>
  match ss,l1.log with
  | [],some lg=>need (Zqv lg.l n&& !lg.st)<|
   match lg.rest with
   | []=>none
   |x::rest=>need (eqV ys x) (k (B (lg.go lg.i)) ⟨l1.fn,some ⟨lg.l,lg.go,Zq4 lg.i,rest, !(lg.go lg.i)⟩⟩ [])
  |_,_=>none
def T3 {R:Type} (lt:Bool):List V->IntKind->Int->(V->Option R)->Option R
 | [],kd,a,k=>k (.c (.v (.int kd a)))
 | .c (.v (.int kd' b))::r,kd,a,k=>bif decide (kd'=kd)then T3 lt r kd (match lt with|true=>if b<a then b else a|false=>if b>a then b else a) k else none
 |_,_,_,_=>none
def Sn {R:Type} (P:Program) (e:TypeId) (x:V) (l:Loc) (k:Nat->List C->Option R):Option R:=
 match x with
 | .c c=>asSl c λm cs=>need (Zqv (m*Zg P e) cs.length) (k m cs)
 | .own s off m=>match Z4 (l s)with
  |some (t,_,cs)=>need (Zqv t e&&Zqw (off+m*Zg P e) cs.length) (k m ((cs.drop off).take (m*Zg P e)))
  |none=>none
 |_=>none
def Y5 {R:Type} (cf:Cfg) (T:TypeId) (s x:V) (d:Nat) (l:Loc) (k:V->Loc->List Nat->Option R):Option R:=
 match cf.P.underlying T with
 |some (.slice e)=>
  match cf.P.info? e,Uw cf.P e with
  |some i,some _=>
   Sn cf.P e x l λm news=>
    match s with
    | .c .nl=>need (!Nat.beq i.size 0&&Zqw (m*i.bytes) 140737488355328&&Zqw m 140737488355328)<|
      k (.own d 0 m) ((l.kill d).put d (.sb e 0 news)) [d]
    | .own s' off n=>match l s' with
     | .ob t' fz cs=>need (Zqv t' e&&Zqv off 0&&Zqv (n*i.size) cs.length&&(!Nat.beq i.size 0)&&Zqw ((n+m)*i.bytes) 140737488355328&&Zqw (n+m) 140737488355328)<|
       k (.own d 0 (n+m)) (((l.kill s').kill d).put d (.ob e fz (cs++news))) [s',d]
     | .sb t' fz cs=>need (Zqv t' e&&Zqv off 0&&Zqv (n*i.size) cs.length&&(!Nat.beq i.size 0)&&Zqw ((n+m)*i.bytes) 140737488355328&&Zqw (n+m) 140737488355328)<|
       k (.own d 0 (n+m)) (((l.kill s').kill d).put d (.sb e fz (cs++news))) [s',d]
     |_=>none
    | .rw s' g j n=>match l s' with
     | .pk g' t q none=>need (Zqv g g')<|q.look j λp=>match p with
      | .r te row=>need (Zqv te e&&Zqv (n*i.size) row.length&&(!Nat.beq i.size 0)&&Zqw ((n+m)*i.bytes) 140737488355328&&Zqw (n+m) 140737488355328)<|
       k (.rp s' g j (n+m)) (l.put s' (.pk g' t q (some (j,te,row++news)))) []
      |_=>none
     |_=>none
    | .fs n0 cs0=>Sn cf.P e (.c (.sl n0 cs0)) l λn olds=>match cf.own d with
     |true=>need (!Nat.beq i.size 0&&Zqw 1 m&&Zqw ((n+m)*i.bytes) 140737488355328&&Zqw (n+m) 140737488355328)<|
      k (.own d 0 (n+m)) ((l.kill d).put d (.sb e 0 (olds++news))) [d]
     |false=>need (!Nat.beq i.size 0&&Zqw ((n+m)*i.bytes) 140737488355328&&Zqw (n+m) 140737488355328)<|
      k (.c (.sl (n+m) (olds++news))) l []
    |_=>none
  |_,_=>none
 |_=>none
def Vl (x:V):Option Int:=match x with| .c (.v (.int _ i))=>some i|_=>none
def Zds (cf:Cfg) (strict:Bool) (d:Nat) (s x:V):Bool:=
 match strict with
 |false=>true
 |true=>match s,x with
  | .fs _ _, .c _=> !cf.own d
  |_,_=>false
def Xn {R:Type} (P:Program) (l:Loc) (k:V->Loc->List Nat->Option R) (T T':TypeId) (s x:V) (d:Nat):Option R:=
 match P.underlying T,P.underlying T',s,Vl x with
 |some (.slice e),some (.int _), .c .nl,some n=>
  match P.info? e,Uw P e with
  |some i,some zs=>need (decide (0<n)&&decide ((i.bytes:Int)*n<=140737488355328)&&decide (n<=140737488355328)&& !Nat.beq i.size 0)
    (k (.own d 0 n.toNat) ((l.kill d).put d (.sb e 0 (Qw n.toNat zs))) [d])
  |_,_=>none
 |_,_,_,_=>none
def Hn (P:Program) (T:TypeId) (f:Nat):Option (Nat×TypeId):=
 match P.underlying T with
 |some (.struct fs)=>match fs.toList[f]? with
  |some fd=>some (fd.offset,fd.type)
  |none=>none
 |_=>none
def bound {R:Type} (x:Option V) (dflt:Nat) (y:Nat) (k:Nat->Option R):Option R:=
 match x with
 |none=>k dflt
 |some (.c c)=>match c with
  | .v (.int _ i)=>need (decide (0<=i)&&decide (i<=(y:Int))) (k i.toNat)
  |_=>none
 |some _=>none
def sliceC {R:Type} (sz:Nat) (lo hi:Option V) (c:C) (k:C->Option R):Option R:=
 match c with
 | .nl=>bound hi 0 0 λh=>bound lo 0 h λ_=>k .nl
 | .sl n cs=>bound hi n n λh=>bound lo 0 h λa=>k (.sl (h-a) ((cs.drop (a*sz)).take ((h-a)*sz)))
 |_=>none
def inR (i:Int) (n:Nat):Bool:=decide (0<=i)&&decide (i<(n:Int))
def Kk (P:Program) (fs:Array Field) (i:Nat):Option (Nat×Nat):=
 match fs.toList[i]? with
 |some f=>some (f.offset,Zg P f.type)
 |none=>none
def Zbo:V->Bool
 | .agg _=>false
 |_=>true
def ceq:C->C->Bool
 | .v (.int k a), .v (.int k' b)=>decide (k=k')&&decide (a=b)
 | .v (.bool a), .v (.bool b)=>decide (a=b)
 | .v (.string a), .v (.string b)=>decide (a=b)
 |_,_=>false
def Zbp:List C->List C->Bool
 | [],[]=>true
 |a::r,b::q=>ceq a b&&Zbp r q
 |_,_=>false
def mfind (P:Program) (kt:TypeId) (kc:List C):List (List C×List C)->Nat->Option (Option (Nat×List C))
 | [],_=>some none
 |e::es,i=>match eqT P 20 kt kc e.1 with
  |some b=>bif b then need (Zbp kc e.1) (some (some (i,e.2)))else mfind P kt kc es (i+1)
  |none=>none
def Qy (P:Program):Nat->TypeId->Bool
 |0,_=>false
 |d+1,t=>match P.underlying t with
  |some (.int _)|some .bool|some .string=>Zqv (Zg P t) 1
  | some (.struct fs) => fs.toList.all fun f => !(f.name == "_") && Qy P d f.type && Zqw (f.offset + Zg P f.type) (Zg P t)
  |_=>false
def mput (es:List (List C×List C)) (r:Option (Nat×List C)) (kc vc:List C):List (List C×List C):=
 match r with
 |some (i,_)=>es.set i (kc,vc)
 |none=>es++[(kc,vc)]
def R5 {R:Type} (x:V) (k:List C->Option R):Option R:=
 match x with
 | .c c=>k [c]
 | .agg cs=>k cs
 |_=>none
def A6 (P:Program) (t:TypeId) (x:V):Bool:=
 match x with
 | .c _=> !Yi P t
 | .agg cs=>Yi P t&&Zqv cs.length (Zg P t)
 |_=>false
section ops
variable {R:Type} (P:Program) (l:Loc) (k:V->Loc->List Nat->Option R)
def orZ (q:Option (Nat×List C)) (zs:List C):List C:=match q with|some p=>p.2|none=>zs
def M9 (t:TypeId):Bool:=
 match P.info? t with
 |some i=>match i.zero with
  |some (.agg _)=>Yi P t
  |some z=> !Yi P t&&z.oneCell'
  |none=>false
 |none=>false
def Vm (own:Bool) (t:TypeId) (d:Nat) (r:Option V):Option R:=
 match P.underlying t,r,own with
 |some (.map kt et),none,false=>need (Qy P 20 kt) (k (.mp d) ((l.kill d).put d (.mp kt et [])) [d])
 |some (.map kt et),none,true=>match P.underlying et with
  |some (.slice te)=>need (Qy P 20 kt&& !Nat.beq (Zg P te) 0) (k (.mp d) ((l.kill d).put d (.mr kt et te [])) [d])
  |_=>none
 |_,_,_=>none
def Zdt (a b:Option Nat):Bool:=match a,b with|some n,some m=>Zqv n m|none,none=>true|_,_=>false
def A7 {R:Type} (c:C) (kt et:TypeId) (ka va:Option Nat) (k:List (List C×List C)->Option R):Option R:=
 match c with
 | .mp kt' et' ka' va' es=>need (Zqv kt' kt&&Zqv et' et&&Zdt ka' ka&&Zdt va' va) (k es)
 |_=>none
def V4 (kt et:TypeId) (es:List (List C×List C)) (i:V) (ok:Bool):Option R:=
 R5 i λkc=>(mfind P kt kc es 0).bind λq=>
  match Uw P et with
  |some zs=>match ok with
   |false=>ldC P et (orZ q zs) λv=>k v l []
   |true=>ldC P et (orZ q zs) λv=>k (.tup [v,B q.isSome]) l []
  |none=>none
def Qg (T:TypeId) (x i:V) (ok:Bool):Option R:=
 match P.underlying T,x with
 |some (.map kt et), .mp s=>match l s with
  | .mp kt' et' es=>need (Zqv kt' kt&&Zqv et' et&&A6 P kt i&&Qy P 20 kt&&M9 P et)<|V4 P l k kt et es i ok
  |_=>none
 |some (.map kt et), .c c=>A7 c kt et (Tg P kt) (Tg P et) λes=>
  need (A6 P kt i&&Qy P 20 kt&&M9 P et)<|V4 P l k kt et es i ok
 |_,_=>none
def P3 (T:TypeId) (x i:V) (ok:Bool):Option R:=
 match x with
 | .c c=>Qg P l k T (.c c) i ok
 |_=>none
def U5 (T:TypeId) (x i v:V):Option R:=
 match P.underlying T,x with
 |some (.map kt et), .mp s=>match l s with
  | .mp kt' et' es=>need (Zqv kt' kt&&Zqv et' et&&A6 P kt i&&Qy P 20 kt&&A6 P et v)<|R5 i λkc=>R5 v λvc=>(mfind P kt kc es 0).bind λq=>
   k .und (l.put s (.mp kt et (mput es q kc vc))) []
  |_=>none
 |_,_=>none
def Di (q:Option (Nat×List C)) (es:List (List C×List C)):Nat:=match q with|some p=>p.1|none=>es.length
def nilZ (et:TypeId):Bool:=M9 P et&& !Yi P et&&match Uw P et with|some [c]=>(match c with| .nl=>true|_=>false)|_=>false
def Jf (c a b:V):Option R:=
 match c with
 | .c (.v (.bool q))=>k (Zgv q a b) l []
 |_=>none
def Kl (strict own:Bool) (t:TypeId) (d:Nat) (x:V):Option R:=
 match own,strict with
 |true,false=>match x with
  | .mag xs=>k (.ptr d 0) ((l.kill d).put d (.mx t (xs.map (V.kill d)))) [d]
  |x=>pur P false x l λcs l1=>need (Zqv cs.length (Zg P t)) (k (.ptr d 0) ((l1.kill d).put d (.ob t 0 cs)) [d])
 |true,true=>none
 |false,_=>pur P strict x l λcs l1=>k (.c (.cp cs)) l1 []
def Qh (strict:Bool) (t:TypeId) (is:List Nat) (xs:List V):Option R:=
 match P.underlying t,Uw P t with
 |some (.struct fs),some zs=>need (fs.toList.all λf=>(P.info? f.type).isSome)<|
  Nx P strict xs l λps l1=>
   V2 (Kk P fs) is ps zs λcs=>k (.agg cs) l1 []
 |some (.array _ el),some zs=>need (P.info? el).isSome<|
  Nx P strict xs l λps l1=>
   V2 (λi=>some (i*Zg P el,Zg P el)) is ps zs λcs=>k (.agg cs) l1 []
 |_,_=>none
def S7 (t:TypeId) (is:List Nat) (xs:List V):Option R:=
 match P.underlying t,Uw P t,H4 l xs with
 |some (.struct fs),some zs,some ps=>need (fs.toList.all λf=>(P.info? f.type).isSome)<|
  Sk (Kk P fs) is ps (zs.map .c) λys=>k (.mag ys) l []
 |_,_,_=>none
def Zlb (full:Bool) (n:Nat) (cs:List C):V:=match full with|true=> .fs n cs|false=> .c (.sl n cs)
def Z0 (strict own full:Bool) (t:TypeId) (n d:Nat) (is:List Nat) (xs:List V):Option R:=
 match P.underlying t with
 |some (.slice el)=>match Uw P el with
  |some zs=>
   Nx P strict xs l λps l1=>
    V2 (λi=>some (i*Zg P el,Zg P el)) is ps (Qw n zs) λcs=>
     need (Zqw (n*Zg P el) 16777216&& !Nat.beq (Zg P el) 0)<|
     match own,strict with
     |true,false=>k (.own d 0 n) ((l1.kill d).put d (.sb el 0 cs)) [d]
     |true,true=>none
     |false,_=>k (Zlb full n cs) l1 []
  |none=>none
 |_=>none
def Xh (t:TypeId) (n d:Nat) (is:List Nat) (xs:List V):Option R:=
 match P.underlying t with
 |some (.slice el)=>match Uw P el,H4 l xs with
  |some zs,some ps=>Sk (λi=>some (i*Zg P el,Zg P el)) is ps ((Qw n zs).map .c) λys=>
    need (Zqw (n*Zg P el) 16777216&& !Nat.beq (Zg P el) 0) (k (.ws d n) ((l.kill d).put d (.mx el (ys.map (V.kill d)))) [d])
  |_,_=>none
 |_=>none
def Yr (strict own full:Bool) (t:TypeId) (n d:Nat) (is:List Nat) (xs:List V):Option R:=
 match own,full,strict with
 |true,true,false=>Xh P l k t n d is xs
 |own,full,strict=>Z0 P l k strict own full t n d is xs
def Sb (t:TypeId) (x:V):Option R:=
 match x with
 | .c c=>ldC P t [c] λv=>k v l []
 | .own s' o' n'=>need (P.underlying t).isSome (k (.own s' o' n') l [])
 | .mp s'=>need (P.underlying t).isSome (k (.mp s') l [])
 | .ws s' n'=>need (P.underlying t).isSome (k (.ws s' n') l [])
 |_=>none
def Z8 (strict:Bool) (t:TypeId) (a:V):Option R:=
 match a with
 | .c c=>asP c λcs=>ldC P t cs λv=>k v l []
 | .ptr s off=>match l s with
  | .ob _ _ cs=>ldC P t (cs.drop off) λv=>k v l []
  | .sb _ _ cs=>ldC P t (cs.drop off) λv=>k v l []
  | .mx _ xs=>match Yi P t with
   |true=>need (Zqw (off+Zg P t) xs.length) (Qv P strict ((xs.drop off).take (Zg P t)) l λcs l1=>ldC P t cs λv=>k v l1 [])
   |false=>match xs.drop off with
    |x::_=>Sb P l k t x
    | []=>none
  | .pk g _ q none=>need (!Yi P t&&(P.underlying t).isSome)<|q.look off λp=>match p with
   | .c c=>ldC P t [c] λv=>k v l []
   | .r te row=>k (.rw s g off (row.length/Zg P te)) l []
  |_=>none
 |_=>none
def Jg (t:TypeId) (a:V):Option R:=
 match a with
 | .ptr s off=>match l s with
  | .mx _ xs=>need (Yi P t&&(P.info? t).isSome&&Zqw (off+Zg P t) xs.length) (k (.mag ((xs.drop off).take (Zg P t))) l [])
  |_=>none
 |_=>none
def Dj (mag strict:Bool) (t:TypeId) (a:V):Option R:=
 match mag,strict with
 |true,false=>Jg P l k t a
 |_,_=>Z8 P l k strict t a
def Yk (t:TypeId) (s off:Nat) (t':TypeId) (xs:List V) (x:V):Option R:=
 match x with
 | .own s' o' n'=>need (Zqw (off+1) xs.length&&Zqv (Zg P t) 1&&(P.info? t).isSome&&(Z4 (l s')).isSome) (k .und (l.put s (.mx t' (putAtV xs off [.own s' o' n']))) [])
 | .mp s'=>need (Zqw (off+1) xs.length&&Zqv (Zg P t) 1&&(P.info? t).isSome&&isMp (l s')) (k .und (l.put s (.mx t' (putAtV xs off [.mp s']))) [])
 | .c c=>need (Zqw (off+1) xs.length&&Zqv (Zg P t) 1&&(P.info? t).isSome) (k .und (l.put s (.mx t' (putAtV xs off [.c c]))) [])
 | .agg cs=>need (Zqw (off+cs.length) xs.length&&Zqv cs.length (Zg P t)&&(P.info? t).isSome) (k .und (l.put s (.mx t' (putAtV xs off (cs.map .c)))) [])
 | .mag ys=>need (Zqw (off+ys.length) xs.length&&Zqv ys.length (Zg P t)&&(P.info? t).isSome) (k .und (l.put s (.mx t' (putAtV xs off ys))) [])
 |_=>none
def Xl (strict:Bool) (t:TypeId) (s off:Nat) (x:V):Option R:=
 pur P strict x l λxs l1=>match l1 s with
  | .ob t' fz cs=>need (Zqv xs.length (Zg P t)&&Zqw fz off&&Zqw (off+xs.length) cs.length&&(P.info? t).isSome) (k .und (l1.put s (.ob t' fz (putAt cs off xs))) [])
  | .sb t' fz cs=>need (Zqv xs.length (Zg P t)&&Zqw fz off&&Zqw (off+xs.length) cs.length&&(P.info? t).isSome) (k .und (l1.put s (.sb t' fz (putAt cs off xs))) [])
  |_=>none
def pcC:PC->Option C
 | .c c=>some c
 |_=>none
def X3 (t:TypeId) (s off:Nat) (g:Nat) (t':TypeId) (q:Rws) (pe:Option (Nat×TypeId×List C)) (x:V):Option R:=
 need (Zqv (Zg P t) 1&&(P.info? t).isSome)<|match x,pe with
 | .rp s2 g2 j2 n,some (j,te,row)=>need (Zqv s2 s&&Zqv g2 g&&Zqv j2 j&&Zqv off j&&Zqv (n*Zg P te) row.length) (k .und (l.put s (.pk (Zq4 g) t' (q.put j te row) none)) [])
 | .c c,none=>match q with
  | .ps ps=>need (Zq3 off ps.length) (k .und (l.put s (.pk (Zq4 g) t' (.ps (ps.set off (.c c))) none)) [])
  | .rs _ _=>none
 | .ws s2 n2,none=>match q with
  | .ps ps=>match ps.mapM pcC with
   |some cs=>need (Zq3 off ps.length&&live (l s2)&& !Nat.beq s2 s) (k .und (l.put s (.mx t' (putAtV (cs.map .c) off [.ws s2 n2]))) [])
   |none=>none
  | .rs _ _=>none
 |_,_=>none
def A8:V->Bool
 | .own _ _ _=>true
 | .mp _=>true
 | .mag _=>true
 |_=>false
def Xo (strict mix:Bool) (t:TypeId) (a x:V):Option R:=
 match a with
 | .ptr s off=>match l s with
  | .ob t' fz cs=>bif A8 x&&(Zqv cs.length 1||mix)&&Zqv fz 0 then Yk P l k t s off t' (cs.map .c) x else Xl P l k strict t s off x
  | .sb _ _ _=>Xl P l k strict t s off x
  | .mx t' xs=>Yk P l k t s off t' xs x
  | .pk g t' q pe=>X3 P l k t s off g t' q pe x
  |_=>none
 |_=>none
def N6 (T:TypeId) (x y:V):Option R:=
 match P.underlying T with
 |some (.slice el)=>match P.info? el,x,y with
  |some i, .own s off n, .own s' off' m=>match Z4 (l s),Z4 (l s')with
   |some _,some (t',_,ds)=>match Nat.min m n with
    |0=>k (I 0) l []
    |q+1=>match l s with
     | .sb t fz cs=>need (Zqv t el&&Zqv t' el&&Zqw fz off&&Zqw (off+(q+1)*i.size) cs.length&&Zqw (off'+(q+1)*i.size) ds.length&&Zqw 1 i.size)
       (k (I ((q+1:Nat):Int)) (l.put s (.sb t fz (putAt cs off ((ds.drop off').take ((q+1)*i.size))))) [])
     |_=>none
   |_,_=>none
  |some i, .own s off n, .c c=>asSl c λm ds=>match l s with
   | .sb t fz cs=>match Nat.min m n with
    |0=>k (I 0) l []
    |q+1=>need (Zqv t el&&Zqw fz off&&Zqw (off+(q+1)*i.size) cs.length&&Zqw ((q+1)*i.size) ds.length&&Zqw 1 i.size)
       (k (I ((q+1:Nat):Int)) (l.put s (.sb t fz (putAt cs off (ds.take ((q+1)*i.size))))) [])
   |_=>none
  |_,_,_=>none
 |_=>none
def R2 (x:V):Option R:=
 match x with
 | .ptr s off=>need (live (l s)) (k (.ptr s off) l [])
 | .c c=>match c with
  | .cp cs=>k (.c (.cp cs)) l []
  | .fn f cs=>k (.c (.fn f cs)) l []
  |_=>none
 |_=>none
def X4 (t:TypeId) (d:Nat) (n c:V):Option R:=
 match P.underlying t,Vl n,Vl c with
 |some (.slice el),some a,some b=>match P.info? el,Uw P el with
  |some i,some zs=>need (decide (0<=a)&&decide (a<=b)&&decide ((i.bytes:Int)*b<=140737488355328)&&decide (b<=140737488355328)&& !Nat.beq i.size 0)
    (k (.own d 0 a.toNat) ((l.kill d).put d (.sb el 0 (Qw a.toNat zs))) [d])
  |_,_=>none
 |_,_,_=>none
def Qz (t:TypeId) (d:Nat) (n c:V):Option R:=
 match P.underlying t,Vl n,Vl c with
 |some (.slice el),some a,some b=>match P.underlying el,P.info? el with
  |some (.slice te),some i=>need (nilZ P el&&decide (0<=a)&&decide (a=b)&&decide ((i.bytes:Int)*b<=140737488355328)&&decide (b<=140737488355328)&&Zqv i.size 1&& !Nat.beq (Zg P te) 0)
    (k (.ws d a.toNat) ((l.kill d).put d (.pk 0 el (.rs te (List.replicate a.toNat [])) none)) [d])
  |_,_=>none
 |_,_,_=>none
def Xe (t:TypeId) (n c:V):Option R:=
 match P.underlying t,Vl n,Vl c with
 |some (.slice el),some a,some b=>match P.info? el,Uw P el with
  |some i,some zs=>need (decide (0<=a)&&decide (a=b)&&decide ((i.bytes:Int)*b<=140737488355328)&&decide (b<=140737488355328)&& !Nat.beq i.size 0)
    (k (.c (.sl a.toNat (Qw a.toNat zs))) l [])
  |_,_=>none
 |_,_,_=>none
def Q0 (mix:Bool) (t:TypeId) (d:Nat) (n c:V):Option R:=
 match mix with
 |true=>Qz P l k t d n c
 |false=>X4 P l k t d n c
def Ym (t:TypeId) (x:V) (lo hi:Option V):Option R:=
 match P.underlying t with
 |some .string=>match x with
  | .c c=>asS c λs=>bound hi s.size s.size λh=>bound lo 0 h λa=>k (.c (.v (.string (s.extract a h)))) l []
  |_=>none
 |some (.slice el)=>match P.info? el with
  |some inf=>match x with
   | .c c=>sliceC inf.size lo hi c λc'=>k (.c c') l []
   | .own s off n=>match Z4 (l s)with
    |some (t',_,_)=>need (Zqv t' el&& !Nat.beq inf.size 0)<|bound hi n n λh=>bound lo 0 h λa=>k (.own s (off+a*inf.size) (h-a)) l []
    |none=>none
   |_=>none
  |none=>none
 |some (.array n el)=>match P.info? el,x,lo,hi with
  |some inf, .c c,none,none=>asP c λcs=>need (Zqv (n*inf.size) cs.length&& !Nat.beq inf.size 0&&Zqw 1 n&&Zqw n 1000000000) (k (.c (.sl n cs)) l [])
  |some inf, .ptr s off,none,none=>match l s with
   | .ob _ _ cs=>need (Zqv off 0&&Zqv (n*inf.size) cs.length&& !Nat.beq inf.size 0&&Zqw 1 n&&Zqw n 1000000000) (k (.ws s n) l [])
   |_=>none
  |_,_,_,_=>none
 |_=>none
def U0 (strict:Bool) (t:TypeId) (x:V) (lo hi m:Option V):Option R:=
 match P.underlying t,lo,hi,m with
 |some (.slice el),none,some h,some h'=>match P.info? el,Vl h,Vl h' with
  |some inf,some i,some j=>need (decide (i=j)&&decide (0<=i)&&Zbo x)<|pur P strict x l λcs l1=>match cs with
   | [c]=>asSl c λn cs'=>need (Zqw i.toNat n) (k (.fs i.toNat (cs'.take (i.toNat*inf.size))) l1 [])
   |_=>none
  |_,_,_=>none
 |_,_,_,_=>none
def S8 (strict:Bool) (t:TypeId) (x:V) (lo hi m:Option V):Option R:=
 match strict with
 |false=>U0 P l k false t x lo hi m
 |true=>match x with
  | .c c=>U0 P l k true t (.c c) lo hi m
  |_=>none
def Zw (T:TypeId) (f:Nat) (x:V):Option R:=
 match Hn P T f with
 |some (fo,ft)=>need (!Nat.beq (Zg P ft) 0)<|match x with
  | .ptr s off=>need (live (l s)) (k (.ptr s (off+fo)) l [])
  | .c c=>asP c λcs=>k (.c (.cp (cs.drop fo))) l []
  |_=>none
 |none=>none
def Ti (T:TypeId) (f:Nat) (x:V):Option R:=
 match Hn P T f,x with
 |some (fo,ft), .agg cs=>ldC P ft (cs.drop fo) λv=>k v l []
 |_,_=>none
def Zp (T:TypeId) (x i:V):Option R:=
 match Vl i,P.underlying T with
 |some a,some (.slice el)=>match P.info? el with
  |some inf=>match x with
   | .c c=>asSl c λn cs=>need (inR a n) (k (.c (.cp (cs.drop (a.toNat*inf.size)))) l [])
   | .own s off n=>match Z4 (l s)with
    |some _=>need (inR a n) (k (.ptr s (off+a.toNat*inf.size)) l [])
    |none=>none
   | .ws s n=>need (live (l s)&&inR a n) (k (.ptr s (a.toNat*inf.size)) l [])
   |_=>none
  |none=>none
 |some a,some (.array n el)=>match P.info? el with
  |some inf=>match x with
   | .ptr s off=>need (live (l s)&&inR a n) (k (.ptr s (off+a.toNat*inf.size)) l [])
   | .c c=>asP c λcs=>need (inR a n) (k (.c (.cp (cs.drop (a.toNat*inf.size)))) l [])
   |_=>none
  |none=>none
 |_,_=>none
def Q1 (T:TypeId) (x i:V):Option R:=
 match Vl i,P.underlying T with
 |some a,some (.array n el)=>match P.info? el with
  |some inf=>match x with
   | .agg cs=>need (inR a n) (ldC P el (cs.drop (a.toNat*inf.size)) λv=>k v l [])
   |_=>none
  |none=>none
 |some a,some .string=>match x with
  | .c c=>asS c λs=>need (inR a s.size) (k (.c (.v (.int .u8 ((s.data.getD a.toNat 0).toNat:Int)))) l [])
  |_=>none
 |_,_=>none
def H6 (T:TypeId) (x:V):Option R:=
 match x,P.underlying T with
 | .c .nl,some (.slice _)=>k (I 0) l []
 |_,_=>none
def Xp (i:Nat) (x:V):Option R:=
 match x with
 | .ent s n j=>match i with
  |0=>k (.own s 0 n) l []
  |1=>k (I j) l []
  |_=>none
 | .est j=>match i with
  |1=>k (I j) l []
  |_=>none
 | .tup vs=>match vs[i]? with
  |some v=>k v l []
  |none=>none
 |_=>none
def Yn (T:TypeId) (x:V):Option R:=
 match x,P.underlying T with
 | .c c,some (.slice _)=>asSl c λn _=>k (I n) l []
 | .c c,some .string=>asS c λs=>k (I s.size) l []
 | .own s _ n,some (.slice _)=>match Z4 (l s)with
  |some _=>k (I n) l []
  |none=>none
 | .mp s,some (.map _ _)=>match l s with
  | .mp _ _ es=>k (I es.length) l []
  | .mr _ _ _ es=>k (I es.length) l []
  |_=>none
 | .c c,some (.map _ _)=>match c with
  | .mp _ _ _ _ es=>k (I es.length) l []
  |_=>none
 | .ws s n,some (.slice _)=>need (live (l s)) (k (I n) l [])
 | .rw s g j n,some (.slice _)=>match gen (l s)with
  |some (g',false)=>need (Zqv g g') (k (I n) l [])
  |_=>none
 |_,some (.array n _)=>k (I n) l []
 |_,_=>none
def Y8 (strict:Bool) (f:FuncId) (xs:List V):Option R:=
 Nx P strict xs l λps l1=>need (ps.all λp=>Zqv p.length 1) (k (.c (.fn f ps.flatten)) l1 [])
def La (f:FuncId) (xs:List V):Option R:=
 match xs with
 | [.ptr s off]=>need (Zqv off 0&&live (l s)) (k (.clo f s) l [])
 |_=>none
def Ue (own strict:Bool) (f:FuncId) (xs:List V):Option R:=
 match own,strict with
 |true,false=>La l k f xs
 |_,_=>Y8 P l k strict f xs
def Hd (lt:Bool) (xs:List V):Option R:=
 match xs with
 | .c (.v (.int kd a))::r=>T3 lt r kd a λv=>k v l []
 |_=>none
end ops
def Zlc (cf:Cfg) (a:V):Bool:=
 match a with
 | .ptr s _=>cf.mix s
 |_=>false
def ownD (cf:Cfg) (d:Option Nat):Bool:=match d with|some d=>cf.own d|none=>false
def mixD (cf:Cfg) (d:Option Nat):Bool:=
 match d with
 |some d=>cf.mix d
 |none=>false
def Zev (P:Program) (t:TypeId) (L:List Nat) (l:Loc) (a:V):Bool:=
 match a with
 | .ptr s off=>L.any (Zqv s)&&match l s with
  | .mx _ xs=> !Yi P t&&(match xs.drop off with
   | .own s' _ _::_=>L.any (Zqv s')
   | .c _::_=>true
   |_=>false)
  | .ob _ _ _=>true
  |_=>false
 |_=>false
def rdF (strict:Bool) (L:List Nat) (a:V):Bool:=
 match strict,L with
 |true,x::L=>(match a with| .ptr s _=>(x::L).any (Zqv s)|_=>false)
 |_,_=>true
def rdC (P:Program) (t:TypeId) (strict:Bool) (L:List Nat) (l:Loc) (a:V):Bool:=
 match strict,L with
 |true,x::L=>Zev P t (x::L) l a
 |_,_=>true
def Cfg.rdl (cf:Cfg) (o:Oper):List Nat:=match o.dst with|some d=>cf.rd d|none=>[]
def Cfg.prl (cf:Cfg) (o:Oper):List Nat:=match o.dst with|some d=>cf.pr d|none=>[]
noncomputable def opK {R:Type} (cf:Cfg) (strict:Bool) (o:Oper) (e:Operand->V) (l:Loc) (k:V->Loc->List Nat->Option R):Option R:=
 match o.op with
 | .move x=>k (e x) l []
 | .assign x=>k (e x) l []
 | .pick c a b=>Jf l k (e c) (e a) (e b)
 | .alloc _=>match o.dst with
  |some d=>k (.ptr d 0) l []
  |none=>none
 | .box t x=>match o.dst with
  |some d=>Kl cf.P l k strict (cf.own d) t d (e x)
  |none=>none
 | .build t parts=>match mixD cf o.dst with
  |true=>match strict with
   |false=>S7 cf.P l k t (parts.toList.map (·.1)) (parts.toList.map λp=>e p.2)
   |true=>none
  |false=>Qh cf.P l k strict t (parts.toList.map (·.1)) (parts.toList.map λp=>e p.2)
 | .buildSlice t n parts=>match o.dst with
  |some d=>Yr cf.P l k strict (cf.own d) (cf.mix d) t n d (parts.toList.map (·.1)) (parts.toList.map λp=>e p.2)
  |none=>none
 | .load t a=>need (rdC cf.P t strict (cf.rdl o) l (e a)) (Dj cf.P l k (mixD cf o.dst) strict t (e a))
 | .store t a x=>Xo cf.P l k strict (Zlc cf (e a)) t (e a) (e x)
 | .nilCheck x=>R2 l k (e x)
 | .binOp op t x y _=>S5 cf.P op t (e x) (e y) λv=>k v l []
 | .unOp op _ x=>unV op (e x) λv=>k v l []
 | .convert src dst x=>N3 cf.P src dst (e x) λv=>k v l []
 | .makeFunc fn first cap=>match fn,first.toList with
  | .func f,[]=>need ((cap.toList.map e).all Zbo) (Ue cf.P l k (ownD cf o.dst) strict f (cap.toList.map e))
  |_,_=>none
 | .makeMap t r=>match o.dst,strict with
  |some d,false=>Vm cf.P l k (cf.own d) t d (r.map e)
  |_,_=>none
 | .lookup t x i ok=>match strict with
  |false=>Qg cf.P l k t (e x) (e i) ok
  |true=>P3 cf.P l k t (e x) (e i) ok
 | .mapUpdate t x i v=>match strict with
  |false=>U5 cf.P l k t (e x) (e i) (e v)
  |true=>none
 | .makeSlice t n c=>match o.dst,strict with
  |some d,false=>Q0 cf.P l k (cf.mix d) t d (e n) (e c)
  |some _,true=>Xe cf.P l k t (e n) (e c)
  |_,_=>none
 | .slice t x lo hi mx=>match mx with
  |some m=>S8 cf.P l k strict t (e x) (lo.map e) (hi.map e) (some (e m))
  |none=>Ym cf.P l k t (e x) (lo.map e) (hi.map e)
 | .fieldAddr T x f=>need (rdF strict (cf.rdl o) (e x)) (Zw cf.P l k T f (e x))
 | .field T x f=>Ti cf.P l k T f (e x)
 | .indexAddr T x i=>Zp cf.P l k T (e x) (e i)
 | .index T x i=>Q1 cf.P l k T (e x) (e i)
 | .extract x i=>Xp l k i (e x)
 | .call c=>match c.callee with
  | .builtin .len=>match c.args.toList,c.argTypes.toList with
   | [x],[T]=>Yn cf.P l k T (e x)
   |_,_=>none
  | .builtin .append=>match o.dst,c.args.toList,c.argTypes.toList with
   |some d,[s,x],[T,T']=>match Zds cf strict d (e s) (e x)with
    |true=>bif Zqv T T' then Y5 cf T (e s) (e x) d l k else Xn cf.P l k T T' (e s) (e x) d
    |false=>none
   |_,_,_=>none
  | .builtin .cap=>match c.args.toList,c.argTypes.toList with
   | [x],[T]=>H6 cf.P l k T (e x)
   |_,_=>none
  | .builtin .copy=>match strict,c.args.toList,c.argTypes.toList with
   |false,[x,y],[T,_]=>N6 cf.P l k T (e x) (e y)
   |_,_,_=>none
  | .builtin .max=>Hd l k false (c.args.toList.map e)
  | .builtin .min=>Hd l k true (c.args.toList.map e)
  | .builtin _=>none
  | .invoke _ _=>none
  | .value f=>match f with
   | .func f=>Sm cf strict f (c.args.toList.map e) o.type o.dst l k
   |f=>match e f with
    | .c c'=>C2 c' (λn=>Ml cf.P strict n (c.args.toList.map e) l k) λf caps=>Um cf strict [] [] f (c.args.toList.map e++caps.map .c) o.type o.dst l k
    | .clo f s=>match strict with
     |false=>need (live (l s)) (Um cf false [] [] f (c.args.toList.map e++[.ptr s 0]) o.type o.dst l k)
     |true=>none
    |_=>none
 |_=>none
def St.after (σ:St) (d:Option Nat) (x:V) (l:Loc) (ks:List Nat):St:=
 (⟨Yd ks σ.slots,l⟩:St).put d x l
def deadB:Obj->Bool
 | .dead=>true
 |_=>false
def okKs (l:Loc) (ks:List Nat):Bool:=ks.all λs=>Zq3 s OUT||deadB (l s)
def noLoc:Loc:=⟨λ_=> .sb 0 0 [],none⟩
def lz (strict:Bool) (l:Loc):Loc:=match strict with|true=>noLoc|false=>l
def Sc (z:Bool×List Nat) (l:Loc) (ks:List Nat):Bool:=okKs l ks&&((match z.1,ks with|true,_::_=>false|_,_=>true)&& !ks.any λs=>z.2.any (Zqv s))
def Cfg.loudO (cf:Cfg) (o:Oper):Bool:=match o.dst with
 |some d=>cf.loud d
 |none=>match o.op with
  | .store _ (.tmp a) _=>cf.loud (OUT+a)
  |_=>false
def Cfg.barO (cf:Cfg) (o:Oper):Bool:=match o.dst with
 |some d=>cf.bar d
 |none=>match o.op with
  | .mapUpdate _ (.tmp x) _ _=>cf.bar (2*OUT+x)
  | .entryStore _ (.tmp x) _ _=>cf.bar (2*OUT+x)
  |_=>false
def Cfg.exO (cf:Cfg) (o:Oper):Bool:=match o.dst with|some d=>cf.bar (OUT+d)|none=>false
def V0 (L:List Nat) (v:V):Bool:=match v with| .ptr s _=> !L.any (Zqv s)| .own s _ _=> !L.any (Zqv s)| .mp s=> !L.any (Zqv s)| .ws s _=> !L.any (Zqv s)| .rw s _ _ _=> !L.any (Zqv s)| .rp s _ _ _=> !L.any (Zqv s)|_=>true
def Jh (L:List Nat) (o:Op) (e:Operand->V):Bool:=
 match o with
 | .load _ a=>V0 L (e a)
 | .nilCheck x=>V0 L (e x)
 | .slice _ x _ _ _=>V0 L (e x)
 | .fieldAddr _ x _=>V0 L (e x)
 | .indexAddr _ x _=>V0 L (e x)
 | .call c=>c.args.toList.all λa=>V0 L (e a)
 |_=>true
def Zgz (L:List Nat) (v:V):Bool:=match v with| .c _=>true| .agg _=>true| .ptr s _=>L.any (Zqv s)|_=>false
def ptrIn (L:List Nat) (v:V):Bool:=match v with| .ptr s _=>L.any (Zqv s)|_=>false
def rowIn (L:List Nat) (v:V):Bool:=match v with| .rw s _ _ _=>L.any (Zqv s)|_=>false
def rowP (v:V):Bool:=match v with| .rp _ _ _ _=>true|_=>false
def Mm (cf:Cfg) (o:Op) (e:Operand->V):Bool:=
 match o with
 | .call c=>match c.callee with
  | .value (.func f)=>(!addB cf f&&match cf.xo f with| []=>true|_::_=>false)&&c.args.toList.all λa=>Zgz cf.lh (e a)
  | .builtin .append=>match c.args.toList with
   | [a,x]=>rowIn cf.lh (e a)&&Z7 (e x)
   |_=>false
  |_=>false
 | .store _ a x=>ptrIn cf.lh (e a)&&(Z7 (e x)||rowP (e x))
 |_=>false
def Zbq:Op->Bool
 | .load _ _=>true
 | .nilCheck _=>true
 | .fieldAddr _ _ _=>true
 | .indexAddr _ _ _=>true
 | .buildSlice _ _ _=>true
 | .makeSlice _ _ _=>true
 | .build _ _=>true
 | .call c=>(match c.callee with| .builtin .len=>true|_=>false)
 |_=>false
def Cfg.plO (cf:Cfg) (o:Oper):Bool:=Zbq o.op&&match o.dst with|some d=>cf.bar (3*OUT+d)|none=>false
def Ny (o:Op) (e:Operand->V):Bool:=
 match o with
 | .load _ a=>Z7 (e a)
 | .nilCheck x=>Z7 (e x)
 | .fieldAddr _ x _=>Z7 (e x)
 | .indexAddr _ x i=>Z7 (e x)&&Z7 (e i)
 | .buildSlice _ _ parts=>parts.toList.all λp=>Z7 (e p.2)
 | .makeSlice _ n c=>Z7 (e n)&&Z7 (e c)
 | .build _ parts=>parts.toList.all λp=>Z7 (e p.2)
 | .call c=>(match c.callee with| .builtin .len=>c.args.toList.all λa=>Z7 (e a)|_=>false)
 |_=>false
def Xw (cf:Cfg) (strict:Bool) (o:Oper) (e:Operand->V):Bool:=
 match strict with
 |false=>true
 |true=>match cf.barO o with
  |true=>true
  |false=>match cf.loudO o with
  |true=>Mm cf o.op e
  |false=>match cf.plO o with
   |true=>Ny o.op e
   |false=>match cf.exO o with
   |true=>true
   |false=>Jh cf.lh o.op e
def Cfg.str (cf:Cfg) (strict:Bool) (o:Oper):Bool:=match strict with|true=> !(cf.loudO o||cf.barO o)|false=>false
def Cfg.stz (cf:Cfg) (strict:Bool) (o:Oper):Bool×List Nat:=match strict with|true=>(!cf.barO o,cf.al++cf.prl o)|false=>(false,[])
noncomputable def Km {R:Type} (cf:Cfg) (strict:Bool) (dsts:Nat->Option Nat):List Oper->St->(St->Option R)->Option R
 | [],σ,k=>k σ
 |o::r,σ,k=>
  match o.guard with
  |none=>opK cf (cf.str strict o) o (σ.ev cf.glob) σ.loc λx l ks=>need (Sc (cf.stz strict o) (lz strict l) ks&&Xw cf strict o (σ.ev cf.glob)) (Km cf strict dsts r (σ.after o.dst x l ks) k)
  |some (j,want)=>
   match dsts j with
   |none=>none
   |some d=>
    match σ.get d with
    | .c (.v (.bool q))=>
     match want with
     |true=>bif q then opK cf (cf.str strict o) o ((σ.put (some d) (B true) σ.loc).ev cf.glob) σ.loc λx l ks=>need (Sc (cf.stz strict o) (lz strict l) ks&&Xw cf strict o ((σ.put (some d) (B true) σ.loc).ev cf.glob)) (Km cf strict dsts r ((σ.put (some d) (B true) σ.loc).after o.dst x l ks) k)
       else Km cf strict dsts r ((σ.put (some d) (B false) σ.loc).after o.dst .un σ.loc []) k
     |false=>bif q then Km cf strict dsts r ((σ.put (some d) (B true) σ.loc).after o.dst .un σ.loc []) k
       else opK cf (cf.str strict o) o ((σ.put (some d) (B false) σ.loc).ev cf.glob) σ.loc λx l ks=>need (Sc (cf.stz strict o) (lz strict l) ks&&Xw cf strict o ((σ.put (some d) (B false) σ.loc).ev cf.glob)) (Km cf strict dsts r ((σ.put (some d) (B false) σ.loc).after o.dst x l ks) k)
    | .un=>Km cf strict dsts r (σ.after o.dst .un σ.loc []) k
    |_=>none
def H7 (P:Program):List Oper->St->Option St
 | [],σ=>some σ
 |o::r,σ=>
  match o.op,o.dst,o.guard with
  | .alloc t,some d,none=>
   match Uw P t with
   |some zs=>need (Zq3 d OUT) (H7 P r ⟨σ.slots.map (V.kill d),(σ.loc.kill d).put d (.ob t 0 zs)⟩)
   |none=>none
  | .alloc _,_,_=>none
  |_,_,_=>H7 P r σ
def Zm (o:Oper):Bool:=match o.op with| .alloc _=>true|_=>false
def Z5 (o:Oper):Option Nat:=match Zm o with|true=>o.dst|false=>none
def Z2 (ops:List Oper):List Nat:=ops.filterMap Z5
def Zld (ops:List Oper):Bool:=
 nodupB (Z2 ops)&&ops.all λo=>Zm o||match o.dst with|some d=> !((Z2 ops).any (Zqv d))|none=>true
def Zl:Op->Bool
 | .store .. =>true
 |_=>false
def Yo:Op->Bool
 | .store .. | .load .. | .nilCheck .. | .slice .. | .fieldAddr .. | .indexAddr .. =>false
 | .call c=>match c.callee with| .builtin .len=>false|_=>true
 |_=>true
def H8 (acc:List Nat) (o:Oper):Nat:=
 o.after.toList.foldr (λe s=>bif Region.binds .any e then(2^e.on|||acc.getD e.on 0)|||s else s) 0
def Mn:List Oper->List Nat->List Nat
 | [],acc=>acc
 |o::r,acc=>Mn r (acc++[H8 acc o])
def Ba:List Oper->Nat->Bool
 | [],_=>true
 |o::r,j=>o.after.toList.all (λe=> !Region.binds .any e||Zq3 e.on j)&&Ba r (j+1)
def Cfg.wr (cf:Cfg) (o:Oper):Bool:=Zl o.op||cf.loudO o
def Cfg.qu (cf:Cfg) (o:Oper):Bool:=Yo o.op&& !cf.loudO o
def Cfg.still (cf:Cfg) (o:Oper):Bool:=o.guard.isNone&& !cf.loudO o&&match o.op with
 | .move _=>true
 | .assign _=>true
 |_=>false
def Cfg.maker (cf:Cfg) (o:Oper):Bool:=o.guard.isNone&&cf.barO o&& !mixD cf o.dst&&match o.op with
 | .makeSlice _ _ _=>true
 |_=>false
def Cfg.fxO (cf:Cfg) (o:Oper):Bool:=o.guard.isNone&&(!cf.loudO o&&(!cf.barO o&&match o.op,o.dst with
 | .alloc _,some d=> !cf.plO o&&cf.al.any (Zqv d)
 |_,_=>cf.plO o))
def Cfg.apO (cf:Cfg) (o:Oper):Bool:=o.guard.isNone&&(cf.barO o&&(!cf.loudO o&&match o.op with
 | .call c=>(match c.callee with| .builtin .append=>true|_=>false)
 | .buildSlice _ _ parts=>(match parts.toList with| []=>true|_=>false)
 |_=>false))
def Cfg.rdX (cf:Cfg) (x y:Oper):Bool:=cf.apO x&&(y.guard.isNone&&(!cf.loudO y&&(!cf.barO y&&match y.op with
 | .load _ _=>(match cf.rdl y with| []=>false|s::L=>(s::L).all λs=>(cf.prl x).any (Zqv s))
 | .fieldAddr _ _ _=>(match cf.rdl y with| []=>false|s::L=>(s::L).all λs=>(cf.prl x).any (Zqv s))
 |_=>false)))
def Zg0 (cf:Cfg) (a b:Oper):Bool:=(cf.still a&&b.guard.isNone)||(cf.still b&&a.guard.isNone)||(cf.maker a&&cf.maker b)||(cf.fxO a&&b.guard.isNone)||(cf.fxO b&&a.guard.isNone)||cf.rdX a b||cf.rdX b a
def A9 (cf:Cfg) (ops:Array Oper) (a b:Oper):Bool:=
 (Zg0 cf a b&&a.apart ops b)|| !cf.barO a&& !cf.barO b&&a.apart ops b&&(cf.qu a||cf.qu b||(!cf.wr a&& !cf.wr b)||(cf.loudO a&& !cf.wr b&& !cf.exO b)||(cf.loudO b&& !cf.wr a&& !cf.exO a))
def Lb (cf:Cfg) (ops:Array Oper):Bool:=
 match Mn ops.toList []with
 |an=>Ba ops.toList 0&&(Zq6 ops.size).all λj=>(Zq6 j).all λi=>(an.getD j 0).testBit i||match ops[i]?,ops[j]? with
  |some a,some b=>A9 cf ops a b
  |_,_=>false
def lhOf (cf:Cfg) (ops:Array Oper):List Nat:=match ops.toList.any cf.loudO with|true=>cf.lh|false=>[]
def Ys:Code->Nat
 | .region id _ _=>id
 | .seq a _=>Ys a
 | .block _ b=>Ys b
 | .loop b=>Ys b+100000
 | .rangeFunc _ _ _ b=>Ys b+200000
 | .scope b=>Ys b
 |_=>0
def iter {A:Type} (body:A->Option (Nat×A)):Nat->A->Option (Nat×A)
 |0,_=>none
 |n+1,x=>(body x).bind λp=>match p.1 with
  |0=>iter body n p.2
  |m+1=>some (m,p.2)
def Ji {A:Type} (P:Program) (kp:Keeps) (n:Option Nat) (σ:St) (k:Nat->Qx kp.ks->Option A):Option A:=
 match n with
 |some n=>Mh P kp σ λz=>k n z
 |none=>none
def writes:Code->List Nat
 | .region _ ops _=>ops.toList.filterMap (·.dst)
 | .seq a b=>writes a++writes b
 | .cond _ a b=>writes a++writes b
 | .block _ b=>writes b
 | .loop b=>writes b
 | .rangeFunc _ ps a b=>ps.toList++(writes a++writes b)
 |_=>[]
def Zle {R:Type} (P:Program) (fuel:Nat) (kp:Keeps) (ws:List Nat) (body:St->(Ex->St->Option (Nat×Qx kp.ks))->Option (Nat×Qx kp.ks)) (σ:St) (k:Ex->St->Option R):Option R:=
 frzA P kp.fz kp.fzc σ λσ=>Mh P kp σ λx=>
  (iter (λy=>body (Yg P kp.ks y (σ.clean ws)) λe σ'=>Ji P kp (U9 (.normal::kp.ex) e) σ' λn z=>some (n,z)) fuel x).bind λp=>
   H5 kp.ex p.1 λe=>k e (Yg P kp.ks p.2 (σ.clean ws))
def Zlf {R:Type} (P:Program) (kp:Keeps) (ws:List Nat) (body:St->(Ex->St->Option (Nat×Qx kp.ks))->Option (Nat×Qx kp.ks)) (σ:St) (k:Ex->St->Option R):Option R:=
 frzA P kp.fz kp.fzc σ λσ=>
  (body σ λe σ'=>Ji P kp (U9 kp.ex e) σ' λn z=>some (n,z)).bind λp=>
   H5 kp.ex p.1 λe=>k e (Yg P kp.ks p.2 (σ.clean ws))
def R6 {I A:Type} (body:I->A->Option (Nat×A)):List I->A->Option (Nat×A)
 | [],x=>some (0,x)
 |i::r,x=>(body i x).bind λp=>match p.1 with
  |0=>R6 body r p.2
  |m+1=>some (m+1,p.2)
def Lc:List Nat->List V->Sl->Sl
 |t::ts,v::vs,sl=>Lc ts vs (sl.set t v)
 |_,_,sl=>sl
def Keep.slots:Keep->List Nat
 | .lf t _=>[t]
 | .ag t _=>[t]
 | .ao t=>[t]
 | .ow t _ _=>[t]
 | .us t _ _=>[t]
 | .ob _ _ _ ts=>ts.map (·.1)
 | .oo _ _ ts=>ts.map (·.1)
 | .mx _ _ _ ts wt=>ts.map (·.1)++wt.map (·.1)
 | .mp _ _ _ ts=>ts
 | .mr _ _ _ _ ts=>ts
 | .pk _ _ _ ts=>ts.map (·.1)
 | .rx _ _ _ ts=>ts
 | .lg=>[]
def Keep.noLg:Keep->Bool
 | .lg=>false
 |_=>true
def shape {R:Type} (s:Shp) (x:V) (k:V->Option R):Option R:=
 match s with
 | .s l=>rC x λc=>Ub l c λc'=>k (.c c')
 | .a ls=>rA x λcs=>need (Zqv cs.length ls.length) (U3 ls cs λcs'=>k (.agg cs'))
def Mo {R:Type}:List Shp->List V->(List V->Option R)->Option R
 | [],xs,k=>match xs with
  | []=>k []
  |_::_=>none
 |s::ss,xs,k=>uncV xs λx r=>shape s x λv=>Mo ss r λvs=>k (v::vs)
def Zg1 {R:Type} (P:Program) (kp:Keeps) (ws ps:List Nat) (xs:List (List V)) (body:St->(Ex->St->Option (Nat×Qx kp.ks))->Option (Nat×Qx kp.ks)) (σ:St) (k:Ex->St->Option R):Option R:=
 frzA P kp.fz kp.fzc σ λσ=>Mh P kp σ λx=>
  need (kp.ks.all λq=>q.noLg&&q.slots.all λt=> !(ws.any (Zqv t)))<|
  (R6 (λit y=>Mo kp.sh it λit=>need (Zqv it.length ps.length) (body ⟨Lc ps it (Yg P kp.ks y (σ.clean ws)).slots,(Yg P kp.ks y (σ.clean ws)).loc⟩ λe σ'=>Ji P kp (U9 (.normal::kp.ex) e) σ' λn z=>some (n,z))) xs x).bind λp=>
   H5 (.normal::kp.ex) p.1 λe=>k e (Yg P kp.ks p.2 (σ.clean ws))
def Zbr (cf:Cfg):Operand->Option Keeps
 | .tmp t=>cf.join t
 |_=>none
def Ho {R:Type} (body:St->(Ex->St->Option R)->Option R) (k:Ex->St->Option R):Nat->St->Option R
 |0,_=>none
 |n+1,σ=>body σ λe σ'=>match e with
  | .normal=>Ho body k n σ'
  |e=>k e σ'
noncomputable def Yt (cf:Cfg):Code->{R:Type}->St->(Ex->St->Option R)->Option R
 | .skip,_,σ,k=>k .normal σ
 | .region _ ops draw,_,σ,k=>
  match Zld ops.toList,H7 cf.P ops.toList σ with
  |false,_=>none
  |true,none=>none
  |true,some σ1=>
   match draw with
   |true=>bif Lb {cf with lh:=lhOf cf ops,al:=Z2 ops.toList} ops then Km {cf with lh:=lhOf cf ops,al:=Z2 ops.toList} true (λj=>(ops[j]?).bind (·.dst)) ops.toList σ1 (k .normal)else none
   |false=>Km cf false (λj=>(ops[j]?).bind (·.dst)) ops.toList σ1 (k .normal)
 | .seq a b,_,σ,k=>Yt cf a σ λe σ'=>match e with
  | .normal=>Yt cf b σ' k
  |e=>k e σ'
 | .cond c a b,_,σ,k=>
  match σ.ev cf.glob c with
  | .c (.v (.bool q))=>
   match Zbr cf c with
   |none=>bif q then Yt cf a σ k else Yt cf b σ k
   |some kp=>Zlf cf.P kp (writes a++writes b) (λσ k=>bif q then Yt cf a σ k else Yt cf b σ k) σ k
  | .nq n neg=>
   match Zbr cf c with
   |none=>bif Zqv n 0 then same (Yt cf a σ k) (Yt cf b σ k)else bif neg then Yt cf a σ k else Yt cf b σ k
   |some _=>none
  |_=>none
 | .block id b,_,σ,k=>Yt cf b σ λe σ'=>match e with
  | .exit id'=>match decide (id'=id)with
   |true=>k .normal σ'
   |false=>k (.exit id') σ'
  |e=>k e σ'
 | .loop b,_,σ,k=>match cf.unr (Ys b)with
  |0=>match(cf.keep (Ys b)).rm with
   |none=>Zle cf.P cf.fuel (cf.keep (Ys b)) (writes b) (λσ k=>Yt cf b σ k) σ k
   |some _=>none
  |n+1=>Ho (λσ k=>Yt cf b σ k) k (n+1) σ
 | .exit id,_,σ,k=>k (.exit id) σ
 | .ret,_,σ,k=>k .ret σ
 | .rangeFunc g ps a b,_,σ,k=>
  match cf.rnd,σ.ev cf.glob g with
  |false, .c c=>Zet c λf caps=>(cf.iter f caps).bind λxs=>
   Zg1 cf.P (cf.keep (Ys b)) (ps.toList++(writes a++writes b)) ps.toList xs
    (λσ k=>Yt {cf with rnd:=true,ent:=none} a σ λe σ'=>match e with
     | .normal=>Yt {cf with rnd:=true,ent:=none} b σ' k
     |_=>none) σ k
  |_,_=>none
 |_,_,_,_=>none
abbrev Qe:=Option Nat×TypeId×Option Nat
def cOf:List V->Option (List C)
 | []=>some []
 | .c c::r=>match cOf r with
  |some cs=>some (c::cs)
  |none=>none
 |_=>none
def Ui (l:Loc):Qe->Obj
 |(none,te,_)=> .sb te 0 []
 |(some s,te,some n)=>match Z4 (l s)with
  |some (_,_,cs)=> .sb te 0 (cs.take n)
  |none=> .dead
 |(some s,te,none)=>match l s with
  | .ob _ _ cs=> .ob te 0 cs
  | .mx _ xs=>match cOf xs with
   |some cs=> .ob te 0 cs
   |none=> .dead
  |_=> .dead
def Sd (l:Loc):Qe->Bool
 |(none,_,n)=>match n with
  |some 0=>true
  |_=>false
 |(some s,te,some n)=>match Z4 (l s)with
  |some (t,fz,cs)=>Zqv t te&&Zqv fz 0&&Zqw n cs.length&&Zq3 s OUT
  |none=>false
 |(some s,te,none)=>match l s with
  | .ob t fz _=>Zqv t te&&Zqv fz 0&&Zq3 s OUT
  | .mx t xs=>Zqv t te&&(cOf xs).isSome&&Zq3 s OUT
  |_=>false
def Mp (l:Loc) (os:List Qe):Bool:=nodupB (os.filterMap (·.1))&&os.all (Sd l)
def R7 {R:Type} (P:Program) (te m:Nat) (x:V) (l:Loc) (k:V->Loc->List Qe->Option R):Option R:=
 match x with
 | .own s off n=>need (Zqv off 0) (k (.own (OUT+m) 0 n) l [(some s,te,some (n*Zg P te))])
 | .c .nl=>k (.own (OUT+m) 0 0) l [(none,te,some 0)]
 |_=>none
def Mq {R:Type} (P:Program):Nat->List (TypeId×Option TypeId)->List V->Loc->(List V->Loc->List Qe->Option R)->Option R
 |_,[],xs,l,k=>match xs with
  | []=>k [] l []
  |_::_=>none
 |m,q::ts,xs,l,k=>uncV xs λx r=>match q.2 with
  |none=>match x with
   | .c c=>Mq P m ts r l λys l' os=>k (.c c::ys) l' os
   |_=>none
  |some te=>R7 P te m x l λv l' q1=>Mq P (m+q1.length) ts r l' λys l2 os=>k (v::ys) l2 (q1++os)
def Zg2 {R:Type} (P:Program) (ex:Option TypeId) (m:Nat) (σ:St) (l:Loc) (r:ResultVar) (k:V->Loc->List Qe->Option R):Option R:=
 match r with
 | .tmp t=>match σ.get t with
  | .c c=>match ex with
   |some te=>R7 P te m (.c c) l k
   |none=>k (.c c) l []
  | .agg cs=>k (.agg cs) l []
  | .own s off n=>match ex with
   |some te=>R7 P te m (.own s off n) l k
   |none=>pur P false (.own s off n) l λcs l'=>match cs with| [c]=>k (.c c) l' []|_=>none
  | .ptr s off=>match ex with
   |some te=>match l s with
    | .mx _ xs=>A3 P ((Zq6 xs.length).map λj=>(s,j)) ⟨σ.slots,l⟩ λσ2=>need (Zqv off 0) (k (.ptr (OUT+m) 0) σ2.loc [(some s,te,none)])
    |_=>need (Zqv off 0) (k (.ptr (OUT+m) 0) l [(some s,te,none)])
   |none=>pur P false (.ptr s off) l λcs l'=>match cs with| [c]=>k (.c c) l' []|_=>none
  | .clo f s=>match ex with
   |some te=>need (Zqv f (Zgy te)) (k (.clo f (OUT+m)) l [(some s,C7 te,none)])
   |none=>none
  | .mp s=>match ex with
   |some _=>none
   |none=>pur P false (.mp s) l λcs l'=>match cs with| [c]=>k (.c c) l' []|_=>none
  | .mag xs=>match ex with
   |some te=>match C8 P te with
    |some cts=>Mq P m cts xs l λys l' os=>k (.mag ys) l' os
    |none=>none
   |none=>none
  |_=>none
 | .cell a t=>match σ.get a with
  | .ptr s off=>match l s with
   | .ob _ _ cs=>match ex with
    |some _=>none
    |none=>ldC P t (cs.drop off) λv=>k v l []
   | .mx _ xs=>match Yi P t with
    |true=>match ex with
     |some _=>match C8 P t with
      |some cts=>need (Zqw (off+Zg P t) xs.length&&(P.info? t).isSome) (Mq P m cts ((xs.drop off).take (Zg P t)) l λys l' os=>k (.mag ys) l' os)
      |none=>none
     |none=>need (Zqw (off+Zg P t) xs.length) (Qv P false ((xs.drop off).take (Zg P t)) l λcs l1=>ldC P t cs λv=>k v l1 [])
    |false=>match xs.drop off with
     | .own s' off' n'::_=>need (P.underlying t).isSome (match ex with
      |some te=>R7 P te m (.own s' off' n') l k
      |none=>pur P false (.own s' off' n') l λcs l'=>match cs with| [c]=>k (.c c) l' []|_=>none)
     | .c c::_=>match ex with
      |some te=>need (P.underlying t).isSome (R7 P te m (.c c) l k)
      |none=>ldC P t [c] λv=>k v l []
     |_=>none
   |_=>none
  |_=>none
def Zg3 {R:Type} (P:Program) (m:Nat) (σ:St):List (Option TypeId)->Loc->List ResultVar->(List V->Loc->List Qe->Option R)->Option R
 |_,l,[],k=>k [] l []
 |ex,l,r::rs,k=>Zg2 P (ex.headD none) m σ l r λv l1 os=>Zg3 P (m+os.length) σ ex.tail l1 rs λvs l2 os2=>k (v::vs) l2 (os++os2)
def Vn (n:Nat) (l:Loc):List Obj:=(Zq6 n).map λk=>l (OUT+k)
def nrV (b:Bool) (v:V):V:=
 match b,v with
 |true, .c c=> .c (nrm c)
 |_,v=>v
def finish (cf:Cfg) (fn:Func) (m:Nat) (σ:St):Option Out:=
 match fn.results.toList with
 | [r]=>Zg2 cf.P (cf.exp.headD none) m σ σ.loc r λv l os=>need (Vz l ((Zq6 m).map (OUT+ ·))&&Mp l os) (some ⟨nrV cf.nr v,Vn m l++os.map (Ui l),l.log⟩)
 |rs=>Zg3 cf.P m σ cf.exp σ.loc rs λvs l os=>need (Vz l ((Zq6 m).map (OUT+ ·))&&Mp l os) (some ⟨.tup vs,Vn m l++os.map (Ui l),l.log⟩)
def Zs (objs:List Obj) (lg:Option Log):Loc:=⟨λs=>bif Zqw OUT s then(objs[s-OUT]?).getD .dead else .dead,lg⟩
def He:List V->Option Log
 | .c (.yl l go xs)::_=>some ⟨l,go,0,xs,false⟩
 |_=>none
noncomputable def Zbs (cf:Cfg) (fn:Func) (args:List V) (objs:List Obj):Option Out:=
 match fn.body with
 |none=>none
 | some c => need (Zqw args.length fn.ntmps && M8 (Zs objs (He args)) ((Zq6 objs.length).map (OUT + ·)) && !(fn.name == "runtime.NumGoroutine")) <|
  Yt cf c ⟨⟨λt=>args.getD t .un,fn.ntmps⟩,Zs objs (He args)⟩ λe σ=>match e with
   | .exit _=>none
   |_=>finish cf fn objs.length σ
structure Laid where
 own:Nat->Bool:=λ_=>false
 keep:Nat->Keeps:=λ_=>default
 join:Nat->Option Keeps:=λ_=>none
 exp:List (Option TypeId):=[]
 hand:List Nat:=[]
 loud:Nat->Bool:=λ_=>false
 lh:List Nat:=[]
 fzb:Bool:=false
 mix:Nat->Bool:=λ_=>false
 bar:Nat->Bool:=λ_=>false
 nr:Bool:=false
 unr:Nat->Nat:=λ_=>0
 rd:Nat->List Nat:=λ_=>[]
 pr:Nat->List Nat:=λ_=>[]
 lost:Bool:=false
structure Prims where
 fn:FuncId->Option (List V->List Obj->Option Out)
 iter:Nat->FuncId->List C->Option (List (List V))
 glob:Nat->Option (List C):=λ_=>none
 add:Option FuncId:=none
noncomputable def callN (P:Program) (prim:Prims) (laid:FuncId->Laid) (fu:Nat):Nat->FuncId->List V->List Obj->Option Out
 |0,_,_,_=>none
 |d+1,f,args,objs=>
  match prim.fn f with
  |some g=>g args objs
  |none=>match P.funcs[f]? with
   |none=>none
   |some fn=>Zbs {P:=P,call:=callN P prim laid fu d,iter:=prim.iter d,rnd:=false,fuel:=fu,own:=(laid f).own,keep:=(laid f).keep,join:=(laid f).join,exp:=(laid f).exp,xo:=λf=>(laid f).exp,hand:=λf=>(laid f).hand,glob:=prim.glob,loud:=(laid f).loud,lh:=(laid f).lh,fzb:=λf=>(laid f).fzb,mix:=(laid f).mix,bar:=(laid f).bar,nr:=(laid f).nr,unr:=(laid f).unr,ent:=none,rd:=(laid f).rd,pr:=(laid f).pr,lost:=λf=>(laid f).lost,add:=prim.add} fn args objs
end Go.PM
namespace Go.PM
open Go
def So (w:World) (b:Nat):Option (Array MapEntry×Nat):=match w.heap[b]? with|some (.map ms n)=>some (ms,n)|_=>none
theorem Xi {w w':World} {b:Nat} (h:w'.heap[b]? =w.heap[b]?):So w' b=So w b:=by simp[So,h]
theorem T4 {w:World} {b:Nat} {cur:Array Value} {t:TypeId} {fr:Nat×Nat} (h:w.heap[b]? =some (.cells cur t fr)):So w b=none:=by simp[So,h]
theorem Sp {w:World} {b:Nat} {ms:Array MapEntry} {n:Nat}:So w b=some (ms,n)↔w.heap[b]? =some (.map ms n):=by
 unfold So;constructor
 ·intro h;split at h
  ·rename_i e;injection h with h;injection h with h1 h2;subst h1 h2;exact e
  ·cases h
 ·intro h;rw[h]
def shp (b:Option Nat) (u:Value) (us:List Value):Prop:=match b with|some n=>u= .agg us.toArray/\us.length=n|none=>us=[u]
inductive RC (w:World) (Pr:Nat->Nat->Prop):C->Value->Prop
 |v {x:Value} (h:Em x=true):RC w Pr (.v x) x
 |nl:RC w Pr .nl (.slice none 0 0)
 |sl0 {a:Option Addr} {cap:Nat} (hc:cap<=maxLen):RC w Pr (.sl 0 []) (.slice a 0 cap)
 |sl {n:Nat} {cs:List C} {g o cap:Nat} {us:Nat->Value} (hn:n<=cap) (hc:cap<=maxLen)
   (h1: ∀(j:Nat) (c:C),cs[j]? =some c->w.cell? ⟨g,o+j,none⟩=some (us j)/\Pr g (o+j)) (h2: ∀(j:Nat) (c:C),cs[j]? =some c->RC w Pr c (us j)):
   RC w Pr (.sl n cs) (.slice (some ⟨g,o,none⟩) n cap)
 |cp0 {a:Addr}:RC w Pr (.cp []) (.pointer (some a))
 |cp {cs:List C} {g o:Nat} {us:Nat->Value}
   (h1: ∀(j:Nat) (c:C),cs[j]? =some c->w.cell? ⟨g,o+j,none⟩=some (us j)/\Pr g (o+j)) (h2: ∀(j:Nat) (c:C),cs[j]? =some c->RC w Pr c (us j)):
   RC w Pr (.cp cs) (.pointer (some ⟨g,o,none⟩))
 |fn {f:FuncId} {caps:List C} {us:List Value} (hs:us.length=caps.length) (h: ∀(j:Nat) (c:C) (u:Value),caps[j]? =some c->us[j]? =some u->RC w Pr c u):
   RC w Pr (.fn f caps) (.func (.func f) #[] us.toArray)
 |yl {n:Nat} {go:Nat->Bool} {xs:List (List V)}:RC w Pr (.yl n go xs) (.func (.yield n) #[] #[])
 |mp {kt et:TypeId} {ka va:Option Nat} {es:List (List C×List C)} {g:Nat} {ms:Array MapEntry} {kus vus:Nat->List Value} (hg:So w g=some (ms,es.length)) (hp:Pr g 0) (hs:ms.size=es.length)
   (hk: ∀(j:Nat) (q:List C×List C) (m:MapEntry),es[j]? =some q->ms[j]? =some m->m.born=j/\shp ka m.key (kus j)/\shp va m.val (vus j)/\(kus j).length=q.1.length/\(vus j).length=q.2.length)
   (h1: ∀(j:Nat) (q:List C×List C) (i:Nat) (c:C) (u:Value),es[j]? =some q->q.1[i]? =some c->(kus j)[i]? =some u->RC w Pr c u)
   (h2: ∀(j:Nat) (q:List C×List C) (i:Nat) (c:C) (u:Value),es[j]? =some q->q.2[i]? =some c->(vus j)[i]? =some u->RC w Pr c u):RC w Pr (.mp kt et ka va es) (.map (some g))
 |bx {c:C} {u:Value} {g:Nat} (h1:w.cell? ⟨g,0,none⟩=some u/\Pr g 0) (h2:RC w Pr c u):RC w Pr (.bx c) (.pointer (some ⟨g,0,none⟩))
def RCs (w:World) (Pr:Nat->Nat->Prop) (cs:List C) (us:List Value):Prop:=
 us.length=cs.length/\ ∀(j:Nat) (c:C) (u:Value),cs[j]? =some c->us[j]? =some u->RC w Pr c u
theorem Zg4 {x:Value} (h:Em x=true):x.oneCell'=true:=by cases x<;>simp_all [Em,Value.oneCell']
theorem RC.one {w:World} {Pr:Nat->Nat->Prop} {c:C} {u:Value} (h:RC w Pr c u):u.oneCell'=true:=by
 cases h with
 |v h=>exact Zg4 h
 |_=>rfl
theorem cells_one {u:Value} (h:u.oneCell'=true):u.cells= #[u]:=by cases u<;>simp_all [Value.cells,Value.oneCell']
def Zo (w:World) (Pr:Nat->Nat->Prop) (w':World) (Pr':Nat->Nat->Prop):Prop:=
 ∀b k,Pr b k->Pr' b k/\w'.cell? ⟨b,k,none⟩=w.cell? ⟨b,k,none⟩/\So w' b=So w b
theorem Zo.refl (w:World) (Pr:Nat->Nat->Prop):Zo w Pr w Pr:=λ_ _ h=>⟨h,rfl,rfl⟩
theorem Zo.trans {w w1 w2:World} {Pr Pr1 Pr2:Nat->Nat->Prop} (h:Zo w Pr w1 Pr1) (h':Zo w1 Pr1 w2 Pr2):Zo w Pr w2 Pr2:=
 λb k hp=>⟨(h' b k (h b k hp).1).1,(h' b k (h b k hp).1).2.1.trans (h b k hp).2.1,(h' b k (h b k hp).1).2.2.trans (h b k hp).2.2⟩
theorem RC.held {w w':World} {Pr Pr':Nat->Nat->Prop} (hx:Zo w Pr w' Pr') {c:C} {u:Value} (h:RC w Pr c u):RC w' Pr' c u:=by
 induction h with
 |v h=>exact .v h
 |nl=>exact .nl
 |sl0 hc=>exact .sl0 hc
 |sl hn hc h1 _ ih=>exact .sl hn hc (λj c hj=>⟨(hx _ _ (h1 j c hj).2).2.1.trans (h1 j c hj).1,(hx _ _ (h1 j c hj).2).1⟩) ih
 |cp0=>exact .cp0
 |mp hg hp hs hk _ _ ih1 ih2=>exact .mp ((hx _ _ hp).2.2.trans hg) (hx _ _ hp).1 hs hk ih1 ih2
 |cp h1 _ ih=>exact .cp (λj c hj=>⟨(hx _ _ (h1 j c hj).2).2.1.trans (h1 j c hj).1,(hx _ _ (h1 j c hj).2).1⟩) ih
 |yl=>exact .yl
 |bx h1 _ ih=>exact .bx ⟨(hx _ _ h1.2).2.1.trans h1.1,(hx _ _ h1.2).1⟩ ih
 |fn hs _ ih=>exact .fn hs ih
theorem RCs.held {w w':World} {Pr Pr':Nat->Nat->Prop} (hx:Zo w Pr w' Pr') {cs:List C} {us:List Value} (h:RCs w Pr cs us):RCs w' Pr' cs us:=
 ⟨h.1,λj c u hc hu=>(h.2 j c u hc hu).held hx⟩
section lists
variable {w:World} {Pr:Nat->Nat->Prop}
theorem RCs.nil:RCs w Pr [] []:=⟨rfl,by simp⟩
theorem RCs.cons {c:C} {u:Value} {cs:List C} {us:List Value} (h:RC w Pr c u) (hs:RCs w Pr cs us):RCs w Pr (c::cs) (u::us):=
 ⟨by simp[hs.1],λj c' u' hc hu=>by
  cases j with
  |zero=>simp at hc hu;subst hc hu;exact h
  |succ j=>simp at hc hu;exact hs.2 j _ _ hc hu⟩
theorem RCs.uncons {c:C} {cs:List C} {us:List Value} (h:RCs w Pr (c::cs) us): ∃u us',us=u::us'/\RC w Pr c u/\RCs w Pr cs us':=by
 cases us with
 |nil=>have:=h.1;simp at this
 |cons u us=>
  exact⟨u,us,rfl,h.2 0 c u rfl rfl,by have:=h.1;simpa using this,λj c' u' hc hu=>h.2 (j+1) c' u' (by simpa using hc) (by simpa using hu)⟩
theorem RCs.one {c:C} {u:Value} (h:RC w Pr c u):RCs w Pr [c] [u]:= .cons h .nil
theorem RCs.append {a b:List C} {x y:List Value} (h:RCs w Pr a x) (h':RCs w Pr b y):RCs w Pr (a++b) (x++y):=by
 induction a generalizing x with
 |nil=>have:=h.1;cases x<;>simp_all
 |cons c cs ih=>
  obtain⟨u,us,rfl,h1,h2⟩:=h.uncons;exact .cons h1 (ih h2)
theorem RCs.take {cs:List C} {us:List Value} (h:RCs w Pr cs us) (n:Nat):RCs w Pr (cs.take n) (us.take n):=
 ⟨by simp[h.1],λj c u hc hu=>by
  rw[Znc]at hc hu;split at hc<;>simp_all;exact h.2 j c u hc hu⟩
theorem RCs.drop {cs:List C} {us:List Value} (h:RCs w Pr cs us) (n:Nat):RCs w Pr (cs.drop n) (us.drop n):=
 ⟨by simp[h.1],λj c u hc hu=>by
  rw[Znd]at hc hu;exact h.2 _ c u hc hu⟩
theorem RCs.ones {cs:List C} {us:List Value} (h:RCs w Pr cs us): ∀u∈us,u.oneCell'=true:=by
 intro u hu;obtain⟨j,hj,rfl⟩:=Znp.1 hu;have hj':j<cs.length:=by rw[<-h.1];exact hj
 exact(h.2 j cs[j] us[j] (Zm0 hj') (Zm0 hj)).one
theorem RCs.putAt {cs xs:List C} {us ys:List Value} (h:RCs w Pr cs us) (h':RCs w Pr xs ys) (off:Nat):
  RCs w Pr (PM.putAt cs off xs) (us.take off++ys++us.drop (off+ys.length)):=by
 unfold PM.putAt;rw[h'.1];exact((h.take off).append h').append (h.drop _)
end lists
structure Env where
 w:World
 rho:Nat->Option Nat
 bs:Nat->Nat
 Pr:Nat->Nat->Prop
 Y:Nat->Prop
 D:List Nat
 rb:Nat->Nat->Option Nat:=λ_ _=>none
 rc:Nat->Nat->Nat:=λ_ _=>0
variable (P:Program)
def ghv (g n:Nat):Value:= .tuple #[.int .i64 g, .int .i64 n]
def H9:Obj->Bool
 | .ob _ _ _=>true
 |_=>false
def Zg5 (o:Obj) (g:Nat):Prop:=H9 o=false/\ ∀g0 pe,gen o=some (g0,pe)->g<g0\/(g=g0/\pe=true)
def Zg6 (o:Obj) (g:Nat):Prop:=H9 o=false/\ ∀g0 pe,gen o=some (g0,pe)->g<g0
def Mr (E:Env) (s j n:Nat) (u:Value):Prop:=(E.rb s j=none/\n=0/\u= .slice none 0 0)\/ ∃g,E.rb s j=some g/\u= .slice (some ⟨g,0,none⟩) n (E.rc s j)
inductive RV (E:Env) (l:Loc):V->Value->Prop
 |c {c:C} {u:Value} (h:RC E.w E.Pr c u):RV E l (.c c) u
 |agg {cs:List C} {us:List Value} (h:RCs E.w E.Pr cs us):RV E l (.agg cs) (.agg us.toArray)
 |tup {vs:List V} {us:List Value} (hs:us.length=vs.length) (h: ∀(j:Nat) (x:V) (u:Value),vs[j]? =some x->us[j]? =some u->RV E l x u):RV E l (.tup vs) (.tuple us.toArray)
 |ptrDead {s off:Nat} {u:Value} (h:l s= .dead):RV E l (.ptr s off) u
 |ptr {s off g:Nat} (h:E.rho s=some g):RV E l (.ptr s off) (.pointer (some ⟨g,off,none⟩))
 |ownDead {s off n:Nat} {u:Value} (h:l s= .dead):RV E l (.own s off n) u
 |ownNil {s:Nat} {t:TypeId} {fz:Nat} (h:E.rho s=none) (hl:l s= .sb t fz []):RV E l (.own s 0 0) (.slice none 0 0)
 |own {s off n g cap:Nat} {t:TypeId} {fz:Nat} {cs:List C} (h:E.rho s=some g) (hl:Z4 (l s)=some (t,fz,cs)) (hn:n<=cap) (hc:cap<=maxLen)
   (hs:off+cap*Zg P t=E.bs s):RV E l (.own s off n) (.slice (some ⟨g,off,none⟩) n cap)
 |own0 {s off g o':Nat} {t:TypeId} {fz:Nat} {cs:List C} (h:E.rho s=some g) (hl:Z4 (l s)=some (t,fz,cs)) (ho:off≠0):RV E l (.own s off 0) (.slice (some ⟨g,o',none⟩) 0 0)
 |ownMx {s off n:Nat} {u:Value} (h:En (l s)=true):RV E l (.own s off n) u
 |mpDead {s:Nat} {u:Value} (h:l s= .dead):RV E l (.mp s) u
 |mp {s g:Nat} (h:E.rho s=some g):RV E l (.mp s) (.map (some g))
 |wsDead {s n:Nat} {u:Value} (h:l s= .dead):RV E l (.ws s n) u
 |ws {s n g:Nat} (h:E.rho s=some g) (hn:n<=maxLen):RV E l (.ws s n) (.slice (some ⟨g,0,none⟩) n n)
 |fs {n:Nat} {cs:List C} {u:Value} (h:RC E.w E.Pr (.sl n cs) u) (hc: ∃a,u= .slice a n n):RV E l (.fs n cs) u
 |nq {n:Nat} {neg b:Bool} (h:n≠0->b=neg):RV E l (.nq n neg) (.bool b)
 |ghDead {s:Nat} {u:Value} (h:l s= .dead):RV E l (.gh s) u
 |gh {s g n:Nat} (h:E.rho s=some g) (hb:E.bs s=n):RV E l (.gh s) (ghv g n)
 |ent {s n j:Nat} {u:Value} (h:RV E l (.own s 0 n) u):RV E l (.ent s n j) (.tuple #[u, .int .i64 j])
 |est {j:Nat} {u:Value}:RV E l (.est j) (.tuple #[u, .int .i64 j])
 |mag {xs:List V} {us:List Value} (hs:us.length=xs.length) (h1: ∀u∈us,u.oneCell'=true) (h: ∀(j:Nat) (x:V) (u:Value),xs[j]? =some x->us[j]? =some u->RV E l x u):RV E l (.mag xs) (.agg us.toArray)
 |rwOff {s g j n:Nat} {u:Value} (h:Zg5 (l s) g):RV E l (.rw s g j n) u
 |rw{s g j n:Nat} {u:Value} (h:gen (l s)=some (g,false)) (hv:Mr E s j n u):RV E l (.rw s g j n) u
 |rpOff {s g j n:Nat} {u:Value} (h:Zg6 (l s) g):RV E l (.rp s g j n) u
 |rp {s g j n:Nat} {u:Value} (h:gen (l s)=some (g,true)) (hv:Mr E s j n u):RV E l (.rp s g j n) u
 |cloDead {f:FuncId} {s:Nat} {u:Value} (h:l s= .dead):RV E l (.clo f s) u
 |clo {f:FuncId} {s g:Nat} (h:E.rho s=some g):RV E l (.clo f s) (.func (.func f) #[] #[.pointer (some ⟨g,0,none⟩)])
 |un:RV E l .un undef
 |und {u:Value}:RV E l .und u
def Blk (E:Env) (s g:Nat) (t:TypeId) (cs:List C):Prop:=
 ∃cur:Array Value,E.w.heap[g]? =some (.cells cur t (0,0))/\cur.size=E.bs s/\cs.length<=cur.size/\RCs E.w E.Pr cs (cur.toList.take cs.length)
def Yy (w:World) (Pr:Nat->Nat->Prop) (t:TypeId) (cs:List C) (u:Value):Prop:=
 (Yi P t=true/\cs.length=Zg P t/\ ∃us:List Value,u= .agg us.toArray/\RCs w Pr cs us)\/(Yi P t=false/\ ∃c,cs=[c]/\RC w Pr c u)
def Obj.refs:Obj->List V
 | .mx _ xs=>xs
 | .mf _ _ _ _ _ _ x=>[x]
 | .ir _ x=>[x]
 |_=>[]
def Hf (E:Env) (s j:Nat) (te:TypeId) (row:List C) (u:Value):Prop:=
 (E.rb s j=none/\row=[]/\u= .slice none 0 0)\/
 ∃(g cap:Nat) (cur:Array Value),E.rb s j=some g/\E.w.heap[g]? =some (.cells cur te (0,0))/\row.length<=cur.size/\RCs E.w E.Pr row (cur.toList.take row.length)/\
  u= .slice (some ⟨g,0,none⟩) (row.length/Zg P te) cap/\row.length/Zg P te*Zg P te=row.length/\row.length/Zg P te<=cap/\cap<=maxLen/\cap*Zg P te=cur.size
def Vo (E:Env) (s j:Nat) (te:TypeId) (row:List C) (u:Value):Prop:=
 Hf P E s j te row u/\ ∀a m cap,u= .slice (some a) m cap->cap=E.rc s j
def Bb (E:Env) (s j:Nat) (p:PC) (u:Value):Prop:=
 match p with
 | .c c=>RC E.w E.Pr c u
 | .r te row=>Zg P te≠0/\Vo P E s j te row u
inductive ObjOk (E:Env) (l:Loc) (s:Nat):Obj->Prop
 |dead (h:E.rho s=none):ObjOk E l s .dead
 |ob {t:TypeId} {fz:Nat} {cs:List C} {g:Nat} (h:E.rho s=some g) (hb:Blk E s g t cs) (hf:fz<=cs.length):ObjOk E l s (.ob t fz cs)
 |sbNil {t:TypeId} (h:E.rho s=none):ObjOk E l s (.sb t 0 [])
 |sb {t:TypeId} {fz:Nat} {cs:List C} {g:Nat} (h:E.rho s=some g) (hb:Blk E s g t cs) (hf:fz<=cs.length):ObjOk E l s (.sb t fz cs)
 |mx {t:TypeId} {xs:List V} {g:Nat} {cur:Array Value} (h:E.rho s=some g) (hg:E.w.heap[g]? =some (.cells cur t (0,0))) (hl:xs.length<=cur.size) (hx: ∀(j:Nat) (x:V) (u:Value),xs[j]? =some x->cur[j]? =some u->RV P E l x u/\u.oneCell'=true) (hb:E.bs s=cur.size):
   ObjOk E l s (.mx t xs)
 |mp {kt et:TypeId} {es:List (List C×List C)} {g:Nat} {ms:Array MapEntry} (h:E.rho s=some g) (hg:E.w.heap[g]? =some (.map ms es.length)) (hl:ms.size=es.length)
   (hx: ∀(j:Nat) (k v:List C) (m:MapEntry),es[j]? =some (k,v)->ms[j]? =some m->m.born=j/\Yy P E.w E.Pr kt k m.key/\Yy P E.w E.Pr et v m.val):ObjOk E l s (.mp kt et es)
 |cl {n g:Nat} (h:E.rho s=some g) (hg:(∃cur t,E.w.heap[g]? =some (.cells cur t (0,0)))\/ ∃ms k,E.w.heap[g]? =some (.map ms k)):ObjOk E l s (.cl n)
 |mr {kt et te:TypeId} {es:List (List C×List C)} {g:Nat} {ms:Array MapEntry} (h:E.rho s=some g) (hg:E.w.heap[g]? =some (.map ms es.length)) (hl:ms.size=es.length)
   (hu:P.underlying et=some (.slice te)) (hz:Zg P te≠0) (hx: ∀(j:Nat) (k row:List C) (m:MapEntry),es[j]? =some (k,row)->ms[j]? =some m->m.born=j/\Yy P E.w E.Pr kt k m.key/\Hf P E s j te row m.val):ObjOk E l s (.mr kt et te es)
 |mf {kt et te:TypeId} {es:List (List C×List C)} {q:Option (Nat×List C)} {kc:List C} {x:V} {g:Nat} {ms:Array MapEntry} (h:E.rho s=some g) (hg:E.w.heap[g]? =some (.map ms (mput es q kc []).length)) (hl:ms.size=(mput es q kc []).length)
   (hu:P.underlying et=some (.slice te)) (hz:Zg P te≠0) (hj:Di q es<(mput es q kc []).length) (hn:E.rb s (Di q es)=none) (hx: ∀(j:Nat) (k row:List C) (m:MapEntry),(mput es q kc [])[j]? =some (k,row)->ms[j]? =some m->m.born=j/\Yy P E.w E.Pr kt k m.key/\(j≠Di q es->Hf P E s j te row m.val)/\(j=Di q es->RV P E l x m.val/\m.val.oneCell'=true)):
   ObjOk E l s (.mf kt et te es q kc x)
 |it {kt et:TypeId} {ka va:Option Nat} {es:List (List C×List C)} {g bm:Nat} (h:E.rho s=some g) (hg:E.w.heap[g]? =some (.mapIter (some bm) es.length #[] es.length)) (hm:RC E.w E.Pr (.mp kt et ka va es) (.map (some bm))):ObjOk E l s (.it kt et ka va es)
 |ir {n:Nat} {x:V} {g bm:Nat} (h:E.rho s=some g) (hg:E.w.heap[g]? =some (.mapIter (some bm) n #[] n)) (hx:RV P E l x (.map (some bm))):ObjOk E l s (.ir n x)
 |pk {st:Nat} {t:TypeId} {q:Rws} {pe:Option (Nat×TypeId×List C)} {g:Nat} {cur:Array Value} (h:E.rho s=some g) (hg:E.w.heap[g]? =some (.cells cur t (0,0))) (hl:q.len<=cur.size) (hb:E.bs s=cur.size)
   (hx: ∀(j:Nat) (p:PC) (u:Value),q.at j=some p->cur[j]? =some u->u.oneCell'=true/\((∀e,pe=some e->e.1≠j)->Bb P E s j p u))
   (hp: ∀(j:Nat) (te:TypeId) (row:List C),pe=some (j,te,row)->Zg P te≠0/\(∃row0,q.at j=some (.r te row0))/\ ∃v,Vo P E s j te row v):ObjOk E l s (.pk st t q pe)
theorem Hf.one {E:Env} {s j:Nat} {te:TypeId} {row:List C} {u:Value} (h:Hf P E s j te row u):u.oneCell'=true:=by
 rcases h with⟨_,_,rfl⟩|⟨_,_,_,_,_,_,_,rfl,_⟩<;>rfl
def Obj.fz:Obj->Nat
 | .ob _ fz _=>fz
 | .sb _ fz _=>fz
 | .cl n=>n
 |_=>0
inductive RI (w:World) (Pr:Nat->Nat->Prop):V->Value->Prop
 |c {c:C} {u:Value} (h:RC w Pr c u):RI w Pr (.c c) u
 |agg {cs:List C} {us:List Value} (h:RCs w Pr cs us):RI w Pr (.agg cs) (.agg us.toArray)
structure JT where
 J:(Nat->Prop)->(Nat->Nat->Prop)->Option Log->World->Prop
 stab: ∀{Y:Nat->Prop} {Pr Pr':Nat->Nat->Prop} {lg:Option Log} {w w':World},J Y Pr lg w->(∀b,Y b->w'.heap[b]? =w.heap[b]?)->Zo w Pr w' Pr' ->(∀b k,Pr' b k->Pr b k\/ ¬Y b)->
  w.heap.size<=w'.heap.size->w'.os=w.os->w'.tape=w.tape->w'.output=w.output->w.drawn<=w'.drawn->J Y Pr' lg w'
 weak: ∀{Y:Nat->Prop} {Pr:Nat->Nat->Prop} {lg:Option Log} {w:World},J Y Pr lg w->J Y Pr none w
def Zlg (j:JT) (Y:Nat->Prop) (Pr:Nat->Nat->Prop) (lg:Log) (rest:List (List V)) (w:World) (e:Ending) (w':World):Prop:=
 e= .returned (.bool (lg.go lg.i))/\ ∃Y':Nat->Prop,(∀b,Y b->Y' b)/\(∀b,Y' b->Y b\/w.heap.size<=b)/\(∀b,Y' b->b<w'.heap.size)/\Zo w Pr w' Pr/\
  j.J Y' Pr (some ⟨lg.l,lg.go,Zq4 lg.i,rest, !(lg.go lg.i)⟩) w'/\(∀b,b<w.heap.size-> ¬Y b->w'.heap[b]? =w.heap[b]?)/\w.heap.size<=w'.heap.size/\w'.os=w.os/\w'.tape=w.tape/\w'.output=w.output/\w.drawn<=w'.drawn
def YOk (P:Program) (j:JT):Prop:=
 ∀(Y:Nat->Prop) (Pr:Nat->Nat->Prop) (lg:Log) (w:World) (it:List V) (rest:List (List V)) (us:List Value),j.J Y Pr (some lg) w->lg.st=false->lg.rest=it::rest->us.length=it.length->
  (∀(i:Nat) (x:V) (u:Value),it[i]? =some x->us[i]? =some u->RI w Pr x u)->(∀b k,Pr b k->b<w.heap.size)->(∀b,Y b->b<w.heap.size)->
  YieldAt Fence.wide 0 P lg.l us.toArray w (Zlg j Y Pr lg rest w)
structure Fr where
 pt:Nat->TypeId
 w0:World
 Pr0:Nat->Nat->Prop
 M:Nat->Prop
 tm:Nat->Option Value
 n:Nat
 outs:Nat->Option (Nat×Nat)
 jt:JT
 dfix:Bool
def Ms (r:Nat):Deferred:={target:= .collected r,args:= #[]}
structure RbOk (A:Fr) (E:Env) (s j g:Nat):Prop where
 cells: ∃cur t,E.w.heap[g]? =some (.cells cur t (0,0))
 rho: ∀s',E.rho s'≠some g
 one: ∀s' j',E.rb s' j'=some g->s'=s/\j'=j
 pr: ∀k,¬E.Pr g k
 y: ¬E.Y g
 base:A.w0.heap.size<=g\/A.M g
theorem RbOk.lt {A:Fr} {E:Env} {s j g:Nat} (h:RbOk A E s j g):g<E.w.heap.size:=by
 obtain⟨_,_,h⟩:=h.cells;exact(Zmy.1 h).1
theorem Uy {A:Fr} {E E':Env} (h: ∀s j g,E.rb s j=some g->RbOk A E s j g) (hrb: ∀s j g,E'.rb s j=some g->E.rb s j=some g) (hrho: ∀s g,E'.rho s=some g->E.rho s=some g\/E.w.heap.size<=g) (hPr: ∀b k,E'.Pr b k->E.Pr b k\/(∃s,E.rho s=some b)\/E.w.heap.size<=b)
  (hY: ∀b,E'.Y b->E.Y b\/E.w.heap.size<=b) (hh: ∀b,b<E.w.heap.size->(∀s,E.rho s≠some b)-> ¬E.Y b->E'.w.heap[b]? =E.w.heap[b]?): ∀s j g,E'.rb s j=some g->RbOk A E' s j g:=by
 intro s j g hg;have h0:=h s j g (hrb s j g hg);have hlt:=h0.lt;refine⟨?_,λs' e=> ?_,λs' j' e=>h0.one s' j' (hrb _ _ _ e),λk e=> ?_,λe=> ?_,h0.base⟩
 ·obtain⟨cur,t,e⟩:=h0.cells;exact⟨cur,t,(hh g hlt h0.rho h0.y).trans e⟩
 ·rcases hrho s' g e with e|e
  ·exact h0.rho s' e
  ·omega
 ·rcases hPr g k e with e|⟨s',e⟩|e
  ·exact h0.pr k e
  ·exact h0.rho s' e
  ·omega
 ·rcases hY g e with e|e
  ·exact h0.y e
  ·omega
theorem RbOk.to {A A':Fr} {E:Env} {s j g:Nat} (h:RbOk A E s j g) (hb:(A.w0.heap.size<=g\/A.M g)->(A'.w0.heap.size<=g\/A'.M g)):RbOk A' E s j g:=⟨h.cells,h.rho,h.one,h.pr,h.y,hb h.base⟩
theorem Qi {A A':Fr} {E E':Env} (h: ∀s j g,E.rb s j=some g->RbOk A E s j g) (h1:E'.rb=E.rb:=by rfl) (h2:E'.rho=E.rho:=by rfl) (h3:E'.Pr=E.Pr:=by rfl) (h4:E'.Y=E.Y:=by rfl)
  (h5:E'.w.heap=E.w.heap:=by rfl) (h6:A'.w0=A.w0:=by rfl) (h7:A'.M=A.M:=by rfl): ∀s j g,E'.rb s j=some g->RbOk A' E' s j g:=by
 intro s j g hg;rw[h1]at hg;obtain⟨a1,a2,a3,a4,a5,a6⟩:=h s j g hg;exact⟨by rw[h5];exact a1,by rw[h2];exact a2,by rw[h1];exact a3,by rw[h3];exact a4,by rw[h4];exact a5,by rw[h6,h7];exact a6⟩
structure Good (A:Fr) (E:Env) (l:Loc) (pend:Nat->Prop):Prop where
 obj: ∀s,¬pend s->ObjOk P E l s (l s)
 pnd: ∀s,pend s->E.rho s=none/\ ∃cs,Uw P (A.pt s)=some cs/\l s= .ob (A.pt s) 0 cs
 inj: ∀s s' g,E.rho s=some g->E.rho s'=some g->s=s'
 base: ∀s g,E.rho s=some g->A.w0.heap.size<=g\/A.M g
 prot: ∀b k,E.Pr b k->b<E.w.heap.size/\ ∀s,E.rho s=some b->k<(l s).fz
 jf:A.jt.J E.Y E.Pr l.log E.w
 pr0:Zo A.w0 A.Pr0 E.w E.Pr
 prN: ∀b k,E.Pr b k->A.Pr0 b k\/A.w0.heap.size<=b\/A.M b
 size:A.w0.heap.size<=E.w.heap.size
 os:E.w.os=A.w0.os
 tape:E.w.tape=A.w0.tape
 output:E.w.output=A.w0.output
 dr:A.w0.drawn<=E.w.drawn
 yok:YOk P A.jt
 yown: ∀s g,E.rho s=some g-> ¬E.Y g
 ylt: ∀b,E.Y b->b<E.w.heap.size
 dm: ∀r,r∈E.D->E.w.heap[r]? =some (.deferred (some []))/\ ¬E.Y r
 rbo: ∀s j g,E.rb s j=some g->RbOk A E s j g
variable {P} in
theorem Good.dmno {A:Fr} {E:Env} {l:Loc} {pend:Nat->Prop} (h:Good P A E l pend) {r:Nat} (hr:r∈E.D) (s:Nat):E.rho s≠some r:=by
 intro e;have h1:=(h.dm r hr).1;by_cases hp:pend s
 ·rw[(h.pnd s hp).1]at e;cases e
 ·have h0:=h.obj s hp;generalize l s=o at h0;cases h0 with
  |dead h=>rw[h]at e;cases e
  |ob h hb _=>rw[h]at e;cases e;obtain⟨cur,h2,_⟩:=hb;rw[h1]at h2;cases h2
  |sbNil h=>rw[h]at e;cases e
  |sb h hb _=>rw[h]at e;cases e;obtain⟨cur,h2,_⟩:=hb;rw[h1]at h2;cases h2
  |mx h hg _ _ _=>rw[h]at e;cases e;rw[h1]at hg;cases hg
  |mp h hg _ _=>rw[h]at e;cases e;rw[h1]at hg;cases hg
  |cl h hg=>rw[h]at e;cases e;rcases hg with⟨c,t,h2⟩|⟨c,t,h2⟩<;>(rw[h1]at h2;cases h2)
  |mr h hg _ _ _ _=>rw[h]at e;cases e;rw[h1]at hg;cases hg
  |mf h hg _ _ _ _ _ _=>rw[h]at e;cases e;rw[h1]at hg;cases hg
  |it h hg _=>rw[h]at e;cases e;rw[h1]at hg;cases hg
  |ir h hg _=>rw[h]at e;cases e;rw[h1]at hg;cases hg
  |pk h hg _ _ _ _=>rw[h]at e;cases e;rw[h1]at hg;cases hg
variable {P} in
theorem Good.jstep {A:Fr} {E E':Env} {l l':Loc} {pend:Nat->Prop} (h:Good P A E l pend) (hY:E'.Y=E.Y) (hlog:l'.log=l.log) (hx:Zo E.w E.Pr E'.w E'.Pr) (hpr: ∀b k,E'.Pr b k->E.Pr b k\/ ¬E.Y b)
  (hb: ∀b,E.Y b->E'.w.heap[b]? =E.w.heap[b]?) (hs:E.w.heap.size<=E'.w.heap.size) (ho:E'.w.os=E.w.os) (ht:E'.w.tape=E.w.tape) (hu:E'.w.output=E.w.output) (hd:E.w.drawn<=E'.w.drawn:=by exact Zm8 _):A.jt.J E'.Y E'.Pr l'.log E'.w:=by
 rw[hY,hlog];exact A.jt.stab h.jf hb hx hpr hs ho ht hu hd
structure Rel (A:Fr) (E:Env) (σ:St) (pend:Nat->Prop) (a:Act):Prop where
 good:Good P A E σ.loc pend
 slots: ∀t,t<σ.slots.length->RV P E σ.loc (σ.get t) (a.tmps.getD t undef)
 size:a.tmps.size=σ.slots.length
 defers:a.defers=E.D.map Ms/\(A.dfix=true->E.D=[])/\E.D.Nodup
 tm: ∀t u,A.tm t=some u->a.tmps.getD t undef=u
 len:σ.slots.length=A.n
 outs: ∀k g n,A.outs k=some (g,n)->RV P E σ.loc (.gh (OUT+k)) (ghv g n)
theorem Loc.eq {l l':Loc} (h: ∀s,l s=l' s) (hl:l.log=l'.log):l=l':=by
 cases l;cases l';simp only[Loc.mk.injEq];exact⟨funext h,hl⟩
theorem Sl.get_eq (l:Sl) (t:Nat):l.get t=if t<l.length then l.fn t else .und:=by
 unfold Sl.get;cases h:Zq3 t l.length
 ·rw[if_neg (λe=>by have h2:Zq3 t l.length=true:=Nat.blt_eq.mpr e;rw[h]at h2;cases h2)];rfl
 ·rw[if_pos (Nat.blt_eq.mp h)];rfl
theorem Sl.get_lt {l:Sl} {t:Nat} (h:t<l.length):l.get t=l.fn t:=by rw[Sl.get_eq,if_pos h]
theorem Sl.get_ge {l:Sl} {t:Nat} (h: ¬t<l.length):l.get t= .und:=by rw[Sl.get_eq,if_neg h]
@[simp] theorem Sl.set_length (l:Sl) (t:Nat) (x:V):(l.set t x).length=l.length:=rfl
@[simp] theorem Sl.map_length (l:Sl) (g:V->V):(l.map g).length=l.length:=rfl
theorem Sl.set_self {l:Sl} {t:Nat} {x:V} (h:t<l.length):(l.set t x).get t=x:=by
 rw[Sl.get_lt (by simpa using h)];simp[Sl.set]
theorem Sl.set_ne {l:Sl} {t t':Nat} {x:V} (h:t≠t'):(l.set t x).get t'=l.get t':=by
 have e:Zqv t' t=false:=by
  cases e:Zqv t' t
  ·rfl
  ·exact absurd (Zmp e).symm h
 rw[Sl.get_eq,Sl.get_eq];simp[Sl.set,e]
theorem Sl.map_lt {l:Sl} {t:Nat} {g:V->V} (h:t<l.length):(l.map g).get t=g (l.get t):=by
 rw[Sl.get_lt (by simpa using h),Sl.get_lt h];rfl
theorem Sl.set_cases {l:Sl} {t t':Nat} {x y:V} (hl:t'<l.length) (h:(l.set t x).get t'=y):y=x\/l.get t'=y:=by
 by_cases e:t=t'
 ·subst e;rw[Sl.set_self hl]at h;exact .inl h.symm
 ·rw[Sl.set_ne e]at h;exact .inr h
theorem Sl.set_comm (l:Sl) {d e:Nat} (x y:V) (h:d≠e):(l.set d x).set e y=(l.set e y).set d x:=by
 simp only[Sl.set]
 congr 1
 funext t
 cases h1:Zqv t e
 ·rfl
 ·cases h2:Zqv t d
  ·rfl
  ·exact absurd ((Zmp h2).symm.trans (Zmp h1)) h
end Go.PM
namespace Go.PM
open Go
variable {P:Program}
def Sh (l l':Loc) (s:Nat):Prop:=
 (∀t fz,l s= .sb t fz []-> ∃fz',l' s= .sb t fz' [])/\
 (∀t fz cs,Z4 (l s)=some (t,fz,cs)->(∃fz' cs',Z4 (l' s)=some (t,fz',cs'))\/En (l' s)=true)/\
 (En (l s)=true->En (l' s)=true)
theorem Sh.same {l l':Loc} {s:Nat} (h:l' s=l s):Sh l l' s:=
 ⟨λt fz e=>⟨fz,h.trans e⟩,λt fz cs e=> .inl ⟨fz,cs,by rw[h];exact e⟩,λe=>by rw[h];exact e⟩
theorem Uk {o:Obj} {q:TypeId×Nat×List C} (h:En o=true) (h':Z4 o=some q):False:=by cases o<;>simp_all [En,Z4]
def Rk (E E':Env) (l l':Loc) (s:Nat):Prop:=
 (gen (l' s)=none/\(H9 (l' s)=true->H9 (l s)=true))\/(gen (l' s)=gen (l s)/\H9 (l' s)=H9 (l s)/\E'.rb s=E.rb s/\E'.rc s=E.rc s)\/(∃g,gen (l s)=some (g,false)/\gen (l' s)=some (g,true))\/ ∃g g' b b',gen (l s)=some (g,b)/\gen (l' s)=some (g',b')/\g<g'
theorem Tj {o:Obj} {q:Nat×Bool} (h:gen o=some q):H9 o=false:=by cases o<;>simp_all [gen,H9]
theorem Rk.same {E E':Env} {l l':Loc} {s:Nat} (h:l' s=l s) (h1:E'.rb s=E.rb s:=by rfl) (h2:E'.rc s=E.rc s:=by rfl):Rk E E' l l' s:= .inr (.inl ⟨by rw[h],by rw[h],h1,h2⟩)
theorem Rk.no {E E':Env} {l l':Loc} {s:Nat} {o:Obj} (h:l' s=o) (h1:gen o=none) (h2:H9 o=false):Rk E E' l l' s:= .inl ⟨by rw[h];exact h1,λe=>by rw[h,h2]at e;cases e⟩
theorem Rk.ob {E E':Env} {l l':Loc} {s:Nat} (h:gen (l' s)=none) (h2:H9 (l s)=true):Rk E E' l l' s:= .inl ⟨h,λ_=>h2⟩
theorem Rk.trans {E E1 E2:Env} {l l1 l2:Loc} {s:Nat} (h:Rk E E1 l l1 s) (h':Rk E1 E2 l1 l2 s):Rk E E2 l l2 s:=by
 rcases h' with⟨h',h0'⟩|⟨h1,h0,h2,h3⟩|⟨g,h1,h2⟩|⟨g,g',b,b',h1,h2,h3⟩
 ·refine .inl ⟨h',λe=> ?_⟩;have e1:=h0' e;rcases h with⟨_,q⟩|⟨_,q,_⟩|⟨g,q1,q2⟩|⟨g,g',b,b',q1,q2,q3⟩
  ·exact q e1
  ·exact q▸e1
  ·rw[Tj q2]at e1;cases e1
  ·rw[Tj q2]at e1;cases e1
 ·rcases h with⟨h,q⟩|⟨q1,q0,q2,q3⟩|⟨g,q1,q2⟩|⟨g,g',b,b',q1,q2,q3⟩
  ·exact .inl ⟨h1.trans h,λe=>q (h0▸e)⟩
  ·exact .inr (.inl ⟨h1.trans q1,h0.trans q0,h2.trans q2,h3.trans q3⟩)
  ·exact .inr (.inr (.inl ⟨g,q1,h1.trans q2⟩))
  ·exact .inr (.inr (.inr ⟨g,g',b,b',q1,h1.trans q2,q3⟩))
 ·rcases h with⟨h,_⟩|⟨q1,q2,q3⟩|⟨g1,q1,q2⟩|⟨g1,g2,b,b',q1,q2,q3⟩
  ·rw[h]at h1;cases h1
  ·exact .inr (.inr (.inl ⟨g,q1.symm.trans h1,h2⟩))
  ·rw[q2]at h1;injection h1 with h1;injection h1 with _ h1;cases h1
  ·rw[q2]at h1;injection h1 with h1;injection h1 with h1 _;subst h1
   exact .inr (.inr (.inr ⟨g1,g2,b,true,q1,h2,q3⟩))
 ·rcases h with⟨h,_⟩|⟨q1,q2,q3⟩|⟨g1,q1,q2⟩|⟨g1,g2,c,c',q1,q2,q3⟩
  ·rw[h]at h1;cases h1
  ·exact .inr (.inr (.inr ⟨g,g',b,b',q1.symm.trans h1,h2,h3⟩))
  ·rw[q2]at h1;injection h1 with h1;injection h1 with h1 _;subst h1
   exact .inr (.inr (.inr ⟨g1,g',false,b',q1,h2,h3⟩))
  ·rw[q2]at h1;injection h1 with h1;injection h1 with h1 _;subst h1
   exact .inr (.inr (.inr ⟨g1,g',c,b',q1,h2,Zq8 q3 h3⟩))
theorem Mr.cong {E E':Env} {s j n:Nat} {u:Value} (h1:E'.rb s=E.rb s) (h2:E'.rc s=E.rc s) (h:Mr E s j n u):Mr E' s j n u:=by
 unfold Mr;rw[h1,h2];exact h
theorem Hp {b c:Bool} (h:b=true->c=true) (hc:c=false):b=false:=by
 cases b
 ·rfl
 ·rw[h rfl]at hc;cases hc
theorem Rk.offW {E E':Env} {l l':Loc} {s g:Nat} (h:Rk E E' l l' s) (h0:Zg5 (l s) g):Zg5 (l' s) g:=by
 obtain⟨h00,h0⟩:=h0;rcases h with⟨h,hq⟩|⟨h,hq,_⟩|⟨g1,h1,h2⟩|⟨g1,g2,b,b',h1,h2,h3⟩
 ·exact⟨Hp hq h00,λg0 pe e=>by rw[h]at e;cases e⟩
 ·exact⟨hq.trans h00,λg0 pe e=>h0 g0 pe (h.symm.trans e)⟩
 ·refine⟨Tj h2,λg0 pe e=> ?_⟩;rw[h2]at e;injection e with e;injection e with e1 e2;subst e1 e2
  rcases h0 _ _ h1 with h|⟨_,h⟩
  ·exact .inl h
  ·cases h
 ·refine⟨Tj h2,λg0 pe e=> ?_⟩;rw[h2]at e;injection e with e;injection e with e1 e2;subst e1 e2
  rcases h0 _ _ h1 with h|⟨h,_⟩
  ·exact .inl (Zq8 h h3)
  ·exact .inl (h▸h3)
theorem Rk.offP {E E':Env} {l l':Loc} {s g:Nat} (h:Rk E E' l l' s) (h0:Zg6 (l s) g):Zg6 (l' s) g:=by
 obtain⟨h00,h0⟩:=h0;rcases h with⟨h,hq⟩|⟨h,hq,_⟩|⟨g1,h1,h2⟩|⟨g1,g2,b,b',h1,h2,h3⟩
 ·exact⟨Hp hq h00,λg0 pe e=>by rw[h]at e;cases e⟩
 ·exact⟨hq.trans h00,λg0 pe e=>h0 g0 pe (h.symm.trans e)⟩
 ·refine⟨Tj h2,λg0 pe e=> ?_⟩;rw[h2]at e;injection e with e;injection e with e1 e2;subst e1 e2
  exact h0 _ _ h1
 ·refine⟨Tj h2,λg0 pe e=> ?_⟩;rw[h2]at e;injection e with e;injection e with e1 e2;subst e1 e2
  exact Zq8 (h0 _ _ h1) h3
theorem Rk.rw {E E':Env} {l l':Loc} {s g j n:Nat} {u:Value} (h:Rk E E' l l' s) (h0:gen (l s)=some (g,false)) (hv:Mr E s j n u):Zg5 (l' s) g\/(gen (l' s)=some (g,false)/\Mr E' s j n u):=by
 rcases h with⟨h,hq⟩|⟨h,_,h1,h2⟩|⟨g1,h1,h2⟩|⟨g1,g2,b,b',h1,h2,h3⟩
 ·exact .inl ⟨Hp hq (Tj h0),λg0 pe e=>by rw[h]at e;cases e⟩
 ·exact .inr ⟨h.trans h0,hv.cong h1 h2⟩
 ·refine .inl ⟨Tj h2,λg0 pe e=> ?_⟩;rw[h2]at e;injection e with e;injection e with e1 e2;subst e1 e2
  rw[h0]at h1;injection h1 with h1;injection h1 with h1 _
  exact .inr ⟨h1,rfl⟩
 ·refine .inl ⟨Tj h2,λg0 pe e=> ?_⟩;rw[h2]at e;injection e with e;injection e with e1 e2;subst e1 e2
  rw[h0]at h1;injection h1 with h1;injection h1 with h1 _
  exact .inl (h1▸h3)
theorem Rk.rp {E E':Env} {l l':Loc} {s g j n:Nat} {u:Value} (h:Rk E E' l l' s) (h0:gen (l s)=some (g,true)) (hv:Mr E s j n u):Zg6 (l' s) g\/(gen (l' s)=some (g,true)/\Mr E' s j n u):=by
 rcases h with⟨h,hq⟩|⟨h,_,h1,h2⟩|⟨g1,h1,h2⟩|⟨g1,g2,b,b',h1,h2,h3⟩
 ·exact .inl ⟨Hp hq (Tj h0),λg0 pe e=>by rw[h]at e;cases e⟩
 ·exact .inr ⟨h.trans h0,hv.cong h1 h2⟩
 ·rw[h0]at h1;injection h1 with h1;injection h1 with _ h1;cases h1
 ·refine .inl ⟨Tj h2,λg0 pe e=> ?_⟩;rw[h2]at e;injection e with e;injection e with e1 e2;subst e1 e2
  rw[h0]at h1;injection h1 with h1;injection h1 with h1 _
  exact h1▸h3
def Zi (E E':Env) (l l':Loc) (s:Nat):Prop:=
 l' s= .dead\/(l s≠ .dead/\E'.rho s=E.rho s/\E'.bs s=E.bs s/\Sh l l' s/\Rk E E' l l' s)
theorem Ld {o:Obj} {g:Nat} (h:o= .dead):Zg5 o g/\Zg6 o g:=by
 subst h;exact⟨⟨rfl,λ_ _ e=>(by cases e)⟩,⟨rfl,λ_ _ e=>(by cases e)⟩⟩
def Zlu (E E':Env) (l l':Loc) (s:Nat):Prop:=
 Zi E E' l l' s\/(E.rho s=none/\ ∃t fz cs,l s= .ob t fz cs)
theorem RV.mono2 {E E':Env} {l l':Loc} (K:Nat->Prop) (hx:Zo E.w E.Pr E'.w E'.Pr) (hs: ∀s,¬K s->Zlu E E' l l' s) {x:V} {u:Value}
  (h:RV P E l x u):(∀s,K s->x.at s=false)->RV P E' l' x u:=by
 induction h with
 |c h=>exact λ_=> .c (h.held hx)
 |agg h=>exact λ_=> .agg (h.held hx)
 |tup hl _ ih=>
  intro hK;have hn: ∀s,¬K s:=λs hk=>by have:=hK s hk;simp[V.at]at this
  exact .tup hl λj x u hx hu=>ih j x u hx hu λs hk=>absurd hk (hn s)
 |mag hl h1 _ ih=>
  intro hK;have hn: ∀s,¬K s:=λs hk=>by have:=hK s hk;simp[V.at]at this
  exact .mag hl h1 λj x u hx hu=>ih j x u hx hu λs hk=>absurd hk (hn s)
 | @ptrDead s off u h=>
  intro hK;by_cases hk:K s
  ·have:=hK s hk;simp[V.at]at this
  ·rcases hs s hk with(hd|⟨hd,_⟩)|⟨_,_,_,_,hv⟩
   ·exact .ptrDead hd
   ·exact absurd h hd
   ·rw[h]at hv;cases hv
 | @ptr s off g h=>
  intro hK;by_cases hk:K s
  ·have:=hK s hk;simp[V.at]at this
  ·rcases hs s hk with(hd|⟨_,hr,_⟩)|⟨hv,_⟩
   ·exact .ptrDead hd
   ·exact .ptr (hr.trans h)
   ·rw[h]at hv;cases hv
 | @cloDead f s u h=>
  intro hK;by_cases hk:K s
  ·have:=hK s hk;simp[V.at]at this
  ·rcases hs s hk with(hd|⟨hd,_⟩)|⟨_,_,_,_,hv⟩
   ·exact .cloDead hd
   ·exact absurd h hd
   ·rw[h]at hv;cases hv
 | @clo f s g h=>
  intro hK;by_cases hk:K s
  ·have:=hK s hk;simp[V.at]at this
  ·rcases hs s hk with(hd|⟨_,hr,_⟩)|⟨hv,_⟩
   ·exact .cloDead hd
   ·exact .clo (hr.trans h)
   ·rw[h]at hv;cases hv
 | @ownDead s off n u h=>
  intro hK;by_cases hk:K s
  ·have:=hK s hk;simp[V.at]at this
  ·rcases hs s hk with(hd|⟨hd,_⟩)|⟨_,_,_,_,hv⟩
   ·exact .ownDead hd
   ·exact absurd h hd
   ·rw[h]at hv;cases hv
 | @ownNil s t fz h hl=>
  intro hK;by_cases hk:K s
  ·have:=hK s hk;simp[V.at]at this
  ·rcases hs s hk with(hd|⟨_,hr,_,hsh,_⟩)|⟨_,_,_,_,hv⟩
   ·exact .ownDead hd
   ·obtain⟨fz',e⟩:=hsh.1 t fz hl;exact .ownNil (hr.trans h) e
   ·rw[hl]at hv;cases hv
 | @own s off n g cap t fz cs h hl hn hc hb=>
  intro hK;by_cases hk:K s
  ·have:=hK s hk;simp[V.at]at this
  ·rcases hs s hk with(hd|⟨_,hr,hbs,hsh,_⟩)|⟨hv,_⟩
   ·exact .ownDead hd
   ·rcases hsh.2.1 t fz cs hl with⟨fz',cs',e⟩|e
    ·exact .own (hr.trans h) e hn hc (by rw[hbs];exact hb)
    ·exact .ownMx e
   ·rw[h]at hv;cases hv
 | @own0 s off g o' t fz cs h hl ho=>
  intro hK;by_cases hk:K s
  ·have:=hK s hk;simp[V.at]at this
  ·rcases hs s hk with(hd|⟨_,hr,hbs,hsh,_⟩)|⟨hv,_⟩
   ·exact .ownDead hd
   ·rcases hsh.2.1 t fz cs hl with⟨fz',cs',e⟩|e
    ·exact .own0 (hr.trans h) e ho
    ·exact .ownMx e
   ·rw[h]at hv;cases hv
 | @mpDead s u h=>
  intro hK;by_cases hk:K s
  ·have:=hK s hk;simp[V.at]at this
  ·rcases hs s hk with(hd|⟨hd,_⟩)|⟨_,_,_,_,hv⟩
   ·exact .mpDead hd
   ·exact absurd h hd
   ·rw[h]at hv;cases hv
 | @mp s g h=>
  intro hK;by_cases hk:K s
  ·have:=hK s hk;simp[V.at]at this
  ·rcases hs s hk with(hd|⟨_,hr,_⟩)|⟨hv,_⟩
   ·exact .mpDead hd
   ·exact .mp (hr.trans h)
   ·rw[h]at hv;cases hv
 | @wsDead s n u h=>
  intro hK;by_cases hk:K s
  ·have:=hK s hk;simp[V.at]at this
  ·rcases hs s hk with(hd|⟨hd,_⟩)|⟨_,_,_,_,hv⟩
   ·exact .wsDead hd
   ·exact absurd h hd
   ·rw[h]at hv;cases hv
 | @ws s n g h hn=>
  intro hK;by_cases hk:K s
  ·have:=hK s hk;simp[V.at]at this
  ·rcases hs s hk with(hd|⟨_,hr,_⟩)|⟨hv,_⟩
   ·exact .wsDead hd
   ·exact .ws (hr.trans h) hn
   ·rw[h]at hv;cases hv
 | @ownMx s off n u h=>
  intro hK;by_cases hk:K s
  ·have:=hK s hk;simp[V.at]at this
  ·rcases hs s hk with(hd|⟨_,_,_,hsh,_⟩)|⟨_,_,_,_,hv⟩
   ·exact .ownDead hd
   ·exact .ownMx (hsh.2.2 h)
   ·rw[hv]at h;cases h
 | @ghDead s u h=>
  intro hK;by_cases hk:K s
  ·have:=hK s hk;simp[V.at]at this
  ·rcases hs s hk with(hd|⟨hd,_⟩)|⟨_,_,_,_,hv⟩
   ·exact .ghDead hd
   ·exact absurd h hd
   ·rw[h]at hv;cases hv
 | @gh s g n h hb=>
  intro hK;by_cases hk:K s
  ·have:=hK s hk;simp[V.at]at this
  ·rcases hs s hk with(hd|⟨_,hr,hbs,_⟩)|⟨hv,_⟩
   ·exact .ghDead hd
   ·exact .gh (hr.trans h) (hbs.trans hb)
   ·rw[h]at hv;cases hv
 |ent _ ih=>exact λhK=> .ent (ih λs hk=>hK s hk)
 |est=>exact λ_=> .est
 |fs h hc=>exact λ_=> .fs (h.held hx) hc
 | @rwOff s g j n u h=>
  intro hK;by_cases hk:K s
  ·have:=hK s hk;simp[V.at]at this
  ·rcases hs s hk with(hd|⟨_,_,_,_,hq⟩)|⟨_,_,_,_,hv⟩
   ·exact .rwOff (Ld hd).1
   ·exact .rwOff (hq.offW h)
   ·have:=h.1;rw[hv]at this;cases this
 | @rw s g j n u h hv=>
  intro hK;by_cases hk:K s
  ·have:=hK s hk;simp[V.at]at this
  ·rcases hs s hk with(hd|⟨_,_,_,_,hq⟩)|⟨_,_,_,_,hv⟩
   ·exact .rwOff (Ld hd).1
   ·rcases hq.rw h hv with h|⟨h,h'⟩
    ·exact .rwOff h
    ·exact .rw h h'
   ·rw[hv]at h;cases h
 | @rpOff s g j n u h=>
  intro hK;by_cases hk:K s
  ·have:=hK s hk;simp[V.at]at this
  ·rcases hs s hk with(hd|⟨_,_,_,_,hq⟩)|⟨_,_,_,_,hv⟩
   ·exact .rpOff (Ld hd).2
   ·exact .rpOff (hq.offP h)
   ·have:=h.1;rw[hv]at this;cases this
 | @rp s g j n u h hv=>
  intro hK;by_cases hk:K s
  ·have:=hK s hk;simp[V.at]at this
  ·rcases hs s hk with(hd|⟨_,_,_,_,hq⟩)|⟨_,_,_,_,hv⟩
   ·exact .rpOff (Ld hd).2
   ·rcases hq.rp h hv with h|⟨h,h'⟩
    ·exact .rpOff h
    ·exact .rp h h'
   ·rw[hv]at h;cases h
 |nq h=>exact λ_=> .nq h
 |un=>exact λ_=> .un
 |und=>exact λ_=> .und
theorem RV.mono {E E':Env} {l l':Loc} (K:Nat->Prop) (hx:Zo E.w E.Pr E'.w E'.Pr) (hs: ∀s,¬K s->Zi E E' l l' s) {x:V} {u:Value}
  (h:RV P E l x u):(∀s,K s->x.at s=false)->RV P E' l' x u:=h.mono2 K hx λs hk=> .inl (hs s hk)
theorem RV.mono0 {E E':Env} {l l':Loc} (hx:Zo E.w E.Pr E'.w E'.Pr) (hs: ∀s,Zi E E' l l' s) {x:V} {u:Value} (h:RV P E l x u):RV P E' l' x u:=
 h.mono (λ_=>False) hx (λs _=>hs s) (λ_ h=>h.elim)
theorem RV.kill {E:Env} {l:Loc} {x:V} {u:Value} (s:Nat) (h:RV P E l x u):RV P E l (x.kill s) u:=by
 unfold V.kill;cases x.at s
 ·exact h
 ·cases h with
  |ent _=>exact .est
  |_=>exact .und
theorem S9 (s:Nat) (x:V):(x.kill s).at s=false:=by
 unfold V.kill;cases h:x.at s
 ·exact h
 ·cases x<;>rfl
theorem Yy.held {w w':World} {Pr Pr':Nat->Nat->Prop} (hx:Zo w Pr w' Pr') {t:TypeId} {cs:List C} {u:Value} (h:Yy P w Pr t cs u):Yy P w' Pr' t cs u:=by
 rcases h with⟨h1,h0,us,h2,h3⟩|⟨h1,c,h2,h3⟩
 ·exact .inl ⟨h1,h0,us,h2,h3.held hx⟩
 ·exact .inr ⟨h1,c,h2,h3.held hx⟩
theorem Blk.keep {E E':Env} {s g:Nat} {t:TypeId} {cs:List C} (hx:Zo E.w E.Pr E'.w E'.Pr) (hg:E'.w.heap[g]? =E.w.heap[g]?) (hb:E'.bs s=E.bs s) (h:Blk E s g t cs):Blk E' s g t cs:=by
 obtain⟨cur,h1,h2,h3,h4⟩:=h;exact⟨cur,hg.trans h1,h2.trans hb.symm,h3,h4.held hx⟩
def Le (E E':Env) (s j:Nat):Prop:=E'.rb s j=E.rb s j/\ ∀g,E.rb s j=some g->E'.w.heap[g]? =E.w.heap[g]?
theorem Hf.keep {E E':Env} {s j:Nat} {te:TypeId} {row:List C} {u:Value} (hx:Zo E.w E.Pr E'.w E'.Pr) (hk:Le E E' s j) (h:Hf P E s j te row u):Hf P E' s j te row u:=by
 obtain⟨k1,k3⟩:=hk;rcases h with⟨h1,h2,h3⟩|⟨g,cap,cur,h1,h2,h3,h4,h5,h6,h7,h8,h9⟩
 ·exact .inl ⟨k1.trans h1,h2,h3⟩
 ·exact .inr ⟨g,cap,cur,k1.trans h1,(k3 g h1).trans h2,h3,h4.held hx,h5,h6,h7,h8,h9⟩
theorem Vo.keep {E E':Env} {s j:Nat} {te:TypeId} {row:List C} {u:Value} (hx:Zo E.w E.Pr E'.w E'.Pr) (hk:Le E E' s j) (hc:E'.rc s j=E.rc s j) (h:Vo P E s j te row u):Vo P E' s j te row u:=
 ⟨h.1.keep hx hk,λa m cap e=>by rw[hc];exact h.2 a m cap e⟩
theorem Bb.keep {E E':Env} {s j:Nat} {p:PC} {u:Value} (hx:Zo E.w E.Pr E'.w E'.Pr) (hk:Le E E' s j) (hc:E'.rc s j=E.rc s j) (h:Bb P E s j p u):Bb P E' s j p u:=by
 cases p with
 |c c=>exact RC.held hx h
 |r te row=>exact⟨h.1,h.2.keep hx hk hc⟩
theorem ObjOk.keep {E E':Env} {l l':Loc} {s:Nat} {o:Obj} (hx:Zo E.w E.Pr E'.w E'.Pr) (hr:E'.rho s=E.rho s) (hb:E'.bs s=E.bs s)
  (hg: ∀g,E.rho s=some g->E'.w.heap[g]? =E.w.heap[g]?) (hv: ∀x u,x∈o.refs->RV P E l x u->RV P E' l' x u) (h:ObjOk P E l s o)
  (hk: ∀j,Le E E' s j:=by exact λ_=>⟨rfl,λ_ _=>rfl⟩) (hc:E'.rc s=E.rc s:=by rfl):ObjOk P E' l' s o:=by
 cases h with
 |dead h=>exact .dead (hr.trans h)
 |ob h hk hf=>exact .ob (hr.trans h) (hk.keep hx (hg _ h) hb) hf
 |sbNil h=>exact .sbNil (hr.trans h)
 |sb h hk hf=>exact .sb (hr.trans h) (hk.keep hx (hg _ h) hb) hf
 |mx h hk h0 hu h2=>exact .mx (hr.trans h) ((hg _ h).trans hk) h0 (λj x u hx hu'=>⟨hv _ _ (Zm4 hx) (hu j x u hx hu').1,(hu j x u hx hu').2⟩) (hb.trans h2)
 |mp h hk h0 hu=>exact .mp (hr.trans h) ((hg _ h).trans hk) h0 λj k v m he hm=>⟨(hu j k v m he hm).1,(hu j k v m he hm).2.1.held hx,(hu j k v m he hm).2.2.held hx⟩
 |cl h hc=>exact .cl (hr.trans h) (by rw[hg _ h];exact hc)
 |mr h h1 h2 h4 h5 h6=>exact .mr (hr.trans h) ((hg _ h).trans h1) h2 h4 h5 λj k row m he hm=>⟨(h6 j k row m he hm).1,(h6 j k row m he hm).2.1.held hx,(h6 j k row m he hm).2.2.keep hx (hk j)⟩
 |mf h h1 h2 h4 h5 hj hn h6=>exact .mf (hr.trans h) ((hg _ h).trans h1) h2 h4 h5 hj ((hk _).1.trans hn) λj k row m he hm=>⟨(h6 j k row m he hm).1,(h6 j k row m he hm).2.1.held hx,λe=>((h6 j k row m he hm).2.2.1 e).keep hx (hk j),λe=>⟨hv _ _ (by simp[Obj.refs]) ((h6 j k row m he hm).2.2.2 e).1,((h6 j k row m he hm).2.2.2 e).2⟩⟩
 |it h h1 h2=>exact .it (hr.trans h) ((hg _ h).trans h1) (h2.held hx)
 |ir h h1 h2=>exact .ir (hr.trans h) ((hg _ h).trans h1) (hv _ _ (by simp[Obj.refs]) h2)
 |pk h h1 h2 h3 h4 h5=>exact .pk (hr.trans h) ((hg _ h).trans h1) h2 (hb.trans h3) (λj p u hp hu=>⟨(h4 j p u hp hu).1,λe=>((h4 j p u hp hu).2 e).keep hx (hk j) (congrFun hc j)⟩) λj te row e=>⟨(h5 j te row e).1,(h5 j te row e).2.1,(h5 j te row e).2.2.imp λv hv=>hv.keep hx (hk j) (congrFun hc j)⟩
theorem Good.lt {A:Fr} {E:Env} {l:Loc} {pend:Nat->Prop} (h:Good P A E l pend) {s g:Nat} (hr:E.rho s=some g):g<E.w.heap.size:=by
 by_cases hp:pend s
 ·rw[(h.pnd s hp).1]at hr;cases hr
 ·have h0:=h.obj s hp;generalize l s=o at h0;cases h0 with
  |dead h=>rw[h]at hr;cases hr
  |ob h hb _=>rw[h]at hr;cases hr;obtain⟨cur,h1,_⟩:=hb;exact(Zmy.1 h1).1
  |sbNil h=>rw[h]at hr;cases hr
  |sb h hb _=>rw[h]at hr;cases hr;obtain⟨cur,h1,_⟩:=hb;exact(Zmy.1 h1).1
  |mx h hg _ _ _=>rw[h]at hr;cases hr;exact(Zmy.1 hg).1
  |mp h hg _ _=>rw[h]at hr;cases hr;exact(Zmy.1 hg).1
  |cl h hg=>rw[h]at hr;cases hr;rcases hg with⟨_,_,hg⟩|⟨_,_,hg⟩<;>exact(Zmy.1 hg).1
  |mr h hg _ _ _ _=>rw[h]at hr;cases hr;exact(Zmy.1 hg).1
  |mf h hg _ _ _ _ _ _=>rw[h]at hr;cases hr;exact(Zmy.1 hg).1
  |it h hg _=>rw[h]at hr;cases hr;exact(Zmy.1 hg).1
  |ir h hg _=>rw[h]at hr;cases hr;exact(Zmy.1 hg).1
  |pk h hg _ _ _ _=>rw[h]at hr;cases hr;exact(Zmy.1 hg).1
theorem Good.ne_dead {A:Fr} {E:Env} {l:Loc} {pend:Nat->Prop} (h:Good P A E l pend) {s g:Nat} (hr:E.rho s=some g):l s≠ .dead:=by
 intro hd;by_cases hp:pend s
 ·rw[(h.pnd s hp).1]at hr;cases hr
 ·have:=h.obj s hp;rw[hd]at this;cases this with
  |dead h=>rw[h]at hr;cases hr
def Env.kill (E:Env) (l:Loc) (s:Nat):Env:={E with rho:=λs'=>match Loc.kill s l s' with| .dead=>none|_=>E.rho s'}
theorem Tl (s:Nat) (l:Loc) (s':Nat):(Loc.kill s l s'= .dead/\(s'=s\/l s'= .dead))\/(s'≠s/\Loc.kill s l s'=l s'/\(l s').refs=[])\/(s'≠s/\ ∃t xs,l s'= .mx t xs/\Loc.kill s l s'= .mx t (xs.map (V.kill s)))\/
  (s'≠s/\ ∃kt et te es q kc x,l s'= .mf kt et te es q kc x/\Loc.kill s l s'= .mf kt et te es q kc (x.kill s))\/(s'≠s/\ ∃n x,l s'= .ir n x/\Loc.kill s l s'= .ir n (x.kill s)):=by
 simp only[Loc.kill];cases h:Zqv s' s
 ·have hne:s'≠s:=λe=>by rw[e,Zox]at h;cases h
  cases ho:l s' with
  |mx t xs=>exact .inr (.inr (.inl ⟨hne,t,xs,rfl,by simp[Obj.kill]⟩))
  |mf kt et te es q kc x=>exact .inr (.inr (.inr (.inl ⟨hne,_,_,_,_,_,_,_,rfl,by simp[Obj.kill]⟩)))
  |ir n x=>exact .inr (.inr (.inr (.inr ⟨hne,_,_,rfl,by simp[Obj.kill]⟩)))
  |dead=>exact .inl ⟨by simp[Obj.kill], .inr rfl⟩
  |_=>exact .inr (.inl ⟨hne,by simp[Obj.kill],rfl⟩)
 ·exact .inl ⟨by simp, .inl (Zmp h)⟩
theorem Zi.kill (E:Env) (l:Loc) (s s':Nat):Zi E (E.kill l s) l (Loc.kill s l) s':=by
 rcases Tl s l s' with⟨h,_⟩|⟨_,h,_⟩|⟨_,t,xs,hl,h⟩|⟨_,kt,et,te,es,q,kc,x,hl,h⟩|⟨_,n,x,hl,h⟩
 ·exact .inl h
 ·by_cases hd:l s'= .dead
  ·exact .inl (h.trans hd)
  ·refine .inr ⟨hd, ?_,rfl, .same h, .same h⟩;simp only[Env.kill,h]
 ·refine .inr ⟨λe=>(by rw[hl]at e;cases e), ?_,rfl,⟨(λ_ _ e=>by rw[hl]at e;cases e),λ_ _ _ e=>(by rw[hl]at e;cases e),λ_=>by rw[h];rfl⟩, .no h rfl rfl⟩;simp only[Env.kill,h]
 ·refine .inr ⟨λe=>(by rw[hl]at e;cases e), ?_,rfl,⟨(λ_ _ e=>by rw[hl]at e;cases e),λ_ _ _ e=>(by rw[hl]at e;cases e),λe=>by rw[hl]at e;cases e⟩, .no h rfl rfl⟩;simp only[Env.kill,h]
 ·refine .inr ⟨λe=>(by rw[hl]at e;cases e), ?_,rfl,⟨(λ_ _ e=>by rw[hl]at e;cases e),λ_ _ _ e=>(by rw[hl]at e;cases e),λe=>by rw[hl]at e;cases e⟩, .no h rfl rfl⟩;simp only[Env.kill,h]
theorem Good.kill {A:Fr} {E:Env} {l:Loc} {pend:Nat->Prop} (h:Good P A E l pend) {s:Nat} (hs: ¬pend s):Good P A (E.kill l s) (Loc.kill s l) pend:=by
 have hx:Zo E.w E.Pr (E.kill l s).w (E.kill l s).Pr:= .refl _ _;have hrho: ∀s' g,(E.kill l s).rho s'=some g->E.rho s'=some g/\(Loc.kill s l s').fz=(l s').fz:=by
  intro s' g hg;rcases Tl s l s' with⟨hk,_⟩|⟨_,hk,_⟩|⟨_,t,xs,hl,hk⟩|⟨_,kt,et,te,es,q,kc,x,hl,hk⟩|⟨_,n,x,hl,hk⟩
  ·simp[Env.kill,hk]at hg
  ·refine⟨?_,by rw[hk]⟩;simp only[Env.kill]at hg;split at hg
   ·cases hg
   ·exact hg
  ·refine⟨?_,by rw[hk,hl];rfl⟩;simp only[Env.kill,hk]at hg;exact hg
  ·refine⟨?_,by rw[hk,hl];rfl⟩;simp only[Env.kill,hk]at hg;exact hg
  ·refine⟨?_,by rw[hk,hl];rfl⟩;simp only[Env.kill,hk]at hg;exact hg
 have hkv: ∀{x u},RV P E l x u->RV P (E.kill l s) (Loc.kill s l) (x.kill s) u:=λ{x u} hu=>
  (hu.kill s).mono (λa=>a=s) hx (λa _=>Zi.kill E l s a) (λa ha=>by subst ha;exact S9 _ _)
 refine⟨λs' hp=> ?_,λs' hp=> ?_,λa b g ha hb=>h.inj a b g (hrho _ _ ha).1 (hrho _ _ hb).1,λa g ha=>h.base a g (hrho _ _ ha).1,λb k hp=>⟨(h.prot b k hp).1,λa ha=> ?_⟩,h.jf,h.pr0,h.prN,h.size,h.os,h.tape,h.output,h.dr,h.yok,λa g ha=>h.yown a g (hrho _ _ ha).1,h.ylt,h.dm,Uy h.rbo (λ_ _ _ e=>e) (λa g ha=> .inl (hrho a g ha).1) (λ_ _ e=> .inl e) (λ_ e=> .inl e) λ_ _ _ _=>rfl⟩
 ·rcases Tl s l s' with⟨hk,_⟩|⟨hne,hk,hrf⟩|⟨hne,t,xs,hl,hk⟩|⟨hne,kt,et,te,es,q,kc,x,hl,hk⟩|⟨hne,n,x,hl,hk⟩
  ·rw[hk];exact .dead (by simp[Env.kill,hk])
  ·rw[hk];by_cases hd:l s'= .dead
   ·rw[hd];exact .dead (by simp[Env.kill,hk,hd])
   ·have hr:(E.kill l s).rho s'=E.rho s':=by
     simp only[Env.kill,hk]
    exact(h.obj s' hp).keep hx hr rfl (λ_ _=>rfl) λx u e _=>by rw[hrf]at e;cases e
  ·have h0:=h.obj s' hp;rw[hl]at h0;rw[hk];cases h0 with
   |mx h1 h2 h3 h4 h5=>
    refine .mx (by simp only[Env.kill,hk];exact h1) h2 (by simpa using h3) (λj x u hx' hu=> ?_) h5;rw[Zm9]at hx';obtain⟨y,hy,rfl⟩:=Znq.1 hx';exact⟨hkv (h4 j y u hy hu).1,(h4 j y u hy hu).2⟩
  ·have h0:=h.obj s' hp;rw[hl]at h0;rw[hk];cases h0 with
   |mf h1 h2 h3 h5 h6 hj hn h7=>
    exact .mf (by simp only[Env.kill,hk];exact h1) h2 h3 h5 h6 hj hn λj k row m he hm=>⟨(h7 j k row m he hm).1,(h7 j k row m he hm).2.1,λe=>((h7 j k row m he hm).2.2.1 e).keep hx ⟨rfl,λ_ _=>rfl⟩,λe=>⟨hkv ((h7 j k row m he hm).2.2.2 e).1,((h7 j k row m he hm).2.2.2 e).2⟩⟩
  ·have h0:=h.obj s' hp;rw[hl]at h0;rw[hk];cases h0 with
   |ir h1 h2 h3=>exact .ir (by simp only[Env.kill,hk];exact h1) h2 (hkv h3)
 ·obtain⟨h1,cs,hz,ho⟩:=h.pnd s' hp;have hne:s'≠s:=λe=>hs (e▸hp);have hk:Loc.kill s l s'=l s':=by
   rcases Tl s l s' with⟨hk,e|e⟩|⟨_,hk,_⟩|⟨_,t,xs,e,_⟩|⟨_,_,_,_,_,_,_,_,e,_⟩|⟨_,_,_,e,_⟩
   ·exact absurd e hne
   ·rw[e]at ho;cases ho
   ·exact hk
   ·rw[e]at ho;cases ho
   ·rw[e]at ho;cases ho
   ·rw[e]at ho;cases ho
  exact⟨by simp only[Env.kill,hk,ho];exact h1,cs,hz,hk.trans ho⟩
 ·have:=(hrho _ _ ha);rw[this.2];exact(h.prot b k hp).2 a this.1
theorem Zf (l:Loc) (s:Nat) (o:Obj):l.put s o s=o:=by simp[Loc.put]
theorem Zc (l:Loc) {s s':Nat} (o:Obj) (h:s'≠s):l.put s o s'=l s':=by
 have hb:Zqv s' s=false:=by
  cases hb:Zqv s' s
  ·rfl
  ·exact absurd (Zmp hb) h
 simp[Loc.put,hb]
theorem Xk (w:World) (Pr:Nat->Nat->Prop) (o:Go.Obj) (h: ∀b k,Pr b k->b<w.heap.size):Zo w Pr (w.alloc o) Pr:=
 λb k hp=>⟨hp,World.cell?_alloc_lt w o ⟨b,k,none⟩ (h b k hp),Xi (Go.RowKit.Below.heap_alloc _ _ _ (h b k hp))⟩
def Env.new (E:Env) (s:Nat) (cur:Array Value) (t:TypeId):Env:=
 {E with w:=E.w.alloc (.cells cur t),rho:=λs'=>if s'=s then some E.w.heap.size else E.rho s',bs:=λs'=>if s'=s then cur.size else E.bs s'}
theorem Zi.new {A:Fr} {E:Env} {l:Loc} {pend:Nat->Prop} (h:Good P A E l pend) (s:Nat) (cur:Array Value) (t:TypeId) (o:Obj) {s':Nat} (hne:s'≠s):
  Zi E (E.new s cur t) l (l.put s o) s':=by
 by_cases hd:l s'= .dead
 ·exact .inl ((Zc l o hne).trans hd)
 ·exact .inr ⟨hd,by simp[Env.new,hne],by simp[Env.new,hne], .same (Zc l o hne), .same (Zc l o hne)⟩
theorem Good.newO {A:Fr} {E:Env} {l:Loc} {pend pend':Nat->Prop} (h:Good P A E l pend) {s:Nat} (hd:(l s= .dead/\ ∀x,pend' x↔pend x)\/(pend s/\ ∀x,pend' x↔pend x/\x≠s))
  {cur:Array Value} {t:TypeId} {o:Obj} (hob:ObjOk P (E.new s cur t) (l.put s o) s o) (href: ∀s',∀x∈(l s').refs,x.at s=false):Good P A (E.new s cur t) (l.put s o) pend':=by
 have hx:Zo E.w E.Pr (E.new s cur t).w (E.new s cur t).Pr:=Xk _ _ _ λb k hp=>(h.prot b k hp).1;have hrs:E.rho s=none:=by
  rcases hd with⟨hd,_⟩|⟨hd,_⟩
  ·by_cases hp:pend s
   ·exact(h.pnd s hp).1
   ·have:=h.obj s hp;rw[hd]at this;cases this with|dead h=>exact h
  ·exact(h.pnd s hd).1
 have hrn:(E.new s cur t).rho s=some E.w.heap.size:=by simp[Env.new]
 have hro: ∀s',s'≠s->(E.new s cur t).rho s'=E.rho s':=λs' hne=>by simp[Env.new,hne]
 refine⟨λs' hp=> ?_,λs' hp=> ?_,λa b g ha hb=> ?_,λa g ha=> ?_,λb k hp=>⟨?_,λa ha=> ?_⟩,h.jstep rfl rfl hx (λ_ _ h=> .inl h) (λb hb=>Go.RowKit.Below.heap_alloc _ _ _ (h.ylt b hb)) ?_ rfl rfl rfl,h.pr0.trans hx,h.prN, ?_,h.os,h.tape,h.output,h.dr,h.yok,λa g ha hy=> ?_,λb hb=> ?_,λr hr=>⟨(Go.RowKit.Below.heap_alloc _ _ _ (Zmy.1 (h.dm r hr).1).1).trans (h.dm r hr).1,(h.dm r hr).2⟩,Uy h.rbo (λ_ _ _ e=>e) (λa g ha=>by
  by_cases e:a=s
  ·subst e;rw[hrn]at ha;cases ha;exact .inr (Zm8 _)
  ·rw[hro a e]at ha;exact .inl ha) (λ_ _ e=> .inl e) (λ_ e=> .inl e) λb hb _ _=>Go.RowKit.Below.heap_alloc _ _ _ hb⟩
 ·by_cases hne:s'=s
  ·subst hne;rw[Zf];exact hob
  ·rw[Zc l o hne];have hp': ¬pend s':=by
    rcases hd with⟨_,hd⟩|⟨_,hd⟩
    ·exact λe=>hp ((hd s').2 e)
    ·exact λe=>hp ((hd s').2 ⟨e,hne⟩)
   exact(h.obj s' hp').keep hx (hro s' hne) (by simp[Env.new,hne]) (λg hg=>Go.RowKit.Below.heap_alloc _ _ _ (h.lt hg)) (λx u hm hu=>
    hu.mono (λa=>a=s) hx (λa ha=>Zi.new h s cur t o ha) (λa ha=>by subst ha;exact href s' x hm)) λj=>⟨rfl,λg hg=>Go.RowKit.Below.heap_alloc _ _ _ (h.rbo _ _ _ hg).lt⟩
 ·have hp':pend s'/\s'≠s:=by
   rcases hd with⟨hdd,hd⟩|⟨_,hd⟩
   ·refine⟨(hd s').1 hp,λe=> ?_⟩;obtain⟨_,cs',_,ho'⟩:=h.pnd s' ((hd s').1 hp);rw[e,hdd]at ho';cases ho'
   ·exact(hd s').1 hp
  obtain⟨h1,cs',hz,ho'⟩:=h.pnd s' hp'.1;exact⟨(hro s' hp'.2).trans h1,cs',hz,(Zc l o hp'.2).trans ho'⟩
 ·by_cases ea:a=s<;>by_cases eb:b=s
  ·rw[ea,eb]
  ·subst ea;rw[hrn]at ha;rw[hro b eb]at hb;have:=h.lt hb;cases ha;omega
  ·subst eb;rw[hrn]at hb;rw[hro a ea]at ha;have:=h.lt ha;cases hb;omega
  ·rw[hro a ea]at ha;rw[hro b eb]at hb;exact h.inj a b g ha hb
 ·by_cases ea:a=s
  ·subst ea;rw[hrn]at ha;cases ha;exact .inl h.size
  ·rw[hro a ea]at ha;exact h.base a g ha
 ·have:=(h.prot b k hp).1;simp[Env.new];omega
 ·by_cases ea:a=s
  ·subst ea;rw[hrn]at ha;have:=(h.prot b k hp).1;cases ha;omega
  ·rw[hro a ea]at ha;rw[Zc l o ea];exact(h.prot b k hp).2 a ha
 ·simp[Env.new]
 ·have:=h.size;simp[Env.new];omega
 ·by_cases ea:a=s
  ·subst ea;rw[hrn]at ha;cases ha;have:=h.ylt _ hy;omega
  ·rw[hro a ea]at ha;exact h.yown a g ha hy
 ·have:=h.ylt b hb;simp[Env.new];omega
theorem Good.new {A:Fr} {E:Env} {l:Loc} {pend pend':Nat->Prop} (h:Good P A E l pend) {s:Nat} (hd:(l s= .dead/\ ∀x,pend' x↔pend x)\/(pend s/\ ∀x,pend' x↔pend x/\x≠s))
  {cur:Array Value} {t:TypeId} {cs:List C} {fz:Nat} {o:Obj} (ho:o= .ob t fz cs\/o= .sb t fz cs) (hfz:fz<=cs.length)
  (hc:cs.length<=cur.size) (hr:RCs E.w E.Pr cs (cur.toList.take cs.length)) (href: ∀s',∀x∈(l s').refs,x.at s=false):Good P A (E.new s cur t) (l.put s o) pend':=by
 have hx:Zo E.w E.Pr (E.new s cur t).w (E.new s cur t).Pr:=Xk _ _ _ λb k hp=>(h.prot b k hp).1;have hrn:(E.new s cur t).rho s=some E.w.heap.size:=by simp[Env.new]
 have hblk:Blk (E.new s cur t) s E.w.heap.size t cs:=⟨cur,heap_alloc_new _ _,by simp[Env.new],hc,hr.held hx⟩;refine h.newO hd ?_ href;rcases ho with rfl|rfl
 ·exact .ob hrn hblk hfz
 ·exact .sb hrn hblk hfz
def Env.fix (E:Env) (cur:Array Value) (t:TypeId):Env:=
 {E with w:=E.w.alloc (.cells cur t),Pr:=λb k=>E.Pr b k\/b=E.w.heap.size}
theorem Ga {A:Fr} {E:Env} {l:Loc} {pend:Nat->Prop} (h:Good P A E l pend) (cur:Array Value) (t:TypeId):Zo E.w E.Pr (E.fix cur t).w (E.fix cur t).Pr:=
 λb k hp=>⟨.inl hp,World.cell?_alloc_lt _ _ ⟨b,k,none⟩ (h.prot b k hp).1,Xi (Go.RowKit.Below.heap_alloc _ _ _ (h.prot b k hp).1)⟩
theorem Zi.fix (E:Env) (l:Loc) (cur:Array Value) (t:TypeId) (s:Nat):Zi E (E.fix cur t) l l s:=by
 by_cases hd:l s= .dead
 ·exact .inl hd
 ·exact .inr ⟨hd,rfl,rfl, .same rfl, .same rfl⟩
theorem Good.fix {A:Fr} {E:Env} {l:Loc} {pend:Nat->Prop} (h:Good P A E l pend) (cur:Array Value) (t:TypeId):Good P A (E.fix cur t) l pend:=by
 have hx:=Ga h cur t;refine⟨λs hp=> ?_,h.pnd,h.inj,h.base,λb k hp=>⟨?_,λa ha=> ?_⟩,h.jstep rfl rfl hx (λb k hp=>by
  rcases hp with hp|rfl
  ·exact .inl hp
  ·exact .inr λhy=>Zpe _ (h.ylt _ hy)) (λb hb=>Go.RowKit.Below.heap_alloc _ _ _ (h.ylt b hb)) ?_ rfl rfl rfl,h.pr0.trans hx,λb k hp=>by
  rcases hp with hp|rfl
  ·exact h.prN b k hp
  ·exact .inr (.inl h.size), ?_,h.os,h.tape,h.output,h.dr,h.yok,h.yown,λb hb=> ?_,λr hr=>⟨(Go.RowKit.Below.heap_alloc _ _ _ (Zmy.1 (h.dm r hr).1).1).trans (h.dm r hr).1,(h.dm r hr).2⟩,Uy h.rbo (λ_ _ _ e=>e) (λ_ _ e=> .inl e) (λb k hp=>hp.elim .inl λe=> .inr (.inr (Zoy e.symm))) (λ_ e=> .inl e) λb hb _ _=>Go.RowKit.Below.heap_alloc _ _ _ hb⟩
 ·exact(h.obj s hp).keep hx rfl rfl (λg hg=>Go.RowKit.Below.heap_alloc _ _ _ (h.lt hg)) (λ_ _ _ hu=>hu.mono0 hx λa=>Zi.fix E l cur t a) λj=>⟨rfl,λg hg=>Go.RowKit.Below.heap_alloc _ _ _ (h.rbo _ _ _ hg).lt⟩
 ·rcases hp with hp|rfl
  ·have:=(h.prot b k hp).1;simp[Env.fix];omega
  ·simp[Env.fix]
 ·rcases hp with hp|rfl
  ·exact(h.prot b k hp).2 a ha
  ·have:=h.lt ha;omega
 ·simp[Env.fix]
 ·have:=h.size;simp[Env.fix];omega
 ·have:=h.ylt b hb;simp[Env.fix];omega
end Go.PM
namespace Go.PM
open Go
variable {P:Program}
theorem Zi.refl (E:Env) (l:Loc) (s:Nat):Zi E E l l s:=by
 by_cases hd:l s= .dead
 ·exact .inl hd
 ·exact .inr ⟨hd,rfl,rfl, .same rfl, .same rfl⟩
theorem Sh.trans {l l1 l2:Loc} {s:Nat} (h:Sh l l1 s) (h':Sh l1 l2 s):Sh l l2 s:=by
 refine⟨λt fz e=> ?_,λt fz cs e=> ?_,λe=> ?_⟩
 ·obtain⟨fz',e'⟩:=h.1 t fz e;exact h'.1 t fz' e'
 ·rcases h.2.1 t fz cs e with⟨fz',cs',e'⟩|e'
  ·exact h'.2.1 t fz' cs' e'
  ·exact .inr (h'.2.2 e')
 ·exact h'.2.2 (h.2.2 e)
theorem Zi.trans {E E1 E2:Env} {l l1 l2:Loc} {s:Nat} (h:Zi E E1 l l1 s) (h':Zi E1 E2 l1 l2 s):Zi E E2 l l2 s:=by
 rcases h' with h'|⟨hd,h1,h2,h3⟩
 ·exact .inl h'
 ·rcases h with h|⟨hd',h1',h2',h3'⟩
  ·exact absurd h hd
  ·exact .inr ⟨hd',h1.trans h1',h2.trans h2',h3'.1.trans h3.1,h3'.2.trans h3.2⟩
structure Mild (E E':Env) (l l':Loc):Prop where
 w:E'.w=E.w
 rho:E'.rho=E.rho
 bs:E'.bs=E.bs
 held:Zo E.w E.Pr E'.w E'.Pr
 keeps: ∀s,Zi E E' l l' s
 Y:E'.Y=E.Y
 D:E'.D=E.D
 log:l'.log=l.log
theorem Mild.refl (E:Env) (l:Loc):Mild E E l l:=⟨rfl,rfl,rfl, .refl _ _,λs=> .refl E l s,rfl,rfl,rfl⟩
theorem Mild.trans {E E1 E2:Env} {l l1 l2:Loc} (h:Mild E E1 l l1) (h':Mild E1 E2 l1 l2):Mild E E2 l l2:=
 ⟨h'.w.trans h.w,h'.rho.trans h.rho,h'.bs.trans h.bs,h.held.trans h'.held,λs=>(h.keeps s).trans (h'.keeps s),h'.Y.trans h.Y,h'.D.trans h.D,h'.log.trans h.log⟩
theorem Mild.rv {E E':Env} {l l':Loc} (h:Mild E E' l l') {x:V} {u:Value} (hx:RV P E l x u):RV P E' l' x u:=hx.mono0 h.held h.keeps
def Env.frz (E:Env) (g n:Nat):Env:={E with Pr:=λb k=>E.Pr b k\/(b=g/\k<n)}
theorem Y6 {o:Obj} {t:TypeId} {fz:Nat} {cs:List C} (h:Z4 o=some (t,fz,cs)):o= .ob t fz cs\/o= .sb t fz cs:=by
 cases o<;>simp[Z4]at h
 ·obtain⟨rfl,rfl,rfl⟩:=h;exact .inl rfl
 ·obtain⟨rfl,rfl,rfl⟩:=h;exact .inr rfl
theorem Zlv {l:Loc} {s n:Nat} {t:TypeId} {fz:Nat} {cs:List C} (h:Z4 (l s)=some (t,fz,cs)):
  ∃o,frz l s n=l.put s o/\Z4 o=some (t,Zq5 fz n,cs)/\o.fz=Zq5 fz n/\Sh l (l.put s o) s/\ ∀E E',Rk E E' l (l.put s o) s:=by
 rcases Y6 h with e|e
 ·refine⟨.ob t (Zq5 fz n) cs,by simp[frz,e],rfl,rfl,⟨(λt' fz' e'=>by rw[e]at e';cases e'),λt' fz' cs' e'=> ?_,(λe'=>by rw[e]at e';cases e')⟩,λ_ _=> .ob (by rw[Zf];rfl) (by rw[e];rfl)⟩;rw[h]at e';injection e' with e';injection e' with e1 e2;injection e2 with e2 e3;subst e1 e3
  exact .inl ⟨Zq5 fz n,cs,by rw[Zf];rfl⟩
 ·refine⟨.sb t (Zq5 fz n) cs,by simp[frz,e],rfl,rfl,⟨λt' fz' e'=> ?_,λt' fz' cs' e'=> ?_,(λe'=>by rw[e]at e';cases e')⟩,λ_ _=> .no (Zf _ _ _) rfl rfl⟩
  ·rw[e]at e';injection e' with e1 e2 e3;subst e1 e3;exact⟨_,Zf _ _ _⟩
  ·rw[h]at e';injection e' with e';injection e' with e1 e2;injection e2 with e2 e3;subst e1 e3
   exact .inl ⟨Zq5 fz n,cs,by rw[Zf];rfl⟩
theorem Gb {A:Fr} {E:Env} {l:Loc} {pend:Nat->Prop} (hG:Good P A E l pend) {s n g:Nat} {t:TypeId} {fz:Nat} {cs:List C}
  (h:Z4 (l s)=some (t,fz,cs)) (hr:E.rho s=some g) (hn:n<=cs.length):Good P A (E.frz g n) (frz l s n) pend/\Mild E (E.frz g n) l (frz l s n):=by
 obtain⟨o,he,ho,hfz,hsh,hrk0⟩:=Zlv (n:=n) h;rw[he];have hx:Zo E.w E.Pr (E.frz g n).w (E.frz g n).Pr:=λb k hp=>⟨.inl hp,rfl,rfl⟩;have hk: ∀s',Zi E (E.frz g n) l (l.put s o) s':=by
  intro s';by_cases hne:s'=s
  ·subst hne;exact .inr ⟨hG.ne_dead hr,rfl,rfl,hsh,hrk0 _ _⟩
  ·by_cases hd:l s'= .dead
   ·exact .inl ((Zc l o hne).trans hd)
   ·exact .inr ⟨hd,rfl,rfl, .same (Zc l o hne), .same (Zc l o hne)⟩
 have hps: ¬pend s:=λhp=>by rw[(hG.pnd s hp).1]at hr;cases hr
 refine⟨⟨λs' hp=> ?_,λs' hp=> ?_,hG.inj,hG.base,λb k hp=>⟨?_,λa ha=> ?_⟩,hG.jstep rfl rfl hx (λb k hp=>(by
  rcases hp with hp|⟨rfl,_⟩
  ·exact .inl hp
  ·exact .inr (hG.yown s b hr))) (λ_ _=>rfl) (Zm8 _) rfl rfl rfl,hG.pr0.trans hx,λb k hp=>(by
  rcases hp with hp|⟨rfl,_⟩
  ·exact hG.prN b k hp
  ·exact .inr (hG.base s b hr)),hG.size,hG.os,hG.tape,hG.output,hG.dr,hG.yok,hG.yown,hG.ylt,hG.dm,Uy hG.rbo (λ_ _ _ e=>e) (λ_ _ e=> .inl e) (λb k hp=>hp.elim .inl λe=> .inr (.inl ⟨s,e.1▸hr⟩)) (λ_ e=> .inl e) λ_ _ _ _=>rfl⟩,rfl,rfl,rfl,hx,hk,rfl,rfl,rfl⟩
 ·by_cases hne:s'=s
  ·subst hne;rw[Zf];have h0:=hG.obj s' hp;rcases Y6 h with e|e<;>rw[e]at h0<;>rcases Y6 ho with e'|e'<;>rw[e']
   ·cases h0 with|ob h1 h2 h3=>exact .ob h1 (h2.keep hx rfl rfl) (Zq7.2 ⟨h3,hn⟩)
   ·cases h0 with|ob h1 h2 h3=>exact .sb h1 (h2.keep hx rfl rfl) (Zq7.2 ⟨h3,hn⟩)
   ·cases h0 with
    |sbNil h1=>rw[h1]at hr;cases hr
    |sb h1 h2 h3=>exact .ob h1 (h2.keep hx rfl rfl) (Zq7.2 ⟨h3,hn⟩)
   ·cases h0 with
    |sbNil h1=>rw[h1]at hr;cases hr
    |sb h1 h2 h3=>exact .sb h1 (h2.keep hx rfl rfl) (Zq7.2 ⟨h3,hn⟩)
  ·rw[Zc l o hne];exact(hG.obj s' hp).keep hx rfl rfl (λ_ _=>rfl) λ_ _ _ hu=>hu.mono0 hx hk
 ·obtain⟨h1,cs',hz,ho'⟩:=hG.pnd s' hp;exact⟨h1,cs',hz,(Zc l o (λ(e:s'=s)=>hps (e▸hp))).trans ho'⟩
 ·rcases hp with hp|⟨rfl,_⟩
  ·exact(hG.prot b k hp).1
  ·exact hG.lt hr
 ·by_cases hne:a=s
  ·subst hne;rw[Zf,hfz];have hb:b=g:=by have h1:E.rho a=some b:=ha;rw[hr]at h1;injection h1 with h1;exact h1.symm
   rcases hp with hp|⟨_,hk'⟩
   ·have h1:=(hG.prot b k hp).2 a ha;have h2:(l a).fz=fz:=by rcases Y6 h with e|e<;>rw[e]<;>rfl
    rw[h2]at h1;exact Zne h1 (Nat.le_max_left _ _)
   ·exact Zne hk' (Nat.le_max_right _ _)
  ·rw[Zc l o hne];rcases hp with hp|⟨rfl,_⟩
   ·exact(hG.prot b k hp).2 a ha
   ·exact absurd (hG.inj a s b ha hr) hne
theorem Gc {A:Fr} {E:Env} {l:Loc} {pend:Nat->Prop} (hG:Good P A E l pend) {s n g:Nat} (hr:E.rho s=some g) (hfz:(l s).fz<=n) (hno:Z4 (l s)=none)
  (hok:(∃cur t,E.w.heap[g]? =some (.cells cur t (0,0)))\/ ∃ms k,E.w.heap[g]? =some (.map ms k)):Good P A (E.frz g n) (l.put s (.cl n)) pend/\Mild E (E.frz g n) l (l.put s (.cl n)):=by
 have hx:Zo E.w E.Pr (E.frz g n).w (E.frz g n).Pr:=λb k hp=>⟨.inl hp,rfl,rfl⟩;have hsh:Sh l (l.put s (.cl n)) s:=⟨λt fz e=>(by rw[e]at hno;cases hno),λt fz cs e=>(by rw[e]at hno;cases hno),λ_=>(by rw[Zf];rfl)⟩;have hk: ∀s',Zi E (E.frz g n) l (l.put s (.cl n)) s':=by
  intro s';by_cases hne:s'=s
  ·subst hne;exact .inr ⟨hG.ne_dead hr,rfl,rfl,hsh, .no (Zf _ _ _) rfl rfl⟩
  ·by_cases hd:l s'= .dead
   ·exact .inl ((Zc l _ hne).trans hd)
   ·exact .inr ⟨hd,rfl,rfl, .same (Zc l _ hne), .same (Zc l _ hne)⟩
 have hps: ¬pend s:=λhp=>by rw[(hG.pnd s hp).1]at hr;cases hr
 refine⟨⟨λs' hp=> ?_,λs' hp=> ?_,hG.inj,hG.base,λb k hp=>⟨?_,λa ha=> ?_⟩,hG.jstep rfl rfl hx (λb k hp=>(by
  rcases hp with hp|⟨rfl,_⟩
  ·exact .inl hp
  ·exact .inr (hG.yown s b hr))) (λ_ _=>rfl) (Zm8 _) rfl rfl rfl,hG.pr0.trans hx,λb k hp=>(by
  rcases hp with hp|⟨rfl,_⟩
  ·exact hG.prN b k hp
  ·exact .inr (hG.base s b hr)),hG.size,hG.os,hG.tape,hG.output,hG.dr,hG.yok,hG.yown,hG.ylt,hG.dm,Uy hG.rbo (λ_ _ _ e=>e) (λ_ _ e=> .inl e) (λb k hp=>hp.elim .inl λe=> .inr (.inl ⟨s,e.1▸hr⟩)) (λ_ e=> .inl e) λ_ _ _ _=>rfl⟩,rfl,rfl,rfl,hx,hk,rfl,rfl,rfl⟩
 ·by_cases hne:s'=s
  ·subst hne;rw[Zf];exact .cl hr hok
  ·rw[Zc l _ hne];exact(hG.obj s' hp).keep hx rfl rfl (λ_ _=>rfl) λ_ _ _ hu=>hu.mono0 hx hk
 ·obtain⟨h1,cs',hz,ho'⟩:=hG.pnd s' hp;exact⟨h1,cs',hz,(Zc l _ (λ(e:s'=s)=>hps (e▸hp))).trans ho'⟩
 ·rcases hp with hp|⟨rfl,_⟩
  ·exact(hG.prot b k hp).1
  ·exact hG.lt hr
 ·by_cases hne:a=s
  ·subst hne;rw[Zf];have hb:b=g:=by have h1:E.rho a=some b:=ha;rw[hr]at h1;injection h1 with h1;exact h1.symm
   rcases hp with hp|⟨_,hk'⟩
   ·exact Zne ((hG.prot b k hp).2 a ha) hfz
   ·exact hk'
  ·rw[Zc l _ hne];rcases hp with hp|⟨rfl,_⟩
   ·exact(hG.prot b k hp).2 a ha
   ·exact absurd (hG.inj a s b ha hr) hne
def Qj (b:Bool) (u:Value):List Value:=match b,u with|true, .agg us=>us.toList|_,u=>[u]
theorem Yy.cells {w:World} {Pr:Nat->Nat->Prop} {t:TypeId} {cs:List C} {u:Value} (h:Yy P w Pr t cs u):shp (Tg P t) u (Qj (Yi P t) u)/\RCs w Pr cs (Qj (Yi P t) u):=by
 unfold Tg;rcases h with⟨ha,h0,us,rfl,h3⟩|⟨ha,c,rfl,h3⟩
 ·rw[ha];exact⟨⟨by simp[Qj],by simp[Qj,h3.1,h0]⟩,by simpa[Qj]using h3⟩
 ·rw[ha];have:Qj false u=[u]:=by cases u<;>rfl
  rw[this];exact⟨rfl, .one h3⟩
theorem Yy.of_cells {w:World} {Pr:Nat->Nat->Prop} {t:TypeId} {cs:List C} {u:Value} {us:List Value} (h:shp (Tg P t) u us) (hr:RCs w Pr cs us):Yy P w Pr t cs u:=by
 unfold Tg at h;cases ha:Yi P t with
 |true=>rw[ha]at h;exact .inl ⟨ha,by rw[<-hr.1];exact h.2,us,h.1,hr⟩
 |false=>
  rw[ha]at h;have h:us=[u]:=h;subst h;obtain⟨h1,h2⟩:=hr;obtain⟨c,rfl⟩:=List.length_eq_one_iff.1 h1.symm;exact .inr ⟨ha,c,rfl,h2 0 c u rfl rfl⟩
theorem Tm {A:Fr} {E:Env} {l:Loc} {pend:Nat->Prop} (hG:Good P A E l pend) {s g:Nat} {t:TypeId} {fz:Nat} {cs:List C}
  (h:Z4 (l s)=some (t,fz,cs)) (hr:E.rho s=some g):Blk E s g t cs/\fz<=cs.length:=by
 have hps: ¬pend s:=λhp=>by rw[(hG.pnd s hp).1]at hr;cases hr
 have h0:=hG.obj s hps;rcases Y6 h with e|e<;>rw[e]at h0
 ·cases h0 with|ob h1 h2 h3=>rw[h1]at hr;cases hr;exact⟨h2,h3⟩
 ·cases h0 with
  |sbNil h1=>rw[h1]at hr;cases hr
  |sb h1 h2 h3=>rw[h1]at hr;cases hr;exact⟨h2,h3⟩
theorem Wa {A:Fr} {E:Env} {l:Loc} {pend:Nat->Prop} (hG:Good P A E l pend) {s g:Nat} {t:TypeId} {xs:List V} (h:l s= .mx t xs) (hr:E.rho s=some g):
  ∃cur:Array Value,E.w.heap[g]? =some (.cells cur t (0,0))/\xs.length<=cur.size/\(∀(j:Nat) (x:V) (u:Value),xs[j]? =some x->cur[j]? =some u->RV P E l x u/\u.oneCell'=true)/\E.bs s=cur.size:=by
 have hps: ¬pend s:=λhp=>by rw[(hG.pnd s hp).1]at hr;cases hr
 have h0:=hG.obj s hps;rw[h]at h0;cases h0 with
 |mx h1 h2 h3 h4 h5=>rw[h1]at hr;cases hr;exact⟨_,h2,h3,h4,h5⟩
theorem Zdu {A:Fr} {E:Env} {l:Loc} {pend:Nat->Prop} (hG:Good P A E l pend) {s g:Nat} {kt et:TypeId} {es:List (List C×List C)} (h:l s= .mp kt et es) (hr:E.rho s=some g):
  ∃ms:Array MapEntry,E.w.heap[g]? =some (.map ms es.length)/\ms.size=es.length/\ ∀(j:Nat) (k v:List C) (m:MapEntry),es[j]? =some (k,v)->ms[j]? =some m->m.born=j/\Yy P E.w E.Pr kt k m.key/\Yy P E.w E.Pr et v m.val:=by
 have hps: ¬pend s:=λhp=>by rw[(hG.pnd s hp).1]at hr;cases hr
 have h0:=hG.obj s hps;rw[h]at h0;cases h0 with
 |mp h1 h2 h3 h4=>rw[h1]at hr;cases hr;exact⟨_,h2,h3,h4⟩
theorem mr_of {A:Fr} {E:Env} {l:Loc} {pend:Nat->Prop} (hG:Good P A E l pend) {s g:Nat} {kt et te:TypeId} {es:List (List C×List C)} (h:l s= .mr kt et te es) (hr:E.rho s=some g):
  ∃ms:Array MapEntry,E.w.heap[g]? =some (.map ms es.length)/\ms.size=es.length/\P.underlying et=some (.slice te)/\Zg P te≠0/\ ∀(j:Nat) (k row:List C) (m:MapEntry),es[j]? =some (k,row)->ms[j]? =some m->m.born=j/\Yy P E.w E.Pr kt k m.key/\Hf P E s j te row m.val:=by
 have hps: ¬pend s:=λhp=>by rw[(hG.pnd s hp).1]at hr;cases hr
 have h0:=hG.obj s hps;rw[h]at h0;cases h0 with
 |mr h1 h2 h3 h4 h5 h6=>rw[h1]at hr;cases hr;exact⟨_,h2,h3,h4,h5,h6⟩
def At (w:World) (Pr:Nat->Nat->Prop) (g o:Nat) (cs:List C):Prop:= ∀(j:Nat) (c:C),cs[j]? =some c-> ∃u,w.cell? ⟨g,o+j,none⟩=some u/\RC w Pr c u
theorem Blk.at_ {E:Env} {s g:Nat} {t:TypeId} {cs:List C} (h:Blk E s g t cs):At E.w E.Pr g 0 cs:=by
 obtain⟨cur,h1,h2,h3,h4⟩:=h;intro j c hj;have hlt:j<cs.length:=(Zmx.1 hj).1;have hlt':j<cur.size:=by omega
 refine⟨cur[j], ?_,h4.2 j c cur[j] hj ?_⟩
 ·rw[cell_of_row E.w g (0+j) cur t (0,0) h1,Zmt];exact Znj hlt'
 ·rw[Znc,if_pos hlt];simp[hlt']
theorem RCs.at_ {w w0:World} {Pr:Nat->Nat->Prop} {g o:Nat} {cs:List C} {us:List Value} (h:RCs w0 Pr cs us) (hw:w0=w) (hu: ∀(j:Nat) (u:Value),us[j]? =some u->w.cell? ⟨g,o+j,none⟩=some u):At w Pr g o cs:=by
 subst hw;intro j c hj;have hlt:j<us.length:=by rw[h.1];exact(Zmx.1 hj).1
 exact⟨us[j],hu j _ (Zm0 hlt),h.2 j c _ hj (Zm0 hlt)⟩
theorem At.drop {w:World} {Pr:Nat->Nat->Prop} {g o:Nat} {cs:List C} (h:At w Pr g o cs) (n:Nat):At w Pr g (o+n) (cs.drop n):=by
 intro j c hj;rw[Znd]at hj;have:=h _ c hj
 rwa [<-Zq9]at this
theorem At.take {w:World} {Pr:Nat->Nat->Prop} {g o:Nat} {cs:List C} (h:At w Pr g o cs) (n:Nat):At w Pr g o (cs.take n):=by
 intro j c hj;rw[Znc]at hj;split at hj
 ·exact h j c hj
 ·cases hj
open Classical in
theorem At.fn {w:World} {Pr:Nat->Nat->Prop} {g o:Nat} {cs:List C} (h:At w Pr g o cs) (hp: ∀j,j<cs.length->Pr g (o+j)):
  ∃us:Nat->Value,(∀(j:Nat) (c:C),cs[j]? =some c->w.cell? ⟨g,o+j,none⟩=some (us j)/\Pr g (o+j))/\ ∀(j:Nat) (c:C),cs[j]? =some c->RC w Pr c (us j):=by
 refine⟨λj=>(w.cell? ⟨g,o+j,none⟩).getD undef,λj c hj=> ?_,λj c hj=> ?_⟩
 ·obtain⟨u,hu,_⟩:=h j c hj;exact⟨by simp[hu],hp j (Zmx.1 hj).1⟩
 ·obtain⟨u,hu,hr⟩:=h j c hj;simp only[hu];exact hr
theorem At.held {w w':World} {Pr Pr':Nat->Nat->Prop} (hx:Zo w Pr w' Pr') (hw:w'=w) {g o:Nat} {cs:List C} (h:At w Pr g o cs):At w' Pr' g o cs:=by
 subst hw;intro j c hj;obtain⟨u,hu,hr⟩:=h j c hj;exact⟨u,hu,hr.held hx⟩
theorem Za {R:Type} {b:Bool} {k:Option R} {r:R} (h:need b k=some r):b=true/\k=some r:=by
 cases b
 ·cases h
 ·exact⟨rfl,h⟩
def Env.frzR (E:Env) (s g:Nat) (es:List (List C×List C)):Env:=
 {E with rb:=λs' j=>if s'=s then none else E.rb s' j,Pr:=λb k=>E.Pr b k\/(b=g/\k<1)\/ ∃(j:Nat) (e:List C×List C),es[j]? =some e/\E.rb s j=some b/\k<e.2.length}
theorem Zew {A:Fr} {E:Env} {l:Loc} {pend:Nat->Prop} (hG:Good P A E l pend) {s g:Nat} {kt et te:TypeId} {es:List (List C×List C)} (hl:l s= .mr kt et te es) (hr:E.rho s=some g):
  Good P A (E.frzR s g es) (l.put s (.cl 1)) pend/\Mild E (E.frzR s g es) l (l.put s (.cl 1))/\ ∃ms:Array MapEntry,E.w.heap[g]? =some (.map ms es.length)/\ms.size=es.length/\(∀(j:Nat) (k row:List C) (m:MapEntry),es[j]? =some (k,row)->ms[j]? =some m->m.born=j/\Yy P E.w E.Pr kt k m.key/\Hf P E s j te row m.val)/\Zg P te≠0:=by
 have hps: ¬pend s:=λhp=>by rw[(hG.pnd s hp).1]at hr;cases hr
 have hob:=hG.obj s hps;rw[hl]at hob;cases hob with
 | @mr _ _ _ _ g' ms h1 h2 h3 h5 h6 h7=>
  rw[hr]at h1;injection h1 with h1
  subst h1;have hx:Zo E.w E.Pr (E.frzR s g es).w (E.frzR s g es).Pr:=λb k hp=>⟨.inl hp,rfl,rfl⟩;have hk: ∀s',Zi E (E.frzR s g es) l (l.put s (.cl 1)) s':=by
   intro s';by_cases hne:s'=s
   ·subst hne;exact .inr ⟨hG.ne_dead hr,rfl,rfl,⟨(λt fz e=>by rw[hl]at e;cases e),(λt fz cs e=>by rw[hl]at e;cases e),λe=>by rw[hl]at e;cases e⟩, .no (Zf _ _ _) rfl rfl⟩
   ·by_cases hd:l s'= .dead
    ·exact .inl ((Zc l _ hne).trans hd)
    ·exact .inr ⟨hd,rfl,rfl, .same (Zc l _ hne), .same (Zc l _ hne) (by funext j;simp[Env.frzR,hne])⟩
  have hrb: ∀s' j b,(E.frzR s g es).rb s' j=some b->s'≠s/\E.rb s' j=some b:=by
   intro s' j b h;simp only[Env.frzR]at h;split at h
   ·cases h
   ·rename_i hn;exact⟨hn,h⟩
  refine⟨⟨λs' hp=> ?_,λs' hp=> ?_,hG.inj,hG.base,λb k hp=>⟨?_,λa ha=> ?_⟩,hG.jstep rfl rfl hx (λb k hp=>(by
   rcases hp with hp|⟨rfl,_⟩|⟨j,e,_,hj,_⟩
   ·exact .inl hp
   ·exact .inr (hG.yown s b hr)
   ·exact .inr (hG.rbo s j b hj).y)) (λ_ _=>rfl) (Zm8 _) rfl rfl rfl,hG.pr0.trans hx,λb k hp=>(by
   rcases hp with hp|⟨rfl,_⟩|⟨j,e,_,hj,_⟩
   ·exact hG.prN b k hp
   ·exact .inr (hG.base s b hr)
   ·exact .inr (hG.rbo s j b hj).base),hG.size,hG.os,hG.tape,hG.output,hG.dr,hG.yok,hG.yown,hG.ylt,hG.dm,λs' j b hb=> ?_⟩,⟨rfl,rfl,rfl,hx,hk,rfl,rfl,rfl⟩,ms,h2,h3,h7,h6⟩
  ·by_cases hne:s'=s
   ·subst hne;rw[Zf];exact .cl hr (.inr ⟨_,_,h2⟩)
   ·rw[Zc l _ hne];exact(hG.obj s' hp).keep hx rfl rfl (λ_ _=>rfl) (λ_ _ _ hu=>hu.mono0 hx hk) λj=>⟨by simp[Env.frzR,hne],λ_ _=>rfl⟩
  ·obtain⟨h1,cs',hz,ho'⟩:=hG.pnd s' hp;exact⟨h1,cs',hz,(Zc l _ (λ(e:s'=s)=>hps (e▸hp))).trans ho'⟩
  ·rcases hp with hp|⟨rfl,_⟩|⟨j,e,_,hj,_⟩
   ·exact(hG.prot b k hp).1
   ·exact hG.lt hr
   ·exact(hG.rbo s j b hj).lt
  ·have ha:E.rho a=some b:=ha;rcases hp with hp|⟨rfl,hk'⟩|⟨j,e,_,hj,_⟩
   ·have:=(hG.prot b k hp).2 a ha;by_cases hne:a=s
    ·subst hne;rw[hl]at this;simp[Obj.fz]at this
    ·rw[Zc l _ hne];exact this
   ·obtain rfl:=hG.inj a s b ha hr;rw[Zf];exact hk'
   ·exact absurd ha ((hG.rbo s j b hj).rho a)
  ·obtain⟨hne,hb'⟩:=hrb _ _ _ hb;have h0:=hG.rbo s' j b hb';refine⟨h0.cells,h0.rho,λs2 j2 e=>h0.one s2 j2 (hrb _ _ _ e).2,λk hp=> ?_,h0.y,h0.base⟩;rcases hp with hp|⟨rfl,_⟩|⟨j2,e,_,hj,_⟩
   ·exact h0.pr k hp
   ·exact h0.rho s hr
   ·exact hne ((hG.rbo s j2 b hj).one s' j hb').1
theorem Hf.rc {E:Env} {s j:Nat} {te:TypeId} {row:List C} {u:Value} {w':World} {Pr':Nat->Nat->Prop} (hx:Zo E.w E.Pr w' Pr') (hw:w'=E.w) (hp: ∀b k,E.rb s j=some b->k<row.length->Pr' b k) (h:Hf P E s j te row u):RC w' Pr' (.sl (row.length/Zg P te) row) u:=by
 rcases h with⟨_,rfl,rfl⟩|⟨g,cap,cur,h1,h2,h3,h4,rfl,h6,h7,h8,h9⟩
 ·simp only[Zmr,Znk];exact .sl0 (Znv _)
 ·subst hw;have hlt: ∀i,i<row.length->i<cur.size:=λi hi=>by omega
  refine .sl (us:=λi=>cur.getD i undef) h7 h8 (λi c hi=> ?_) λi c hi=> ?_
  ·have hl:=(Zmx.1 hi).1;refine⟨?_,by rw[Zmt];exact hp g i h1 hl⟩;rw[cell_of_row _ g (0+i) cur te (0,0) h2,Zmt];simp[Zn5,hlt i hl]
  ·have hl:=(Zmx.1 hi).1;have:=h4.2 i c cur[i] hi (by rw[Znc,if_pos hl];simp[hlt i hl]);simp only[Zn5,Znj (hlt i hl),Zou];exact this.held hx
theorem Lg {A:Fr} {E:Env} {l:Loc} {pend:Nat->Prop} (hG:Good P A E l pend) {s st:Nat} {t:TypeId} {q:Rws} {pe:Option (Nat×TypeId×List C)} (h:l s= .pk st t q pe):
  ∃(g:Nat) (cur:Array Value),E.rho s=some g/\ ¬pend s/\E.w.heap[g]? =some (.cells cur t (0,0))/\q.len<=cur.size/\E.bs s=cur.size/\
   (∀(j:Nat) (p:PC) (u:Value),q.at j=some p->cur[j]? =some u->u.oneCell'=true/\((∀e,pe=some e->e.1≠j)->Bb P E s j p u))/\ ∀(j:Nat) (te:TypeId) (row:List C),pe=some (j,te,row)->Zg P te≠0/\(∃row0,q.at j=some (.r te row0))/\ ∃v,Vo P E s j te row v:=by
 have hps: ¬pend s:=λhp=>by obtain⟨_,cs,_,e⟩:=hG.pnd s hp;rw[h]at e;cases e
 have h0:=hG.obj s hps;rw[h]at h0;cases h0 with
 |pk h1 h2 h3 h4 h5 h6=>exact⟨_,_,h1,hps,h2,h3,h4,h5,h6⟩
theorem Rws.at_lt {q:Rws} {j:Nat} {p:PC} (h:q.at j=some p):j<q.len:=by
 cases q with
 |ps l=>exact(Zmx.1 h).1
 |rs te rows=>
  obtain⟨r,hr,_⟩:=Znq.1 h;exact(Zmx.1 hr).1
theorem Mr.eq {E:Env} {s j n:Nat} {te:TypeId} {row:List C} {u u0:Value} (h:Mr E s j n u) (h0:Vo P E s j te row u0) (hz:Zg P te≠0) (hn:n*Zg P te=row.length):u=u0:=by
 obtain⟨h0,h0'⟩:=h0;rcases h with⟨h1,_,rfl⟩|⟨g,h1,rfl⟩
 ·rcases h0 with⟨_,_,rfl⟩|⟨g,_,_,h2,_⟩
  ·rfl
  ·rw[h1]at h2;cases h2
 ·rcases h0 with⟨h2,_⟩|⟨g',cap,cur,h2,h3,h4,h5,rfl,_⟩
  ·rw[h1]at h2;cases h2
  ·rw[h1]at h2;injection h2 with h2;subst h2
   have:=h0' _ _ _ rfl;subst this;have:row.length/Zg P te=n:=by rw[<-hn];exact Zog _ (Zo0 hz)
   rw[this]
theorem Vo.rowV {E:Env} {s j:Nat} {te:TypeId} {row:List C} {u:Value} (h:Vo P E s j te row u):Mr E s j (row.length/Zg P te) u:=by
 obtain⟨h0,h0'⟩:=h;rcases h0 with⟨h1,rfl,rfl⟩|⟨g,cap,cur,h2,h3,h4,h5,rfl,_⟩
 ·exact .inl ⟨h1,by simp,rfl⟩
 ·have:=h0' _ _ _ rfl;subst this;exact .inr ⟨g,h2,rfl⟩
theorem Rws.look_eq {R:Type} {q:Rws} {j:Nat} {k:PC->Option R} {r:R} (h:q.look j k=some r): ∃p,q.at j=some p/\k p=some r:=by
 cases q with
 |ps l=>
  simp only[Rws.look]at h;split at h
  ·rename_i p hp;exact⟨p,hp,h⟩
  ·cases h
 |rs te rows=>
  obtain⟨hb,h⟩:=Za h;have hj:j<rows.length:=Zmu hb;refine⟨_, ?_,h⟩;simp[Rws.at,hj]
theorem Zdv {E:Env} {l:Loc} {s g j n g':Nat} {t:TypeId} {q:Rws} {u:Value} (h:RV P E l (.rw s g j n) u) (hl:l s= .pk g' t q none) (hg:Zqv g g'=true):Mr E s j n u:=by
 have e:=Zmp hg;subst e;cases h with
 |rwOff h=>
  rcases h.2 g false (by rw[hl];rfl)with h|⟨_,h⟩
  ·omega
  ·cases h
 |rw _ hv=>exact hv
def Env.frzP (E:Env) (s g m:Nat) (J:Nat->Bool) (len:Nat->Nat):Env:=
 {E with rb:=λs' j=>if s'=s/\J j=true then none else E.rb s' j,Pr:=λb k=>E.Pr b k\/(b=g/\k<m)\/ ∃j,J j=true/\E.rb s j=some b/\k<len j}
theorem Dk {A:Fr} {E:Env} {l:Loc} {pend:Nat->Prop} (hG:Good P A E l pend) {s g m:Nat} {J:Nat->Bool} {len:Nat->Nat} {ob:Obj} (hr:E.rho s=some g) (hfz:(l s).fz=0) (hof:ob.fz=m)
  (hno:Z4 (l s)=none) (hno2:En (l s)=false) (hrk: ∀E' l',l' s=ob->Rk E E' l l' s)
  (hob:Zo E.w E.Pr (E.frzP s g m J len).w (E.frzP s g m J len).Pr->ObjOk P (E.frzP s g m J len) (l.put s ob) s ob):
  Good P A (E.frzP s g m J len) (l.put s ob) pend/\Mild E (E.frzP s g m J len) l (l.put s ob):=by
 have hps: ¬pend s:=λhp=>by rw[(hG.pnd s hp).1]at hr;cases hr
 have hx:Zo E.w E.Pr (E.frzP s g m J len).w (E.frzP s g m J len).Pr:=λb k hp=>⟨.inl hp,rfl,rfl⟩;have hk: ∀s',Zi E (E.frzP s g m J len) l (l.put s ob) s':=by
  intro s';by_cases hne:s'=s
  ·subst hne;exact .inr ⟨hG.ne_dead hr,rfl,rfl,⟨(λt fz e=>by rw[e]at hno;cases hno),(λt fz cs e=>by rw[e]at hno;cases hno),λe=>by rw[e]at hno2;cases hno2⟩,hrk _ _ (Zf _ _ _)⟩
  ·by_cases hd:l s'= .dead
   ·exact .inl ((Zc l _ hne).trans hd)
   ·exact .inr ⟨hd,rfl,rfl, .same (Zc l _ hne), .same (Zc l _ hne) (by funext j;simp[Env.frzP,hne])⟩
 have hrb: ∀s' j b,(E.frzP s g m J len).rb s' j=some b-> ¬(s'=s/\J j=true)/\E.rb s' j=some b:=by
  intro s' j b h;simp only[Env.frzP]at h;split at h
  ·cases h
  ·rename_i hn;exact⟨hn,h⟩
 refine⟨⟨λs' hp=> ?_,λs' hp=> ?_,hG.inj,hG.base,λb k hp=>⟨?_,λa ha=> ?_⟩,hG.jstep rfl rfl hx (λb k hp=>(by
  rcases hp with hp|⟨rfl,_⟩|⟨j,_,hj,_⟩
  ·exact .inl hp
  ·exact .inr (hG.yown s b hr)
  ·exact .inr (hG.rbo s j b hj).y)) (λ_ _=>rfl) (Zm8 _) rfl rfl rfl,hG.pr0.trans hx,λb k hp=>(by
  rcases hp with hp|⟨rfl,_⟩|⟨j,_,hj,_⟩
  ·exact hG.prN b k hp
  ·exact .inr (hG.base s b hr)
  ·exact .inr (hG.rbo s j b hj).base),hG.size,hG.os,hG.tape,hG.output,hG.dr,hG.yok,hG.yown,hG.ylt,hG.dm,λs' j b hb=> ?_⟩,⟨rfl,rfl,rfl,hx,hk,rfl,rfl,rfl⟩⟩
 ·by_cases hne:s'=s
  ·subst hne;rw[Zf];exact hob hx
  ·rw[Zc l _ hne];exact(hG.obj s' hp).keep hx rfl rfl (λ_ _=>rfl) (λ_ _ _ hu=>hu.mono0 hx hk) λj=>⟨by simp[Env.frzP,hne],λ_ _=>rfl⟩
 ·obtain⟨h1,cs',hz,ho'⟩:=hG.pnd s' hp;exact⟨h1,cs',hz,(Zc l _ (λ(e:s'=s)=>hps (e▸hp))).trans ho'⟩
 ·rcases hp with hp|⟨rfl,_⟩|⟨j,_,hj,_⟩
  ·exact(hG.prot b k hp).1
  ·exact hG.lt hr
  ·exact(hG.rbo s j b hj).lt
 ·have ha:E.rho a=some b:=ha;rcases hp with hp|⟨rfl,hk'⟩|⟨j,_,hj,_⟩
  ·have:=(hG.prot b k hp).2 a ha;by_cases hne:a=s
   ·subst hne;rw[hfz]at this;omega
   ·rw[Zc l _ hne];exact this
  ·obtain rfl:=hG.inj a s b ha hr;rw[Zf,hof];exact hk'
  ·exact absurd ha ((hG.rbo s j b hj).rho a)
 ·obtain⟨hne,hb'⟩:=hrb _ _ _ hb;have h0:=hG.rbo s' j b hb';refine⟨h0.cells,h0.rho,λs2 j2 e=>h0.one s2 j2 (hrb _ _ _ e).2,λk hp=> ?_,h0.y,h0.base⟩;rcases hp with hp|⟨rfl,_⟩|⟨j2,hJ,hj,_⟩
  ·exact h0.pr k hp
  ·exact h0.rho s hr
  ·obtain⟨e1,e2⟩:=(hG.rbo s j2 b hj).one s' j hb';exact hne ⟨e1,by rw[e2];exact hJ⟩
theorem Vo.frzP {E:Env} {s g m j:Nat} {J:Nat->Bool} {len:Nat->Nat} {te:TypeId} {row:List C} {u:Value} (hx:Zo E.w E.Pr (E.frzP s g m J len).w (E.frzP s g m J len).Pr) (hj:J j=false) (h:Vo P E s j te row u):Vo P (E.frzP s g m J len) s j te row u:=
 h.keep hx ⟨by simp[Env.frzP,hj],λ_ _=>rfl⟩ rfl
theorem Ra {R:Type} {A:Fr} {E:Env} {l:Loc} {pend:Nat->Prop} (hG:Good P A E l pend) {strict:Bool} {x:V} {u:Value} (hx:RV P E l x u) {k:List C->Loc->Option R} {r:R}
  (h:Xd P strict x l k=some r): ∃cs l1 E1,k cs l1=some r/\Good P A E1 l1 pend/\Mild E E1 l l1/\RCs E1.w E1.Pr cs u.cells.toList/\(strict=true->l1=l):=by
 cases x with
 |c c=>
  cases hx with
  |c hc=>exact⟨[c],l,E,h,hG, .refl E l,by rw[cells_one hc.one];exact .one hc,λ_=>rfl⟩
 |agg cs=>
  cases hx with
  |agg hc=>exact⟨cs,l,E,h,hG, .refl E l,by simpa[Value.cells]using hc,λ_=>rfl⟩
 |tup vs=>cases h
 |mp s=>
  cases strict with
  |true=>cases h
  |false=>
   simp only[Xd]at h;split at h
   ·rename_i kt et es _ hl;cases hx with
    |mpDead hd=>rw[hd]at hl;cases hl
    | @mp _ g hr=>
     obtain⟨ms,hg,hlen,hms⟩:=Zdu hG hl hr;obtain⟨hG1,hM⟩:=Gc (n:=1) hG hr (by rw[hl];exact Znv _) (by rw[hl];rfl) (.inr ⟨_,_,hg⟩);refine⟨_,_,E.frz g 1,h,hG1,hM, ?_,λh=>by cases h⟩;refine .one (.mp (ms:=ms) (kus:=λj=>match ms[j]? with|some m=>Qj (Yi P kt) m.key|none=>[]) (vus:=λj=>match ms[j]? with|some m=>Qj (Yi P et) m.val|none=>[])
      ((Sp).2 hg) (.inr ⟨rfl,Nat.zero_lt_one⟩) hlen (λj q m hq hm=> ?_) (λj q i c u hq hc hu=> ?_) (λj q i c u hq hc hu=> ?_))
     ·obtain⟨a,b⟩:=q;obtain⟨h1,h2,h3⟩:=hms j a b m hq hm;simp only[hm];exact⟨h1,h2.cells.1,h3.cells.1,h2.cells.2.1,h3.cells.2.1⟩
     ·obtain⟨a,b⟩:=q;have hm: ∃m,ms[j]? =some m:=⟨ms[j]'(by rw[hlen];exact(Zmx.1 hq).1),Znj _⟩;obtain⟨m,hm⟩:=hm;simp only[hm]at hu;exact((hms j a b m hq hm).2.1.cells.2.2 i c u hc hu).held hM.held
     ·obtain⟨a,b⟩:=q;have hm: ∃m,ms[j]? =some m:=⟨ms[j]'(by rw[hlen];exact(Zmx.1 hq).1),Znj _⟩;obtain⟨m,hm⟩:=hm;simp only[hm]at hu;exact((hms j a b m hq hm).2.2.cells.2.2 i c u hc hu).held hM.held
   ·rename_i kt et te es _ hl;obtain⟨ha,h⟩:=Za h;simp only[Znn]at ha;cases hx with
    |mpDead hd=>rw[hd]at hl;cases hl
    | @mp _ g hr=>
     obtain⟨hG1,hM,ms,hg,hlen,hms,_⟩:=Zew hG hl hr;refine⟨_,_,E.frzR s g es,h,hG1,hM, ?_,λh=>by cases h⟩;have hfl:(H3 P te es).length=es.length:=by simp[H3]
     have hfe: ∀(j:Nat) (q:List C×List C),(H3 P te es)[j]? =some q-> ∃k row:List C,es[j]? =some (k,row)/\q=(k,[C.sl (row.length/Zg P te) row]):=by
      intro j q hq;simp only[H3,Zm9]at hq;obtain⟨e,he,rfl⟩:=Znq.1 hq;exact⟨e.1,e.2,he,rfl⟩
     refine .one (.mp (ms:=ms) (kus:=λj=>match ms[j]? with|some m=>Qj (Yi P kt) m.key|none=>[]) (vus:=λj=>match ms[j]? with|some m=>[m.val]|none=>[])
      ((Sp).2 (by rw[hfl];exact hg)) (.inr (.inl ⟨rfl,Nat.zero_lt_one⟩)) (by rw[hfl];exact hlen) (λj q m hq hm=> ?_) (λj q i c u hq hc hu=> ?_) (λj q i c u hq hc hu=> ?_))
     ·obtain⟨a,b,he,rfl⟩:=hfe j q hq;obtain⟨h1,h2,h3⟩:=hms j a b m he hm;simp only[hm];refine⟨h1,h2.cells.1, ?_,h2.cells.2.1,rfl⟩;simp[shp,Tg,ha]
     ·obtain⟨a,b,he,rfl⟩:=hfe j q hq;obtain⟨m,hm⟩: ∃m,ms[j]? =some m:=⟨ms[j]'(by rw[hlen];exact(Zmx.1 he).1),Znj _⟩;simp only[hm]at hu;exact((hms j a b m he hm).2.1.cells.2.2 i c u hc hu).held hM.held
     ·obtain⟨a,b,he,rfl⟩:=hfe j q hq;obtain⟨m,hm⟩: ∃m,ms[j]? =some m:=⟨ms[j]'(by rw[hlen];exact(Zmx.1 he).1),Znj _⟩;simp only[hm]at hu;cases i with
      |succ i=>simp at hc
      |zero=>
       simp at hc hu;subst hc hu;exact(hms j a b m he hm).2.2.rc hM.held rfl λb' k hb hk=> .inr (.inr ⟨j,_,he,hb,hk⟩)
   ·cases h
 |gh s=>cases h
 |ent s n j=>cases h
 |est j=>cases h
 |rp s g j n=>cases h
 |rw s g j n=>
  cases strict with
  |true=>cases h
  |false=>
   simp only[Xd]at h;split at h
   case h_2=>cases h
   rename_i g' t ps _ hl;obtain⟨hg,h⟩:=Za h;split at h
   case h_2=>cases h
   rename_i te row hp;obtain⟨hn,h⟩:=Za h;simp only[Zmq,Znn]at hn;have hz:Zg P te≠0:=λe=>by rw[e]at hn;cases hn.2
   have hn:=Zmp hn.1;have hv:=Zdv hx hl hg;obtain⟨gb,cur,hr,hps,hc,hlen,hbs,hcs,_⟩:=Lg hG hl;have hjl:j<ps.length:=(Zmx.1 hp).1;have hjc:j<cur.size:=Zne hjl hlen;obtain⟨_,hpc⟩:=hcs j (.r te row) cur[j] hp (Znj hjc);obtain⟨_,hrow⟩:=hpc (λe he=>by cases he);have hu:=hv.eq hrow hz hn;have hdiv:row.length/Zg P te=n:=by rw[<-hn];exact Zog _ (Zo0 hz)
   have hrc: ∀{w' Pr'},Zo E.w E.Pr w' Pr' ->w'=E.w->(∀b k,E.rb s j=some b->k<row.length->Pr' b k)->RC w' Pr' (.sl n row) cur[j]:=λh1 h2 h3=>by rw[<-hdiv];exact hrow.1.rc h1 h2 h3
   obtain⟨hG1,hM⟩:=Dk (m:=0) (J:=λi=>Zqv i j) (len:=λ_=>row.length) (ob:= .pk (Zq4 g') t (.ps (ps.set j (.c (.sl n row)))) none) hG hr (by rw[hl];rfl) rfl (by rw[hl];rfl) (by rw[hl];rfl)
    (λE' l' e=> .inr (.inr (.inr ⟨g',Zq4 g',false,false,by rw[hl];rfl,by rw[e];rfl,Zp3 _⟩)))
    (λhx=> .pk hr hc (by simpa[Rws.len]using hlen) hbs (λi p v hp' hv'=>by
     by_cases e:i=j
     ·subst e;have hp':(ps.set i (.c (.sl n row)))[i]? =some p:=hp';rw[Zoz hjl]at hp';injection hp' with hp';subst hp'
      have hv2:v=cur[i]:=by rw[Znj hjc]at hv';injection hv' with hv';exact hv'.symm
      subst hv2;have hh:=hrc hx rfl λb k hb hk=> .inr (.inr ⟨i,Zox i,hb,hk⟩);exact⟨hh.one,λ_=>hh⟩
     ·have hp':(ps.set j (.c (.sl n row)))[i]? =some p:=hp';rw[Zo5 (Ne.symm e)]at hp';obtain⟨o1,o2⟩:=hcs i p v hp' hv';refine⟨o1,λhe=> ?_⟩;have hb:Zqv i j=false:=by
       cases hb:Zqv i j
       ·rfl
       ·exact absurd (Zmp hb) e
      have h2:=o2 (λe he=>by cases he);cases p with
      |c c=>exact RC.held hx h2
      |r te2 row2=>exact⟨h2.1,h2.2.frzP hx hb⟩) λ_ _ _ e=>by cases e)
   refine⟨_,_,_,h,hG1,hM, ?_,λh=>by cases h⟩;have hh:=hrc hM.held hM.w λb k hb hk=> .inr (.inr ⟨j,Zox j,hb,hk⟩);rw[hu,cells_one hh.one];exact .one hh
 |ws s n=>
  cases strict with
  |true=>cases h
  |false=>
   simp only[Xd]at h;split at h
   case h_2=>cases h
   rename_i g' t te rows _ hl;obtain⟨hn,h⟩:=Za h;have hn:=Zmp hn;subst hn;cases hx with
   |wsDead hd=>rw[hd]at hl;cases hl
   | @ws _ _ gb hr hcap=>
   obtain⟨gb',cur,hr',hps,hc,hlen,hbs,hcs,_⟩:=Lg hG hl;rw[hr]at hr';injection hr' with hr';subst hr'
   obtain⟨hG1,hM⟩:=Dk (m:=rows.length) (J:=λ_=>true) (len:=λi=>(rows.getD i []).length) (ob:= .cl rows.length) hG hr (by rw[hl];rfl) rfl (by rw[hl];rfl) (by rw[hl];rfl)
    (λE' l' e=> .no e rfl rfl) (λhx=> .cl hr (.inl ⟨_,_,hc⟩))
   refine⟨_,_,_,h,hG1,hM, ?_,λh=>by cases h⟩;have hlen':rows.length<=cur.size:=hlen;refine .one (.sl (us:=λi=>cur.getD i undef) (Zm8 _) hcap (λi c hi=> ?_) λi c hi=> ?_)
   ·have hil:i<rows.length:=by simpa using (Zmx.1 hi).1
    refine⟨?_, .inr (.inl ⟨rfl,by rw[Zmt];exact hil⟩)⟩;rw[Zmt,hM.w,cell_of_row _ gb i cur t (0,0) hc];have:i<cur.size:=by omega
    simp[Zn5,this]
   ·rw[Zm9]at hi;obtain⟨row,hrow,rfl⟩:=Znq.1 hi;have hil:i<rows.length:=(Zmx.1 hrow).1;have hic:i<cur.size:=by omega
    obtain⟨_,hpc⟩:=hcs i (.r te row) cur[i] (by show(rows[i]?).map _=_;rw[hrow];rfl) (Znj hic);obtain⟨_,h2⟩:=hpc (λe he=>by cases he);have:cur.getD i undef=cur[i]:=by simp[Zn5,hic]
    rw[this];exact h2.1.rc hM.held hM.w λb k hb hk=> .inr (.inr ⟨i,rfl,hb,by simpa[Zok,hrow]using hk⟩)
 |mag xs=>cases h
 |clo f s=>cases h
 |fs n cs=>cases h
 |nq n neg=>cases h
 |un=>cases h
 |und=>cases h
 |own s off n=>
  cases strict with
  |true=>cases h
  |false=>
   simp only[Xd]at h;cases ho:Z4 (l s)with
   |none=>rw[ho]at h;cases h
   |some q=>
    obtain⟨t,fz,cs⟩:=q;rw[ho]at h;obtain⟨hle,hk⟩:=Za h;have hle':off+n*Zg P t<=cs.length:=Zmu hle;cases hx with
    |ownDead hd=>rw[hd]at ho;cases ho
    |ownMx hd=>exact(Uk hd ho).elim
    |ownNil hr hl=>
     rw[hl]at ho;injection ho with ho;injection ho with e1 e2;injection e2 with e2 e3;subst e1 e2 e3
     have hf: ∀m,m=0->frz l s m=l:=by
      intro m hm;subst hm;refine Loc.eq (λs'=> ?_) (by simp only[frz,hl];rfl);simp only[frz,hl];by_cases hne:s'=s
      ·subst hne;rw[Zf,hl];simp
      ·exact Zc l _ hne
     rw[hf _ (by simp)]at hk;refine⟨_,_,E,hk,hG, .refl E _, ?_,λh=>by cases h⟩;simp only[Zm5,Zn1,Value.cells];exact .one (.sl0 (by unfold maxLen;omega))
    | @own0 _ _ g o' t' fz' cs' hr hl hoff=>
     have hz:off+0*Zg P t<=cs.length:=hle';obtain⟨hG1,hM⟩:=Gb hG ho hr hz;refine⟨_,_,E.frz g (off+0*Zg P t),hk,hG1,hM, ?_,λh=>by cases h⟩;simp only[Zm5,Zn1,Value.cells];exact .one (.sl0 (by unfold maxLen;omega))
    | @own _ _ _ g cap t' fz' cs' hr hl hn hc hb=>
     rw[ho]at hl;injection hl with hl;injection hl with e1 e2;injection e2 with e2 e3;subst e1 e2 e3
     obtain⟨hG1,hM⟩:=Gb hG ho hr hle';refine⟨_,_,E.frz g (off+n*Zg P t),hk,hG1,hM, ?_,λh=>by cases h⟩;have hat:=((((Tm hG ho hr).1.at_).drop off).take (n*Zg P t)).held hM.held rfl;rw[Zmt]at hat;obtain⟨us,h1,h2⟩:=hat.fn λj hj=> .inr ⟨rfl,by simp only[Znr,Zom]at hj;omega⟩;exact .one (.sl hn hc h1 h2)
 |ptr s off=>
  cases strict with
  |true=>cases h
  |false=>
   simp only[Xd]at h;cases ho:Z4 (l s)with
   |none=>rw[ho]at h;cases h
   |some q=>
    obtain⟨t,fz,cs⟩:=q;rw[ho]at h;cases hx with
    |ptrDead hd=>rw[hd]at ho;cases ho
    | @ptr _ _ g hr=>
     obtain⟨hG1,hM⟩:=Gb hG ho hr (Zm8 _);refine⟨_,_,E.frz g cs.length,h,hG1,hM, ?_,λh=>by cases h⟩;have hat:=(((Tm hG ho hr).1.at_).drop off).held hM.held rfl;rw[Zmt]at hat;obtain⟨us,h1,h2⟩:=hat.fn λj hj=> .inr ⟨rfl,by simp only[Zom]at hj;omega⟩;exact .one (.cp h1 h2)
theorem Rb {R:Type} {A:Fr} {pend:Nat->Prop} {strict:Bool}: ∀{xs:List V} {us:List Value} {E:Env} {l:Loc} (_:Good P A E l pend)
  (_:us.length=xs.length) (_: ∀(j:Nat) (x:V) (u:Value),xs[j]? =some x->us[j]? =some u->RV P E l x u/\u.oneCell'=true) {k:List C->Loc->Option R} {r:R}
  (_:Qv P strict xs l k=some r),∃cs l1 E1,k cs l1=some r/\Good P A E1 l1 pend/\Mild E E1 l l1/\RCs E1.w E1.Pr cs us/\(strict=true->l1=l)
 | [],us,E,l,hG,hl,_,k,r,h=>⟨[],l,E,h,hG, .refl E l,by obtain rfl:us=[]:=Zna (by simpa using hl);exact .nil,λ_=>rfl⟩
 |x::xs,[],E,l,hG,hl,_,k,r,h=>by simp at hl
 |x::xs,u::us,E,l,hG,hl,hx,k,r,h=>by
  obtain⟨hu,h1⟩:=hx 0 x u rfl rfl;have next: ∀{c:C} {l1:Loc} {E1:Env},Good P A E1 l1 pend->Mild E E1 l l1->RC E1.w E1.Pr c u->(strict=true->l1=l)->Qv P strict xs l1 (λcs l2=>k (c::cs) l2)=some r->
    ∃cs l1 E1,k cs l1=some r/\Good P A E1 l1 pend/\Mild E E1 l l1/\RCs E1.w E1.Pr cs (u::us)/\(strict=true->l1=l):=by
   intro c l1 E1 hG1 hM1 hc hs1 h;obtain⟨cs,l2,E2,h2,hG2,hM2,hp,hs2⟩:=Rb (xs:=xs) (us:=us) hG1 (by simpa using hl) (λj y v hy hv=>⟨hM1.rv (hx (j+1) y v (by simpa using hy) (by simpa using hv)).1,(hx (j+1) y v (by simpa using hy) (by simpa using hv)).2⟩) h;exact⟨c::cs,l2,E2,h2,hG2,hM1.trans hM2, .cons (hc.held hM2.held) hp,λh=>(hs2 h).trans (hs1 h)⟩
  cases x with
  |c c=>cases hu with|c hc=>exact next hG (.refl E l) hc (λ_=>rfl) h
  |own s off n=>
   simp only[Qv]at h;obtain⟨cs,l1,E1,hk,hG1,hM,hc,hst⟩:=Ra hG hu h;rw[cells_one h1]at hc;split at hk
   ·obtain⟨v,vs,e,hc1,_⟩:=hc.uncons;simp at e;obtain⟨e1,e2⟩:=e;subst e1;exact next hG1 hM hc1 hst hk
   ·cases hk
  |mp s=>
   simp only[Qv]at h;obtain⟨cs,l1,E1,hk,hG1,hM,hc,hst⟩:=Ra hG hu h;rw[cells_one h1]at hc;split at hk
   ·obtain⟨v,vs,e,hc1,_⟩:=hc.uncons;simp at e;obtain⟨e1,e2⟩:=e;subst e1;exact next hG1 hM hc1 hst hk
   ·cases hk
  |ws s n=>
   simp only[Qv]at h;obtain⟨cs,l1,E1,hk,hG1,hM,hc,hst⟩:=Ra hG hu h;rw[cells_one h1]at hc;split at hk
   ·obtain⟨v,vs,e,hc1,_⟩:=hc.uncons;simp at e;obtain⟨e1,e2⟩:=e;subst e1;exact next hG1 hM hc1 hst hk
   ·cases hk
  |_=>cases h
theorem Xf {R:Type} {A:Fr} {E:Env} {l:Loc} {pend:Nat->Prop} (hG:Good P A E l pend) {strict:Bool} {x:V} {u:Value} (hx:RV P E l x u) {k:List C->Loc->Option R} {r:R}
  (h:pur P strict x l k=some r): ∃cs l1 E1,k cs l1=some r/\Good P A E1 l1 pend/\Mild E E1 l l1/\RCs E1.w E1.Pr cs u.cells.toList/\(strict=true->l1=l):=by
 have old:Xd P strict x l k=some r-> ∃cs l1 E1,k cs l1=some r/\Good P A E1 l1 pend/\Mild E E1 l l1/\RCs E1.w E1.Pr cs u.cells.toList/\(strict=true->l1=l):=Ra hG hx;cases x with
 |ptr s off=>
  unfold pur at h;simp only at h;split at h
  case h_2=>exact old h
  case h_1 t xs hl=>
   cases strict with
   |true=>cases h
   |false=>
    simp only at h;cases hx with
    |ptrDead hd=>rw[hd]at hl;cases hl
    | @ptr _ _ g hr=>
     obtain⟨cur,hg,hle,hcs,hb⟩:=Wa hG hl hr;obtain⟨cs,l1,E1,hk,hG1,hM1,hrc,_⟩:=Rb (us:=cur.toList.take xs.length) hG (by simp;omega) (λj x u hx hu=>by
      rw[Znc]at hu;split at hu
      ·exact hcs j x u hx (by simpa using hu)
      ·cases hu) h
     split at hk
     case h_2=>cases hk
     case h_1 t1 xs1 hl1=>
      have hr1:E1.rho s=some g:=by rw[hM1.rho];exact hr
      have hg1:E1.w.heap[g]? =some (.cells cur t (0,0)):=by rw[hM1.w];exact hg
      obtain⟨hG2,hM2⟩:=Gc (n:=cs.length) hG1 hr1 (by rw[hl1];exact Znv _) (by rw[hl1];rfl) (.inl ⟨_,_,hg1⟩);refine⟨_,_,E1.frz g cs.length,hk,hG2,hM1.trans hM2, ?_,λh=>by cases h⟩;have hlen:cs.length=xs.length:=by rw[<-hrc.1];simp;omega
      have hblk:Blk E1 s g t cs:=⟨cur,hg1,by rw[hM1.bs];exact hb.symm,by omega,by rw[hlen];exact hrc⟩;have hat:=((hblk.at_).drop off).held hM2.held rfl;rw[Zmt]at hat;obtain⟨us,h1,h2⟩:=hat.fn λj hj=> .inr ⟨rfl,by simp only[Zom]at hj;omega⟩;exact .one (.cp h1 h2)
 |_=>exact old h
theorem Rc {R:Type} {A:Fr} {pend:Nat->Prop} {strict:Bool}: ∀{xs:List V} {us:List Value} {E:Env} {l:Loc} (_:Good P A E l pend)
  (_:us.length=xs.length) (_: ∀(j:Nat) (x:V) (u:Value),xs[j]? =some x->us[j]? =some u->RV P E l x u) {k:List (List C)->Loc->Option R} {r:R}
  (_:Nx P strict xs l k=some r),∃ps l1 E1,k ps l1=some r/\Good P A E1 l1 pend/\Mild E E1 l l1/\ps.length=us.length/\
   (∀(j:Nat) (cs:List C) (u:Value),ps[j]? =some cs->us[j]? =some u->RCs E1.w E1.Pr cs u.cells.toList)/\(strict=true->l1=l)
 | [],us,E,l,hG,hl,_,k,r,h=>⟨[],l,E,h,hG, .refl E l,by simpa using hl.symm,by simp,λ_=>rfl⟩
 |x::xs,[],E,l,hG,hl,_,k,r,h=>by simp at hl
 |x::xs,u::us,E,l,hG,hl,hx,k,r,h=>by
  obtain⟨cs,l1,E1,h1,hG1,hM1,hc,hs1⟩:=Xf hG (hx 0 x u rfl rfl) h;obtain⟨ps,l2,E2,h2,hG2,hM2,hp,hpc,hs2⟩:=Rc (xs:=xs) (us:=us) hG1 (by simpa using hl) (λj y v hy hv=>hM1.rv (hx (j+1) y v (by simpa using hy) (by simpa using hv))) h1;refine⟨cs::ps,l2,E2,h2,hG2,hM1.trans hM2,by simp[hp],λj cs' u' hc' hu'=> ?_,λh=>(hs2 h).trans (hs1 h)⟩;cases j with
  |zero=>simp at hc' hu';subst hc' hu';exact hc.held hM2.held
  |succ j=>exact hpc j cs' u' (by simpa using hc') (by simpa using hu')
end Go.PM
namespace Go.PM
open Go
variable {P:Program}
def Zlh (P:Program) (run:Result Next) (Φ:Value->World->Prop):Prop:=
 match run with
 | .ok (.value u) w'=>Φ u w'
 | .ok .skip w'=>Φ undef w'
 | .ok (.enter f args) w'=>Calls P f args w' (λe w''=> ∃u,e= .returned u/\Φ u w'')
 | .ok (.round l f tmps assign body) w'=>RoundIn Fence.wide 0 P l f tmps assign body w' (λe w''=> ∃u,e= .returned u/\Φ u w'')
 |_=>False
def Up (P:Program) (A:Fr) (E:Env) (l:Loc) (pend:Nat->Prop) (x:V) (l':Loc) (ks:List Nat) (u:Value) (w':World):Prop:=
 ∃E',E'.w=w'/\(Good P A E' l' pend/\E'.D=E.D)/\RV P E' l' x u/\ ∀y v,RV P E l y v->(∀s∈ks,y.at s=false)->RV P E' l' y v
def Zt (P:Program) (A:Fr) (E:Env) (l:Loc) (pend:Nat->Prop) (run:Result Next) {R:Type} (k:V->Loc->List Nat->Option R) (r:R):Prop:=
 ∃x l' ks,k x l' ks=some r/\Zlh P run (Up P A E l pend x l' ks)
section
variable {A:Fr} {E:Env} {l:Loc} {pend:Nat->Prop} {R:Type} {k:V->Loc->List Nat->Option R} {r:R}
theorem Zt.quiet (hG:Good P A E l pend) {x:V} {u:Value} (hk:k x l []=some r) (hx:RV P E l x u):Zt P A E l pend (.ok (.value u) E.w) k r:=
 ⟨x,l,[],hk,E,rfl,⟨hG,rfl⟩,hx,λ_ _ h _=>h⟩
theorem Zt.mild {l1:Loc} {E1:Env} (hG:Good P A E1 l1 pend) (hM:Mild E E1 l l1) {x:V} {u:Value} (hk:k x l1 []=some r) (hx:RV P E1 l1 x u):Zt P A E l pend (.ok (.value u) E.w) k r:=
 ⟨x,l1,[],hk,E1,hM.w,⟨hG,hM.D⟩,hx,λ_ _ h _=>hM.rv h⟩
end
section looks
variable {R:Type}
theorem Tn {l:Lf} {c:C} {k:C->Option R} {r:R} (h:Ub l c k=some r):k c=some r:=by
 cases l with
 |o=>exact h
 |i kd=>
  simp only[Ub,asI]at h;split at h
  ·split at h
   ·rename_i hk;rw[<-hk]at h;exact h
   ·cases h
  ·cases h
 |b=>
  simp only[Ub,asB]at h;split at h
  ·exact h
  ·cases h
 |s=>
  simp only[Ub,asS]at h;split at h
  ·exact h
  ·cases h
theorem Qa: ∀{ls:List Lf} {cs:List C} {k:List C->Option R} {r:R} (_:U3 ls cs k=some r),ls.length<=cs.length/\k (cs.take ls.length)=some r
 | [],cs,k,r,h=>⟨Znv _,h⟩
 |l::ls,[],k,r,h=>by cases h
 |l::ls,c::cs,k,r,h=>by
  have h1:=Qa (Tn (show Ub l c (λc'=>U3 ls cs λcs'=>k (c'::cs'))=some r from h));exact⟨by simp;exact h1.1,by simpa using h1.2⟩
theorem Gd {t:TypeId} {cs:List C} {k:V->Option R} {r:R} (h:ldC P t cs k=some r):
  ∃i,P.info? t=some i/\((Yi P t=true/\i.size<=cs.length/\k (.agg (cs.take i.size))=some r)\/(Yi P t=false/\ ∃c rest,cs=c::rest/\k (.c c)=some r)):=by
 unfold ldC at h;cases hi:P.info? t with
 |none=>rw[hi]at h;cases h
 |some i=>
  rw[hi]at h;refine⟨i,rfl, ?_⟩;cases ha:Yi P t with
  |true=>
   rw[ha]at h;left;cases hl:leaves P 20 t with
   |none=>
    rw[hl]at h;obtain⟨h1,h2⟩:=Za h;exact⟨rfl,Zmu h1,h2⟩
   |some ls=>
    rw[hl]at h;obtain⟨h1,h2⟩:=Za h;have h3:=Qa h2;have h4:ls.length=i.size:=Zmp h1;rw[h4]at h3;exact⟨rfl,h3.1,h3.2⟩
  |false=>
   rw[ha]at h;right;refine⟨rfl, ?_⟩;cases hl:leaves P 20 t with
   |none=>rw[hl]at h;cases h
   |some ls=>
    rw[hl]at h
    match ls,h with
    | [],h=>cases h
    |_::_::_,h=>cases h
    | [f],h=>
     cases cs with
     |nil=>cases h
     |cons c rest=>exact⟨c,rest,rfl,Tn (show Ub f c (λc'=>k (.c c'))=some r from h)⟩
theorem Y2 (t:TypeId) (w:World) (d:TypeDesc) (h:P.underlying t=some d):(isAgg t).run P w= .ok (Yi P t) w:=by
 unfold isAgg Yi;simp only[Sem.run_bind,run_underlying h,Result.andThen_ok,h];cases d<;>rfl
theorem Rv {t:TypeId} {i:TypeInfo} (ha:Yi P t=true): ∃d,P.underlying t=some d:=by
 unfold Yi at ha;cases h:P.underlying t with
 |none=>rw[h]at ha;cases ha
 |some d=>exact⟨d,rfl⟩
end looks
theorem Yu (g o j:Nat):(⟨g,o,none⟩:Addr).add j=⟨g,o+j,none⟩:=by
 unfold Addr.add;split<;>simp_all
theorem At.list {w:World} {Pr:Nat->Nat->Prop}: ∀{cs:List C} {g o:Nat} (_:At w Pr g o cs),∃us:List Value,(∀(j:Nat) (u:Value),us[j]? =some u->w.cell? ⟨g,o+j,none⟩=some u)/\RCs w Pr cs us
 | [],g,o,_=>⟨[],by simp, .nil⟩
 |c::cs,g,o,h=>by
  obtain⟨u,hu,hc⟩:=h 0 c rfl;obtain⟨us,h1,h2⟩:=At.list (cs:=cs) (g:=g) (o:=o+1) (λj c' hj=>by
   have:=h (j+1) c' (by simpa using hj)
   rwa [show o+(j+1)=o+1+j by omega]at this)
  refine⟨u::us,λj v hv=> ?_, .cons hc h2⟩;cases j with
  |zero=>simp at hv;subst hv;exact hu
  |succ j=>rw[show o+(j+1)=o+1+j by omega];exact h1 j v (by simpa using hv)
theorem RCs.len {w:World} {Pr:Nat->Nat->Prop} {cs:List C} {us:List Value} (h:RCs w Pr cs us):us.length=cs.length:=h.1
theorem run_sizeOf {t:TypeId} {i:TypeInfo} (hi:P.info? t=some i) (w:World):(sizeOf t).run P w= .ok i.size w:=by simp[sizeOf,typeInfo,hi]
theorem Yv {w:World} {Pr:Nat->Nat->Prop} {t:TypeId} {d:TypeDesc} (hd:P.underlying t=some d) {g o:Nat} {cs:List C} (h:At w Pr g o cs) {R:Type} {k:V->Option R} {r:R}
  (h0:ldC P t cs k=some r): ∃v u,k v=some r/\(loadVar t ⟨g,o,none⟩).run P w= .ok u w/\((∃c,v= .c c/\RC w Pr c u)\/(∃cs' us,v= .agg cs'/\u= .agg us.toArray/\RCs w Pr cs' us)):=by
 obtain⟨i,hi,⟨ha,hle,hk⟩|⟨ha,c,rest,e,hk⟩⟩:=Gd h0
 ·obtain⟨us,h1,h2⟩:=(h.take i.size).list;have hl:us.length=i.size:=by rw[h2.len,Znr];omega
  have hrun:=run_loadCells_list (P:=P) w ⟨g,o,none⟩ us (λj v hv=>by rw[Yu];exact h1 j v hv);rw[hl]at hrun;exact⟨_, .agg us.toArray,hk,by simp[loadVar,Y2 t w d hd,ha,run_sizeOf hi,hrun], .inr ⟨_,us,rfl,rfl,h2⟩⟩
 ·subst e;obtain⟨u,hu,hc⟩:=h 0 c rfl;refine⟨_,u,hk, ?_, .inl ⟨c,rfl,hc⟩⟩;rw[Znz]at hu;simp[loadVar,Y2 t w d hd,ha,hu]
theorem Uf {E:Env} {l:Loc} {v:V} {u:Value} (h:(∃c,v= .c c/\RC E.w E.Pr c u)\/(∃cs' us,v= .agg cs'/\u= .agg us.toArray/\RCs E.w E.Pr cs' us)):RV P E l v u:=by
 rcases h with⟨c,rfl,hc⟩|⟨cs',us,rfl,rfl,hc⟩
 ·exact .c hc
 ·exact .agg hc
theorem Qk {t:TypeId} {cs:List C} {R:Type} {k:V->Option R} {r:R} (h:ldC P t cs k=some r): ∃d,P.underlying t=some d:=by
 obtain⟨i,hi,⟨ha,_⟩|⟨ha,c,rest,e,_⟩⟩:=Gd h
 ·exact Rv (i:=i) ha
 ·unfold ldC at h;rw[hi,ha]at h;cases hu:P.underlying t with
  |some d=>exact⟨d,rfl⟩
  |none=>
   have:leaves P 20 t=none:=by simp[leaves,hu]
   rw[this]at h;cases h
theorem Jj {w w0:World} {Pr:Nat->Nat->Prop} {t:TypeId} {cs:List C} {us:List Value} (h:RCs w0 Pr cs us) (off:Nat) {R:Type} {k:V->Option R} {r:R}
  (h0:ldC P t (cs.drop off) k=some r): ∃v u,k v=some r/\(part t us.toArray off).run P w= .ok u w/\((∃c,v= .c c/\RC w0 Pr c u)\/(∃cs' us',v= .agg cs'/\u= .agg us'.toArray/\RCs w0 Pr cs' us')):=by
 obtain⟨d,hd⟩:=Qk h0;obtain⟨i,hi,⟨ha,hle,hk⟩|⟨ha,c,rest,e,hk⟩⟩:=Gd h0
 ·refine⟨_, .agg ((us.drop off).take i.size).toArray,hk, ?_, .inr ⟨_,_,rfl,rfl,(h.drop off).take i.size⟩⟩;simp[part,Y2 t w d hd,ha,run_sizeOf hi,Zqr,Zo9]
 ·have hh:=h.drop off;rw[e]at hh;obtain⟨u,us',hu,hc,_⟩:=hh.uncons;refine⟨_,u,hk, ?_, .inl ⟨c,rfl,hc⟩⟩;have h1:us[off]? =some u:=by
   have:(us.drop off)[0]? =some u:=by rw[hu];rfl
   rwa [Znd,Znz]at this
  simp[part,Y2 t w d hd,ha,h1]
end Go.PM
namespace Go.PM
open Go
variable {P:Program}
theorem Bc {R:Type} {op:BinOp} {kd:IntKind} {a b:Int} {k:V->Option R} {r:R} (h:Ki op kd a b k=some r) (t:TypeId) (w:World):
  ∃v,Em v=true/\k (.c (.v v))=some r/\(binOp op t (.int kd a) (.int kd b)).run P w= .ok v w:=by
 cases op<;>simp only[Ki]at h
 case quo=>
  obtain⟨h1,h2⟩:=Za h;have h3:b≠0:=by simpa using h1
  exact⟨_,rfl,h2,by simp[binOp,Op.intDiv,h3]⟩
 case rem=>
  obtain⟨h1,h2⟩:=Za h;have h3:b≠0:=by simpa using h1
  exact⟨_,rfl,h2,by simp[binOp,Op.intDiv,h3]⟩
 case shl=>cases h
 case shr=>cases h
 all_goals exact⟨_,rfl,h,by simp[binOp,Op.intArith,Op.intBits,Op.intCmp]⟩
theorem Jk {R:Type} {op:BinOp} {kd kd':IntKind} {a b:Int} {k:V->Option R} {r:R} (h:Df op kd a b k=some r) (t:TypeId) (w:World):
  ∃v,Em v=true/\k (.c (.v v))=some r/\(binOp op t (.int kd a) (.int kd' b)).run P w= .ok v w:=by
 cases op<;>simp only[Df]at h
 case shl=>
  obtain⟨h1,h2⟩:=Za h;have h3: ¬b<0:=by simpa using h1
  exact⟨_,rfl,h2,by simp[binOp,Op.shift,h3]⟩
 case shr=>
  obtain⟨h1,h2⟩:=Za h;have h3: ¬b<0:=by simpa using h1
  exact⟨_,rfl,h2,by simp[binOp,Op.shift,h3]⟩
 all_goals cases h
theorem Bd {R:Type} {op:BinOp} {a b:ByteArray} {k:V->Option R} {r:R} (h:Kj op a b k=some r) (t:TypeId) (w:World):
  ∃v,Em v=true/\k (.c (.v v))=some r/\(binOp op t (.string a) (.string b)).run P w= .ok v w:=by
 cases op<;>simp only[Kj]at h
 case add=>
  obtain⟨h1,h2⟩:=Za h;have h3:a.size+b.size<=9223372036854775807:=Zmu h1;have h4: ¬(((a.size+b.size:Nat):Int)>Zqu.max):=by
   have:Zqu.max=9223372036854775807:=by decide
   rw[this];omega
  exact⟨_,rfl,h2,by simp only[binOp,Op.stringOp];rw[if_neg h4];rfl⟩
 case sub|mul|quo|rem|and|or|xor|shl|shr|andNot=>cases h
 all_goals exact⟨_,rfl,h,by simp[binOp,Op.stringOp]⟩
def Ge (P:Program) (t:TypeId) (us:List Value) (v:Value):Prop:=(Yi P t=true/\v= .agg us.toArray)\/(Yi P t=false/\ ∃r,us=v::r)
theorem Lh {w0 w:World} {Pr:Nat->Nat->Prop} {t:TypeId} {D:TypeDesc} (hD:P.underlying t=some D) {us:List Value} {off:Nat} {v:Value} {i:TypeInfo} (hi:P.info? t=some i)
  (h:Ge P t ((us.drop off).take i.size) v):(part t us.toArray off).run P w= .ok v w:=by
 rcases h with⟨ha,rfl⟩|⟨ha,r,e⟩
 ·simp[part,Y2 t w D hD,ha,run_sizeOf hi,Zqr,Zo9]
 ·have h1:us[off]? =some v:=by
   have:((us.drop off).take i.size)[0]? =some v:=by rw[e];rfl
   rw[Znc]at this;split at this
   ·rwa [Znd,Znz]at this
   ·cases this
  simp[part,Y2 t w D hD,ha,h1]
theorem Dl {w0:World} {Pr:Nat->Nat->Prop} (w:World): ∀(d:Nat) (t:TypeId) (cs ds:List C) (us vs:List Value) (_:RCs w0 Pr cs us) (_:RCs w0 Pr ds vs) (b:Bool) (_:eqT P d t cs ds=some b) (n:Nat) (_:d<=n),
  (∃D,P.underlying t=some D)/\ ∃a a',Ge P t us a/\Ge P t vs a'/\(Op.equalIn n t a a').run P w= .ok b w:=by
 intro d
 induction d with
 |zero=>intro t cs ds us vs _ _ b h;cases h
 |succ d ih=>
  intro t cs ds us vs hc hd b h n hn;obtain⟨n,rfl⟩: ∃m,n=m+1:=⟨n-1,by omega⟩;unfold eqT at h;cases hu:P.underlying t with
  |none=>rw[hu]at h;cases h
  |some D=>
   rw[hu]at h;refine⟨⟨D,rfl⟩, ?_⟩;cases D<;>simp only at h<;>try (cases h;done)
   case int kd=>
    have ha:Yi P t=false:=by simp[Yi,hu]
    split at h
    ·rename_i k a _ k' b' _;obtain⟨u,us',rfl,h1,_⟩:=hc.uncons;obtain⟨v,vs',rfl,h2,_⟩:=hd.uncons;cases h1 with|v _=>cases h2 with|v _=>
     split at h
     ·rename_i hk;subst hk;injection h with h;subst h
      exact⟨_,_, .inr ⟨ha,_,rfl⟩, .inr ⟨ha,_,rfl⟩,run_equalIn_int w n t k kd a b' hu⟩
     ·cases h
    ·cases h
   case bool=>
    have ha:Yi P t=false:=by simp[Yi,hu]
    split at h
    ·rename_i a _ b' _;obtain⟨u,us',rfl,h1,_⟩:=hc.uncons;obtain⟨v,vs',rfl,h2,_⟩:=hd.uncons;cases h1 with|v _=>cases h2 with|v _=>
     injection h with h;subst h
     exact⟨_,_, .inr ⟨ha,_,rfl⟩, .inr ⟨ha,_,rfl⟩,run_equalIn_bool' w n t a b' hu⟩
    ·cases h
   case string=>
    have ha:Yi P t=false:=by simp[Yi,hu]
    split at h
    ·rename_i a _ b' _;obtain⟨u,us',rfl,h1,_⟩:=hc.uncons;obtain⟨v,vs',rfl,h2,_⟩:=hd.uncons;cases h1 with|v _=>cases h2 with|v _=>
     injection h with h;subst h
     exact⟨_,_, .inr ⟨ha,_,rfl⟩, .inr ⟨ha,_,rfl⟩,run_equalIn_string w n t a b' hu⟩
    ·cases h
   case struct fs=>
    have ha:Yi P t=true:=by simp[Yi,hu]
    have hf:P.fieldsOf t=fs:=by simp[Program.fieldsOf,hu]
    cases hs:P.stoodInHeld t with
    |true=>rw[hs]at h;cases h
    |false=>
     rw[hs]at h;simp only[cond_false]at h;refine⟨_,_, .inl ⟨ha,rfl⟩, .inl ⟨ha,rfl⟩, ?_⟩;rw[run_equalIn_struct w n t us.toArray vs.toArray (by rw[hf];exact hu) hs,hf];clear hf hu;generalize fs.toList=l at h
     induction l generalizing b with
     |nil=>injection h with h;subst h;rfl
     |cons f l ihl=>
      simp only [Zpa] at h;cases hn' : (f.name == "_") with
      |true=>rw[hn']at h;cases h
      |false=>
       rw[hn']at h;simp only[cond_false]at h;split at h
       ·rename_i b1 b2 h1 h2;injection h with h;subst h
        have hne : f.name ≠ "_" := by simpa using hn'
        obtain⟨⟨D,hD⟩,a,a',ha1,ha2,he⟩:=ih f.type _ _ _ _ ((hc.drop f.offset).take (Zg P f.type)) ((hd.drop f.offset).take (Zg P f.type)) b1 h1 n (by omega);have hi: ∃i,P.info? f.type=some i:=by
         cases hi:P.info? f.type with
         |some i=>exact⟨i,rfl⟩
         |none=>
          have:P.underlying f.type=none:=by simp[Program.underlying,hi]
          rw[this]at hD;cases hD
        obtain⟨i,hi⟩:=hi;have hsz:Zg P f.type=i.size:=by simp[Zg,hi]
        rw[hsz]at ha1 ha2;have r1:=Lh (w0:=w0) (w:=w) (Pr:=Pr) hD hi ha1;have r2:=Lh (w0:=w0) (w:=w) (Pr:=Pr) hD hi ha2;simp only[Op.eqFields,if_pos hne,Sem.run_bind,r1,r2,he,Result.andThen_ok,Sem.run_ite];cases b1
        ·simp
        ·simpa using ihl b2 h2
       ·cases h
theorem Zex {R:Type} {E:Env} {l:Loc} {op:UnOp} {x:V} {u:Value} (hx:RV P E l x u) {k:V->Option R} {r:R} (h:unV op x k=some r) (w:World):
  ∃v,Em v=true/\k (.c (.v v))=some r/\(Op.unary op u).run P w= .ok v w:=by
 unfold unV at h;split at h
 ·cases hx with|c hc=>cases hc with|v _=>exact⟨_,rfl,h,by simp[Op.unary,Op.intArith]⟩
 ·cases hx with|c hc=>cases hc with|v _=>exact⟨_,rfl,h,by simp[Op.unary,Op.intBits,cond_eq_ite]⟩
 ·cases hx with|c hc=>cases hc with|v _=>exact⟨_,rfl,h,by simp[Op.unary]⟩
 ·cases h
theorem Wb {R:Type} {E:Env} {l:Loc} {src dst:TypeId} {x:V} {u:Value} (hx:RV P E l x u) {k:V->Option R} {r:R} (h:N3 P src dst x k=some r) (w:World):
  ∃v,Em v=true/\k (.c (.v v))=some r/\(convert src dst u).run P w= .ok v w:=by
 unfold N3 at h;split at h
 ·rename_i d kd k' n hs hd;cases hx with|c hc=>cases hc with|v _=>
  refine⟨_,rfl,h, ?_⟩;simp only[convert,Sem.run_bind,run_underlying hs,run_underlying hd,Result.andThen_ok];cases d<;>simp[Conv.intToInt]
 ·rename_i d s hs hd;cases hx with|c hc=>cases hc with|v _=>
  refine⟨_,rfl,h, ?_⟩;simp only[convert,Sem.run_bind,run_underlying hs,run_underlying hd,Result.andThen_ok];cases d<;>simp
 ·rename_i d kd n hs hd;cases hx with|c hc=>cases hc with|v _=>
  refine⟨_,rfl,h, ?_⟩;simp only[convert,Sem.run_bind,run_underlying hs,run_underlying hd,Result.andThen_ok];cases d<;>simp[Conv.intToString]
 ·cases h
theorem Ve (w:World) (t e:TypeId) (a:Option Addr) (n c n' c':Nat) (h:P.underlying t=some (.slice e)):
  (binOp .eql t (.slice a n c) (.slice none n' c')).run P w= .ok (.bool a.isNone) w/\(binOp .neq t (.slice a n c) (.slice none n' c')).run P w= .ok (.bool (!a.isNone)) w:=by
 have key: ∀d,(Op.equalIn (d+1) t (.slice a n c) (.slice none n' c')).run P w= .ok a.isNone w:=λd=>by cases a<;>simp[Op.equalIn,run_underlying h]
 constructor<;>simp[binOp,Op.equal,Op.maxDepth,key 9999]
theorem Hq {R:Type} {E:Env} {l:Loc} {k:V->Option R} {r:R} {X:Value->Prop} (h: ∃z,Em z=true/\k (.c (.v z))=some r/\X z): ∃z y,RV P E l y z/\k y=some r/\X z:=
 let ⟨z,h1,h2,h3⟩:=h;⟨z,_, .c (.v h1),h2,h3⟩
theorem Zbt {R:Type} {E:Env} {l:Loc} {op:BinOp} {t:TypeId} {x y:V} {u v:Value} (hx:RV P E l x u) (hy:RV P E l y v) {k:V->Option R} {r:R} (h:S5 P op t x y k=some r) (ox oy:Operand) (w:World):
  ∃z y,RV P E l y z/\k y=some r/\(do eqGuard op t ox oy u v;binOp op t u v:Sem Value).run P w= .ok z w:=by
 unfold S5 at h;split at h
 ·rename_i kd a kd' b;cases hx with|c hc=>cases hc with|v _=>
  cases hy with|c hc=>cases hc with|v _=>
  have hg: ∀(f:Unit->Sem Value),((eqGuard op t ox oy (.int kd a) (.int kd' b))>>=f).run P w=(f ()).run P w:=by intro f;cases op<;>simp[eqGuard]
  rw[hg];refine Hq ?_;split at h
  ·exact Jk h t w
  ·exact Jk h t w
  ·split at h
   ·rename_i hk;subst hk;exact Bc h t w
   ·cases h
 ·rename_i a b;cases hx with|c hc=>cases hc with|v _=>
  cases hy with|c hc=>cases hc with|v _=>
  have hg: ∀(f:Unit->Sem Value),((eqGuard op t ox oy (.string a) (.string b))>>=f).run P w=(f ()).run P w:=by intro f;cases op<;>simp[eqGuard]
  rw[hg];exact Hq (Bd h t w)
 ·rename_i a b;cases hx with|c hc=>cases hc with|v _=>
  cases hy with|c hc=>cases hc with|v _=>
  have hg: ∀(f:Unit->Sem Value),((eqGuard op t ox oy (.bool a) (.bool b))>>=f).run P w=(f ()).run P w:=by intro f;cases op<;>simp[eqGuard]
  rw[hg];refine Hq ?_;split at h
  ·rename_i hu;exact⟨_,rfl,h,by simp[binOp,Op.equal,Op.maxDepth,run_equalIn_bool' w 9999 t a b hu]⟩
  ·rename_i hu;exact⟨_,rfl,h,by simp[binOp,Op.equal,Op.maxDepth,run_equalIn_bool' w 9999 t a b hu]⟩
  ·cases h
 ·rename_i cs ds;cases hx with| @agg _ us hc=>
  cases hy with| @agg _ vs hd=>
  split at h
  ·rename_i b hag hm he;have hg: ∀(f:Unit->Sem Value),((eqGuard op t ox oy (.agg us.toArray) (.agg vs.toArray))>>=f).run P w=(f ()).run P w:=by
    intro f;rw[Sem.run_bind,run_eqGuard_agg w op t ox oy _ _ hm];rfl
   rw[hg];obtain⟨_,a,a',ha,ha',hr⟩:=Dl (P:=P) w 20 t cs ds us vs hc hd b he 10000 (by omega);have e1:a= .agg us.toArray:=by
    rcases ha with⟨_,e⟩|⟨hf,q,e⟩
    ·exact e
    ·rw[hag]at hf;cases hf
   have e2:a'= .agg vs.toArray:=by
    rcases ha' with⟨_,e⟩|⟨hf,q,e⟩
    ·exact e
    ·rw[hag]at hf;cases hf
   subst e1 e2;refine Hq ?_;split at h
   ·exact⟨_,rfl,h,by rw[run_eql_struct,hr];rfl⟩
   ·exact⟨_,rfl,h,by rw[run_neq_struct,hr];rfl⟩
   ·cases h
  ·cases h
 ·rename_i n cs;cases hy with|c hc=>cases hc with|nl=>
  cases hx with|c hc=>
  have hu: ∃a m c,u= .slice a m c/\(n≠0->a.isNone=false):=by
   cases hc with
   |sl0 _=>exact⟨_,_,_,rfl,λh=>absurd rfl h⟩
   |sl _ _ _ _=>exact⟨_,_,_,rfl,λ_=>rfl⟩
  obtain⟨a,m,c,rfl,ha⟩:=hu;have hg: ∀(f:Unit->Sem Value),((eqGuard op t ox oy (.slice a m c) (.slice none 0 0))>>=f).run P w=(f ()).run P w:=by intro f;cases op<;>simp[eqGuard]
  rw[hg];split at h
  ·rename_i e ht;exact⟨_,_, .nq ha,h,(Ve w t e a m c 0 0 ht).1⟩
  ·rename_i e ht;refine⟨_,_, .nq λhn=> ?_,h,(Ve w t e a m c 0 0 ht).2⟩;rw[ha hn];rfl
  ·cases h
 ·cases hy with|c hc=>cases hc with|nl=>
  cases hx with|c hc=>cases hc with|nl=>
  have hg: ∀(f:Unit->Sem Value),((eqGuard op t ox oy (.slice none 0 0) (.slice none 0 0))>>=f).run P w=(f ()).run P w:=by intro f;cases op<;>simp[eqGuard]
  rw[hg];split at h
  ·rename_i e ht;exact⟨_,_, .c (.v rfl),h,(Ve w t e none 0 0 0 0 ht).1⟩
  ·rename_i e ht;exact⟨_,_, .c (.v rfl),h,(Ve w t e none 0 0 0 0 ht).2⟩
  ·cases h
 ·cases h
end Go.PM
namespace Go.PM
open Go
variable {P:Program}
section
variable {A:Fr} {E:Env} {l:Loc} {pend:Nat->Prop} {R:Type} {k:V->Loc->List Nat->Option R} {r:R} {cf:Cfg} {strict:Bool} {o:Oper} {e:Operand->V} {ρ:Operand->Value}
theorem Zdw (hG:Good P A E l pend) {x:Operand} (ho:o.op= .move x\/o.op= .assign x) (hx:RV P E l (e x) (ρ x)) (hk:k (e x) l []=some r):Zt P A E l pend ((execOp ρ o).run P E.w) k r:=by
 have:(execOp ρ o).run P E.w= .ok (.value (ρ x)) E.w:=by rcases ho with ho|ho<;>simp[execOp,ho]
 rw[this];exact .quiet hG hk hx
theorem Zjo (hG:Good P A E l pend) {c a b:Operand} (ho:o.op= .pick c a b) (hc:RV P E l (e c) (ρ c)) (ha:RV P E l (e a) (ρ a)) (hb:RV P E l (e b) (ρ b)) {q:Bool} (hq:e c= .c (.v (.bool q)))
  (hk:k (Zgv q (e a) (e b)) l []=some r):Zt P A E l pend ((execOp ρ o).run P E.w) k r:=by
 rw[hq]at hc;have hv:ρ c= .bool q:=by
  generalize ρ c=u at hc;cases hc with|c h=>cases h with|v _=>rfl
 have:(execOp ρ o).run P E.w= .ok (.value (if q then ρ a else ρ b)) E.w:=by simp[execOp,ho,hv,asBool]
 rw[this];refine .quiet hG hk ?_;unfold Zgv;split
 ·rename_i p' q' h1 h2;rw[h1]at ha;rw[h2]at hb;generalize ρ a=ua at ha;generalize ρ b=ub at hb;cases ha with|c h=>cases h with|v _=>
  cases hb with|c h=>cases h with|v _=>
  cases q<;>exact .c (.v rfl)
 ·cases q
  ·exact hb
  ·exact ha
theorem Be {c:C} {k:List C->Option R} {r:R} (h:asP c k=some r): ∃cs,c= .cp cs/\k cs=some r:=by
 unfold asP at h;split at h
 ·exact⟨_,rfl,h⟩
 ·cases h
theorem Zdx {c:C} {k:Nat->List C->Option R} {r:R} (h:asSl c k=some r): ∃n cs,(c= .sl n cs\/(c= .nl/\n=0/\cs=[]))/\k n cs=some r:=by
 unfold asSl slOf at h;cases c with
 |sl n cs=>exact⟨_,_, .inl rfl,h⟩
 |nl=>exact⟨0,[], .inr ⟨rfl,rfl,rfl⟩,h⟩
 |_=>cases h
theorem Zbu {c:C} {k:ByteArray->Option R} {r:R} (h:asS c k=some r): ∃s,c= .v (.string s)/\k s=some r:=by
 unfold asS at h;split at h
 ·exact⟨_,rfl,h⟩
 ·cases h
theorem Re {kd:IntKind} {c:C} {k:Int->Option R} {r:R} (h:asI kd c k=some r): ∃n,c= .v (.int kd n)/\k n=some r:=by
 unfold asI at h;split at h
 ·split at h
  ·rename_i e;subst e;exact⟨_,rfl,h⟩
  ·cases h
 ·cases h
theorem Zjp {c:C} {k:FuncId->List C->Option R} {r:R} (h:Zet c k=some r): ∃f cs,c= .fn f cs/\k f cs=some r:=by
 unfold Zet at h;split at h
 ·exact⟨_,_,rfl,h⟩
 ·cases h
theorem RC.cp_at {w:World} {Pr:Nat->Nat->Prop} {cs:List C} {u:Value} (h:RC w Pr (.cp cs) u): ∃a,u= .pointer (some a)/\(cs=[]\/ ∃g o,a=⟨g,o,none⟩/\At w Pr g o cs/\ ∀j,j<cs.length->Pr g (o+j)):=by
 cases h with
 |cp0=>exact⟨_,rfl, .inl rfl⟩
 |cp h1 h2=>exact⟨_,rfl, .inr ⟨_,_,rfl,λj c hj=>⟨_,(h1 j c hj).1,h2 j c hj⟩,λj hj=>(h1 j _ (Zm0 hj)).2⟩⟩
theorem Zjq {t:TypeId} {k:V->Option R} {r:R} (h:ldC P t [] k=some r): ∃d i,P.underlying t=some d/\P.info? t=some i/\Yi P t=true/\i.size=0/\k (.agg [])=some r:=by
 obtain⟨d,hd⟩:=Qk h;obtain⟨i,hi,⟨ha,hle,hk⟩|⟨_,c,rest,e,_⟩⟩:=Gd h
 ·have:i.size=0:=by simpa using hle
  rw[this]at hk;exact⟨d,i,hd,hi,ha,this,hk⟩
 ·cases e
theorem Hg {w:World} {Pr:Nat->Nat->Prop} {t:TypeId} {cs:List C} {a:Addr} (hc:cs=[]\/ ∃g o,a=⟨g,o,none⟩/\At w Pr g o cs/\ ∀j,j<cs.length->Pr g (o+j)) {k:V->Option R} {r:R}
  (h0:ldC P t cs k=some r): ∃v u,k v=some r/\(loadVar t a).run P w= .ok u w/\((∃c,v= .c c/\RC w Pr c u)\/(∃cs' us,v= .agg cs'/\u= .agg us.toArray/\RCs w Pr cs' us)):=by
 rcases hc with rfl|⟨g,o,rfl,hat,_⟩
 ·obtain⟨d,i,hd,hi,ha,hs,hk⟩:=Zjq h0;exact⟨_, .agg #[],hk,by simp[loadVar,Y2 t w d hd,ha,run_sizeOf hi,hs,loadCells,loadCellsFrom], .inr ⟨[],[],rfl,rfl, .nil⟩⟩
 ·obtain⟨d,hd⟩:=Qk h0;exact Yv hd hat h0
theorem T5 {w:World} {t:TypeId} {i:TypeInfo} (hi:P.info? t=some i) (ha:Yi P t=true) {g o:Nat} {us:List Value} (h: ∀(j:Nat) (u:Value),us[j]? =some u->w.cell? ⟨g,o+j,none⟩=some u) (hl:us.length=Zg P t):
  (loadVar t ⟨g,o,none⟩).run P w= .ok (.agg us.toArray) w:=by
 obtain⟨d,hd⟩:=Rv (i:=i) ha;have hrun:=run_loadCells_list (P:=P) w ⟨g,o,none⟩ us (λj v hv=>by rw[Yu];exact h j v hv);have hsz:Zg P t=i.size:=by simp[Zg,hi]
 rw[hl,hsz]at hrun;simp[loadVar,Y2 t w d hd,ha,run_sizeOf hi,hrun]
theorem Zjr (hG:Good P A E l pend) {t:TypeId} {a:Operand} {strict:Bool} (ho:o.op= .load t a) {x:V} {u:Value} (hx:RV P E l x u) (hu:ρ a=u) (h:Z8 P l k strict t x=some r):Zt P A E l pend ((execOp ρ o).run P E.w) k r:=by
 have key: ∀ad v w',u= .pointer (some ad)->(loadVar t ad).run P E.w= .ok v w' ->(execOp ρ o).run P E.w= .ok (.value v) w':=by
  intro ad v w' h1 h2;simp[execOp,ho,hu,h1,Instr.loadAt,Instr.sureAddr,h2]
 cases x with
 |c c=>
  obtain⟨cs,rfl,hh⟩:=Be h;cases hx with|c hc=>
  obtain⟨ad,e1,hat⟩:=hc.cp_at;obtain⟨v,u',hk,hr,hv⟩:=Hg (P:=P) hat hh;rw[key ad u' _ e1 hr];exact .quiet hG hk (Uf hv)
 |ptr s off=>
  have hob: ∀t' fz cs,Z4 (l s)=some (t',fz,cs)->ldC P t (cs.drop off) (λv=>k v l [])=some r->Zt P A E l pend ((execOp ρ o).run P E.w) k r:=by
   intro t' fz cs hl h;cases hx with
   |ptrDead hd=>rw[hd]at hl;cases hl
   | @ptr _ _ g hr=>
    have hat:=((Tm hG hl hr).1.at_).drop off;rw[Zmt]at hat;obtain⟨d,hd⟩:=Qk h;obtain⟨v,u',hk,hr',hv⟩:=Yv (P:=P) hd hat h;rw[key _ u' _ rfl hr'];exact .quiet hG hk (Uf hv)
  simp only[Z8]at h;cases hl:l s with
  |dead=>rw[hl]at h;cases h
  |ob t' fz cs=>rw[hl]at h;exact hob t' fz cs (by rw[hl];rfl) h
  |sb t' fz cs=>rw[hl]at h;exact hob t' fz cs (by rw[hl];rfl) h
  |mp _ _ _=>rw[hl]at h;cases h
  |cl _=>rw[hl]at h;cases h
  |mr _ _ _ _=>rw[hl]at h;cases h
  |mf _ _ _ _ _ _ _=>rw[hl]at h;cases h
  |it _ _ _ _ _=>rw[hl]at h;cases h
  |ir _ _=>rw[hl]at h;cases h
  |pk g' t' q pe=>
   rw[hl]at h;cases pe with
   |some _=>cases h
   |none=>
   obtain⟨hb,h⟩:=Za h;rw[Zmq]at hb;obtain⟨ha,hi⟩:=hb;simp only[Znn]at ha;obtain⟨d,hd⟩:=Zng.1 hi;obtain⟨p,hp,h⟩:=Rws.look_eq h;obtain⟨gb,cur,hr',hps,hg,hlen,_,hxx,_⟩:=Lg hG hl;cases hx with
   |ptrDead hd'=>rw[hd']at hl;cases hl
   | @ptr _ _ g hr=>
    rw[hr']at hr;injection hr with hr;subst hr
    have hlt:off<cur.size:=Zne (Rws.at_lt hp) hlen;obtain⟨_,hpc⟩:=hxx off p cur[off] hp (by simp[hlt]);have hpc:=hpc (λe he=>by cases he);have hc:E.w.cell? ⟨gb,off,none⟩=some cur[off]:=(cell_of_row E.w _ off _ _ _ hg).trans (by simp[hlt]);cases p with
    |c c=>
     have hat:At E.w E.Pr gb off [c]:=λj c' hj=>by
      cases j with
      |zero=>simp at hj;subst hj;exact⟨_,hc,hpc⟩
      |succ j=>simp at hj
     obtain⟨v,u',hk,hr',hv⟩:=Yv (P:=P) hd hat h;rw[key _ u' _ rfl hr'];exact .quiet hG hk (Uf hv)
    |r te row=>
     rw[key _ cur[off] E.w rfl (by simp[loadVar,Y2 t E.w d hd,ha,hc])];exact .quiet hG h (.rw (by rw[hl];rfl) hpc.2.rowV)
  |mx t' xs=>
   rw[hl]at h;simp only at h;cases hx with
   |ptrDead hd'=>rw[hd']at hl;cases hl
   | @ptr _ _ g hr=>
    obtain⟨cur,hg,hlen,hxx,_⟩:=Wa hG hl hr;have hcell: ∀(j:Nat) (u:Value),cur[j]? =some u->E.w.cell? ⟨g,j,none⟩=some u:=λj u hj=>(cell_of_row E.w _ j _ _ _ hg).trans hj;cases ha:Yi P t with
    |true=>
     rw[ha]at h;obtain⟨hb,hk⟩:=Za h;have hle:=Zmu hb;obtain⟨cs,l1,E1,h1,hG1,hM,hc,_⟩:=Rb (us:=(cur.toList.drop off).take (Zg P t)) hG (by simp;omega) (λj x u hx hu=>by
      rw[Znc]at hx hu;split at hx
      ·rename_i hj;rw[if_pos hj,Znd]at hu;rw[Znd]at hx;exact hxx _ x u hx (by simpa using hu)
      ·cases hx) hk
     have hat:At E1.w E1.Pr g off cs:=hc.at_ rfl λj u hu=>by
      rw[Znc]at hu;split at hu
      ·rw[Znd]at hu;rw[hM.w];exact hcell _ u (by simpa using hu)
      ·cases hu
     obtain⟨d,hd⟩:=Qk h1;obtain⟨v,u',hk,hr',hv⟩:=Yv (P:=P) hd hat h1;rw[hM.w]at hr';rw[key _ u' _ rfl hr'];exact .mild hG1 hM hk (Uf hv)
    |false=>
     rw[ha]at h;simp only at h;cases hxs:xs.drop off with
     |nil=>rw[hxs]at h;cases h
     |cons y ys=>
      rw[hxs]at h;simp only at h;have hy:xs[off]? =some y:=by
       have:(xs.drop off)[0]? =some y:=by rw[hxs];rfl
       rwa [Znd,Znz]at this
      have hlt:off<cur.size:=by have:=(Zmx.1 hy).1;omega
      obtain⟨hrv,h1c⟩:=hxx off y cur[off] hy (by simp[hlt]);have hc:=hcell off cur[off] (by simp[hlt]);unfold Sb at h;split at h
      ·rename_i c;cases hrv with|c hrc=>
       have hat:At E.w E.Pr g off [c]:=λj c' hj=>by
        cases j with
        |zero=>simp at hj;subst hj;exact⟨_,hc,hrc⟩
        |succ j=>simp at hj
       obtain⟨d,hd⟩:=Qk h;obtain⟨v,u',hk,hr',hv⟩:=Yv (P:=P) hd hat h;rw[key _ u' _ rfl hr'];exact .quiet hG hk (Uf hv)
      ·obtain⟨hb,hk⟩:=Za h;obtain⟨d,hd⟩:=Zng.1 hb;rw[key _ cur[off] E.w rfl (by simp[loadVar,Y2 t E.w d hd,ha,hc])];exact .quiet hG hk hrv
      ·obtain⟨hb,hk⟩:=Za h;obtain⟨d,hd⟩:=Zng.1 hb;rw[key _ cur[off] E.w rfl (by simp[loadVar,Y2 t E.w d hd,ha,hc])];exact .quiet hG hk hrv
      ·obtain⟨hb,hk⟩:=Za h;obtain⟨d,hd⟩:=Zng.1 hb;rw[key _ cur[off] E.w rfl (by simp[loadVar,Y2 t E.w d hd,ha,hc])];exact .quiet hG hk hrv
      ·cases h
 |_=>cases h
theorem Zg7 (hG:Good P A E l pend) {t:TypeId} {a:Operand} (ho:o.op= .load t a) {x:V} {u:Value} (hx:RV P E l x u) (hu:ρ a=u) (h:Jg P l k t x=some r):Zt P A E l pend ((execOp ρ o).run P E.w) k r:=by
 unfold Jg at h;split at h
 ·rename_i s off;split at h
  ·rename_i t' xs hl;cases hx with
   |ptrDead hd'=>rw[hd']at hl;cases hl
   | @ptr _ _ g hr=>
    obtain⟨cur,hg,hlen,hxx,_⟩:=Wa hG hl hr;obtain⟨hb,hk⟩:=Za h;rw[Zmq,Zmq]at hb;obtain⟨⟨ha,hi⟩,hle⟩:=hb;have hle:=Zmu hle;obtain⟨i,hi⟩:=Zng.1 hi;have hsub: ∀(j:Nat) (x:V) (u:Value),((xs.drop off).take (Zg P t))[j]? =some x->((cur.toList.drop off).take (Zg P t))[j]? =some u->RV P E l x u/\u.oneCell'=true:=λj x u hx hu=>by
     rw[Znc]at hx hu;split at hx
     ·rename_i hj;rw[if_pos hj,Znd]at hu;rw[Znd]at hx;exact hxx _ x u hx (by simpa using hu)
     ·cases hx
    have hll:((cur.toList.drop off).take (Zg P t)).length=((xs.drop off).take (Zg P t)).length:=by simp;omega
    have hload:=T5 (P:=P) (w:=E.w) (g:=g) (o:=off) (us:=(cur.toList.drop off).take (Zg P t)) hi ha (λj u hu=>by
     rw[Znc]at hu;split at hu
     ·rw[Znd]at hu;exact(cell_of_row E.w _ (off+j) _ _ _ hg).trans (by simpa using hu)
     ·cases hu) (by simp;omega)
    have hrun:(execOp ρ o).run P E.w= .ok (.value (.agg ((cur.toList.drop off).take (Zg P t)).toArray)) E.w:=by
     simp[execOp,ho,hu,Instr.loadAt,Instr.sureAddr,hload]
    rw[hrun];refine .quiet hG hk (.mag hll (λu hu=> ?_) λj x u hx hu=>(hsub j x u hx hu).1);obtain⟨j,hj,rfl⟩:=Znp.1 hu;exact(hsub j ((xs.drop off).take (Zg P t))[j] _ (Zm0 (by omega)) (Zm0 hj)).2
  ·cases h
 ·cases h
theorem Zg8 (hG:Good P A E l pend) {mag:Bool} {t:TypeId} {a:Operand} {strict:Bool} (ho:o.op= .load t a) {x:V} {u:Value} (hx:RV P E l x u) (hu:ρ a=u) (h:Dj P l k mag strict t x=some r):Zt P A E l pend ((execOp ρ o).run P E.w) k r:=by
 unfold Dj at h;split at h
 ·exact Zg7 hG ho hx hu h
 ·exact Zjr hG ho hx hu h
theorem ne_dead {o:Obj} (h:live o=true):o≠ .dead:=by rintro rfl;cases h
theorem Zlw (hG:Good P A E l pend) {a:Operand} (ho:o.op= .nilCheck a) {x:V} {u:Value} (hx:RV P E l x u) (hu:ρ a=u) (h:R2 l k x=some r):Zt P A E l pend ((execOp ρ o).run P E.w) k r:=by
 cases x with
 |c c=>
  simp only[R2]at h;split at h
  ·cases hx with|c hc=>
   obtain⟨ad,e1,_⟩:=hc.cp_at;have:(execOp ρ o).run P E.w= .ok (.value u) E.w:=by rw[e1]at hu;simp[execOp,ho,hu,e1]
   rw[this];exact .quiet hG h (.c hc)
  ·rename_i f' cs';cases hx with|c hc=>
   cases hc with
   | @fn _ _ us h1 h2=>
    have:(execOp ρ o).run P E.w= .ok (.value (.func (.func f') #[] us.toArray)) E.w:=by simp[execOp,ho,hu]
    rw[this];exact .quiet hG h (.c (.fn h1 h2))
  ·cases h
 |ptr s off=>
  simp only[R2]at h;have h':l s≠ .dead/\k (.ptr s off) l []=some r:=⟨ne_dead (Za h).1,(Za h).2⟩;cases hx with
  |ptrDead hd=>exact absurd hd h'.1
  | @ptr _ _ g hr=>
   have:(execOp ρ o).run P E.w= .ok (.value (.pointer (some ⟨g,off,none⟩))) E.w:=by simp[execOp,ho,hu]
   rw[this];exact .quiet hG h'.2 (.ptr hr)
 |_=>cases h
theorem Zlx (hG:Good P A E l pend) {op:BinOp} {t yt:TypeId} {a b:Operand} (ho:o.op= .binOp op t a b yt) {x y:V} (hx:RV P E l x (ρ a)) (hy:RV P E l y (ρ b)) (h:S5 P op t x y (λv=>k v l [])=some r):
  Zt P A E l pend ((execOp ρ o).run P E.w) k r:=by
 obtain⟨z,y,hz,hk,hr⟩:=Zbt hx hy h a b E.w;have:(execOp ρ o).run P E.w= .ok (.value z) E.w:=by
  simp only[execOp,ho];rw[Sem.run_bind,hr];rfl
 rw[this];exact .quiet hG hk hz
theorem op_un (hG:Good P A E l pend) {op:UnOp} {t:TypeId} {a:Operand} (ho:o.op= .unOp op t a) {x:V} (hx:RV P E l x (ρ a)) (h:unV op x (λv=>k v l [])=some r):Zt P A E l pend ((execOp ρ o).run P E.w) k r:=by
 obtain⟨z,hz,hk,hr⟩:=Zex hx h E.w;have:(execOp ρ o).run P E.w= .ok (.value z) E.w:=by
  simp only[execOp,ho];rw[Sem.run_bind,hr];rfl
 rw[this];exact .quiet hG hk (.c (.v hz))
theorem Zjs (hG:Good P A E l pend) {src dst:TypeId} {a:Operand} (ho:o.op= .convert src dst a) {x:V} (hx:RV P E l x (ρ a)) (h:N3 P src dst x (λv=>k v l [])=some r):Zt P A E l pend ((execOp ρ o).run P E.w) k r:=by
 obtain⟨z,hz,hk,hr⟩:=Wb hx h E.w;have:(execOp ρ o).run P E.w= .ok (.value z) E.w:=by
  simp only[execOp,ho];rw[Sem.run_bind,hr];rfl
 rw[this];exact .quiet hG hk (.c (.v hz))
theorem Z3 {t:TypeId} {i:TypeInfo} (h:P.info? t=some i):Zg P t=i.size:=by simp[Zg,h]
theorem info_of_underlying {t:TypeId} {d:TypeDesc} (h:P.underlying t=some d): ∃i,P.info? t=some i:=by
 cases hi:P.info? t with
 |some i=>exact⟨i,rfl⟩
 |none=>simp[Program.underlying,hi]at h
theorem Gf {T:TypeId} {f fo:Nat} {ft:TypeId} (h:Hn P T f=some (fo,ft)): ∃fs fd,P.underlying T=some (.struct fs)/\fs[f]? =some fd/\fd.offset=fo/\fd.type=ft:=by
 unfold Hn at h;split at h
 ·rename_i fs hu;split at h
  ·rename_i fd hf;injection h with h;injection h with h1 h2
   exact⟨fs,fd,hu,by simpa using hf,h1,h2⟩
  ·cases h
 ·cases h
theorem Gg (g o:Nat) (a:Addr) (fd:Field) (hs:Zg P fd.type≠0) (w:World):(fieldPlace a fd).run P w= .ok (a.add fd.offset) w:=by
 have: ∃i,P.info? fd.type=some i:=by
  cases hi:P.info? fd.type with
  |some i=>exact⟨i,rfl⟩
  |none=>simp[Zg,hi]at hs
 obtain⟨i,hi⟩:=this;have hne:i.size≠0:=by rw[<-Z3 hi];exact hs
 simp[fieldPlace,run_sizeOf hi,hne]
theorem Bf (hG:Good P A E l pend) {T:TypeId} {f:Nat} {a:Operand} (ho:o.op= .fieldAddr T a f) {x:V} {u:Value} (hx:RV P E l x u) (hu:ρ a=u) (h0:Zw P l k T f x=some r):Zt P A E l pend ((execOp ρ o).run P E.w) k r:=by
 unfold Zw at h0;split at h0
 case h_2=>cases h0
 case h_1 fo ft hf=>
  obtain⟨hb,h1⟩:=Za h0;obtain⟨fs,fd,hT,hfd,rfl,rfl⟩:=Gf hf;have hs:Zg P fd.type≠0:=by
   intro e;rw[e]at hb;cases hb
  have key: ∀ad,u= .pointer (some ad)->(execOp ρ o).run P E.w= .ok (.value (.pointer (some (ad.add fd.offset)))) E.w:=by
   intro ad h1;simp[execOp,ho,hu,h1,Instr.fieldAt,run_underlying hT,hfd,Instr.sureAddr,Gg 0 0 ad fd hs]
  cases x with
  |c c=>
   obtain⟨cs,rfl,hh⟩:=Be h1;cases hx with|c hc=>
   obtain⟨ad,e1,hat⟩:=hc.cp_at;rw[key ad e1];refine .quiet hG hh (.c ?_);rcases hat with rfl|⟨g,o',rfl,hat,hp⟩
   ·simp only[List.drop_nil];exact .cp0
   ·rw[Yu];obtain⟨us,h1,h2⟩:=(hat.drop fd.offset).fn (λj hj=>by have:=hp (fd.offset+j) (by simp only[Zom]at hj;omega);rwa [<-Zq9]at this);exact .cp h1 h2
  |ptr s off=>
   obtain⟨hl,hk⟩:=Za h1;cases hx with
   |ptrDead hd=>exact absurd hd (ne_dead hl)
   | @ptr _ _ g hr=>
    rw[key _ rfl,Yu];exact .quiet hG hk (.ptr hr)
  |_=>cases h1
theorem Zg9 (hG:Good P A E l pend) {T:TypeId} {f:Nat} {a:Operand} (ho:o.op= .field T a f) {x:V} {u:Value} (hx:RV P E l x u) (hu:ρ a=u) (h0:Ti P l k T f x=some r):Zt P A E l pend ((execOp ρ o).run P E.w) k r:=by
 unfold Ti at h0;split at h0
 case h_2=>cases h0
 case h_1 fo ft cs hf=>
  obtain⟨fs,fd,hT,hfd,rfl,rfl⟩:=Gf hf;cases hx with
  | @agg _ us hc=>
   obtain⟨v,u',hk,hr,hv⟩:=Jj (P:=P) (w:=E.w) hc fd.offset h0;have:(execOp ρ o).run P E.w= .ok (.value u') E.w:=by
    simp[execOp,ho,hu,Instr.field,run_underlying hT,hfd,asAgg,hr]
   rw[this];exact .quiet hG hk (Uf hv)
theorem Uq {x:V} {i:Int} (h:Vl x=some i) {u:Value} (hx:RV P E l x u): ∃kd,u= .int kd i:=by
 unfold Vl at h;split at h
 ·injection h with h;subst h
  cases hx with|c hc=>cases hc with|v _=>exact⟨_,rfl⟩
 ·cases h
theorem Mt {i:Int} {n:Nat} (h:inR i n=true):0<=i/\i<n:=by
 unfold inR at h;simpa using h
theorem RC.sl_at {w:World} {Pr:Nat->Nat->Prop} {n:Nat} {cs:List C} {u:Value} (h:RC w Pr (.sl n cs) u):
  ∃a cap,u= .slice a n cap/\n<=cap/\cap<=maxLen/\((n=0/\cs=[])\/ ∃g o,a=some ⟨g,o,none⟩/\At w Pr g o cs/\ ∀j,j<cs.length->Pr g (o+j)):=by
 cases h with
 |sl0 hc=>exact⟨_,_,rfl,Znv _,hc, .inl ⟨rfl,rfl⟩⟩
 |sl hn hc h1 h2=>exact⟨_,_,rfl,hn,hc, .inr ⟨_,_,rfl,λj c hj=>⟨_,(h1 j c hj).1,h2 j c hj⟩,λj hj=>(h1 j _ (Zm0 hj)).2⟩⟩
theorem Li {c:C} {w:World} {Pr:Nat->Nat->Prop} {u:Value} (hc:RC w Pr c u) {kk:Nat->List C->Option R} (h:asSl c kk=some r):
  ∃n cs a cap,kk n cs=some r/\u= .slice a n cap/\n<=cap/\cap<=maxLen/\((n=0/\cs=[])\/ ∃g o,a=some ⟨g,o,none⟩/\At w Pr g o cs/\ ∀j,j<cs.length->Pr g (o+j)):=by
 obtain⟨n,cs,rfl|⟨rfl,rfl,rfl⟩,hk⟩:=Zdx h
 ·obtain⟨a,cap,h1,h2,h3,h4⟩:=hc.sl_at;exact⟨n,cs,a,cap,hk,h1,h2,h3,h4⟩
 ·cases hc with
  |nl=>exact⟨0,[],none,0,hk,rfl,Zm8 _,by unfold maxLen;omega, .inl ⟨rfl,rfl⟩⟩
theorem At.toC {w:World} {Pr:Nat->Nat->Prop} {g o:Nat} {cs:List C} (h:At w Pr g o cs) (hp: ∀j,j<cs.length->Pr g (o+j)):RC w Pr (.cp cs) (.pointer (some ⟨g,o,none⟩)):=by
 obtain⟨us,h1,h2⟩:=h.fn hp;exact .cp h1 h2
theorem Zbv {Pr:Nat->Nat->Prop} {g o m:Nat} {cs:List C} (hp: ∀j,j<cs.length->Pr g (o+j)): ∀j,j<(cs.drop m).length->Pr g (o+m+j):=
 λj hj=>by have:=hp (m+j) (by simp only[Zom]at hj;omega);rwa [<-Zq9]at this
theorem Bg (hG:Good P A E l pend) {T:TypeId} {a b:Operand} (ho:o.op= .indexAddr T a b) {x y:V} {u v:Value} (hx:RV P E l x u) (hy:RV P E l y v) (hu:ρ a=u) (hv:ρ b=v)
  (h0:Zp P l k T x y=some r):Zt P A E l pend ((execOp ρ o).run P E.w) k r:=by
 unfold Zp at h0;split at h0
 case h_3=>cases h0
 case h_1 i el hi hT=>
  obtain⟨kd,rfl⟩:=Uq hi hy;split at h0
  case h_2=>cases h0
  case h_1 inf hinf=>
   have key: ∀ad n cap,u= .slice (some ad) n cap->0<=i->i<n->(execOp ρ o).run P E.w= .ok (.value (.pointer (some (ad.add (i.toNat*inf.size))))) E.w:=by
    intro ad n cap h1 h2 h3;simp[execOp,ho,hu,hv,h1,Instr.indexAt,asIntOf,run_underlying hT,h2,h3,run_sizeOf hinf]
   cases x with
   |c c=>
    cases hx with|c hc=>
    obtain⟨n,cs,a',cap,hk,e1,_,_,hz⟩:=Li hc h0;obtain⟨hb,hk⟩:=Za hk;obtain⟨hb1,hb2⟩:=Mt hb;rcases hz with⟨rfl,_⟩|⟨g,o',rfl,hat,hp⟩
    ·omega
    ·rw[key _ _ _ e1 hb1 hb2,Yu];exact .quiet hG hk (.c ((hat.drop _).toC (Zbv hp)))
   |own s off n=>
    simp only at h0;split at h0
    case h_2=>cases h0
    case h_1 q hl=>
     obtain⟨t',fz,cs⟩:=q;obtain⟨hb,hk⟩:=Za h0;obtain⟨hb1,hb2⟩:=Mt hb;cases hx with
     |ownDead hd=>rw[hd]at hl;cases hl
     |ownMx hd=>first|exact(Uk hd hl).elim|(rw[hl]at hd;cases hd)
     |ownNil _ _=>omega
     |own0 _ _ _=>omega
     | @own _ _ _ g cap _ _ _ hr _ _ _ _=>
      rw[key _ _ _ rfl hb1 hb2,Yu];exact .quiet hG hk (.ptr hr)
   |ws s n=>
    obtain⟨hb,hk⟩:=Za h0;rw[Zmq]at hb;obtain⟨hb1,hb2⟩:=Mt hb.2;cases hx with
    |wsDead hd=>rw[hd]at hb;cases hb.1
    |ws hr _=>
     rw[key _ _ _ rfl hb1 hb2,Yu,Zmt];exact .quiet hG hk (.ptr hr)
   |_=>cases h0
 case h_2 i m el hi hT=>
  obtain⟨kd,rfl⟩:=Uq hi hy;split at h0
  case h_2=>cases h0
  case h_1 inf hinf=>
   have key: ∀ad,u= .pointer (some ad)->0<=i->i<m->(execOp ρ o).run P E.w= .ok (.value (.pointer (some (ad.add (i.toNat*inf.size))))) E.w:=by
    intro ad h1 h2 h3;simp[execOp,ho,hu,hv,h1,Instr.indexAt,asIntOf,run_underlying hT,h2,h3,run_sizeOf hinf,Instr.sureAddr]
   cases x with
   |c c=>
    obtain⟨cs,rfl,hh⟩:=Be h0;obtain⟨hb,hk⟩:=Za hh;obtain⟨hb1,hb2⟩:=Mt hb;cases hx with|c hc=>
    obtain⟨ad,e1,hat⟩:=hc.cp_at;rw[key ad e1 hb1 hb2];refine .quiet hG hk (.c ?_);rcases hat with rfl|⟨g,o',rfl,hat,hp⟩
    ·simp only[List.drop_nil];exact .cp0
    ·rw[Yu];exact(hat.drop _).toC (Zbv hp)
   |ptr s off=>
    obtain⟨hb,hk⟩:=Za h0;rw[Zmq]at hb;obtain⟨hb1,hb2⟩:=Mt hb.2;cases hx with
    |ptrDead hd=>exact absurd hd (ne_dead hb.1)
    | @ptr _ _ g hr=>
     rw[key _ rfl hb1 hb2,Yu];exact .quiet hG hk (.ptr hr)
   |_=>cases h0
theorem Zha (hG:Good P A E l pend) {T:TypeId} {a b:Operand} (ho:o.op= .index T a b) {x y:V} {u v:Value} (hx:RV P E l x u) (hy:RV P E l y v) (hu:ρ a=u) (hv:ρ b=v)
  (h0:Q1 P l k T x y=some r):Zt P A E l pend ((execOp ρ o).run P E.w) k r:=by
 unfold Q1 at h0;split at h0
 case h_3=>cases h0
 case h_1 i m el hi hT=>
  obtain⟨kd,rfl⟩:=Uq hi hy;split at h0
  case h_2=>cases h0
  case h_1 inf hinf=>
   cases x with
   |agg cs=>
    obtain⟨hb,hk⟩:=Za h0;obtain⟨hb1,hb2⟩:=Mt hb;cases hx with
    | @agg _ us hc=>
     obtain⟨z,u',hk',hr,hz⟩:=Jj (P:=P) (w:=E.w) hc (i.toNat*inf.size) hk;have:(execOp ρ o).run P E.w= .ok (.value u') E.w:=by
      simp[execOp,ho,hu,hv,Instr.index,asIntOf,run_underlying hT,hb1,hb2,run_sizeOf hinf,hr]
     rw[this];exact .quiet hG hk' (Uf hz)
   |_=>cases h0
 case h_2 i hi hT=>
  obtain⟨kd,rfl⟩:=Uq hi hy;cases x with
  |c c=>
   obtain⟨s,rfl,hh⟩:=Zbu h0;obtain⟨hb,hk⟩:=Za hh;obtain⟨hb1,hb2⟩:=Mt hb;cases hx with|c hc=>cases hc with|v _=>
   have hlt:i.toNat<s.size:=by omega
   have hg:s[i.toNat]? =some s[i.toNat]:=by simp[getElem?_def,hlt]
   have:(execOp ρ o).run P E.w= .ok (.value (.int .u8 (s.data.getD i.toNat 0).toNat)) E.w:=by
    simp only[execOp,ho,hu,hv,Instr.index,asIntOf,run_underlying hT,Sem.run_bind,Sem.run_pure,Result.andThen_ok,if_pos hb1,hg];have:s.data.getD i.toNat 0=s[i.toNat]:=by
     have hlt':i.toNat<s.data.size:=hlt;unfold Array.getD;rw[dif_pos hlt'];rfl
    rw[this]
   rw[this];exact .quiet hG hk (.c (.v rfl))
  |_=>cases h0
theorem Zbw (hG:Good P A E l pend) {i:Nat} {a:Operand} (ho:o.op= .extract a i) {x:V} {u:Value} (hx:RV P E l x u) (hu:ρ a=u) (h0:Xp l k i x=some r):Zt P A E l pend ((execOp ρ o).run P E.w) k r:=by
 cases x with
 |tup vs=>
  simp only[Xp]at h0;split at h0
  case h_2=>cases h0
  case h_1 z hz=>
   cases hx with
   | @tup _ us hs h=>
    have hlt:i<us.length:=by rw[hs];exact(Zmx.1 hz).1
    have hg:us[i]? =some us[i]:=Zm0 hlt;have:(execOp ρ o).run P E.w= .ok (.value us[i]) E.w:=by simp[execOp,ho,hu,Instr.extract,hg]
    rw[this];exact .quiet hG h0 (h i z _ hz hg)
 |ent s n j=>
  simp only[Xp]at h0;cases hx with
  | @ent _ _ _ v hv=>
   split at h0
   ·have:(execOp ρ o).run P E.w= .ok (.value v) E.w:=by simp[execOp,ho,hu,Instr.extract]
    rw[this];exact .quiet hG h0 hv
   ·have:(execOp ρ o).run P E.w= .ok (.value (.int .i64 j)) E.w:=by simp[execOp,ho,hu,Instr.extract]
    rw[this];exact .quiet hG h0 (.c (.v rfl))
   ·cases h0
 |est j=>
  simp only[Xp]at h0;cases hx with
  | @est _ v=>
   split at h0
   ·have:(execOp ρ o).run P E.w= .ok (.value (.int .i64 j)) E.w:=by simp[execOp,ho,hu,Instr.extract]
    rw[this];exact .quiet hG h0 (.c (.v rfl))
   ·cases h0
 |_=>cases h0
end
end Go.PM
