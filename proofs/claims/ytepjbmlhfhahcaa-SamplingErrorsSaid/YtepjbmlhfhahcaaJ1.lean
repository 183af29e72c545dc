/- Parts put together: PMa, PMb, PMc, PMd, PMe, PMf, PMg. -/
import Derived.WalkKit
import Derived.Orders
import Derived.RangeFuncNested
import Derived.OrdersIn
import Derived.TacticsIn
import Derived.LoopNIn
import Derived.RangeFuncCalls
import Derived.RangeFuncLeaves
import Derived.Laws.StructEq
set_option linter.defProp false
set_option linter.unusedSimpArgs false
set_option linter.unusedVariables false
open Go.IntKind renaming i64→Zi5
open List renaming range→Zjg
open Nat renaming beq→Zi8,ble→Zjb,blt→Zje,succ→Zjd,max→Zjf,max_le→Zjh,lt_trans→Zji,add_assoc→Zjj
namespace Go.PM
open Go
def Zfr:=@Nat.eq_of_beq_eq_true
def Zfs:=@Bool.and_eq_true
def Zft:=@Array.getElem?_eq_some_iff
def Zfu:=@Nat.le_of_ble_eq_true
def Zfv:=@List.getElem?_eq_some_iff
def Zfw:=@List.getElem?_eq_getElem
def Zfx:=@List.mem_of_getElem?
def Zfy:=@Option.bind_eq_some_iff
def Zfz:=@List.all_eq_true
def Zf0:=@List.getElem?_map
def Zf1:=@Nat.lt_of_lt_of_le
def Zf2:=@List.eq_nil_of_length_eq_zero
def Zf3:=@List.getElem?_take
def Zf4:=@Nat.le_refl
def Zf5:=@Bool.and_eq_true_iff
def Zf6:=@List.getElem?_drop
def Zf7:=@Option.isSome_iff_exists
def Zf8:=@Array.getElem?_eq_getElem
def Zf9:=@Nat.zero_add
def Zga:=@Nat.le_trans
def Zgb:=@Bool.not_eq_true'
def Zgc:=@List.mem_cons_of_mem
def Zgd:=@Option.map_eq_some_iff
def Zge:=@List.mem_cons
def Zgf:=@List.length_cons
def Zgg:=@List.take_of_length_le
def Zgh:=@Option.bind_some
def Zgi:=@Nat.zero_le
def Zgj:=@List.length_append
def Zgk:=@List.mem_iff_getElem
def Zgl:=@List.getElem?_append_left
def Zgm:=@Int.toNat_natCast
def Zgn:=@List.getElem?_append
def Zgo:=@List.mem_append_left
def Zgp:=@List.length_take
def Zgq:=@Nat.add_zero
def Zgr:=@Array.getD_eq_getD_getElem?
def Zgs:=@Bool.or_eq_true
def Zgt:=@List.append_assoc
def Zgu:=@Nat.pow_le_pow_right
def Zgv:=@Bool.and_self
def Zgw:=@Array.getElem_setIfInBounds_ne
def Zgx:=@Nat.mul_one
def Zgy:=@List.mem_filterMap
def Zgz:=@List.length_nil
def Zg0:=@List.mem_append_right
def Zg1:=@List.map_cons
def Zg2:=@List.length_map
def Zg3:=@List.take_length
def Zg4:=@List.drop_eq_getElem_cons
def Zg5:=@Array.size_setIfInBounds
def Zg6:=@Nat.mul_le_mul_right
def Zg7:=@List.all_cons
def Zg8:=@Bool.not_false
def Zg9:=@List.mem_append
def Zha:=@Nat.two_pow_pos
def Zhb:=@Array.toList_map
def Zhc:=@Nat.beq_refl
def Zhd:=@Nat.le_of_eq
def Zhe:=@List.mem_of_mem_take
def Zhf:=@List.any_eq_false
def Zhg:=@List.getElem?_set_self
def Zhh:=@Nat.mul_div_cancel
def Zhi:=@Nat.pos_of_ne_zero
def Zhj:=@List.getElem?_append_right
def Zhk:=@Array.mem_of_getElem?
def Zhl:=@Bool.eq_iff_iff
def Zhm:=@List.getElem?_set_ne
def Zhn:=@Nat.pow_succ
def Zho:=@List.map_congr_left
def Zhp:=@List.getElem_mem
def Zhq:=@Nat.zero_mul
def Zhr:=@List.foldr_cons
def Zhs:=@Nat.min_eq_left
def Zht:=@List.nodup_cons
def Zhu:=@List.getElem?_toArray
def Zhv:=@Array.getElem?_append_left
def Zhw:=@Nat.div_one
def Zhx:=@List.length_drop
def Zhy:=@Nat.add_comm
def Zhz:=@Nat.lt_irrefl
def Zh0:=@Bool.not_true
def Zh1:=@Option.map_some
def Zh2:=@List.countP_append
def Zh3:=@List.take_zero
def Zh4:=@List.take_succ_eq_append_getElem
def Zh5:=@List.nodup_nil
def Zh6:=@List.map_map
def Zh7:=@Array.getElem?_toList
def Zh8:=@Nat.ble_eq_true_of_le
def Zh9:=@Array.getElem?_modify
def Zia:=@List.countP_le_length
def Zib:=@Nat.lt_succ_self
def Zic:=@Array.eq_empty_of_size_eq_zero
def Zid:=@List.take_append
def Zie:=@List.any_eq_true
def Zif:=@List.cons_append
def Zig:=@Int.mul_le_mul_of_nonneg_right
def Zih:=@List.take_append_of_le_length
def Zii:=@List.pairwise_append
def Zij:=@List.getElem?_of_mem
def Zik:=@List.drop_eq_nil_iff
def Zil:=@List.nil_append
def Zim:=@List.countP_map
def Zin:=@List.getD_eq_getElem?_getD
def Zio:=@Array.foldl_toList
def Zip:=@Array.getElem?_map
def Ziq:=@Bool.false_eq_true
def Zir:=@List.pairwise_cons
def Zis:=@List.drop_zero
def Zit:=@Array.mapM_eq_mapM_toList
def Ziu:=@List.nodup_append
def Ziv:=@List.mem_range'_1
def Ziw:=@List.flatMap_cons
def Zix:=@Nat.le_of_not_lt
def Ziy:=@Nat.sub_zero
def Ziz:=@List.foldl_cons
def Zi0:=@List.any_append
def Zi1:=@List.map_append
def Zi2:=@List.take_drop
def Zi3:=@List.mapM_cons
def Zi4:=@List.take_take
mutual
inductive C where
 |v (x:Value)
 |nl
 |sl (n:Nat) (cs:List C)
 |cp (cs:List C)
 |fn (f:FuncId) (caps:List C)
 |yl (l:Nat) (go:Nat->Bool) (xs:List (List V))
 |mp (kt et:TypeId) (ka va:Option Nat) (es:List (List C×List C))
 |bx (c:C)
inductive V where
 |c (x:C)
 |agg (cs:List C)
 |tup (vs:List V)
 |ptr (s off:Nat)
 |own (s off n:Nat)
 |mp (s:Nat)
 |ws (s n:Nat)
 |fs (n:Nat) (cs:List C)
 |nq (n:Nat) (neg:Bool)
 |gh (s:Nat)
 |ent (s n j:Nat)
 |est (j:Nat)
 |mag (xs:List V)
 |rw(s g j n:Nat)
 |rp (s g j n:Nat)
 |clo (f:FuncId) (s:Nat)
 |un
 |und
end
instance:Inhabited C:=⟨.nl⟩
instance:Inhabited V:=⟨.und⟩
inductive PC where
 |c (x:C)
 |r (te:TypeId) (row:List C)
 deriving Inhabited
inductive Rws where
 |ps (l:List PC)
 |rs (te:TypeId) (rows:List (List C))
 deriving Inhabited
inductive Obj where
 |dead
 |ob (t:TypeId) (fz:Nat) (cs:List C)
 |sb (t:TypeId) (fz:Nat) (cs:List C)
 |mx (t:TypeId) (xs:List V)
 |mp (kt et:TypeId) (es:List (List C×List C))
 |cl (n:Nat)
 |mr (kt et te:TypeId) (es:List (List C×List C))
 |mf (kt et te:TypeId) (es:List (List C×List C)) (q:Option (Nat×List C)) (kc:List C) (x:V)
 |it (kt et:TypeId) (ka va:Option Nat) (es:List (List C×List C))
 |ir (n:Nat) (x:V)
 |pk (g:Nat) (t:TypeId) (q:Rws) (pe:Option (Nat×TypeId×List C))
 deriving Inhabited
structure Log where
 l:Nat
 go:Nat->Bool
 i:Nat
 rest:List (List V)
 st:Bool
 deriving Inhabited
structure Loc where
 fn:Nat->Obj
 log:Option Log
instance:CoeFun Loc (λ_=>Nat->Obj):=⟨Loc.fn⟩
structure Sl where
 fn:Nat->V
 length:Nat
def Sl.set (l:Sl) (t:Nat) (x:V):Sl:=⟨λt'=>bif Zi8 t' t then x else l.fn t',l.length⟩
def Sl.map (g:V->V) (l:Sl):Sl:=⟨λt=>g (l.fn t),l.length⟩
def Sl.get (l:Sl) (t:Nat):V:=bif Zje t l.length then l.fn t else .und
structure St where
 slots:Sl
 loc:Loc
def Loc.put (l:Loc) (s:Nat) (o:Obj):Loc:=⟨λs'=>bif Zi8 s' s then o else l s',l.log⟩
def St.get (σ:St) (t:Nat):V:=σ.slots.get t
def St.put (σ:St) (d:Option Nat) (x:V) (l:Loc):St:=
 match d with
 |some t=>⟨σ.slots.set t x,l⟩
 |none=>⟨σ.slots,l⟩
structure Out where
 r:V
 objs:List Obj
 log:Option Log
abbrev I (n:Int):V:= .c (.v (.int .i64 n))
abbrev B (b:Bool):V:= .c (.v (.bool b))
def Jq:Value->Bool
 | .bool _| .int _ _| .float _ _| .complex _ _ _| .string _| .pointer none| .map none| .chan none| .nilFunc| .nilIface=>true
 |_=>false
def Ge:Value->Option C
 | .slice none 0 0=>some .nl
 | .func (.func f) first captured=>if first.size=0/\captured.size=0 then some (.fn f [])else none
 |x=>if Jq x then some (.v x)else none
def Pu:List Value->Option (List C)
 | []=>some []
 |x::r=>match Ge x,Pu r with
  |some c,some cs=>some (c::cs)
  |_,_=>none
def Nu (x:Value):V:=
 match x with
 | .agg cs=>match Pu cs.toList with|some l=> .agg l|none=> .und
 |x=>match Ge x with|some c=> .c c|none=> .und
def St.ev (gl:Nat->Option (List C)) (σ:St):Operand->V
 | .tmp t=>σ.get t
 | .const x=>Nu x
 | .global g=>match gl g with|some cs=> .c (.cp cs)|none=> .und
 | .func f=> .c (.fn f [])
section
variable {R:Type}
def asI (kd:IntKind) (c:C) (k:Int->Option R):Option R:=
 match c with
 | .v (.int kd' n)=>if kd'=kd then k n else none
 |_=>none
def asB (c:C) (k:Bool->Option R):Option R:=
 match c with
 | .v (.bool b)=>k b
 |_=>none
def asS (c:C) (k:ByteArray->Option R):Option R:=
 match c with
 | .v (.string s)=>k s
 |_=>none
def slOf (c:C):Option (Nat×List C):=
 match c with
 | .sl n cs=>some (n,cs)
 | .nl=>some (0,[])
 |_=>none
def asSl (c:C) (k:Nat->List C->Option R):Option R:=
 match slOf c with
 |some p=>k p.1 p.2
 |none=>none
def asFn (c:C) (k:FuncId->List C->Option R):Option R:=
 match c with
 | .fn f cs=>k f cs
 |_=>none
def Gf (c:C) (ky:Nat->Option R) (k:FuncId->List C->Option R):Option R:=
 match c with
 | .fn f cs=>k f cs
 | .yl l _ _=>ky l
 |_=>none
def asP (c:C) (k:List C->Option R):Option R:=
 match c with
 | .cp cs=>k cs
 |_=>none
def unc (cs:List C) (k:C->List C->Option R):Option R:=
 match cs with
 | []=>none
 |c::r=>k c r
def need (b:Bool) (k:Option R):Option R:=bif b then k else none
end
inductive Lf where
 |i (k:IntKind)
 |b
 |s
 |o
 deriving DecidableEq,Inhabited
def Xr {R:Type} (l:Lf) (c:C) (k:C->Option R):Option R:=
 match l with
 | .i kd=>asI kd c λn=>k (.v (.int kd n))
 | .b=>asB c λb=>k (.v (.bool b))
 | .s=>asS c λs=>k (.v (.string s))
 | .o=>k c
def Ue {R:Type}:List Lf->List C->(List C->Option R)->Option R
 | [],_,k=>k []
 |l::ls,cs,k=>unc cs λc r=>Xr l c λc'=>Ue ls r λcs'=>k (c'::cs')
def leaves (P:Program):Nat->TypeId->Option (List Lf)
 |0,_=>none
 |d+1,t=>
  match P.underlying t with
  |some (.int k)=>some [.i k]
  |some .bool=>some [.b]
  |some .string=>some [.s]
  |some (.struct fs)=>fs.toList.foldr (λf acc=>match leaves P d f.type,acc with|some a,some b=>some (a++b)|_,_=>none) (some [])
  |some (.array _ _)=>none
  |some _=>some [.o]
  |none=>none
def Ya (P:Program) (t:TypeId):Bool:=
 match P.underlying t with
 |some (.struct _)|some (.array _ _)=>true
 |_=>false
def Ze (P:Program) (t:TypeId):Nat:=match P.info? t with|some i=>i.size|none=>0
def ldC {R:Type} (P:Program) (t:TypeId) (cs:List C) (k:V->Option R):Option R:=
 match P.info? t with
 |none=>none
 |some i=>
  match Ya P t with
  |true=>
   match leaves P 20 t with
   |some ls=>need (Zi8 ls.length i.size) (Ue ls cs λl=>k (.agg l))
   |none=>need (Zjb i.size cs.length) (k (.agg (cs.take i.size)))
  |false=>
   match leaves P 20 t with
   |some [l]=>unc cs λc _=>Xr l c λc'=>k (.c c')
   |_=>none
def Nv {R:Type} (op:BinOp) (kd:IntKind) (a b:Int) (k:V->Option R):Option R:=
 match op with
 | .add=>k (.c (.v (.int kd (kd.wrap (a+b)))))
 | .sub=>k (.c (.v (.int kd (kd.wrap (a-b)))))
 | .mul=>k (.c (.v (.int kd (kd.wrap (a*b)))))
 | .quo=>need (!(b==0)) (k (.c (.v (.int kd (kd.wrap (a.tdiv b))))))
 | .rem=>need (!(b==0)) (k (.c (.v (.int kd (a.tmod b)))))
 | .and=>k (.c (.v (.int kd (kd.wrap (BitVec.ofInt kd.bits a&&&BitVec.ofInt kd.bits b).toNat))))
 | .or=>k (.c (.v (.int kd (kd.wrap (BitVec.ofInt kd.bits a|||BitVec.ofInt kd.bits b).toNat))))
 | .xor=>k (.c (.v (.int kd (kd.wrap (BitVec.ofInt kd.bits a^^^BitVec.ofInt kd.bits b).toNat))))
 | .andNot=>k (.c (.v (.int kd (kd.wrap (BitVec.ofInt kd.bits a&&& ~~~ BitVec.ofInt kd.bits b).toNat))))
 | .eql=>k (B (a==b))
 | .neq=>k (B (a !=b))
 | .lss=>k (B (decide (a<b)))
 | .leq=>k (B (decide (a<=b)))
 | .gtr=>k (B (decide (a>b)))
 | .geq=>k (B (decide (a≥b)))
 |_=>none
def Nw {R:Type} (op:BinOp) (a b:ByteArray) (k:V->Option R):Option R:=
 match op with
 | .add=>need (Zjb (a.size+b.size) 9223372036854775807) (k (.c (.v (.string (a++b)))))
 | .eql=>k (B (a.toList==b.toList))
 | .neq=>k (B (!(a.toList==b.toList)))
 | .lss=>k (B (Op.bytesLess a.toList b.toList))
 | .leq=>k (B (Op.bytesLess a.toList b.toList||a.toList==b.toList))
 | .gtr=>k (B (!(Op.bytesLess a.toList b.toList||a.toList==b.toList)))
 | .geq=>k (B (!(Op.bytesLess a.toList b.toList)))
 |_=>none
def J5 {R:Type} (op:BinOp) (kd:IntKind) (a b:Int) (k:V->Option R):Option R:=
 match op with
 | .shl=>need (!(decide (b<0))) (k (.c (.v (.int kd (kd.wrap (a*2^(min b.toNat kd.bits)))))))
 | .shr=>need (!(decide (b<0))) (k (.c (.v (.int kd (a.fdiv (2^(min b.toNat kd.bits)))))))
 |_=>none
def eqT (P:Program):Nat->TypeId->List C->List C->Option Bool
 |0,_,_,_=>none
 |d+1,t,cs,ds=>
  match P.underlying t with
  |some (.int _)=>match cs,ds with
   | .v (.int k a)::_, .v (.int k' b)::_=>if k=k' then some (a==b)else none
   |_,_=>none
  |some .bool=>match cs,ds with
   | .v (.bool a)::_, .v (.bool b)::_=>some (a==b)
   |_,_=>none
  |some .string=>match cs,ds with
   | .v (.string a)::_, .v (.string b)::_=>some (a.toList==b.toList)
   |_,_=>none
  |some (.struct fs)=>
   bif P.stoodInHeld t then none else
   fs.toList.foldr (fun f acc => bif f.name == "_" then none else match eqT P d f.type ((cs.drop f.offset).take (Ze P f.type)) ((ds.drop f.offset).take (Ze P f.type)), acc with
    |some a,some b=>some (a&&b)
    |_,_=>none) (some true)
  |_=>none
def Tj {R:Type} (P:Program) (op:BinOp) (t:TypeId) (x y:V) (k:V->Option R):Option R:=
 match x,y with
 | .c (.v (.int kd a)), .c (.v (.int kd' b))=>
  match op with
  | .shl| .shr=>J5 op kd a b k
  |_=>if kd=kd' then Nv op kd a b k else none
 | .c (.v (.string a)), .c (.v (.string b))=>Nw op a b k
 | .c (.v (.bool a)), .c (.v (.bool b))=>
  match P.underlying t,op with
  |some .bool, .eql=>k (B (a==b))
  |some .bool, .neq=>k (B (!(a==b)))
  |_,_=>none
 | .agg cs, .agg ds=>
  match Ya P t,P.eqGuardType P.depth t,eqT P 20 t cs ds with
  |true,false,some b=>
   match op with
   | .eql=>k (B b)
   | .neq=>k (B (!b))
   |_=>none
  |_,_,_=>none
 | .c (.sl n _), .c .nl=>
  match P.underlying t,op with
  |some (.slice _), .eql=>k (.nq n false)
  |some (.slice _), .neq=>k (.nq n true)
  |_,_=>none
 | .c .nl, .c .nl=>
  match P.underlying t,op with
  |some (.slice _), .eql=>k (B true)
  |some (.slice _), .neq=>k (B false)
  |_,_=>none
 |_,_=>none
noncomputable def same {R:Type} (a b:Option R):Option R:= @ite _ (a=b) (Classical.propDecidable _) a none
def unV {R:Type} (op:UnOp) (x:V) (k:V->Option R):Option R:=
 match op,x with
 | .neg, .c (.v (.int kd n))=>k (.c (.v (.int kd (kd.wrap (0-n)))))
 | .xor, .c (.v (.int kd n))=>k (.c (.v (.int kd (kd.wrap (BitVec.ofInt kd.bits (bif kd.signed then -1 else kd.max)^^^BitVec.ofInt kd.bits n).toNat))))
 | .not, .c (.v (.bool b))=>k (B (!b))
 |_,_=>none
def Rs {R:Type} (P:Program) (src dst:TypeId) (x:V) (k:V->Option R):Option R:=
 match P.underlying src,P.underlying dst,x with
 |some _,some (.int kd), .c (.v (.int _ n))=>k (.c (.v (.int kd (kd.wrap n))))
 |some _,some .string, .c (.v (.string s))=>k (.c (.v (.string s)))
 |some _,some .string, .c (.v (.int _ n))=>k (.c (.v (.string (Utf8.encode n))))
 |_,_,_=>none
def Zau (b:Bool) (x y:V):V:=
 match x,y with
 | .c (.v (.bool p)), .c (.v (.bool q))=>B (bif b then p else q)
 |x,y=>bif b then x else y
def OUT:Nat:=1000000
def frz (l:Loc) (s n:Nat):Loc:=
 match l s with
 | .ob t fz cs=>l.put s (.ob t (Zjf fz n) cs)
 | .sb t fz cs=>l.put s (.sb t (Zjf fz n) cs)
 |_=>l
def live:Obj->Bool
 | .dead=>false
 |_=>true
def Zv:Obj->Option (TypeId×Nat×List C)
 | .ob t fz cs=>some (t,fz,cs)
 | .sb t fz cs=>some (t,fz,cs)
 |_=>none
def asPc {R:Type} (p:PC) (k:C->Option R):Option R:=match p with| .c c=>k c|_=>none
def asRow {R:Type} (te:TypeId) (p:PC) (k:List C->Option R):Option R:=
 match p with
 | .r te' row=>need (Zi8 te' te) (k row)
 | .c c=>match c with
  | .nl=>k []
  |_=>none
def asRw {R:Type} (te:TypeId) (p:PC) (k:List C->Option R):Option R:=
 match p with
 | .r te' row=>need (Zi8 te' te) (k row)
 |_=>none
def A9 {R:Type} (ps:List PC) (k:PC->List PC->Option R):Option R:=match ps with| []=>none|p::r=>k p r
def Rws.len:Rws->Nat
 | .ps l=>l.length
 | .rs _ rows=>rows.length
def Rws.at (q:Rws) (j:Nat):Option PC:=
 match q with
 | .ps l=>l[j]?
 | .rs te rows=>(rows[j]?).map (.r te)
def Rws.look {R:Type} (q:Rws) (j:Nat) (k:PC->Option R):Option R:=
 match q with
 | .ps l=>match l[j]? with
  |some p=>k p
  |none=>none
 | .rs te rows=>need (Zje j rows.length) (k (.r te (rows.getD j [])))
def Rws.put (q:Rws) (j:Nat) (te:TypeId) (row:List C):Rws:=
 match q with
 | .ps l=> .ps (l.set j (.r te row))
 | .rs te' rows=> .rs te' (rows.set j row)
def gen:Obj->Option (Nat×Bool)
 | .pk g _ _ pe=>some (g,pe.isSome)
 |_=>none
def Q6 (P:Program) (t:TypeId):Option Nat:=match Ya P t with|true=>some (Ze P t)|false=>none
def Jr:Obj->Bool
 | .mx _ _=>true
 | .cl _=>true
 |_=>false
def L0 (P:Program) (te:TypeId) (es:List (List C×List C)):List (List C×List C):=es.map λe=>(e.1,[.sl (e.2.length/Ze P te) e.2])
def Yx {R:Type} (P:Program) (strict:Bool) (x:V) (l:Loc) (k:List C->Loc->Option R):Option R:=
 match x with
 | .c c=>k [c] l
 | .agg cs=>k cs l
 | .own s off n=>
  match strict,Zv (l s)with
  |false,some (t,_,cs)=>need (Zjb (off+n*Ze P t) cs.length) (k [.sl n ((cs.drop off).take (n*Ze P t))] (frz l s (off+n*Ze P t)))
  |_,_=>none
 | .ptr s off=>
  match strict,Zv (l s)with
  |false,some (_,_,cs)=>k [.cp (cs.drop off)] (frz l s cs.length)
  |_,_=>none
 | .mp s=>
  match strict,l s with
  |false, .mp kt et es=>k [.mp kt et (Q6 P kt) (Q6 P et) es] (l.put s (.cl 1))
  |false, .mr kt et te es=>need (!Ya P et) (k [.mp kt et (Q6 P kt) (Q6 P et) (L0 P te es)] (l.put s (.cl 1)))
  |_,_=>none
 | .rw s g j n=>
  match strict,l s with
  |false, .pk g' t (.ps ps) none=>need (Zi8 g g')<|match ps[j]? with
   |some (.r te row)=>need (Zi8 (n*Ze P te) row.length&& !Nat.beq (Ze P te) 0) (k [.sl n row] (l.put s (.pk (Zjd g') t (.ps (ps.set j (.c (.sl n row)))) none)))
   |_=>none
  |_,_=>none
 | .ws s n=>
  match strict,l s with
  |false, .pk _ _ (.rs te rows) none=>need (Zi8 n rows.length) (k [.sl n (rows.map λr=> .sl (r.length/Ze P te) r)] (l.put s (.cl rows.length)))
  |_,_=>none
 |_=>none
def U1 {R:Type} (P:Program) (strict:Bool):List V->Loc->(List C->Loc->Option R)->Option R
 | [],l,k=>k [] l
 | .c c::r,l,k=>U1 P strict r l λcs l2=>k (c::cs) l2
 | .own s off n::r,l,k=>Yx P strict (.own s off n) l λcs l1=>match cs with
  | [c]=>U1 P strict r l1 λcs l2=>k (c::cs) l2
  |_=>none
 | .mp s::r,l,k=>Yx P strict (.mp s) l λcs l1=>match cs with
  | [c]=>U1 P strict r l1 λcs l2=>k (c::cs) l2
  |_=>none
 | .ws s n::r,l,k=>Yx P strict (.ws s n) l λcs l1=>match cs with
  | [c]=>U1 P strict r l1 λcs l2=>k (c::cs) l2
  |_=>none
 |_::_,_,_=>none
def pur {R:Type} (P:Program) (strict:Bool) (x:V) (l:Loc) (k:List C->Loc->Option R):Option R:=
 match x with
 | .ptr s off=>
  match l s with
  | .mx _ xs=>match strict with
   |true=>none
   |false=>U1 P false xs l λcs l1=>match l1 s with
    | .mx _ _=>k [.cp (cs.drop off)] (l1.put s (.cl cs.length))
    |_=>none
  |_=>Yx P strict (.ptr s off) l k
 |x=>Yx P strict x l k
def Ro {R:Type} (P:Program) (strict:Bool):List V->Loc->(List (List C)->Loc->Option R)->Option R
 | [],l,k=>k [] l
 |x::r,l,k=>pur P strict x l λcs l1=>Ro P strict r l1 λps l2=>k (cs::ps) l2
def V.at (s:Nat):V->Bool
 | .ptr s' _=>Zi8 s' s
 | .own s' _ _=>Zi8 s' s
 | .mp s'=>Zi8 s' s
 | .gh s'=>Zi8 s' s
 | .ws s' _=>Zi8 s' s
 | .ent s' _ _=>Zi8 s' s
 | .tup _=>true
 | .mag _=>true
 | .rw s' _ _ _=>Zi8 s' s
 | .rp s' _ _ _=>Zi8 s' s
 | .clo _ s'=>Zi8 s' s
 |_=>false
def V.struck:V->V
 | .ent _ _ j=> .est j
 |_=> .und
def V.kill (s:Nat) (x:V):V:=bif x.at s then x.struck else x
def Obj.kill (s:Nat) (o:Obj):Obj:=
 match o with
 | .mx t xs=> .mx t (xs.map (V.kill s))
 | .mf kt et te es q kc x=> .mf kt et te es q kc (x.kill s)
 | .ir n x=> .ir n (x.kill s)
 |o=>o
def Loc.kill (s:Nat) (l:Loc):Loc:=⟨λs'=>bif Zi8 s' s then .dead else(l s').kill s,l.log⟩
def St.kill (σ:St) (s:Nat):St:=⟨σ.slots.map (V.kill s),σ.loc.kill s⟩
def Z4 (ss:List Nat) (sl:Sl):Sl:=ss.foldr (λs sl=>sl.map (V.kill s)) sl
def putAt (cs:List C) (off:Nat) (xs:List C):List C:=cs.take off++xs++cs.drop (off+xs.length)
def putAtV (cs:List V) (off:Nat) (xs:List V):List V:=cs.take off++xs++cs.drop (off+xs.length)
def isMp:Obj->Bool
 | .mp _ _ _=>true
 |_=>false
def X9 (P:Program) (t:TypeId):Option (List C):=
 match P.info? t with
 |some i=>match i.zero with
  |some z=>match Pu z.cells.toList with
   |some cs=>bif Zi8 cs.length i.size then some cs else none
   |none=>none
  |none=>none
 |none=>none
def reps (n:Nat) (zs:List C):List C:=(List.replicate n zs).flatten
def Qy {R:Type} (place:Nat->Option (Nat×Nat)):List Nat->List (List C)->List C->(List C->Option R)->Option R
 |i::is,xs::r,cs,k=>
  match place i with
  |none=>none
  |some (off,sz)=>need (Zi8 xs.length sz&&Zjb (off+xs.length) cs.length) (Qy place is r (putAt cs off xs) k)
 |_,_,cs,k=>k cs
def Aa (l:Loc):V->Option (List V)
 | .c c=>some [.c c]
 | .agg cs=>some (cs.map .c)
 | .own s off n=>bif (Zv (l s)).isSome then some [.own s off n]else none
 | .mp s=>bif isMp (l s)then some [.mp s]else none
 |_=>none
def L1 (l:Loc):List V->Option (List (List V))
 | []=>some []
 |x::r=>match Aa l x,L1 l r with
  |some p,some ps=>some (p::ps)
  |_,_=>none
def V3 {R:Type} (place:Nat->Option (Nat×Nat)):List Nat->List (List V)->List V->(List V->Option R)->Option R
 |i::is,xs::r,cs,k=>
  match place i with
  |none=>none
  |some (off,sz)=>need (Zi8 xs.length sz&&Zjb (off+xs.length) cs.length) (V3 place is r (putAtV cs off xs) k)
 |_,_,cs,k=>k cs
def Lf.ty:Lf->Type
 | .i _=>Int
 | .b=>Bool
 | .s=>ByteArray
 | .o=>C
def Lf.get {R:Type} (l:Lf) (c:C) (k:l.ty->Option R):Option R:=
 match l,k with
 | .i kd,k=>asI kd c k
 | .b,k=>asB c k
 | .s,k=>asS c k
 | .o,k=>k c
def Lf.put (l:Lf) (x:l.ty):C:=
 match l,x with
 | .i kd,n=> .v (.int kd n)
 | .b,x=> .v (.bool x)
 | .s,x=> .v (.string x)
 | .o,c=>c
def Sd:List Lf->Type
 | []=>Unit
 |l::r=>l.ty×Sd r
def Sd.get {R:Type}:(ls:List Lf)->List C->(Sd ls->Option R)->Option R
 | [],_,k=>k ()
 |l::r,cs,k=>unc cs λc cs'=>l.get c λx=>Sd.get r cs' λy=>k (x,y)
def Sd.put:(ls:List Lf)->Sd ls->List C
 | [],_=>[]
 |l::r,(x,y)=>l.put x::Sd.put r y
inductive MK where
 |lf (l:Lf)
 |ow (s:Nat) (ty:TypeId)
 |mp (s:Nat) (kt et:TypeId)
 |ws (s:Nat) (ty te:TypeId)
def MK.ty:MK->Type
 | .lf l=>l.ty
 | .ow _ _=>List C
 | .mp _ _ _=>List (List C×List C)
 | .ws _ _ _=>List (List C)
def Gg:List MK->Type
 | []=>Unit
 |m::r=>m.ty×Gg r
def MK.site:MK->Option Nat
 | .lf _=>none
 | .ow s _=>some s
 | .mp s _ _=>some s
 | .ws s _ _=>some s
inductive PK where
 |lf (l:Lf)
 |rw(te:TypeId)
def PK.ty:PK->Type
 | .lf l=>l.ty
 | .rw _=>List C
def PK.ok (P:Program):PK->Bool
 | .lf _=>true
 | .rw te=> !Nat.beq (Ze P te) 0
def Zav:List PK->Type
 | []=>Unit
 |m::r=>m.ty×Zav r
def Sf {R:Type}:(ks:List PK)->List PC->(Zav ks->Option R)->Option R
 | [],ps,k=>match ps with
  | []=>k ()
  |_::_=>none
 |m::r,ps,k=>A9 ps λp ps=>match m,k with
  | .lf l,k=>asPc p λc=>l.get c λy=>Sf r ps λz=>k (y,z)
  | .rw te,k=>asRow te p λrow=>Sf r ps λz=>k (row,z)
def Yw:(ks:List PK)->Zav ks->List PC
 | [],_=>[]
 | .lf l::r,(y,z)=> .c (l.put y)::Yw r z
 | .rw te::r,(y,z)=> .r te y::Yw r z
inductive Keep where
 |lf (t:Nat) (l:Lf)
 |ag (t:Nat) (ls:List Lf)
 |ao (t:Nat)
 |ow (t s:Nat) (ty:TypeId)
 |us (t s:Nat) (ty:TypeId)
 |ob (s:Nat) (ty:TypeId) (ls:List Lf) (ts:List (Nat×Nat))
 |oo (s:Nat) (ty:TypeId) (ts:List (Nat×Nat))
 |mx (s:Nat) (ty:TypeId) (ms:List MK) (ts:List (Nat×Nat)) (wt:List (Nat×Nat))
 |mp (s:Nat) (kt et:TypeId) (ts:List Nat)
 |mr (s:Nat) (kt et te:TypeId) (ts:List Nat)
 |pk (s:Nat) (ty:TypeId) (ks:List PK) (ts:List (Nat×Nat))
 |rx (s:Nat) (ty te:TypeId) (ts:List Nat)
 |lg
def Keep.ty:Keep->Type
 | .lf _ l=>l.ty
 | .ag _ ls=>Sd ls
 | .ao _=>List C
 | .ow _ _ _=>List C
 | .us _ _ _=>Nat×List C
 | .ob _ _ ls _=>Sd ls
 | .oo _ _ _=>List C
 | .mx _ _ ms _ _=>Gg ms
 | .mp _ _ _ _=>List (List C×List C)
 | .mr _ _ _ _ _=>List (List C×List C)
 | .pk _ _ ks _=>Zav ks
 | .rx _ _ _ _=>List (List C)
 | .lg=>Log
def Keep.sites:Keep->List Nat
 | .ow _ s _=>[s]
 | .us _ s _=>[s]
 | .ob s _ _ _=>[s]
 | .oo s _ _=>[s]
 | .mx s _ ms _ _=>s::ms.filterMap MK.site
 | .mp s _ _ _=>[s]
 | .mr s _ _ _ _=>[s]
 | .pk s _ _ _=>[s]
 | .rx s _ _ _=>[s]
 |_=>[]
def U2:List Keep->Type
 | []=>Unit
 |k::r=>k.ty×U2 r
def CLO:Nat:=1000000000
def ptV (s off:Nat):V:=bif Zje off CLO then .ptr s off else .clo (off-CLO) s
def Pv (σ:St) (s:Nat) (ts:List (Nat×Nat)):Bool:=
 ts.all λp=>match σ.get p.1 with| .ptr s' off=>Zi8 s' s&&Zi8 off p.2&&Zje p.2 CLO| .clo f s'=>Zi8 s' s&&Zi8 (CLO+f) p.2|_=>false
def Y2 (s:Nat):List (Nat×Nat)->Sl->Sl
 | [],sl=>sl
 |p::r,sl=>Y2 s r (sl.set p.1 (ptV s p.2))
def Zee (σ:St) (s:Nat) (ts:List Nat):Bool:=
 ts.all λt=>match σ.get t with| .mp s'=>Zi8 s' s|_=>false
def Uf (s:Nat):List Nat->Sl->Sl
 | [],sl=>sl
 |t::r,sl=>Uf s r (sl.set t (.mp s))
def wssAt (σ:St) (s n:Nat) (ts:List Nat):Bool:=
 ts.all λt=>match σ.get t with| .ws s' n'=>Zi8 s' s&&Zi8 n' n|_=>false
def Qv (s n:Nat):List Nat->Sl->Sl
 | [],sl=>sl
 |t::r,sl=>Qv s n r (sl.set t (.ws s n))
def Gh {R:Type} (P:Program) (ty:TypeId) (x:V) (lv:Loc) (k:List C->Loc->Option R):Option R:=
 match x with
 | .own s' off n=>match lv s' with
  | .ob ty' fz cs=>need (Zi8 ty' ty&&Zi8 off 0&&Zi8 (n*Ze P ty) cs.length&&Zi8 fz 0&& !Nat.beq (Ze P ty) 0) (k cs (lv.put s' .dead))
  | .sb ty' fz cs=>need (Zi8 ty' ty&&Zi8 off 0&&Zi8 (n*Ze P ty) cs.length&&Zi8 fz 0&& !Nat.beq (Ze P ty) 0) (k cs (lv.put s' .dead))
  |_=>none
 | .c .nl=>k [] lv
 |_=>none
def Gi {R:Type} (s:Nat) (kt et:TypeId) (x:V) (lv:Loc) (k:List (List C×List C)->Loc->Option R):Option R:=
 match x with
 | .mp s'=>match lv s' with
  | .mp kt' et' es=>need (Zi8 s' s&&Zi8 kt' kt&&Zi8 et' et) (k es (lv.put s .dead))
  |_=>none
 |_=>none
def Gj {R:Type} (s:Nat) (ty te:TypeId) (x:V) (lv:Loc) (k:List (List C)->Loc->Option R):Option R:=
 match x with
 | .ws s' n=>match lv s' with
  | .pk _ ty' q pe=>match q,pe with
   | .rs te' rows,none=>need (Zi8 s' s&&Zi8 ty' ty&&Zi8 te' te&&Zi8 n rows.length) (k rows (lv.put s .dead))
   |_,_=>none
  |_=>none
 |_=>none
def Vn {R:Type} (P:Program):(ms:List MK)->List V->Loc->(Gg ms->Loc->Option R)->Option R
 | [],xs,lv,k=>match xs with
  | []=>k () lv
  |_::_=>none
 |m::r,xs,lv,k=>match xs with
  | []=>none
  |x::xs=>match m,k with
   | .lf l,k=>match x with
    | .c c=>l.get c λy=>Vn P r xs lv λz lv2=>k (y,z) lv2
    |_=>none
   | .ow _ ty,k=>Gh P ty x lv λy lv1=>Vn P r xs lv1 λz lv2=>k (y,z) lv2
   | .mp s kt et,k=>Gi s kt et x lv λy lv1=>Vn P r xs lv1 λz lv2=>k (y,z) lv2
   | .ws s ty te,k=>Gj s ty te x lv λy lv1=>Vn P r xs lv1 λz lv2=>k (y,z) lv2
def Zo (P:Program):(ms:List MK)->Gg ms->List V
 | [],_=>[]
 | .lf l::r,(y,z)=> .c (l.put y)::Zo P r z
 | .ow s ty::r,(y,z)=> .own s 0 (y.length/Ze P ty)::Zo P r z
 | .mp s _ _::r,(_,z)=> .mp s::Zo P r z
 | .ws s _ _::r,(y,z)=> .ws s y.length::Zo P r z
def Xf (P:Program):(ms:List MK)->Gg ms->Loc->Loc
 | [],_,l=>l
 | .lf _::r,(_,z),l=>Xf P r z l
 | .ow s ty::r,(y,z),l=>Xf P r z (l.put s (.sb ty 0 y))
 | .mp s kt et::r,(y,z),l=>Xf P r z (l.put s (.mp kt et y))
 | .ws s ty te::r,(y,z),l=>Xf P r z (l.put s (.pk 0 ty (.rs te y) none))
def F8 (σ:St) (xs:List V) (wt:List (Nat×Nat)):Bool:=
 wt.all λp=>match σ.get p.1,xs[p.2]? with
  | .ws s n,some (.ws s' n')=>Zi8 s s'&&Zi8 n n'&&live (σ.loc s)
  |_,_=>false
def Uq (cells:List V):List (Nat×Nat)->Sl->Sl
 | [],sl=>sl
 |p::r,sl=>match cells[p.2]? with
  |some (.ws s n)=>Uq cells r (sl.set p.1 (.ws s n))
  |_=>Uq cells r sl
def Keep.get {R:Type} (P:Program) (kp:Keep) (σ:St) (lv:Loc) (k:kp.ty->Loc->Option R):Option R:=
 match kp,k with
 | .lf t l,k=>match σ.get t with| .c c=>l.get c λx=>k x lv|_=>none
 | .ag t ls,k=>match σ.get t with| .agg cs=>need (Zi8 cs.length ls.length) (Sd.get ls cs λx=>k x lv)|_=>none
 | .ao t,k=>match σ.get t with| .agg cs=>k cs lv|_=>none
 | .ow t _ ty,k=>Gh P ty (σ.get t) lv k
 | .us t s ty,k=>match σ.get t with
  | .own s' off n=>match lv s' with
   | .sb ty' fz cs=>need (Zi8 s' s&&Zi8 ty' ty&&Zi8 off 0&&Zi8 fz 0) (k (n,cs) (lv.put s' .dead))
   |_=>none
  |_=>none
 | .ob s ty ls ts,k=>match lv s with
  | .ob ty' fz cs=>need (Zi8 ty' ty&&Zi8 fz 0&&Zi8 cs.length ls.length&&Pv σ s ts) (Sd.get ls cs λx=>k x (lv.put s .dead))
  |_=>none
 | .oo s ty ts,k=>match lv s with
  | .ob ty' fz cs=>need (Zi8 ty' ty&&Zi8 fz 0&&Pv σ s ts) (k cs (lv.put s .dead))
  |_=>none
 | .mx s ty ms ts wt,k=>match lv s with
  | .mx ty' xs=>need (F8 σ xs wt&&(Zi8 ty' ty&&Pv σ s ts)) (Vn P ms xs (lv.put s .dead) k)
  | .ob ty' fz cs=>need (F8 σ [] wt&&(Zi8 ty' ty&&Zi8 fz 0&&Pv σ s ts)) (Vn P ms (cs.map .c) (lv.put s .dead) k)
  |_=>none
 | .mp s kt et ts,k=>match lv s with
  | .mp kt' et' es=>need (Zi8 kt' kt&&Zi8 et' et&&Zee σ s ts) (k es (lv.put s .dead))
  |_=>none
 | .mr s kt et te ts,k=>match lv s with
  | .mr kt' et' te' es=>need (Zi8 kt' kt&&Zi8 et' et&&Zi8 te' te&&Zee σ s ts) (k es (lv.put s .dead))
  |_=>none
 | .pk s ty ks ts,k=>match lv s with
  | .pk _ ty' q pe=>match q,pe with
   | .ps ps,none=>need (Zi8 ty' ty&&Pv σ s ts&&ks.all (PK.ok P)) (Sf ks ps λz=>k z (lv.put s .dead))
   |_,_=>none
  | .ob ty' fz cs=>need (Zi8 ty' ty&&Zi8 fz 0&&Pv σ s ts&&ks.all (PK.ok P)) (Sf ks (cs.map .c) λz=>k z (lv.put s .dead))
  |_=>none
 | .rx s ty te ts,k=>match lv s with
  | .pk _ ty' q pe=>match q,pe with
   | .rs te' rows,none=>need (Zi8 ty' ty&&Zi8 te' te&&wssAt σ s rows.length ts) (k rows (lv.put s .dead))
   |_,_=>none
  |_=>none
 | .lg,k=>match lv.log with|some x=>k x ⟨lv.fn,none⟩|none=>none
def Keep.put (P:Program) (kp:Keep) (x:kp.ty) (σ:St):St:=
 match kp,x with
 | .lf t l,x=>⟨σ.slots.set t (.c (l.put x)),σ.loc⟩
 | .ag t ls,x=>⟨σ.slots.set t (.agg (Sd.put ls x)),σ.loc⟩
 | .ao t,x=>⟨σ.slots.set t (.agg x),σ.loc⟩
 | .ow t s ty,x=>⟨σ.slots.set t (.own s 0 (x.length/Ze P ty)),σ.loc.put s (.sb ty 0 x)⟩
 | .us t s ty,x=>⟨σ.slots.set t (.own s 0 x.1),σ.loc.put s (.sb ty 0 x.2)⟩
 | .ob s ty ls ts,x=>⟨Y2 s ts σ.slots,σ.loc.put s (.ob ty 0 (Sd.put ls x))⟩
 | .oo s ty ts,x=>⟨Y2 s ts σ.slots,σ.loc.put s (.ob ty 0 x)⟩
 | .mx s ty ms ts wt,x=>⟨Uq (Zo P ms x) wt (Y2 s ts σ.slots),(Xf P ms x σ.loc).put s (.mx ty (Zo P ms x))⟩
 | .mp s kt et ts,x=>⟨Uf s ts σ.slots,σ.loc.put s (.mp kt et x)⟩
 | .mr s kt et te ts,x=>⟨Uf s ts σ.slots,σ.loc.put s (.mr kt et te x)⟩
 | .pk s ty ks ts,x=>⟨Y2 s ts σ.slots,σ.loc.put s (.pk 0 ty (.ps (Yw ks x)) none)⟩
 | .rx s ty te ts,x=>⟨Qv s x.length ts σ.slots,σ.loc.put s (.pk 0 ty (.rs te x) none)⟩
 | .lg,x=>⟨σ.slots,⟨σ.loc.fn,some x⟩⟩
def Ab {R:Type} (P:Program):(ks:List Keep)->St->Loc->(U2 ks->Option R)->Option R
 | [],_,_,k=>k ()
 |kp::r,σ,lv,k=>kp.get P σ lv λx lv'=>Ab P r σ lv' λy=>k (x,y)
def Z6 (P:Program):(ks:List Keep)->U2 ks->St->St
 | [],_,σ=>σ
 |kp::r,(x,y),σ=>Z6 P r y (kp.put P x σ)
inductive Ex where
 |normal
 |exit (id:Nat)
 |ret
 deriving DecidableEq,Inhabited
inductive Shp where
 |s (l:Lf)
 |a (ls:List Lf)
 deriving Inhabited
structure Keeps where
 ks:List Keep
 fz:List Nat:=[]
 ex:List Ex
 sh:List Shp:=[]
 fzc:List (Nat×Nat):=[]
 rm:Option Nat:=none
 deriving Inhabited
def nodupB:List Nat->Bool
 | []=>true
 |a::r=>(!(r.any (Zi8 a)))&&nodupB r
def Keep.inner:Keep->Bool
 | .ow _ s _=>Zje s OUT
 | .mx s _ ms _ _=>Zje s OUT&&(ms.filterMap MK.site).all λs=>Zje s OUT
 |_=>true
def R1 {R:Type} (P:Program) (kp:Keeps) (σ:St) (k:U2 kp.ks->Option R):Option R:=
 need (nodupB (kp.ks.flatMap Keep.sites)&&kp.ks.all Keep.inner) (Ab P kp.ks σ σ.loc k)
def Ck {R:Type} (P:Program):List Nat->St->(St->Option R)->Option R
 | [],σ,k=>k σ
 |t::r,σ,k=>match σ.get t with
  | .own s off n=>pur P false (.own s off n) σ.loc λcs l=>match cs with
   | [c]=>Ck P r ⟨σ.slots.set t (.c c),l⟩ k
   |_=>none
  | .ptr s off=>pur P false (.ptr s off) σ.loc λcs l=>match cs with
   | [c]=>Ck P r ⟨σ.slots.set t (.c c),l⟩ k
   |_=>none
  | .rw s g j n=>pur P false (.rw s g j n) σ.loc λcs l=>match cs with
   | [c]=>Ck P r ⟨σ.slots.set t (.c c),l⟩ k
   |_=>none
  |_=>Ck P r σ k
def refV:V->Bool
 | .own _ _ _=>true
 | .mp _=>true
 | .ws _ _=>true
 |_=>false
def F9 {R:Type} (P:Program):List (Nat×Nat)->St->(St->Option R)->Option R
 | [],σ,k=>k σ
 |p::r,σ,k=>match σ.loc p.1 with
  | .mx _ xs=>match xs[p.2]? with
   |some x=>match refV x with
    |true=>pur P false x σ.loc λcs l=>match cs with
     | [c]=>match l p.1 with
      | .mx ty2 xs2=>need (Zje p.2 xs2.length) (F9 P r ⟨σ.slots,l.put p.1 (.mx ty2 (putAtV xs2 p.2 [.c c]))⟩ k)
      |_=>none
     |_=>none
    |false=>F9 P r σ k
   |none=>F9 P r σ k
  |_=>F9 P r σ k
def frzA {R:Type} (P:Program) (ts:List Nat) (ps:List (Nat×Nat)) (σ:St) (k:St->Option R):Option R:=Ck P ts σ λσ=>F9 P ps σ k
def Zes (ws:List Nat) (sl:Sl):Sl:=⟨λt=>bif ws.any (Zi8 t)then .und else sl.fn t,sl.length⟩
def V.plain:V->V
 | .c y=> .c y
 | .agg cs=> .agg cs
 |_=> .und
def St.clean (ws:List Nat) (σ:St):St:=⟨(Zes ws σ.slots).map V.plain,⟨λ_=> .dead,none⟩⟩
def Uk:List Ex->Ex->Option Nat
 | [],_=>none
 |e::r,x=>match decide (e=x)with
  |true=>some 0
  |false=>match Uk r x with|some n=>some (n+1)|none=>none
def L2 {R:Type}:List Ex->Nat->(Ex->Option R)->Option R
 | [],_,_=>none
 | [e],_,k=>k e
 |e::r,n,k=>match n with
  |0=>k e
  |m+1=>L2 r m k
structure Cfg where
 P:Program
 call:FuncId->List V->List Obj->Option Out
 iter:FuncId->List C->Option (List (List V))
 rnd:Bool
 fuel:Nat
 own:Nat->Bool
 keep:Nat->Keeps
 join:Nat->Option Keeps
 exp:List (Option TypeId)
 xo:FuncId->List (Option TypeId)
 hand:FuncId->List Nat
 glob:Nat->Option (List C)
 loud:Nat->Bool
 lh:List Nat
 fzb:FuncId->Bool
 mix:Nat->Bool
 bar:Nat->Bool
 nr:Bool
 al:List Nat:=[]
 unr:Nat->Nat
 ent:Option (Nat×V×V)
 rd:Nat->List Nat:=λ_=>[]
 pr:Nat->List Nat:=λ_=>[]
 lost:FuncId->Bool:=λ_=>false
 add:Option FuncId:=none
def Xz:List Nat->Nat->Nat->Option Nat
 | [],_,_=>none
 |s'::r,s,i=>bif Zi8 s' s then some i else Xz r s (i+1)
def Ea (strict:Bool) (hd:List Nat):Bool:=
 match strict,hd with
 |false,n::_=>Zi8 n 1
 |_,_=>false
def nrm (c:C):C:=
 match c with
 | .nl=> .sl 0 []
 |c=>c
def Zaw (hd:List Nat) (c:C):C:=
 match hd with
 |n::_=>bif Zi8 n 2 then nrm c else c
 | []=>c
def Z5 {R:Type} (P:Program) (strict:Bool):List Nat->List V->Loc->List Nat->(List V->Loc->List Nat->Option R)->Option R
 |_,[],l,ss,k=>k [] l ss
 |hd,x::r,l,ss,k=>
  match x with
  | .c c=>Z5 P strict hd.tail r l ss λys l' ss'=>k (.c (Zaw hd c)::ys) l' ss'
  | .agg cs=>Z5 P strict hd.tail r l ss λys l' ss'=>k (.agg cs::ys) l' ss'
  | .own s off n=>match Ea strict hd with
   |true=>match Xz ss s 0 with
    |some i=>Z5 P strict hd.tail r l ss λys l' ss'=>k (.own (OUT+i) off n::ys) l' ss'
    |none=>Z5 P strict hd.tail r l (ss++[s]) λys l' ss'=>k (.own (OUT+ss.length) off n::ys) l' ss'
   |false=>pur P strict (.own s off n) l λcs l1=>match cs with
    | [c]=>Z5 P strict hd.tail r l1 ss λys l' ss'=>k (.c c::ys) l' ss'
    |_=>none
  | .ptr s off=>match strict with
   |true=>none
   |false=>match Xz ss s 0 with
    |some i=>Z5 P strict hd.tail r l ss λys l' ss'=>k (.ptr (OUT+i) off::ys) l' ss'
    |none=>Z5 P strict hd.tail r l (ss++[s]) λys l' ss'=>k (.ptr (OUT+ss.length) off::ys) l' ss'
  | .ws s n=>match Ea strict hd with
   |false=>none
   |true=>match Xz ss s 0 with
    |some i=>Z5 P strict hd.tail r l ss λys l' ss'=>k (.ws (OUT+i) n::ys) l' ss'
    |none=>Z5 P strict hd.tail r l (ss++[s]) λys l' ss'=>k (.ws (OUT+ss.length) n::ys) l' ss'
  |_=>none
def rC {R:Type} (x:V) (k:C->Option R):Option R:=match x with| .c c=>k c|_=>none
def rA {R:Type} (x:V) (k:List C->Option R):Option R:=match x with| .agg cs=>k cs|_=>none
def rT {R:Type} (x:V) (k:List V->Option R):Option R:=match x with| .tup vs=>k vs|_=>none
def Zax (te:Nat):FuncId:=te/CLO
def Gk (te:Nat):TypeId:=te%CLO
def rCl {R:Type} (x:V) (f0:FuncId) (m:Nat) (k:Option R):Option R:=match x with| .clo f s=>need (Zi8 f f0&&Zi8 s (OUT+m)) k|_=>none
def rP {R:Type} (x:V) (m:Nat) (k:Option R):Option R:=match x with| .ptr s off=>need (Zi8 s (OUT+m)&&Zi8 off 0) k|_=>none
def uncV {R:Type} (xs:List V) (k:V->List V->Option R):Option R:=match xs with| []=>none|x::r=>k x r
def uncO {R:Type} (xs:List Obj) (k:Obj->List Obj->Option R):Option R:=match xs with| []=>none|x::r=>k x r
def rO {R:Type} (o:Obj) (t fz:Nat) (k:List C->Option R):Option R:=match o with| .ob t' fz' cs=>need (Zi8 t' t&&Zi8 fz' fz) (k cs)|_=>none
def rF {R:Type} (o:Obj) (t:Nat) (k:Nat->List C->Option R):Option R:=match o with| .sb t' fz cs=>need (Zi8 t' t&&Zjb fz cs.length) (k fz cs)|_=>none
def rS {R:Type} (o:Obj) (t fz:Nat) (k:List C->Option R):Option R:=match o with| .sb t' fz' cs=>need (Zi8 t' t&&Zi8 fz' fz) (k cs)|_=>none
def rW {R:Type} (x:V) (m:Nat) (k:Nat->Option R):Option R:=match x with| .own s off n=>need (Zi8 s (OUT+m)&&Zi8 off 0) (k n)|_=>none
def R2 {R:Type} (P:Program) (t:TypeId) (x:V) (k:V->Option R):Option R:=
 match Ya P t with
 |true=>rA x λcs=>match leaves P 20 t with
  |some ls=>need (Zi8 cs.length ls.length) (Ue ls cs λl=>k (.agg l))
  |none=>k (.agg cs)
 |false=>match leaves P 20 t with
  |some [l]=>rC x λc=>Xr l c λc'=>k (.c c')
  |_=>none
def R3 {R:Type} (P:Program):List TypeId->List V->(List V->Option R)->Option R
 | [],xs,k=>match xs with
  | []=>k []
  |_::_=>none
 |t::r,xs,k=>uncV xs λx ys=>R2 P t x λv=>R3 P r ys λvs=>k (v::vs)
def R4 {R:Type} (P:Program) (t:TypeId) (x:V) (k:V->Option R):Option R:=
 match P.underlying t with
 |some (.tuple ts)=>match ts.toList with
  | []=>k .und
  |ts=>rT x λxs=>R3 P ts xs λvs=>k (.tup vs)
 |_=>R2 P t x k
def X6 {R:Type}:List Lf->List PC->List PC->(List PC->Option R)->Option R
 | [],[],ps,k=>match ps with
  | []=>k []
  |_::_=>none
 |l::ls,o::os,ps,k=>A9 ps λp r=>match o with
  | .c _=>asPc p λc=>Xr l c λc'=>X6 ls os r λqs=>k (.c c'::qs)
  | .r te _=>asRw te p λrow=>X6 ls os r λqs=>k (.r te row::qs)
 |_,_,_,_=>none
def rPk {R:Type} (o:Obj) (t:TypeId) (k:List PC->Option R):Option R:=
 match o with
 | .pk _ t' q pe=>match q,pe with
  | .ps ps,none=>need (Zi8 t' t) (k ps)
  |_,_=>none
 |_=>none
def X7 {R:Type} (P:Program) (fb:Bool):List Nat->List Obj->Loc->(List Obj->Loc->Option R)->Option R
 | [],os,l,k=>k os l
 |s::r,os,l,k=>
  match l s with
  | .ob t fz cs=>uncO os λo os'=>rO o t fz λcs'=>
   match leaves P 20 t with
   |some ls=>need (Zi8 cs'.length ls.length&&Zi8 cs.length ls.length) (Ue ls cs' λcs2=>X7 P fb r os' (l.put s (.ob t fz cs2)) k)
   |none=>need (Zi8 cs'.length cs.length) (X7 P fb r os' (l.put s (.ob t fz cs')) k)
  | .sb t fz cs=>uncO os λo os'=>match fb with
   |false=>rS o t fz λcs'=>need (Zi8 cs'.length cs.length) (X7 P fb r os' (l.put s (.sb t fz cs')) k)
   |true=>rF o t λfz' cs'=>need (Zi8 cs'.length cs.length) (X7 P fb r os' (l.put s (.sb t fz' cs')) k)
  | .pk g t (.ps ps) none=>uncO os λo os'=>rPk o t λps'=>match leaves P 20 t with
   |some ls=>need (Zi8 ps.length ls.length) (X6 ls ps ps' λqs=>X7 P fb r os' (l.put s (.pk (Zjd g) t (.ps qs) none)) k)
   |none=>none
  |_=>none
def Pw (l:Loc):List Nat->Bool
 | []=>true
 |s::r=>match l s with| .ob _ _ _=>Pw l r| .sb _ _ _=>Pw l r| .pk _ _ (.ps _) none=>Pw l r|_=>false
def Qw (l:Loc):List Nat->Bool
 | []=>true
 |s::r=>match l s with| .ob _ _ _=>Qw l r| .sb _ _ _=>Qw l r| .pk _ _ (.ps _) none=>Qw l r| .dead=>Qw l r|_=>false
def noYl:List V->Bool
 | .c (.yl _ _ _)::_=>false
 |_=>true
def Xg (d i:Nat):Nat:=100000+64*d+i
def take1 {R:Type} (P:Program) (m site i:Nat) (x:Option TypeId) (ty:TypeId) (v:V) (os:List Obj) (l:Loc) (k:V->Nat->List Obj->Loc->List Nat->Option R):Option R:=
 match x with
 |none=>R2 P ty v λy=>k y i os l []
 |some te=>need (Zje site OUT)<|match P.underlying ty with
  |some (.pointer _)=>rP v (m+i) (uncO os λo os'=>rO o te 0 λcs=>match leaves P 20 te with
   |some ls=>need (Zi8 cs.length ls.length) (Ue ls cs λcs2=>k (.ptr site 0) (i+1) os' ((l.kill site).put site (.ob te 0 cs2)) [site])
   |none=>k (.ptr site 0) (i+1) os' ((l.kill site).put site (.ob te 0 cs)) [site])
  |some (.slice _)=>rW v (m+i) λn=>uncO os λo os'=>rS o te 0 λcs=>need (Zi8 (n*Ze P te) cs.length&& !Nat.beq (Ze P te) 0) (k (.own site 0 n) (i+1) os' ((l.kill site).put site (.sb te 0 cs)) [site])
  |some (.func ..)=>rCl v (Zax te) (m+i) (uncO os λo os'=>rO o (Gk te) 0 λcs=>match leaves P 20 (Gk te)with
   |some ls=>need (Zi8 cs.length ls.length) (Ue ls cs λcs2=>k (.clo (Zax te) site) (i+1) os' ((l.kill site).put site (.ob (Gk te) 0 cs2)) [site])
   |none=>k (.clo (Zax te) site) (i+1) os' ((l.kill site).put site (.ob (Gk te) 0 cs)) [site])
  |_=>none
def rG {R:Type} (x:V) (k:List V->Option R):Option R:=match x with| .mag xs=>k xs|_=>none
def cellT (P:Program) (t:TypeId):Option (TypeId×Option TypeId):=
 match Ya P t with
 |true=>none
 |false=>match P.underlying t with
  |some (.slice el)=>some (t,some el)
  |some _=>some (t,none)
  |none=>none
def Gl (P:Program) (t:TypeId):Option (List (TypeId×Option TypeId)):=
 match P.underlying t with
 |some (.struct fs)=>fs.toList.mapM λf=>cellT P f.type
 |_=>none
def Vo {R:Type} (P:Program) (m d:Nat):Nat->Nat->List (TypeId×Option TypeId)->List V->List Obj->Loc->(List V->Loc->List Nat->Option R)->Option R
 |_,_,[],xs,_,l,k=>match xs with
  | []=>k [] l []
  |_::_=>none
 |j,i,q::ts,xs,os,l,k=>uncV xs λx r=>match q.2 with
  |none=>R2 P q.1 x λy=>Vo P m d j i ts r os l λys l' ks=>k (y::ys) l' ks
  |some te=>need (!live (l (Xg d j))&&Zje (Xg d j) OUT)<|rW x (m+i) λn=>uncO os λo os'=>rS o te 0 λcs=>
    need (Zi8 (n*Ze P te) cs.length&& !Nat.beq (Ze P te) 0) (Vo P m d (j+1) (i+1) ts r os' ((l.kill (Xg d j)).put (Xg d j) (.sb te 0 cs)) λys l' ks=>k (.own (Xg d j) 0 n::ys) l' (Xg d j::ks))
def T7 {R:Type} (P:Program) (m d:Nat):Nat->Nat->List (Option TypeId)->List TypeId->List V->List Obj->Loc->(List V->Loc->List Nat->Option R)->Option R
 |_,_,_,[],xs,_,l,k=>match xs with
  | []=>k [] l []
  |_::_=>none
 |j,i,xo,t::ts,xs,os,l,k=>uncV xs λx ys=>match(xo.headD none).bind λ_=>Gl P t with
  |some cts=>rG x λzs=>Vo P m d j i cts zs os l λzs' l' ks=>R3 P ts ys λvs=>k (.mag zs'::vs) l' ks
  |none=>need (!live (l (Xg d j)))<|take1 P m (Xg d j) i (xo.headD none) t x os l λy i' os' l' ks=>T7 P m d (j+1) i' xo.tail ts ys os' l' λys' l2 ks2=>k (y::ys') l2 (ks++ks2)
def Rt {R:Type} (P:Program) (m d:Nat) (xo:List (Option TypeId)) (ty:TypeId) (v:V) (os:List Obj) (l:Loc) (k:V->Loc->List Nat->Option R):Option R:=
 match P.underlying ty with
 |some (.tuple ts)=>rT v λxs=>T7 P m d 0 0 xo ts.toList xs os l λys l' ks=>k (.tup ys) l' ks
 |_=>match(xo.headD none).bind λ_=>Gl P ty with
  |some cts=>rG v λzs=>Vo P m d 0 0 cts zs os l λzs' l' ks=>k (.mag zs') l' ks
  |none=>take1 P m d 0 (xo.headD none) ty v os l λy _ _ l' ks=>k y l' ks
def Lf.isO:Lf->Bool
 | .o=>true
 |_=>false
def J6 (P:Program) (t:TypeId):Bool:=
 match leaves P 20 t with
 |some ls=>ls.all λl=> !l.isO
 |none=>false
def J7 (P:Program) (t:TypeId):Bool:=
 match P.underlying t with
 |some (.tuple ts)=>ts.toList.all (J6 P)
 |_=>J6 P t
def thaw (ss:List Nat) (b:Bool) (l l2:Loc):Loc:=
 match ss,b with
 | [],true=>l
 |_,_=>l2
def Mi {R:Type} (cf:Cfg) (strict:Bool) (xo:List (Option TypeId)) (ss:List Nat) (out:Out) (ty:TypeId) (dst:Option Nat) (l1:Loc) (k:V->Loc->List Nat->Option R):Option R:=
 match ss,strict,xo,dst with
 | [s],false,_::_,some d=>uncO out.objs λ_ rest=>Rt cf.P 1 d xo ty out.r rest (l1.kill s) k
 |_,_,_,_=>none
def Eb (cf:Cfg) (hd:List Nat) (f:FuncId):Bool:=match hd with| []=>false|_::_=>cf.lost f
def X1 {R:Type} (cf:Cfg) (strict:Bool) (hd:List Nat) (xo:List (Option TypeId)) (f:FuncId) (args:List V) (ty:TypeId) (dst:Option Nat) (l:Loc) (k:V->Loc->List Nat->Option R):Option R:=
 Z5 cf.P strict hd args l [] λys l1 ss=>
  need (Pw l1 ss&&noYl ys)<|(cf.call f ys (ss.map l1)).bind λout=>
   match Eb cf hd f with
   |true=>Mi cf strict xo ss out ty dst l1 k
   |false=>X7 cf.P (cf.fzb f) ss out.objs l1 λrest l2=>
    match xo,strict,dst with
    |_::_,false,some d=>Rt cf.P ss.length d xo ty out.r rest l2 k
    |_,_,_=>R4 cf.P ty out.r λv=>k v (thaw ss (J7 cf.P ty) l l2) []
def Zy (v:V):Bool:=match v with| .c _=>true| .agg _=>true|_=>false
def Tl {R:Type} (te:TypeId) (row:List C) (fb:Bool) (os:List Obj) (k:List C->Option R):Option R:=
 uncO os λo os'=>match os',o with
  | [], .sb te' fz cs=>need (Zi8 te' te&&Zi8 cs.length row.length&&Zi8 fz (bif fb then cs.length else 0)) (k cs)
  |_,_=>none
def Qk {R:Type} (cf:Cfg) (f:FuncId) (s g j n:Nat) (rest:List V) (ty:TypeId) (l:Loc) (k:V->Loc->List Nat->Option R):Option R:=
 match l s with
 | .pk g' t q none=>need (Zi8 g g'&&rest.all Zy)<|q.look j λp=>match p with
  | .r te row=>need (Zi8 (n*Ze cf.P te) row.length&& !Nat.beq (Ze cf.P te) 0)<|
   (cf.call f (.own OUT 0 n::rest) [.sb te 0 row]).bind λout=>Tl te row (cf.fzb f) out.objs λrow'=>match cf.fzb f with
    |false=>R4 cf.P ty out.r λv=>k v (l.put s (.pk g' t (q.put j te row') none)) []
    |true=>match q with
     | .ps ps=>R4 cf.P ty out.r λv=>k v (l.put s (.pk (Zjd g') t (.ps (ps.set j (.c (.sl n row')))) none)) []
     | .rs _ _=>none
  | .c _=>none
 |_=>none
def Ru {R:Type} (cf:Cfg) (strict:Bool) (hd:List Nat) (xo:List (Option TypeId)) (f:FuncId) (args:List V) (ty:TypeId) (dst:Option Nat) (l:Loc) (k:V->Loc->List Nat->Option R):Option R:=
 match strict,args with
 |false, .rw s g j n::rest=>Qk cf f s g j n rest ty l k
 |_,_=>X1 cf strict hd xo f args ty dst l k
def addB (cf:Cfg) (f:FuncId):Bool:=match cf.add with|some f0=>Zi8 f f0|none=>false
def Gm {R:Type} (xs:List V) (l:Loc) (k:V->Loc->List Nat->Option R):Option R:=
 match xs with
 | [.c x, .c y, .c z]=>asI .u64 x λa=>asI .u64 y λb=>asI .u64 z λc=>need (decide (0<=a)&&decide (0<=b)&&decide (0<=c)&&decide (c<=1))
   (k (.tup [.c (.v (.int .u64 ((a+b+c)%18446744073709551616))), .c (.v (.int .u64 ((a+b+c)/18446744073709551616)))]) l [])
 |_=>none
def V4 {R:Type} (cf:Cfg) (strict:Bool) (f:FuncId) (args:List V) (ty:TypeId) (dst:Option Nat) (l:Loc) (k:V->Loc->List Nat->Option R):Option R:=
 match addB cf f with
 |true=>Gm args l k
 |false=>Ru cf strict (cf.hand f) (cf.xo f) f args ty dst l k
open Classical in
noncomputable def eqV (a b:List V):Bool:=decide (a=b)
noncomputable def R5 {R:Type} (P:Program) (strict:Bool) (n:Nat) (args:List V) (l:Loc) (k:V->Loc->List Nat->Option R):Option R:=
 match strict with
 |true=>none
 |false=>Z5 P false [] args l [] λys l1 ss=>
  match ss,l1.log with
  | [],some lg=>need (Zi8 lg.l n&& !lg.st)<|
   match lg.rest with
   | []=>none
   |x::rest=>need (eqV ys x) (k (B (lg.go lg.i)) ⟨l1.fn,some ⟨lg.l,lg.go,Zjd lg.i,rest, !(lg.go lg.i)⟩⟩ [])
  |_,_=>none
def Vp {R:Type} (lt:Bool):List V->IntKind->Int->(V->Option R)->Option R
 | [],kd,a,k=>k (.c (.v (.int kd a)))
 | .c (.v (.int kd' b))::r,kd,a,k=>bif decide (kd'=kd)then Vp lt r kd (match lt with|true=>if b<a then b else a|false=>if b>a then b else a) k else none
 |_,_,_,_=>none
def V5 {R:Type} (P:Program) (e:TypeId) (x:V) (l:Loc) (k:Nat->List C->Option R):Option R:=
 match x with
 | .c c=>asSl c λm cs=>need (Zi8 (m*Ze P e) cs.length) (k m cs)
 | .own s off m=>match Zv (l s)with
  |some (t,_,cs)=>need (Zi8 t e&&Zjb (off+m*Ze P e) cs.length) (k m ((cs.drop off).take (m*Ze P e)))
  |none=>none
 |_=>none
def Yr {R:Type} (cf:Cfg) (T:TypeId) (s x:V) (d:Nat) (l:Loc) (k:V->Loc->List Nat->Option R):Option R:=
 match cf.P.underlying T with
 |some (.slice e)=>
  match cf.P.info? e,X9 cf.P e with
  |some i,some _=>
   V5 cf.P e x l λm news=>
    match s with
    | .c .nl=>need (!Nat.beq i.size 0&&Zjb (m*i.bytes) 140737488355328&&Zjb m 140737488355328)<|
      k (.own d 0 m) ((l.kill d).put d (.sb e 0 news)) [d]
    | .own s' off n=>match l s' with
     | .ob t' fz cs=>need (Zi8 t' e&&Zi8 off 0&&Zi8 (n*i.size) cs.length&&(!Nat.beq i.size 0)&&Zjb ((n+m)*i.bytes) 140737488355328&&Zjb (n+m) 140737488355328)<|
       k (.own d 0 (n+m)) (((l.kill s').kill d).put d (.ob e fz (cs++news))) [s',d]
     | .sb t' fz cs=>need (Zi8 t' e&&Zi8 off 0&&Zi8 (n*i.size) cs.length&&(!Nat.beq i.size 0)&&Zjb ((n+m)*i.bytes) 140737488355328&&Zjb (n+m) 140737488355328)<|
       k (.own d 0 (n+m)) (((l.kill s').kill d).put d (.sb e fz (cs++news))) [s',d]
     |_=>none
    | .rw s' g j n=>match l s' with
     | .pk g' t q none=>need (Zi8 g g')<|q.look j λp=>match p with
      | .r te row=>need (Zi8 te e&&Zi8 (n*i.size) row.length&&(!Nat.beq i.size 0)&&Zjb ((n+m)*i.bytes) 140737488355328&&Zjb (n+m) 140737488355328)<|
       k (.rp s' g j (n+m)) (l.put s' (.pk g' t q (some (j,te,row++news)))) []
      |_=>none
     |_=>none
    | .fs n0 cs0=>V5 cf.P e (.c (.sl n0 cs0)) l λn olds=>match cf.own d with
     |true=>need (!Nat.beq i.size 0&&Zjb 1 m&&Zjb ((n+m)*i.bytes) 140737488355328&&Zjb (n+m) 140737488355328)<|
      k (.own d 0 (n+m)) ((l.kill d).put d (.sb e 0 (olds++news))) [d]
     |false=>need (!Nat.beq i.size 0&&Zjb ((n+m)*i.bytes) 140737488355328&&Zjb (n+m) 140737488355328)<|
      k (.c (.sl (n+m) (olds++news))) l []
    |_=>none
  |_,_=>none
 |_=>none
def Ql (x:V):Option Int:=match x with| .c (.v (.int _ i))=>some i|_=>none
def Ac (cf:Cfg) (strict:Bool) (d:Nat) (s x:V):Bool:=
 match strict with
 |false=>true
 |true=>match s,x with
  | .fs _ _, .c _=> !cf.own d
  |_,_=>false
def Y6 {R:Type} (P:Program) (l:Loc) (k:V->Loc->List Nat->Option R) (T T':TypeId) (s x:V) (d:Nat):Option R:=
 match P.underlying T,P.underlying T',s,Ql x with
 |some (.slice e),some (.int _), .c .nl,some n=>
  match P.info? e,X9 P e with
  |some i,some zs=>need (decide (0<n)&&decide ((i.bytes:Int)*n<=140737488355328)&&decide (n<=140737488355328)&& !Nat.beq i.size 0)
    (k (.own d 0 n.toNat) ((l.kill d).put d (.sb e 0 (reps n.toNat zs))) [d])
  |_,_=>none
 |_,_,_,_=>none
def Lo (P:Program) (T:TypeId) (f:Nat):Option (Nat×TypeId):=
 match P.underlying T with
 |some (.struct fs)=>match fs.toList[f]? with
  |some fd=>some (fd.offset,fd.type)
  |none=>none
 |_=>none
def bound {R:Type} (x:Option V) (dflt:Nat) (y:Nat) (k:Nat->Option R):Option R:=
 match x with
 |none=>k dflt
 |some (.c c)=>match c with
  | .v (.int _ i)=>need (decide (0<=i)&&decide (i<=(y:Int))) (k i.toNat)
  |_=>none
 |some _=>none
def Tm {R:Type} (sz:Nat) (lo hi:Option V) (c:C) (k:C->Option R):Option R:=
 match c with
 | .nl=>bound hi 0 0 λh=>bound lo 0 h λ_=>k .nl
 | .sl n cs=>bound hi n n λh=>bound lo 0 h λa=>k (.sl (h-a) ((cs.drop (a*sz)).take ((h-a)*sz)))
 |_=>none
def inR (i:Int) (n:Nat):Bool:=decide (0<=i)&&decide (i<(n:Int))
def Nx (P:Program) (fs:Array Field) (i:Nat):Option (Nat×Nat):=
 match fs.toList[i]? with
 |some f=>some (f.offset,Ze P f.type)
 |none=>none
def Cl:V->Bool
 | .agg _=>false
 |_=>true
def ceq:C->C->Bool
 | .v (.int k a), .v (.int k' b)=>decide (k=k')&&decide (a=b)
 | .v (.bool a), .v (.bool b)=>decide (a=b)
 | .v (.string a), .v (.string b)=>decide (a=b)
 |_,_=>false
def Zay:List C->List C->Bool
 | [],[]=>true
 |a::r,b::q=>ceq a b&&Zay r q
 |_,_=>false
def mfind (P:Program) (kt:TypeId) (kc:List C):List (List C×List C)->Nat->Option (Option (Nat×List C))
 | [],_=>some none
 |e::es,i=>match eqT P 20 kt kc e.1 with
  |some b=>bif b then need (Zay kc e.1) (some (some (i,e.2)))else mfind P kt kc es (i+1)
  |none=>none
def U3 (P:Program):Nat->TypeId->Bool
 |0,_=>false
 |d+1,t=>match P.underlying t with
  |some (.int _)|some .bool|some .string=>Zi8 (Ze P t) 1
  | some (.struct fs) => fs.toList.all fun f => !(f.name == "_") && U3 P d f.type && Zjb (f.offset + Ze P f.type) (Ze P t)
  |_=>false
def Px (es:List (List C×List C)) (r:Option (Nat×List C)) (kc vc:List C):List (List C×List C):=
 match r with
 |some (i,_)=>es.set i (kc,vc)
 |none=>es++[(kc,vc)]
def Sg {R:Type} (x:V) (k:List C->Option R):Option R:=
 match x with
 | .c c=>k [c]
 | .agg cs=>k cs
 |_=>none
def Ed (P:Program) (t:TypeId) (x:V):Bool:=
 match x with
 | .c _=> !Ya P t
 | .agg cs=>Ya P t&&Zi8 cs.length (Ze P t)
 |_=>false
section ops
variable {R:Type} (P:Program) (l:Loc) (k:V->Loc->List Nat->Option R)
def orZ (q:Option (Nat×List C)) (zs:List C):List C:=match q with|some p=>p.2|none=>zs
def Py (t:TypeId):Bool:=
 match P.info? t with
 |some i=>match i.zero with
  |some (.agg _)=>Ya P t
  |some z=> !Ya P t&&z.oneCell'
  |none=>false
 |none=>false
def Qm (own:Bool) (t:TypeId) (d:Nat) (r:Option V):Option R:=
 match P.underlying t,r,own with
 |some (.map kt et),none,false=>need (U3 P 20 kt) (k (.mp d) ((l.kill d).put d (.mp kt et [])) [d])
 |some (.map kt et),none,true=>match P.underlying et with
  |some (.slice te)=>need (U3 P 20 kt&& !Nat.beq (Ze P te) 0) (k (.mp d) ((l.kill d).put d (.mr kt et te [])) [d])
  |_=>none
 |_,_,_=>none
def Ad (a b:Option Nat):Bool:=match a,b with|some n,some m=>Zi8 n m|none,none=>true|_,_=>false
def Ee {R:Type} (c:C) (kt et:TypeId) (ka va:Option Nat) (k:List (List C×List C)->Option R):Option R:=
 match c with
 | .mp kt' et' ka' va' es=>need (Zi8 kt' kt&&Zi8 et' et&&Ad ka' ka&&Ad va' va) (k es)
 |_=>none
def Qz (kt et:TypeId) (es:List (List C×List C)) (i:V) (ok:Bool):Option R:=
 Sg i λkc=>(mfind P kt kc es 0).bind λq=>
  match X9 P et with
  |some zs=>match ok with
   |false=>ldC P et (orZ q zs) λv=>k v l []
   |true=>ldC P et (orZ q zs) λv=>k (.tup [v,B q.isSome]) l []
  |none=>none
def Ur (T:TypeId) (x i:V) (ok:Bool):Option R:=
 match P.underlying T,x with
 |some (.map kt et), .mp s=>match l s with
  | .mp kt' et' es=>need (Zi8 kt' kt&&Zi8 et' et&&Ed P kt i&&U3 P 20 kt&&Py P et)<|Qz P l k kt et es i ok
  |_=>none
 |some (.map kt et), .c c=>Ee c kt et (Q6 P kt) (Q6 P et) λes=>
  need (Ed P kt i&&U3 P 20 kt&&Py P et)<|Qz P l k kt et es i ok
 |_,_=>none
def Rb (T:TypeId) (x i:V) (ok:Bool):Option R:=
 match x with
 | .c c=>Ur P l k T (.c c) i ok
 |_=>none
def Ug (T:TypeId) (x i v:V):Option R:=
 match P.underlying T,x with
 |some (.map kt et), .mp s=>match l s with
  | .mp kt' et' es=>need (Zi8 kt' kt&&Zi8 et' et&&Ed P kt i&&U3 P 20 kt&&Ed P et v)<|Sg i λkc=>Sg v λvc=>(mfind P kt kc es 0).bind λq=>
   k .und (l.put s (.mp kt et (Px es q kc vc))) []
  |_=>none
 |_,_=>none
def J8 (q:Option (Nat×List C)) (es:List (List C×List C)):Nat:=match q with|some p=>p.1|none=>es.length
def nilZ (et:TypeId):Bool:=Py P et&& !Ya P et&&match X9 P et with|some [c]=>(match c with| .nl=>true|_=>false)|_=>false
def Mj (c a b:V):Option R:=
 match c with
 | .c (.v (.bool q))=>k (Zau q a b) l []
 |_=>none
def Ny (strict own:Bool) (t:TypeId) (d:Nat) (x:V):Option R:=
 match own,strict with
 |true,false=>match x with
  | .mag xs=>k (.ptr d 0) ((l.kill d).put d (.mx t (xs.map (V.kill d)))) [d]
  |x=>pur P false x l λcs l1=>need (Zi8 cs.length (Ze P t)) (k (.ptr d 0) ((l1.kill d).put d (.ob t 0 cs)) [d])
 |true,true=>none
 |false,_=>pur P strict x l λcs l1=>k (.c (.cp cs)) l1 []
def Us (strict:Bool) (t:TypeId) (is:List Nat) (xs:List V):Option R:=
 match P.underlying t,X9 P t with
 |some (.struct fs),some zs=>need (fs.toList.all λf=>(P.info? f.type).isSome)<|
  Ro P strict xs l λps l1=>
   Qy (Nx P fs) is ps zs λcs=>k (.agg cs) l1 []
 |some (.array _ el),some zs=>need (P.info? el).isSome<|
  Ro P strict xs l λps l1=>
   Qy (λi=>some (i*Ze P el,Ze P el)) is ps zs λcs=>k (.agg cs) l1 []
 |_,_=>none
def Tn (t:TypeId) (is:List Nat) (xs:List V):Option R:=
 match P.underlying t,X9 P t,L1 l xs with
 |some (.struct fs),some zs,some ps=>need (fs.toList.all λf=>(P.info? f.type).isSome)<|
  V3 (Nx P fs) is ps (zs.map .c) λys=>k (.mag ys) l []
 |_,_,_=>none
def Zef (full:Bool) (n:Nat) (cs:List C):V:=match full with|true=> .fs n cs|false=> .c (.sl n cs)
def Zs (strict own full:Bool) (t:TypeId) (n d:Nat) (is:List Nat) (xs:List V):Option R:=
 match P.underlying t with
 |some (.slice el)=>match X9 P el with
  |some zs=>
   Ro P strict xs l λps l1=>
    Qy (λi=>some (i*Ze P el,Ze P el)) is ps (reps n zs) λcs=>
     need (Zjb (n*Ze P el) 16777216&& !Nat.beq (Ze P el) 0)<|
     match own,strict with
     |true,false=>k (.own d 0 n) ((l1.kill d).put d (.sb el 0 cs)) [d]
     |true,true=>none
     |false,_=>k (Zef full n cs) l1 []
  |none=>none
 |_=>none
def Y1 (t:TypeId) (n d:Nat) (is:List Nat) (xs:List V):Option R:=
 match P.underlying t with
 |some (.slice el)=>match X9 P el,L1 l xs with
  |some zs,some ps=>V3 (λi=>some (i*Ze P el,Ze P el)) is ps ((reps n zs).map .c) λys=>
    need (Zjb (n*Ze P el) 16777216&& !Nat.beq (Ze P el) 0) (k (.ws d n) ((l.kill d).put d (.mx el (ys.map (V.kill d)))) [d])
  |_,_=>none
 |_=>none
def Yh (strict own full:Bool) (t:TypeId) (n d:Nat) (is:List Nat) (xs:List V):Option R:=
 match own,full,strict with
 |true,true,false=>Y1 P l k t n d is xs
 |own,full,strict=>Zs P l k strict own full t n d is xs
def Vv (t:TypeId) (x:V):Option R:=
 match x with
 | .c c=>ldC P t [c] λv=>k v l []
 | .own s' o' n'=>need (P.underlying t).isSome (k (.own s' o' n') l [])
 | .mp s'=>need (P.underlying t).isSome (k (.mp s') l [])
 | .ws s' n'=>need (P.underlying t).isSome (k (.ws s' n') l [])
 |_=>none
def Zz (strict:Bool) (t:TypeId) (a:V):Option R:=
 match a with
 | .c c=>asP c λcs=>ldC P t cs λv=>k v l []
 | .ptr s off=>match l s with
  | .ob _ _ cs=>ldC P t (cs.drop off) λv=>k v l []
  | .sb _ _ cs=>ldC P t (cs.drop off) λv=>k v l []
  | .mx _ xs=>match Ya P t with
   |true=>need (Zjb (off+Ze P t) xs.length) (U1 P strict ((xs.drop off).take (Ze P t)) l λcs l1=>ldC P t cs λv=>k v l1 [])
   |false=>match xs.drop off with
    |x::_=>Vv P l k t x
    | []=>none
  | .pk g _ q none=>need (!Ya P t&&(P.underlying t).isSome)<|q.look off λp=>match p with
   | .c c=>ldC P t [c] λv=>k v l []
   | .r te row=>k (.rw s g off (row.length/Ze P te)) l []
  |_=>none
 |_=>none
def Mk (t:TypeId) (a:V):Option R:=
 match a with
 | .ptr s off=>match l s with
  | .mx _ xs=>need (Ya P t&&(P.info? t).isSome&&Zjb (off+Ze P t) xs.length) (k (.mag ((xs.drop off).take (Ze P t))) l [])
  |_=>none
 |_=>none
def J9 (mag strict:Bool) (t:TypeId) (a:V):Option R:=
 match mag,strict with
 |true,false=>Mk P l k t a
 |_,_=>Zz P l k strict t a
def Yb (t:TypeId) (s off:Nat) (t':TypeId) (xs:List V) (x:V):Option R:=
 match x with
 | .own s' o' n'=>need (Zjb (off+1) xs.length&&Zi8 (Ze P t) 1&&(P.info? t).isSome&&(Zv (l s')).isSome) (k .und (l.put s (.mx t' (putAtV xs off [.own s' o' n']))) [])
 | .mp s'=>need (Zjb (off+1) xs.length&&Zi8 (Ze P t) 1&&(P.info? t).isSome&&isMp (l s')) (k .und (l.put s (.mx t' (putAtV xs off [.mp s']))) [])
 | .c c=>need (Zjb (off+1) xs.length&&Zi8 (Ze P t) 1&&(P.info? t).isSome) (k .und (l.put s (.mx t' (putAtV xs off [.c c]))) [])
 | .agg cs=>need (Zjb (off+cs.length) xs.length&&Zi8 cs.length (Ze P t)&&(P.info? t).isSome) (k .und (l.put s (.mx t' (putAtV xs off (cs.map .c)))) [])
 | .mag ys=>need (Zjb (off+ys.length) xs.length&&Zi8 ys.length (Ze P t)&&(P.info? t).isSome) (k .und (l.put s (.mx t' (putAtV xs off ys))) [])
 |_=>none
def Y5 (strict:Bool) (t:TypeId) (s off:Nat) (x:V):Option R:=
 pur P strict x l λxs l1=>match l1 s with
  | .ob t' fz cs=>need (Zi8 xs.length (Ze P t)&&Zjb fz off&&Zjb (off+xs.length) cs.length&&(P.info? t).isSome) (k .und (l1.put s (.ob t' fz (putAt cs off xs))) [])
  | .sb t' fz cs=>need (Zi8 xs.length (Ze P t)&&Zjb fz off&&Zjb (off+xs.length) cs.length&&(P.info? t).isSome) (k .und (l1.put s (.sb t' fz (putAt cs off xs))) [])
  |_=>none
def pcC:PC->Option C
 | .c c=>some c
 |_=>none
def Xk (t:TypeId) (s off:Nat) (g:Nat) (t':TypeId) (q:Rws) (pe:Option (Nat×TypeId×List C)) (x:V):Option R:=
 need (Zi8 (Ze P t) 1&&(P.info? t).isSome)<|match x,pe with
 | .rp s2 g2 j2 n,some (j,te,row)=>need (Zi8 s2 s&&Zi8 g2 g&&Zi8 j2 j&&Zi8 off j&&Zi8 (n*Ze P te) row.length) (k .und (l.put s (.pk (Zjd g) t' (q.put j te row) none)) [])
 | .c c,none=>match q with
  | .ps ps=>need (Zje off ps.length) (k .und (l.put s (.pk (Zjd g) t' (.ps (ps.set off (.c c))) none)) [])
  | .rs _ _=>none
 | .ws s2 n2,none=>match q with
  | .ps ps=>match ps.mapM pcC with
   |some cs=>need (Zje off ps.length&&live (l s2)&& !Nat.beq s2 s) (k .und (l.put s (.mx t' (putAtV (cs.map .c) off [.ws s2 n2]))) [])
   |none=>none
  | .rs _ _=>none
 |_,_=>none
def Ef:V->Bool
 | .own _ _ _=>true
 | .mp _=>true
 | .mag _=>true
 |_=>false
def Y7 (strict mix:Bool) (t:TypeId) (a x:V):Option R:=
 match a with
 | .ptr s off=>match l s with
  | .ob t' fz cs=>bif Ef x&&(Zi8 cs.length 1||mix)&&Zi8 fz 0 then Yb P l k t s off t' (cs.map .c) x else Y5 P l k strict t s off x
  | .sb _ _ _=>Y5 P l k strict t s off x
  | .mx t' xs=>Yb P l k t s off t' xs x
  | .pk g t' q pe=>Xk P l k t s off g t' q pe x
  |_=>none
 |_=>none
def Rv (T:TypeId) (x y:V):Option R:=
 match P.underlying T with
 |some (.slice el)=>match P.info? el,x,y with
  |some i, .own s off n, .own s' off' m=>match Zv (l s),Zv (l s')with
   |some _,some (t',_,ds)=>match Nat.min m n with
    |0=>k (I 0) l []
    |q+1=>match l s with
     | .sb t fz cs=>need (Zi8 t el&&Zi8 t' el&&Zjb fz off&&Zjb (off+(q+1)*i.size) cs.length&&Zjb (off'+(q+1)*i.size) ds.length&&Zjb 1 i.size)
       (k (I ((q+1:Nat):Int)) (l.put s (.sb t fz (putAt cs off ((ds.drop off').take ((q+1)*i.size))))) [])
     |_=>none
   |_,_=>none
  |some i, .own s off n, .c c=>asSl c λm ds=>match l s with
   | .sb t fz cs=>match Nat.min m n with
    |0=>k (I 0) l []
    |q+1=>need (Zi8 t el&&Zjb fz off&&Zjb (off+(q+1)*i.size) cs.length&&Zjb ((q+1)*i.size) ds.length&&Zjb 1 i.size)
       (k (I ((q+1:Nat):Int)) (l.put s (.sb t fz (putAt cs off (ds.take ((q+1)*i.size))))) [])
   |_=>none
  |_,_,_=>none
 |_=>none
def Se (x:V):Option R:=
 match x with
 | .ptr s off=>need (live (l s)) (k (.ptr s off) l [])
 | .c c=>match c with
  | .cp cs=>k (.c (.cp cs)) l []
  | .fn f cs=>k (.c (.fn f cs)) l []
  |_=>none
 |_=>none
def Xl (t:TypeId) (d:Nat) (n c:V):Option R:=
 match P.underlying t,Ql n,Ql c with
 |some (.slice el),some a,some b=>match P.info? el,X9 P el with
  |some i,some zs=>need (decide (0<=a)&&decide (a<=b)&&decide ((i.bytes:Int)*b<=140737488355328)&&decide (b<=140737488355328)&& !Nat.beq i.size 0)
    (k (.own d 0 a.toNat) ((l.kill d).put d (.sb el 0 (reps a.toNat zs))) [d])
  |_,_=>none
 |_,_,_=>none
def U4 (t:TypeId) (d:Nat) (n c:V):Option R:=
 match P.underlying t,Ql n,Ql c with
 |some (.slice el),some a,some b=>match P.underlying el,P.info? el with
  |some (.slice te),some i=>need (nilZ P el&&decide (0<=a)&&decide (a=b)&&decide ((i.bytes:Int)*b<=140737488355328)&&decide (b<=140737488355328)&&Zi8 i.size 1&& !Nat.beq (Ze P te) 0)
    (k (.ws d a.toNat) ((l.kill d).put d (.pk 0 el (.rs te (List.replicate a.toNat [])) none)) [d])
  |_,_=>none
 |_,_,_=>none
def Yy (t:TypeId) (n c:V):Option R:=
 match P.underlying t,Ql n,Ql c with
 |some (.slice el),some a,some b=>match P.info? el,X9 P el with
  |some i,some zs=>need (decide (0<=a)&&decide (a=b)&&decide ((i.bytes:Int)*b<=140737488355328)&&decide (b<=140737488355328)&& !Nat.beq i.size 0)
    (k (.c (.sl a.toNat (reps a.toNat zs))) l [])
  |_,_=>none
 |_,_,_=>none
def U5 (mix:Bool) (t:TypeId) (d:Nat) (n c:V):Option R:=
 match mix with
 |true=>U4 P l k t d n c
 |false=>Xl P l k t d n c
def Yd (t:TypeId) (x:V) (lo hi:Option V):Option R:=
 match P.underlying t with
 |some .string=>match x with
  | .c c=>asS c λs=>bound hi s.size s.size λh=>bound lo 0 h λa=>k (.c (.v (.string (s.extract a h)))) l []
  |_=>none
 |some (.slice el)=>match P.info? el with
  |some inf=>match x with
   | .c c=>Tm inf.size lo hi c λc'=>k (.c c') l []
   | .own s off n=>match Zv (l s)with
    |some (t',_,_)=>need (Zi8 t' el&& !Nat.beq inf.size 0)<|bound hi n n λh=>bound lo 0 h λa=>k (.own s (off+a*inf.size) (h-a)) l []
    |none=>none
   |_=>none
  |none=>none
 |some (.array n el)=>match P.info? el,x,lo,hi with
  |some inf, .c c,none,none=>asP c λcs=>need (Zi8 (n*inf.size) cs.length&& !Nat.beq inf.size 0&&Zjb 1 n&&Zjb n 1000000000) (k (.c (.sl n cs)) l [])
  |some inf, .ptr s off,none,none=>match l s with
   | .ob _ _ cs=>need (Zi8 off 0&&Zi8 (n*inf.size) cs.length&& !Nat.beq inf.size 0&&Zjb 1 n&&Zjb n 1000000000) (k (.ws s n) l [])
   |_=>none
  |_,_,_,_=>none
 |_=>none
def Uc (strict:Bool) (t:TypeId) (x:V) (lo hi m:Option V):Option R:=
 match P.underlying t,lo,hi,m with
 |some (.slice el),none,some h,some h'=>match P.info? el,Ql h,Ql h' with
  |some inf,some i,some j=>need (decide (i=j)&&decide (0<=i)&&Cl x)<|pur P strict x l λcs l1=>match cs with
   | [c]=>asSl c λn cs'=>need (Zjb i.toNat n) (k (.fs i.toNat (cs'.take (i.toNat*inf.size))) l1 [])
   |_=>none
  |_,_,_=>none
 |_,_,_,_=>none
def To (strict:Bool) (t:TypeId) (x:V) (lo hi m:Option V):Option R:=
 match strict with
 |false=>Uc P l k false t x lo hi m
 |true=>match x with
  | .c c=>Uc P l k true t (.c c) lo hi m
  |_=>none
def Zp (T:TypeId) (f:Nat) (x:V):Option R:=
 match Lo P T f with
 |some (fo,ft)=>need (!Nat.beq (Ze P ft) 0)<|match x with
  | .ptr s off=>need (live (l s)) (k (.ptr s (off+fo)) l [])
  | .c c=>asP c λcs=>k (.c (.cp (cs.drop fo))) l []
  |_=>none
 |none=>none
def Q7 (T:TypeId) (f:Nat) (x:V):Option R:=
 match Lo P T f,x with
 |some (fo,ft), .agg cs=>ldC P ft (cs.drop fo) λv=>k v l []
 |_,_=>none
def Zk (T:TypeId) (x i:V):Option R:=
 match Ql i,P.underlying T with
 |some a,some (.slice el)=>match P.info? el with
  |some inf=>match x with
   | .c c=>asSl c λn cs=>need (inR a n) (k (.c (.cp (cs.drop (a.toNat*inf.size)))) l [])
   | .own s off n=>match Zv (l s)with
    |some _=>need (inR a n) (k (.ptr s (off+a.toNat*inf.size)) l [])
    |none=>none
   | .ws s n=>need (live (l s)&&inR a n) (k (.ptr s (a.toNat*inf.size)) l [])
   |_=>none
  |none=>none
 |some a,some (.array n el)=>match P.info? el with
  |some inf=>match x with
   | .ptr s off=>need (live (l s)&&inR a n) (k (.ptr s (off+a.toNat*inf.size)) l [])
   | .c c=>asP c λcs=>need (inR a n) (k (.c (.cp (cs.drop (a.toNat*inf.size)))) l [])
   |_=>none
  |none=>none
 |_,_=>none
def U6 (T:TypeId) (x i:V):Option R:=
 match Ql i,P.underlying T with
 |some a,some (.array n el)=>match P.info? el with
  |some inf=>match x with
   | .agg cs=>need (inR a n) (ldC P el (cs.drop (a.toNat*inf.size)) λv=>k v l [])
   |_=>none
  |none=>none
 |some a,some .string=>match x with
  | .c c=>asS c λs=>need (inR a s.size) (k (.c (.v (.int .u8 ((s.data.getD a.toNat 0).toNat:Int)))) l [])
  |_=>none
 |_,_=>none
def L3 (T:TypeId) (x:V):Option R:=
 match x,P.underlying T with
 | .c .nl,some (.slice _)=>k (I 0) l []
 |_,_=>none
def Y8 (i:Nat) (x:V):Option R:=
 match x with
 | .ent s n j=>match i with
  |0=>k (.own s 0 n) l []
  |1=>k (I j) l []
  |_=>none
 | .est j=>match i with
  |1=>k (I j) l []
  |_=>none
 | .tup vs=>match vs[i]? with
  |some v=>k v l []
  |none=>none
 |_=>none
def Ye (T:TypeId) (x:V):Option R:=
 match x,P.underlying T with
 | .c c,some (.slice _)=>asSl c λn _=>k (I n) l []
 | .c c,some .string=>asS c λs=>k (I s.size) l []
 | .own s _ n,some (.slice _)=>match Zv (l s)with
  |some _=>k (I n) l []
  |none=>none
 | .mp s,some (.map _ _)=>match l s with
  | .mp _ _ es=>k (I es.length) l []
  | .mr _ _ _ es=>k (I es.length) l []
  |_=>none
 | .c c,some (.map _ _)=>match c with
  | .mp _ _ _ _ es=>k (I es.length) l []
  |_=>none
 | .ws s n,some (.slice _)=>need (live (l s)) (k (I n) l [])
 | .rw s g j n,some (.slice _)=>match gen (l s)with
  |some (g',false)=>need (Zi8 g g') (k (I n) l [])
  |_=>none
 |_,some (.array n _)=>k (I n) l []
 |_,_=>none
def Yu (strict:Bool) (f:FuncId) (xs:List V):Option R:=
 Ro P strict xs l λps l1=>need (ps.all λp=>Zi8 p.length 1) (k (.c (.fn f ps.flatten)) l1 [])
def Pz (f:FuncId) (xs:List V):Option R:=
 match xs with
 | [.ptr s off]=>need (Zi8 off 0&&live (l s)) (k (.clo f s) l [])
 |_=>none
def Xu (own strict:Bool) (f:FuncId) (xs:List V):Option R:=
 match own,strict with
 |true,false=>Pz l k f xs
 |_,_=>Yu P l k strict f xs
def Le (lt:Bool) (xs:List V):Option R:=
 match xs with
 | .c (.v (.int kd a))::r=>Vp lt r kd a λv=>k v l []
 |_=>none
end ops
def Zeg (cf:Cfg) (a:V):Bool:=
 match a with
 | .ptr s _=>cf.mix s
 |_=>false
def ownD (cf:Cfg) (d:Option Nat):Bool:=match d with|some d=>cf.own d|none=>false
def mixD (cf:Cfg) (d:Option Nat):Bool:=
 match d with
 |some d=>cf.mix d
 |none=>false
def Wa (P:Program) (t:TypeId) (L:List Nat) (l:Loc) (a:V):Bool:=
 match a with
 | .ptr s off=>L.any (Zi8 s)&&match l s with
  | .mx _ xs=> !Ya P t&&(match xs.drop off with
   | .own s' _ _::_=>L.any (Zi8 s')
   | .c _::_=>true
   |_=>false)
  | .ob _ _ _=>true
  |_=>false
 |_=>false
def rdF (strict:Bool) (L:List Nat) (a:V):Bool:=
 match strict,L with
 |true,x::L=>(match a with| .ptr s _=>(x::L).any (Zi8 s)|_=>false)
 |_,_=>true
def rdC (P:Program) (t:TypeId) (strict:Bool) (L:List Nat) (l:Loc) (a:V):Bool:=
 match strict,L with
 |true,x::L=>Wa P t (x::L) l a
 |_,_=>true
def Cfg.rdl (cf:Cfg) (o:Oper):List Nat:=match o.dst with|some d=>cf.rd d|none=>[]
def Cfg.prl (cf:Cfg) (o:Oper):List Nat:=match o.dst with|some d=>cf.pr d|none=>[]
noncomputable def opK {R:Type} (cf:Cfg) (strict:Bool) (o:Oper) (e:Operand->V) (l:Loc) (k:V->Loc->List Nat->Option R):Option R:=
 match o.op with
 | .move x=>k (e x) l []
 | .assign x=>k (e x) l []
 | .pick c a b=>Mj l k (e c) (e a) (e b)
 | .alloc _=>match o.dst with
  |some d=>k (.ptr d 0) l []
  |none=>none
 | .box t x=>match o.dst with
  |some d=>Ny cf.P l k strict (cf.own d) t d (e x)
  |none=>none
 | .build t parts=>match mixD cf o.dst with
  |true=>match strict with
   |false=>Tn cf.P l k t (parts.toList.map (·.1)) (parts.toList.map λp=>e p.2)
   |true=>none
  |false=>Us cf.P l k strict t (parts.toList.map (·.1)) (parts.toList.map λp=>e p.2)
 | .buildSlice t n parts=>match o.dst with
  |some d=>Yh cf.P l k strict (cf.own d) (cf.mix d) t n d (parts.toList.map (·.1)) (parts.toList.map λp=>e p.2)
  |none=>none
 | .load t a=>need (rdC cf.P t strict (cf.rdl o) l (e a)) (J9 cf.P l k (mixD cf o.dst) strict t (e a))
 | .store t a x=>Y7 cf.P l k strict (Zeg cf (e a)) t (e a) (e x)
 | .nilCheck x=>Se l k (e x)
 | .binOp op t x y _=>Tj cf.P op t (e x) (e y) λv=>k v l []
 | .unOp op _ x=>unV op (e x) λv=>k v l []
 | .convert src dst x=>Rs cf.P src dst (e x) λv=>k v l []
 | .makeFunc fn first cap=>match fn,first.toList with
  | .func f,[]=>need ((cap.toList.map e).all Cl) (Xu cf.P l k (ownD cf o.dst) strict f (cap.toList.map e))
  |_,_=>none
 | .makeMap t r=>match o.dst,strict with
  |some d,false=>Qm cf.P l k (cf.own d) t d (r.map e)
  |_,_=>none
 | .lookup t x i ok=>match strict with
  |false=>Ur cf.P l k t (e x) (e i) ok
  |true=>Rb cf.P l k t (e x) (e i) ok
 | .mapUpdate t x i v=>match strict with
  |false=>Ug cf.P l k t (e x) (e i) (e v)
  |true=>none
 | .makeSlice t n c=>match o.dst,strict with
  |some d,false=>U5 cf.P l k (cf.mix d) t d (e n) (e c)
  |some _,true=>Yy cf.P l k t (e n) (e c)
  |_,_=>none
 | .slice t x lo hi mx=>match mx with
  |some m=>To cf.P l k strict t (e x) (lo.map e) (hi.map e) (some (e m))
  |none=>Yd cf.P l k t (e x) (lo.map e) (hi.map e)
 | .fieldAddr T x f=>need (rdF strict (cf.rdl o) (e x)) (Zp cf.P l k T f (e x))
 | .field T x f=>Q7 cf.P l k T f (e x)
 | .indexAddr T x i=>Zk cf.P l k T (e x) (e i)
 | .index T x i=>U6 cf.P l k T (e x) (e i)
 | .extract x i=>Y8 l k i (e x)
 | .call c=>match c.callee with
  | .builtin .len=>match c.args.toList,c.argTypes.toList with
   | [x],[T]=>Ye cf.P l k T (e x)
   |_,_=>none
  | .builtin .append=>match o.dst,c.args.toList,c.argTypes.toList with
   |some d,[s,x],[T,T']=>match Ac cf strict d (e s) (e x)with
    |true=>bif Zi8 T T' then Yr cf T (e s) (e x) d l k else Y6 cf.P l k T T' (e s) (e x) d
    |false=>none
   |_,_,_=>none
  | .builtin .cap=>match c.args.toList,c.argTypes.toList with
   | [x],[T]=>L3 cf.P l k T (e x)
   |_,_=>none
  | .builtin .copy=>match strict,c.args.toList,c.argTypes.toList with
   |false,[x,y],[T,_]=>Rv cf.P l k T (e x) (e y)
   |_,_,_=>none
  | .builtin .max=>Le l k false (c.args.toList.map e)
  | .builtin .min=>Le l k true (c.args.toList.map e)
  | .builtin _=>none
  | .invoke _ _=>none
  | .value f=>match f with
   | .func f=>V4 cf strict f (c.args.toList.map e) o.type o.dst l k
   |f=>match e f with
    | .c c'=>Gf c' (λn=>R5 cf.P strict n (c.args.toList.map e) l k) λf caps=>X1 cf strict [] [] f (c.args.toList.map e++caps.map .c) o.type o.dst l k
    | .clo f s=>match strict with
     |false=>need (live (l s)) (X1 cf false [] [] f (c.args.toList.map e++[.ptr s 0]) o.type o.dst l k)
     |true=>none
    |_=>none
 |_=>none
def St.after (σ:St) (d:Option Nat) (x:V) (l:Loc) (ks:List Nat):St:=
 (⟨Z4 ks σ.slots,l⟩:St).put d x l
def deadB:Obj->Bool
 | .dead=>true
 |_=>false
def okKs (l:Loc) (ks:List Nat):Bool:=ks.all λs=>Zje s OUT||deadB (l s)
def noLoc:Loc:=⟨λ_=> .sb 0 0 [],none⟩
def lz (strict:Bool) (l:Loc):Loc:=match strict with|true=>noLoc|false=>l
def Vw (z:Bool×List Nat) (l:Loc) (ks:List Nat):Bool:=okKs l ks&&((match z.1,ks with|true,_::_=>false|_,_=>true)&& !ks.any λs=>z.2.any (Zi8 s))
def Cfg.loudO (cf:Cfg) (o:Oper):Bool:=match o.dst with
 |some d=>cf.loud d
 |none=>match o.op with
  | .store _ (.tmp a) _=>cf.loud (OUT+a)
  |_=>false
def Cfg.barO (cf:Cfg) (o:Oper):Bool:=match o.dst with
 |some d=>cf.bar d
 |none=>match o.op with
  | .mapUpdate _ (.tmp x) _ _=>cf.bar (2*OUT+x)
  | .entryStore _ (.tmp x) _ _=>cf.bar (2*OUT+x)
  |_=>false
def Cfg.exO (cf:Cfg) (o:Oper):Bool:=match o.dst with|some d=>cf.bar (OUT+d)|none=>false
def Qx (L:List Nat) (v:V):Bool:=match v with| .ptr s _=> !L.any (Zi8 s)| .own s _ _=> !L.any (Zi8 s)| .mp s=> !L.any (Zi8 s)| .ws s _=> !L.any (Zi8 s)| .rw s _ _ _=> !L.any (Zi8 s)| .rp s _ _ _=> !L.any (Zi8 s)|_=>true
def Ml (L:List Nat) (o:Op) (e:Operand->V):Bool:=
 match o with
 | .load _ a=>Qx L (e a)
 | .nilCheck x=>Qx L (e x)
 | .slice _ x _ _ _=>Qx L (e x)
 | .fieldAddr _ x _=>Qx L (e x)
 | .indexAddr _ x _=>Qx L (e x)
 | .call c=>c.args.toList.all λa=>Qx L (e a)
 |_=>true
def Zaz (L:List Nat) (v:V):Bool:=match v with| .c _=>true| .agg _=>true| .ptr s _=>L.any (Zi8 s)|_=>false
def ptrIn (L:List Nat) (v:V):Bool:=match v with| .ptr s _=>L.any (Zi8 s)|_=>false
def rowIn (L:List Nat) (v:V):Bool:=match v with| .rw s _ _ _=>L.any (Zi8 s)|_=>false
def rowP (v:V):Bool:=match v with| .rp _ _ _ _=>true|_=>false
def R6 (cf:Cfg) (o:Op) (e:Operand->V):Bool:=
 match o with
 | .call c=>match c.callee with
  | .value (.func f)=>(!addB cf f&&match cf.xo f with| []=>true|_::_=>false)&&c.args.toList.all λa=>Zaz cf.lh (e a)
  | .builtin .append=>match c.args.toList with
   | [a,x]=>rowIn cf.lh (e a)&&Zy (e x)
   |_=>false
  |_=>false
 | .store _ a x=>ptrIn cf.lh (e a)&&(Zy (e x)||rowP (e x))
 |_=>false
def Cm:Op->Bool
 | .load _ _=>true
 | .nilCheck _=>true
 | .fieldAddr _ _ _=>true
 | .indexAddr _ _ _=>true
 | .buildSlice _ _ _=>true
 | .makeSlice _ _ _=>true
 | .build _ _=>true
 | .call c=>(match c.callee with| .builtin .len=>true|_=>false)
 |_=>false
def Cfg.plO (cf:Cfg) (o:Oper):Bool:=Cm o.op&&match o.dst with|some d=>cf.bar (3*OUT+d)|none=>false
def Rp (o:Op) (e:Operand->V):Bool:=
 match o with
 | .load _ a=>Zy (e a)
 | .nilCheck x=>Zy (e x)
 | .fieldAddr _ x _=>Zy (e x)
 | .indexAddr _ x i=>Zy (e x)&&Zy (e i)
 | .buildSlice _ _ parts=>parts.toList.all λp=>Zy (e p.2)
 | .makeSlice _ n c=>Zy (e n)&&Zy (e c)
 | .build _ parts=>parts.toList.all λp=>Zy (e p.2)
 | .call c=>(match c.callee with| .builtin .len=>c.args.toList.all λa=>Zy (e a)|_=>false)
 |_=>false
def Xe (cf:Cfg) (strict:Bool) (o:Oper) (e:Operand->V):Bool:=
 match strict with
 |false=>true
 |true=>match cf.barO o with
  |true=>true
  |false=>match cf.loudO o with
  |true=>R6 cf o.op e
  |false=>match cf.plO o with
   |true=>Rp o.op e
   |false=>match cf.exO o with
   |true=>true
   |false=>Ml cf.lh o.op e
def Cfg.str (cf:Cfg) (strict:Bool) (o:Oper):Bool:=match strict with|true=> !(cf.loudO o||cf.barO o)|false=>false
def Cfg.stz (cf:Cfg) (strict:Bool) (o:Oper):Bool×List Nat:=match strict with|true=>(!cf.barO o,cf.al++cf.prl o)|false=>(false,[])
noncomputable def Nz {R:Type} (cf:Cfg) (strict:Bool) (dsts:Nat->Option Nat):List Oper->St->(St->Option R)->Option R
 | [],σ,k=>k σ
 |o::r,σ,k=>
  match o.guard with
  |none=>opK cf (cf.str strict o) o (σ.ev cf.glob) σ.loc λx l ks=>need (Vw (cf.stz strict o) (lz strict l) ks&&Xe cf strict o (σ.ev cf.glob)) (Nz cf strict dsts r (σ.after o.dst x l ks) k)
  |some (j,want)=>
   match dsts j with
   |none=>none
   |some d=>
    match σ.get d with
    | .c (.v (.bool q))=>
     match want with
     |true=>bif q then opK cf (cf.str strict o) o ((σ.put (some d) (B true) σ.loc).ev cf.glob) σ.loc λx l ks=>need (Vw (cf.stz strict o) (lz strict l) ks&&Xe cf strict o ((σ.put (some d) (B true) σ.loc).ev cf.glob)) (Nz cf strict dsts r ((σ.put (some d) (B true) σ.loc).after o.dst x l ks) k)
       else Nz cf strict dsts r ((σ.put (some d) (B false) σ.loc).after o.dst .un σ.loc []) k
     |false=>bif q then Nz cf strict dsts r ((σ.put (some d) (B true) σ.loc).after o.dst .un σ.loc []) k
       else opK cf (cf.str strict o) o ((σ.put (some d) (B false) σ.loc).ev cf.glob) σ.loc λx l ks=>need (Vw (cf.stz strict o) (lz strict l) ks&&Xe cf strict o ((σ.put (some d) (B false) σ.loc).ev cf.glob)) (Nz cf strict dsts r ((σ.put (some d) (B false) σ.loc).after o.dst x l ks) k)
    | .un=>Nz cf strict dsts r (σ.after o.dst .un σ.loc []) k
    |_=>none
def L4 (P:Program):List Oper->St->Option St
 | [],σ=>some σ
 |o::r,σ=>
  match o.op,o.dst,o.guard with
  | .alloc t,some d,none=>
   match X9 P t with
   |some zs=>need (Zje d OUT) (L4 P r ⟨σ.slots.map (V.kill d),(σ.loc.kill d).put d (.ob t 0 zs)⟩)
   |none=>none
  | .alloc _,_,_=>none
  |_,_,_=>L4 P r σ
def Zh (o:Oper):Bool:=match o.op with| .alloc _=>true|_=>false
def Zw (o:Oper):Option Nat:=match Zh o with|true=>o.dst|false=>none
def Zt (ops:List Oper):List Nat:=ops.filterMap Zw
def Zeh (ops:List Oper):Bool:=
 nodupB (Zt ops)&&ops.all λo=>Zh o||match o.dst with|some d=> !((Zt ops).any (Zi8 d))|none=>true
def Zg:Op->Bool
 | .store .. =>true
 |_=>false
def Yf:Op->Bool
 | .store .. | .load .. | .nilCheck .. | .slice .. | .fieldAddr .. | .indexAddr .. =>false
 | .call c=>match c.callee with| .builtin .len=>false|_=>true
 |_=>true
def L5 (acc:List Nat) (o:Oper):Nat:=
 o.after.toList.foldr (λe s=>bif Region.binds .any e then(2^e.on|||acc.getD e.on 0)|||s else s) 0
def R7:List Oper->List Nat->List Nat
 | [],acc=>acc
 |o::r,acc=>R7 r (acc++[L5 acc o])
def Gn:List Oper->Nat->Bool
 | [],_=>true
 |o::r,j=>o.after.toList.all (λe=> !Region.binds .any e||Zje e.on j)&&Gn r (j+1)
def Cfg.wr (cf:Cfg) (o:Oper):Bool:=Zg o.op||cf.loudO o
def Cfg.qu (cf:Cfg) (o:Oper):Bool:=Yf o.op&& !cf.loudO o
def Cfg.still (cf:Cfg) (o:Oper):Bool:=o.guard.isNone&& !cf.loudO o&&match o.op with
 | .move _=>true
 | .assign _=>true
 |_=>false
def Cfg.maker (cf:Cfg) (o:Oper):Bool:=o.guard.isNone&&cf.barO o&& !mixD cf o.dst&&match o.op with
 | .makeSlice _ _ _=>true
 |_=>false
def Cfg.fxO (cf:Cfg) (o:Oper):Bool:=o.guard.isNone&&(!cf.loudO o&&(!cf.barO o&&match o.op,o.dst with
 | .alloc _,some d=> !cf.plO o&&cf.al.any (Zi8 d)
 |_,_=>cf.plO o))
def Cfg.apO (cf:Cfg) (o:Oper):Bool:=o.guard.isNone&&(cf.barO o&&(!cf.loudO o&&match o.op with
 | .call c=>(match c.callee with| .builtin .append=>true|_=>false)
 | .buildSlice _ _ parts=>(match parts.toList with| []=>true|_=>false)
 |_=>false))
def Cfg.rdX (cf:Cfg) (x y:Oper):Bool:=cf.apO x&&(y.guard.isNone&&(!cf.loudO y&&(!cf.barO y&&match y.op with
 | .load _ _=>(match cf.rdl y with| []=>false|s::L=>(s::L).all λs=>(cf.prl x).any (Zi8 s))
 | .fieldAddr _ _ _=>(match cf.rdl y with| []=>false|s::L=>(s::L).all λs=>(cf.prl x).any (Zi8 s))
 |_=>false)))
def Za0 (cf:Cfg) (a b:Oper):Bool:=(cf.still a&&b.guard.isNone)||(cf.still b&&a.guard.isNone)||(cf.maker a&&cf.maker b)||(cf.fxO a&&b.guard.isNone)||(cf.fxO b&&a.guard.isNone)||cf.rdX a b||cf.rdX b a
def Eg (cf:Cfg) (ops:Array Oper) (a b:Oper):Bool:=
 (Za0 cf a b&&a.apart ops b)|| !cf.barO a&& !cf.barO b&&a.apart ops b&&(cf.qu a||cf.qu b||(!cf.wr a&& !cf.wr b)||(cf.loudO a&& !cf.wr b&& !cf.exO b)||(cf.loudO b&& !cf.wr a&& !cf.exO a))
def P0 (cf:Cfg) (ops:Array Oper):Bool:=
 match R7 ops.toList []with
 |an=>Gn ops.toList 0&&(Zjg ops.size).all λj=>(Zjg j).all λi=>(an.getD j 0).testBit i||match ops[i]?,ops[j]? with
  |some a,some b=>Eg cf ops a b
  |_,_=>false
def lhOf (cf:Cfg) (ops:Array Oper):List Nat:=match ops.toList.any cf.loudO with|true=>cf.lh|false=>[]
def Yi:Code->Nat
 | .region id _ _=>id
 | .seq a _=>Yi a
 | .block _ b=>Yi b
 | .loop b=>Yi b+100000
 | .rangeFunc _ _ _ b=>Yi b+200000
 | .scope b=>Yi b
 |_=>0
def iter {A:Type} (body:A->Option (Nat×A)):Nat->A->Option (Nat×A)
 |0,_=>none
 |n+1,x=>(body x).bind λp=>match p.1 with
  |0=>iter body n p.2
  |m+1=>some (m,p.2)
def Mm {A:Type} (P:Program) (kp:Keeps) (n:Option Nat) (σ:St) (k:Nat->U2 kp.ks->Option A):Option A:=
 match n with
 |some n=>R1 P kp σ λz=>k n z
 |none=>none
def writes:Code->List Nat
 | .region _ ops _=>ops.toList.filterMap (·.dst)
 | .seq a b=>writes a++writes b
 | .cond _ a b=>writes a++writes b
 | .block _ b=>writes b
 | .loop b=>writes b
 | .rangeFunc _ ps a b=>ps.toList++(writes a++writes b)
 |_=>[]
def Zei {R:Type} (P:Program) (fuel:Nat) (kp:Keeps) (ws:List Nat) (body:St->(Ex->St->Option (Nat×U2 kp.ks))->Option (Nat×U2 kp.ks)) (σ:St) (k:Ex->St->Option R):Option R:=
 frzA P kp.fz kp.fzc σ λσ=>R1 P kp σ λx=>
  (iter (λy=>body (Z6 P kp.ks y (σ.clean ws)) λe σ'=>Mm P kp (Uk (.normal::kp.ex) e) σ' λn z=>some (n,z)) fuel x).bind λp=>
   L2 kp.ex p.1 λe=>k e (Z6 P kp.ks p.2 (σ.clean ws))
def Zej {R:Type} (P:Program) (kp:Keeps) (ws:List Nat) (body:St->(Ex->St->Option (Nat×U2 kp.ks))->Option (Nat×U2 kp.ks)) (σ:St) (k:Ex->St->Option R):Option R:=
 frzA P kp.fz kp.fzc σ λσ=>
  (body σ λe σ'=>Mm P kp (Uk kp.ex e) σ' λn z=>some (n,z)).bind λp=>
   L2 kp.ex p.1 λe=>k e (Z6 P kp.ks p.2 (σ.clean ws))
def overK {I A:Type} (body:I->A->Option (Nat×A)):List I->A->Option (Nat×A)
 | [],x=>some (0,x)
 |i::r,x=>(body i x).bind λp=>match p.1 with
  |0=>overK body r p.2
  |m+1=>some (m+1,p.2)
def P1:List Nat->List V->Sl->Sl
 |t::ts,v::vs,sl=>P1 ts vs (sl.set t v)
 |_,_,sl=>sl
def Keep.slots:Keep->List Nat
 | .lf t _=>[t]
 | .ag t _=>[t]
 | .ao t=>[t]
 | .ow t _ _=>[t]
 | .us t _ _=>[t]
 | .ob _ _ _ ts=>ts.map (·.1)
 | .oo _ _ ts=>ts.map (·.1)
 | .mx _ _ _ ts wt=>ts.map (·.1)++wt.map (·.1)
 | .mp _ _ _ ts=>ts
 | .mr _ _ _ _ ts=>ts
 | .pk _ _ _ ts=>ts.map (·.1)
 | .rx _ _ _ ts=>ts
 | .lg=>[]
def Keep.noLg:Keep->Bool
 | .lg=>false
 |_=>true
def shape {R:Type} (s:Shp) (x:V) (k:V->Option R):Option R:=
 match s with
 | .s l=>rC x λc=>Xr l c λc'=>k (.c c')
 | .a ls=>rA x λcs=>need (Zi8 cs.length ls.length) (Ue ls cs λcs'=>k (.agg cs'))
def R8 {R:Type}:List Shp->List V->(List V->Option R)->Option R
 | [],xs,k=>match xs with
  | []=>k []
  |_::_=>none
 |s::ss,xs,k=>uncV xs λx r=>shape s x λv=>R8 ss r λvs=>k (v::vs)
def Za1 {R:Type} (P:Program) (kp:Keeps) (ws ps:List Nat) (xs:List (List V)) (body:St->(Ex->St->Option (Nat×U2 kp.ks))->Option (Nat×U2 kp.ks)) (σ:St) (k:Ex->St->Option R):Option R:=
 frzA P kp.fz kp.fzc σ λσ=>R1 P kp σ λx=>
  need (kp.ks.all λq=>q.noLg&&q.slots.all λt=> !(ws.any (Zi8 t)))<|
  (overK (λit y=>R8 kp.sh it λit=>need (Zi8 it.length ps.length) (body ⟨P1 ps it (Z6 P kp.ks y (σ.clean ws)).slots,(Z6 P kp.ks y (σ.clean ws)).loc⟩ λe σ'=>Mm P kp (Uk (.normal::kp.ex) e) σ' λn z=>some (n,z))) xs x).bind λp=>
   L2 (.normal::kp.ex) p.1 λe=>k e (Z6 P kp.ks p.2 (σ.clean ws))
def Cn (cf:Cfg):Operand->Option Keeps
 | .tmp t=>cf.join t
 |_=>none
def Lp {R:Type} (body:St->(Ex->St->Option R)->Option R) (k:Ex->St->Option R):Nat->St->Option R
 |0,_=>none
 |n+1,σ=>body σ λe σ'=>match e with
  | .normal=>Lp body k n σ'
  |e=>k e σ'
noncomputable def Yj (cf:Cfg):Code->{R:Type}->St->(Ex->St->Option R)->Option R
 | .skip,_,σ,k=>k .normal σ
 | .region _ ops draw,_,σ,k=>
  match Zeh ops.toList,L4 cf.P ops.toList σ with
  |false,_=>none
  |true,none=>none
  |true,some σ1=>
   match draw with
   |true=>bif P0 {cf with lh:=lhOf cf ops,al:=Zt ops.toList} ops then Nz {cf with lh:=lhOf cf ops,al:=Zt ops.toList} true (λj=>(ops[j]?).bind (·.dst)) ops.toList σ1 (k .normal)else none
   |false=>Nz cf false (λj=>(ops[j]?).bind (·.dst)) ops.toList σ1 (k .normal)
 | .seq a b,_,σ,k=>Yj cf a σ λe σ'=>match e with
  | .normal=>Yj cf b σ' k
  |e=>k e σ'
 | .cond c a b,_,σ,k=>
  match σ.ev cf.glob c with
  | .c (.v (.bool q))=>
   match Cn cf c with
   |none=>bif q then Yj cf a σ k else Yj cf b σ k
   |some kp=>Zej cf.P kp (writes a++writes b) (λσ k=>bif q then Yj cf a σ k else Yj cf b σ k) σ k
  | .nq n neg=>
   match Cn cf c with
   |none=>bif Zi8 n 0 then same (Yj cf a σ k) (Yj cf b σ k)else bif neg then Yj cf a σ k else Yj cf b σ k
   |some _=>none
  |_=>none
 | .block id b,_,σ,k=>Yj cf b σ λe σ'=>match e with
  | .exit id'=>match decide (id'=id)with
   |true=>k .normal σ'
   |false=>k (.exit id') σ'
  |e=>k e σ'
 | .loop b,_,σ,k=>match cf.unr (Yi b)with
  |0=>match(cf.keep (Yi b)).rm with
   |none=>Zei cf.P cf.fuel (cf.keep (Yi b)) (writes b) (λσ k=>Yj cf b σ k) σ k
   |some _=>none
  |n+1=>Lp (λσ k=>Yj cf b σ k) k (n+1) σ
 | .exit id,_,σ,k=>k (.exit id) σ
 | .ret,_,σ,k=>k .ret σ
 | .rangeFunc g ps a b,_,σ,k=>
  match cf.rnd,σ.ev cf.glob g with
  |false, .c c=>asFn c λf caps=>(cf.iter f caps).bind λxs=>
   Za1 cf.P (cf.keep (Yi b)) (ps.toList++(writes a++writes b)) ps.toList xs
    (λσ k=>Yj {cf with rnd:=true,ent:=none} a σ λe σ'=>match e with
     | .normal=>Yj {cf with rnd:=true,ent:=none} b σ' k
     |_=>none) σ k
  |_,_=>none
 |_,_,_,_=>none
abbrev Uo:=Option Nat×TypeId×Option Nat
def cOf:List V->Option (List C)
 | []=>some []
 | .c c::r=>match cOf r with
  |some cs=>some (c::cs)
  |none=>none
 |_=>none
def Xy (l:Loc):Uo->Obj
 |(none,te,_)=> .sb te 0 []
 |(some s,te,some n)=>match Zv (l s)with
  |some (_,_,cs)=> .sb te 0 (cs.take n)
  |none=> .dead
 |(some s,te,none)=>match l s with
  | .ob _ _ cs=> .ob te 0 cs
  | .mx _ xs=>match cOf xs with
   |some cs=> .ob te 0 cs
   |none=> .dead
  |_=> .dead
def Vx (l:Loc):Uo->Bool
 |(none,_,n)=>match n with
  |some 0=>true
  |_=>false
 |(some s,te,some n)=>match Zv (l s)with
  |some (t,fz,cs)=>Zi8 t te&&Zi8 fz 0&&Zjb n cs.length&&Zje s OUT
  |none=>false
 |(some s,te,none)=>match l s with
  | .ob t fz _=>Zi8 t te&&Zi8 fz 0&&Zje s OUT
  | .mx t xs=>Zi8 t te&&(cOf xs).isSome&&Zje s OUT
  |_=>false
def R9 (l:Loc) (os:List Uo):Bool:=nodupB (os.filterMap (·.1))&&os.all (Vx l)
def Si {R:Type} (P:Program) (te m:Nat) (x:V) (l:Loc) (k:V->Loc->List Uo->Option R):Option R:=
 match x with
 | .own s off n=>need (Zi8 off 0) (k (.own (OUT+m) 0 n) l [(some s,te,some (n*Ze P te))])
 | .c .nl=>k (.own (OUT+m) 0 0) l [(none,te,some 0)]
 |_=>none
def Pa {R:Type} (P:Program):Nat->List (TypeId×Option TypeId)->List V->Loc->(List V->Loc->List Uo->Option R)->Option R
 |_,[],xs,l,k=>match xs with
  | []=>k [] l []
  |_::_=>none
 |m,q::ts,xs,l,k=>uncV xs λx r=>match q.2 with
  |none=>match x with
   | .c c=>Pa P m ts r l λys l' os=>k (.c c::ys) l' os
   |_=>none
  |some te=>Si P te m x l λv l' q1=>Pa P (m+q1.length) ts r l' λys l2 os=>k (v::ys) l2 (q1++os)
def Za2 {R:Type} (P:Program) (ex:Option TypeId) (m:Nat) (σ:St) (l:Loc) (r:ResultVar) (k:V->Loc->List Uo->Option R):Option R:=
 match r with
 | .tmp t=>match σ.get t with
  | .c c=>match ex with
   |some te=>Si P te m (.c c) l k
   |none=>k (.c c) l []
  | .agg cs=>k (.agg cs) l []
  | .own s off n=>match ex with
   |some te=>Si P te m (.own s off n) l k
   |none=>pur P false (.own s off n) l λcs l'=>match cs with| [c]=>k (.c c) l' []|_=>none
  | .ptr s off=>match ex with
   |some te=>match l s with
    | .mx _ xs=>F9 P ((Zjg xs.length).map λj=>(s,j)) ⟨σ.slots,l⟩ λσ2=>need (Zi8 off 0) (k (.ptr (OUT+m) 0) σ2.loc [(some s,te,none)])
    |_=>need (Zi8 off 0) (k (.ptr (OUT+m) 0) l [(some s,te,none)])
   |none=>pur P false (.ptr s off) l λcs l'=>match cs with| [c]=>k (.c c) l' []|_=>none
  | .clo f s=>match ex with
   |some te=>need (Zi8 f (Zax te)) (k (.clo f (OUT+m)) l [(some s,Gk te,none)])
   |none=>none
  | .mp s=>match ex with
   |some _=>none
   |none=>pur P false (.mp s) l λcs l'=>match cs with| [c]=>k (.c c) l' []|_=>none
  | .mag xs=>match ex with
   |some te=>match Gl P te with
    |some cts=>Pa P m cts xs l λys l' os=>k (.mag ys) l' os
    |none=>none
   |none=>none
  |_=>none
 | .cell a t=>match σ.get a with
  | .ptr s off=>match l s with
   | .ob _ _ cs=>match ex with
    |some _=>none
    |none=>ldC P t (cs.drop off) λv=>k v l []
   | .mx _ xs=>match Ya P t with
    |true=>match ex with
     |some _=>match Gl P t with
      |some cts=>need (Zjb (off+Ze P t) xs.length&&(P.info? t).isSome) (Pa P m cts ((xs.drop off).take (Ze P t)) l λys l' os=>k (.mag ys) l' os)
      |none=>none
     |none=>need (Zjb (off+Ze P t) xs.length) (U1 P false ((xs.drop off).take (Ze P t)) l λcs l1=>ldC P t cs λv=>k v l1 [])
    |false=>match xs.drop off with
     | .own s' off' n'::_=>need (P.underlying t).isSome (match ex with
      |some te=>Si P te m (.own s' off' n') l k
      |none=>pur P false (.own s' off' n') l λcs l'=>match cs with| [c]=>k (.c c) l' []|_=>none)
     | .c c::_=>match ex with
      |some te=>need (P.underlying t).isSome (Si P te m (.c c) l k)
      |none=>ldC P t [c] λv=>k v l []
     |_=>none
   |_=>none
  |_=>none
def Za3 {R:Type} (P:Program) (m:Nat) (σ:St):List (Option TypeId)->Loc->List ResultVar->(List V->Loc->List Uo->Option R)->Option R
 |_,l,[],k=>k [] l []
 |ex,l,r::rs,k=>Za2 P (ex.headD none) m σ l r λv l1 os=>Za3 P (m+os.length) σ ex.tail l1 rs λvs l2 os2=>k (v::vs) l2 (os++os2)
def Qn (n:Nat) (l:Loc):List Obj:=(Zjg n).map λk=>l (OUT+k)
def nrV (b:Bool) (v:V):V:=
 match b,v with
 |true, .c c=> .c (nrm c)
 |_,v=>v
def finish (cf:Cfg) (fn:Func) (m:Nat) (σ:St):Option Out:=
 match fn.results.toList with
 | [r]=>Za2 cf.P (cf.exp.headD none) m σ σ.loc r λv l os=>need (Qw l ((Zjg m).map (OUT+ ·))&&R9 l os) (some ⟨nrV cf.nr v,Qn m l++os.map (Xy l),l.log⟩)
 |rs=>Za3 cf.P m σ cf.exp σ.loc rs λvs l os=>need (Qw l ((Zjg m).map (OUT+ ·))&&R9 l os) (some ⟨.tup vs,Qn m l++os.map (Xy l),l.log⟩)
def Zl (objs:List Obj) (lg:Option Log):Loc:=⟨λs=>bif Zjb OUT s then(objs[s-OUT]?).getD .dead else .dead,lg⟩
def Lg:List V->Option Log
 | .c (.yl l go xs)::_=>some ⟨l,go,0,xs,false⟩
 |_=>none
noncomputable def Co (cf:Cfg) (fn:Func) (args:List V) (objs:List Obj):Option Out:=
 match fn.body with
 |none=>none
 | some c => need (Zjb args.length fn.ntmps && Pw (Zl objs (Lg args)) ((Zjg objs.length).map (OUT + ·)) && !(fn.name == "runtime.NumGoroutine")) <|
  Yj cf c ⟨⟨λt=>args.getD t .un,fn.ntmps⟩,Zl objs (Lg args)⟩ λe σ=>match e with
   | .exit _=>none
   |_=>finish cf fn objs.length σ
structure Laid where
 own:Nat->Bool:=λ_=>false
 keep:Nat->Keeps:=λ_=>default
 join:Nat->Option Keeps:=λ_=>none
 exp:List (Option TypeId):=[]
 hand:List Nat:=[]
 loud:Nat->Bool:=λ_=>false
 lh:List Nat:=[]
 fzb:Bool:=false
 mix:Nat->Bool:=λ_=>false
 bar:Nat->Bool:=λ_=>false
 nr:Bool:=false
 unr:Nat->Nat:=λ_=>0
 rd:Nat->List Nat:=λ_=>[]
 pr:Nat->List Nat:=λ_=>[]
 lost:Bool:=false
structure Prims where
 fn:FuncId->Option (List V->List Obj->Option Out)
 iter:Nat->FuncId->List C->Option (List (List V))
 glob:Nat->Option (List C):=λ_=>none
 add:Option FuncId:=none
noncomputable def callN (P:Program) (prim:Prims) (laid:FuncId->Laid) (fu:Nat):Nat->FuncId->List V->List Obj->Option Out
 |0,_,_,_=>none
 |d+1,f,args,objs=>
  match prim.fn f with
  |some g=>g args objs
  |none=>match P.funcs[f]? with
   |none=>none
   |some fn=>Co {P:=P,call:=callN P prim laid fu d,iter:=prim.iter d,rnd:=false,fuel:=fu,own:=(laid f).own,keep:=(laid f).keep,join:=(laid f).join,exp:=(laid f).exp,xo:=λf=>(laid f).exp,hand:=λf=>(laid f).hand,glob:=prim.glob,loud:=(laid f).loud,lh:=(laid f).lh,fzb:=λf=>(laid f).fzb,mix:=(laid f).mix,bar:=(laid f).bar,nr:=(laid f).nr,unr:=(laid f).unr,ent:=none,rd:=(laid f).rd,pr:=(laid f).pr,lost:=λf=>(laid f).lost,add:=prim.add} fn args objs
end Go.PM
namespace Go.PM
open Go
def V6 (w:World) (b:Nat):Option (Array MapEntry×Nat):=match w.heap[b]? with|some (.map ms n)=>some (ms,n)|_=>none
theorem Ys {w w':World} {b:Nat} (h:w'.heap[b]? =w.heap[b]?):V6 w' b=V6 w b:=by simp[V6,h]
theorem Vq {w:World} {b:Nat} {cur:Array Value} {t:TypeId} {fr:Nat×Nat} (h:w.heap[b]? =some (.cells cur t fr)):V6 w b=none:=by simp[V6,h]
theorem V7 {w:World} {b:Nat} {ms:Array MapEntry} {n:Nat}:V6 w b=some (ms,n)↔w.heap[b]? =some (.map ms n):=by
 unfold V6;constructor
 ·intro h;split at h
  ·rename_i e;injection h with h;injection h with h1 h2;subst h1 h2;exact e
  ·cases h
 ·intro h;rw[h]
def shp (b:Option Nat) (u:Value) (us:List Value):Prop:=match b with|some n=>u= .agg us.toArray/\us.length=n|none=>us=[u]
inductive RC (w:World) (Pr:Nat->Nat->Prop):C->Value->Prop
 |v {x:Value} (h:Jq x=true):RC w Pr (.v x) x
 |nl:RC w Pr .nl (.slice none 0 0)
 |sl0 {a:Option Addr} {cap:Nat} (hc:cap<=maxLen):RC w Pr (.sl 0 []) (.slice a 0 cap)
 |sl {n:Nat} {cs:List C} {g o cap:Nat} {us:Nat->Value} (hn:n<=cap) (hc:cap<=maxLen)
   (h1: ∀(j:Nat) (c:C),cs[j]? =some c->w.cell? ⟨g,o+j,none⟩=some (us j)/\Pr g (o+j)) (h2: ∀(j:Nat) (c:C),cs[j]? =some c->RC w Pr c (us j)):
   RC w Pr (.sl n cs) (.slice (some ⟨g,o,none⟩) n cap)
 |cp0 {a:Addr}:RC w Pr (.cp []) (.pointer (some a))
 |cp {cs:List C} {g o:Nat} {us:Nat->Value}
   (h1: ∀(j:Nat) (c:C),cs[j]? =some c->w.cell? ⟨g,o+j,none⟩=some (us j)/\Pr g (o+j)) (h2: ∀(j:Nat) (c:C),cs[j]? =some c->RC w Pr c (us j)):
   RC w Pr (.cp cs) (.pointer (some ⟨g,o,none⟩))
 |fn {f:FuncId} {caps:List C} {us:List Value} (hs:us.length=caps.length) (h: ∀(j:Nat) (c:C) (u:Value),caps[j]? =some c->us[j]? =some u->RC w Pr c u):
   RC w Pr (.fn f caps) (.func (.func f) #[] us.toArray)
 |yl {n:Nat} {go:Nat->Bool} {xs:List (List V)}:RC w Pr (.yl n go xs) (.func (.yield n) #[] #[])
 |mp {kt et:TypeId} {ka va:Option Nat} {es:List (List C×List C)} {g:Nat} {ms:Array MapEntry} {kus vus:Nat->List Value} (hg:V6 w g=some (ms,es.length)) (hp:Pr g 0) (hs:ms.size=es.length)
   (hk: ∀(j:Nat) (q:List C×List C) (m:MapEntry),es[j]? =some q->ms[j]? =some m->m.born=j/\shp ka m.key (kus j)/\shp va m.val (vus j)/\(kus j).length=q.1.length/\(vus j).length=q.2.length)
   (h1: ∀(j:Nat) (q:List C×List C) (i:Nat) (c:C) (u:Value),es[j]? =some q->q.1[i]? =some c->(kus j)[i]? =some u->RC w Pr c u)
   (h2: ∀(j:Nat) (q:List C×List C) (i:Nat) (c:C) (u:Value),es[j]? =some q->q.2[i]? =some c->(vus j)[i]? =some u->RC w Pr c u):RC w Pr (.mp kt et ka va es) (.map (some g))
 |bx {c:C} {u:Value} {g:Nat} (h1:w.cell? ⟨g,0,none⟩=some u/\Pr g 0) (h2:RC w Pr c u):RC w Pr (.bx c) (.pointer (some ⟨g,0,none⟩))
def RCs (w:World) (Pr:Nat->Nat->Prop) (cs:List C) (us:List Value):Prop:=
 us.length=cs.length/\ ∀(j:Nat) (c:C) (u:Value),cs[j]? =some c->us[j]? =some u->RC w Pr c u
theorem Za4 {x:Value} (h:Jq x=true):x.oneCell'=true:=by cases x<;>simp_all [Jq,Value.oneCell']
theorem RC.one {w:World} {Pr:Nat->Nat->Prop} {c:C} {u:Value} (h:RC w Pr c u):u.oneCell'=true:=by
 cases h with
 |v h=>exact Za4 h
 |_=>rfl
theorem cells_one {u:Value} (h:u.oneCell'=true):u.cells= #[u]:=by cases u<;>simp_all [Value.cells,Value.oneCell']
def Zj (w:World) (Pr:Nat->Nat->Prop) (w':World) (Pr':Nat->Nat->Prop):Prop:=
 ∀b k,Pr b k->Pr' b k/\w'.cell? ⟨b,k,none⟩=w.cell? ⟨b,k,none⟩/\V6 w' b=V6 w b
theorem Zj.refl (w:World) (Pr:Nat->Nat->Prop):Zj w Pr w Pr:=λ_ _ h=>⟨h,rfl,rfl⟩
theorem Zj.trans {w w1 w2:World} {Pr Pr1 Pr2:Nat->Nat->Prop} (h:Zj w Pr w1 Pr1) (h':Zj w1 Pr1 w2 Pr2):Zj w Pr w2 Pr2:=
 λb k hp=>⟨(h' b k (h b k hp).1).1,(h' b k (h b k hp).1).2.1.trans (h b k hp).2.1,(h' b k (h b k hp).1).2.2.trans (h b k hp).2.2⟩
theorem RC.held {w w':World} {Pr Pr':Nat->Nat->Prop} (hx:Zj w Pr w' Pr') {c:C} {u:Value} (h:RC w Pr c u):RC w' Pr' c u:=by
 induction h with
 |v h=>exact .v h
 |nl=>exact .nl
 |sl0 hc=>exact .sl0 hc
 |sl hn hc h1 _ ih=>exact .sl hn hc (λj c hj=>⟨(hx _ _ (h1 j c hj).2).2.1.trans (h1 j c hj).1,(hx _ _ (h1 j c hj).2).1⟩) ih
 |cp0=>exact .cp0
 |mp hg hp hs hk _ _ ih1 ih2=>exact .mp ((hx _ _ hp).2.2.trans hg) (hx _ _ hp).1 hs hk ih1 ih2
 |cp h1 _ ih=>exact .cp (λj c hj=>⟨(hx _ _ (h1 j c hj).2).2.1.trans (h1 j c hj).1,(hx _ _ (h1 j c hj).2).1⟩) ih
 |yl=>exact .yl
 |bx h1 _ ih=>exact .bx ⟨(hx _ _ h1.2).2.1.trans h1.1,(hx _ _ h1.2).1⟩ ih
 |fn hs _ ih=>exact .fn hs ih
theorem RCs.held {w w':World} {Pr Pr':Nat->Nat->Prop} (hx:Zj w Pr w' Pr') {cs:List C} {us:List Value} (h:RCs w Pr cs us):RCs w' Pr' cs us:=
 ⟨h.1,λj c u hc hu=>(h.2 j c u hc hu).held hx⟩
section lists
variable {w:World} {Pr:Nat->Nat->Prop}
theorem RCs.nil:RCs w Pr [] []:=⟨rfl,by simp⟩
theorem RCs.cons {c:C} {u:Value} {cs:List C} {us:List Value} (h:RC w Pr c u) (hs:RCs w Pr cs us):RCs w Pr (c::cs) (u::us):=
 ⟨by simp[hs.1],λj c' u' hc hu=>by
  cases j with
  |zero=>simp at hc hu;subst hc hu;exact h
  |succ j=>simp at hc hu;exact hs.2 j _ _ hc hu⟩
theorem RCs.uncons {c:C} {cs:List C} {us:List Value} (h:RCs w Pr (c::cs) us): ∃u us',us=u::us'/\RC w Pr c u/\RCs w Pr cs us':=by
 cases us with
 |nil=>have:=h.1;simp at this
 |cons u us=>
  exact⟨u,us,rfl,h.2 0 c u rfl rfl,by have:=h.1;simpa using this,λj c' u' hc hu=>h.2 (j+1) c' u' (by simpa using hc) (by simpa using hu)⟩
theorem RCs.one {c:C} {u:Value} (h:RC w Pr c u):RCs w Pr [c] [u]:= .cons h .nil
theorem RCs.append {a b:List C} {x y:List Value} (h:RCs w Pr a x) (h':RCs w Pr b y):RCs w Pr (a++b) (x++y):=by
 induction a generalizing x with
 |nil=>have:=h.1;cases x<;>simp_all
 |cons c cs ih=>
  obtain⟨u,us,rfl,h1,h2⟩:=h.uncons;exact .cons h1 (ih h2)
theorem RCs.take {cs:List C} {us:List Value} (h:RCs w Pr cs us) (n:Nat):RCs w Pr (cs.take n) (us.take n):=
 ⟨by simp[h.1],λj c u hc hu=>by
  rw[Zf3]at hc hu;split at hc<;>simp_all;exact h.2 j c u hc hu⟩
theorem RCs.drop {cs:List C} {us:List Value} (h:RCs w Pr cs us) (n:Nat):RCs w Pr (cs.drop n) (us.drop n):=
 ⟨by simp[h.1],λj c u hc hu=>by
  rw[Zf6]at hc hu;exact h.2 _ c u hc hu⟩
theorem RCs.ones {cs:List C} {us:List Value} (h:RCs w Pr cs us): ∀u∈us,u.oneCell'=true:=by
 intro u hu;obtain⟨j,hj,rfl⟩:=Zgk.1 hu;have hj':j<cs.length:=by rw[<-h.1];exact hj
 exact(h.2 j cs[j] us[j] (Zfw hj') (Zfw hj)).one
theorem RCs.putAt {cs xs:List C} {us ys:List Value} (h:RCs w Pr cs us) (h':RCs w Pr xs ys) (off:Nat):
  RCs w Pr (PM.putAt cs off xs) (us.take off++ys++us.drop (off+ys.length)):=by
 unfold PM.putAt;rw[h'.1];exact((h.take off).append h').append (h.drop _)
end lists
structure Env where
 w:World
 rho:Nat->Option Nat
 bs:Nat->Nat
 Pr:Nat->Nat->Prop
 Y:Nat->Prop
 D:List Nat
 rb:Nat->Nat->Option Nat:=λ_ _=>none
 rc:Nat->Nat->Nat:=λ_ _=>0
variable (P:Program)
def ghv (g n:Nat):Value:= .tuple #[.int .i64 g, .int .i64 n]
def L6:Obj->Bool
 | .ob _ _ _=>true
 |_=>false
def Za5 (o:Obj) (g:Nat):Prop:=L6 o=false/\ ∀g0 pe,gen o=some (g0,pe)->g<g0\/(g=g0/\pe=true)
def Za6 (o:Obj) (g:Nat):Prop:=L6 o=false/\ ∀g0 pe,gen o=some (g0,pe)->g<g0
def Pb (E:Env) (s j n:Nat) (u:Value):Prop:=(E.rb s j=none/\n=0/\u= .slice none 0 0)\/ ∃g,E.rb s j=some g/\u= .slice (some ⟨g,0,none⟩) n (E.rc s j)
inductive RV (E:Env) (l:Loc):V->Value->Prop
 |c {c:C} {u:Value} (h:RC E.w E.Pr c u):RV E l (.c c) u
 |agg {cs:List C} {us:List Value} (h:RCs E.w E.Pr cs us):RV E l (.agg cs) (.agg us.toArray)
 |tup {vs:List V} {us:List Value} (hs:us.length=vs.length) (h: ∀(j:Nat) (x:V) (u:Value),vs[j]? =some x->us[j]? =some u->RV E l x u):RV E l (.tup vs) (.tuple us.toArray)
 |ptrDead {s off:Nat} {u:Value} (h:l s= .dead):RV E l (.ptr s off) u
 |ptr {s off g:Nat} (h:E.rho s=some g):RV E l (.ptr s off) (.pointer (some ⟨g,off,none⟩))
 |ownDead {s off n:Nat} {u:Value} (h:l s= .dead):RV E l (.own s off n) u
 |ownNil {s:Nat} {t:TypeId} {fz:Nat} (h:E.rho s=none) (hl:l s= .sb t fz []):RV E l (.own s 0 0) (.slice none 0 0)
 |own {s off n g cap:Nat} {t:TypeId} {fz:Nat} {cs:List C} (h:E.rho s=some g) (hl:Zv (l s)=some (t,fz,cs)) (hn:n<=cap) (hc:cap<=maxLen)
   (hs:off+cap*Ze P t=E.bs s):RV E l (.own s off n) (.slice (some ⟨g,off,none⟩) n cap)
 |own0 {s off g o':Nat} {t:TypeId} {fz:Nat} {cs:List C} (h:E.rho s=some g) (hl:Zv (l s)=some (t,fz,cs)) (ho:off≠0):RV E l (.own s off 0) (.slice (some ⟨g,o',none⟩) 0 0)
 |ownMx {s off n:Nat} {u:Value} (h:Jr (l s)=true):RV E l (.own s off n) u
 |mpDead {s:Nat} {u:Value} (h:l s= .dead):RV E l (.mp s) u
 |mp {s g:Nat} (h:E.rho s=some g):RV E l (.mp s) (.map (some g))
 |wsDead {s n:Nat} {u:Value} (h:l s= .dead):RV E l (.ws s n) u
 |ws {s n g:Nat} (h:E.rho s=some g) (hn:n<=maxLen):RV E l (.ws s n) (.slice (some ⟨g,0,none⟩) n n)
 |fs {n:Nat} {cs:List C} {u:Value} (h:RC E.w E.Pr (.sl n cs) u) (hc: ∃a,u= .slice a n n):RV E l (.fs n cs) u
 |nq {n:Nat} {neg b:Bool} (h:n≠0->b=neg):RV E l (.nq n neg) (.bool b)
 |ghDead {s:Nat} {u:Value} (h:l s= .dead):RV E l (.gh s) u
 |gh {s g n:Nat} (h:E.rho s=some g) (hb:E.bs s=n):RV E l (.gh s) (ghv g n)
 |ent {s n j:Nat} {u:Value} (h:RV E l (.own s 0 n) u):RV E l (.ent s n j) (.tuple #[u, .int .i64 j])
 |est {j:Nat} {u:Value}:RV E l (.est j) (.tuple #[u, .int .i64 j])
 |mag {xs:List V} {us:List Value} (hs:us.length=xs.length) (h1: ∀u∈us,u.oneCell'=true) (h: ∀(j:Nat) (x:V) (u:Value),xs[j]? =some x->us[j]? =some u->RV E l x u):RV E l (.mag xs) (.agg us.toArray)
 |rwOff {s g j n:Nat} {u:Value} (h:Za5 (l s) g):RV E l (.rw s g j n) u
 |rw{s g j n:Nat} {u:Value} (h:gen (l s)=some (g,false)) (hv:Pb E s j n u):RV E l (.rw s g j n) u
 |rpOff {s g j n:Nat} {u:Value} (h:Za6 (l s) g):RV E l (.rp s g j n) u
 |rp {s g j n:Nat} {u:Value} (h:gen (l s)=some (g,true)) (hv:Pb E s j n u):RV E l (.rp s g j n) u
 |cloDead {f:FuncId} {s:Nat} {u:Value} (h:l s= .dead):RV E l (.clo f s) u
 |clo {f:FuncId} {s g:Nat} (h:E.rho s=some g):RV E l (.clo f s) (.func (.func f) #[] #[.pointer (some ⟨g,0,none⟩)])
 |un:RV E l .un undef
 |und {u:Value}:RV E l .und u
def Blk (E:Env) (s g:Nat) (t:TypeId) (cs:List C):Prop:=
 ∃cur:Array Value,E.w.heap[g]? =some (.cells cur t (0,0))/\cur.size=E.bs s/\cs.length<=cur.size/\RCs E.w E.Pr cs (cur.toList.take cs.length)
def Yn (w:World) (Pr:Nat->Nat->Prop) (t:TypeId) (cs:List C) (u:Value):Prop:=
 (Ya P t=true/\cs.length=Ze P t/\ ∃us:List Value,u= .agg us.toArray/\RCs w Pr cs us)\/(Ya P t=false/\ ∃c,cs=[c]/\RC w Pr c u)
def Obj.refs:Obj->List V
 | .mx _ xs=>xs
 | .mf _ _ _ _ _ _ x=>[x]
 | .ir _ x=>[x]
 |_=>[]
def Lh (E:Env) (s j:Nat) (te:TypeId) (row:List C) (u:Value):Prop:=
 (E.rb s j=none/\row=[]/\u= .slice none 0 0)\/
 ∃(g cap:Nat) (cur:Array Value),E.rb s j=some g/\E.w.heap[g]? =some (.cells cur te (0,0))/\row.length<=cur.size/\RCs E.w E.Pr row (cur.toList.take row.length)/\
  u= .slice (some ⟨g,0,none⟩) (row.length/Ze P te) cap/\row.length/Ze P te*Ze P te=row.length/\row.length/Ze P te<=cap/\cap<=maxLen/\cap*Ze P te=cur.size
def Qo (E:Env) (s j:Nat) (te:TypeId) (row:List C) (u:Value):Prop:=
 Lh P E s j te row u/\ ∀a m cap,u= .slice (some a) m cap->cap=E.rc s j
def Gp (E:Env) (s j:Nat) (p:PC) (u:Value):Prop:=
 match p with
 | .c c=>RC E.w E.Pr c u
 | .r te row=>Ze P te≠0/\Qo P E s j te row u
inductive ObjOk (E:Env) (l:Loc) (s:Nat):Obj->Prop
 |dead (h:E.rho s=none):ObjOk E l s .dead
 |ob {t:TypeId} {fz:Nat} {cs:List C} {g:Nat} (h:E.rho s=some g) (hb:Blk E s g t cs) (hf:fz<=cs.length):ObjOk E l s (.ob t fz cs)
 |sbNil {t:TypeId} (h:E.rho s=none):ObjOk E l s (.sb t 0 [])
 |sb {t:TypeId} {fz:Nat} {cs:List C} {g:Nat} (h:E.rho s=some g) (hb:Blk E s g t cs) (hf:fz<=cs.length):ObjOk E l s (.sb t fz cs)
 |mx {t:TypeId} {xs:List V} {g:Nat} {cur:Array Value} (h:E.rho s=some g) (hg:E.w.heap[g]? =some (.cells cur t (0,0))) (hl:xs.length<=cur.size) (hx: ∀(j:Nat) (x:V) (u:Value),xs[j]? =some x->cur[j]? =some u->RV P E l x u/\u.oneCell'=true) (hb:E.bs s=cur.size):
   ObjOk E l s (.mx t xs)
 |mp {kt et:TypeId} {es:List (List C×List C)} {g:Nat} {ms:Array MapEntry} (h:E.rho s=some g) (hg:E.w.heap[g]? =some (.map ms es.length)) (hl:ms.size=es.length)
   (hx: ∀(j:Nat) (k v:List C) (m:MapEntry),es[j]? =some (k,v)->ms[j]? =some m->m.born=j/\Yn P E.w E.Pr kt k m.key/\Yn P E.w E.Pr et v m.val):ObjOk E l s (.mp kt et es)
 |cl {n g:Nat} (h:E.rho s=some g) (hg:(∃cur t,E.w.heap[g]? =some (.cells cur t (0,0)))\/ ∃ms k,E.w.heap[g]? =some (.map ms k)):ObjOk E l s (.cl n)
 |mr {kt et te:TypeId} {es:List (List C×List C)} {g:Nat} {ms:Array MapEntry} (h:E.rho s=some g) (hg:E.w.heap[g]? =some (.map ms es.length)) (hl:ms.size=es.length)
   (hu:P.underlying et=some (.slice te)) (hz:Ze P te≠0) (hx: ∀(j:Nat) (k row:List C) (m:MapEntry),es[j]? =some (k,row)->ms[j]? =some m->m.born=j/\Yn P E.w E.Pr kt k m.key/\Lh P E s j te row m.val):ObjOk E l s (.mr kt et te es)
 |mf {kt et te:TypeId} {es:List (List C×List C)} {q:Option (Nat×List C)} {kc:List C} {x:V} {g:Nat} {ms:Array MapEntry} (h:E.rho s=some g) (hg:E.w.heap[g]? =some (.map ms (Px es q kc []).length)) (hl:ms.size=(Px es q kc []).length)
   (hu:P.underlying et=some (.slice te)) (hz:Ze P te≠0) (hj:J8 q es<(Px es q kc []).length) (hn:E.rb s (J8 q es)=none) (hx: ∀(j:Nat) (k row:List C) (m:MapEntry),(Px es q kc [])[j]? =some (k,row)->ms[j]? =some m->m.born=j/\Yn P E.w E.Pr kt k m.key/\(j≠J8 q es->Lh P E s j te row m.val)/\(j=J8 q es->RV P E l x m.val/\m.val.oneCell'=true)):
   ObjOk E l s (.mf kt et te es q kc x)
 |it {kt et:TypeId} {ka va:Option Nat} {es:List (List C×List C)} {g bm:Nat} (h:E.rho s=some g) (hg:E.w.heap[g]? =some (.mapIter (some bm) es.length #[] es.length)) (hm:RC E.w E.Pr (.mp kt et ka va es) (.map (some bm))):ObjOk E l s (.it kt et ka va es)
 |ir {n:Nat} {x:V} {g bm:Nat} (h:E.rho s=some g) (hg:E.w.heap[g]? =some (.mapIter (some bm) n #[] n)) (hx:RV P E l x (.map (some bm))):ObjOk E l s (.ir n x)
 |pk {st:Nat} {t:TypeId} {q:Rws} {pe:Option (Nat×TypeId×List C)} {g:Nat} {cur:Array Value} (h:E.rho s=some g) (hg:E.w.heap[g]? =some (.cells cur t (0,0))) (hl:q.len<=cur.size) (hb:E.bs s=cur.size)
   (hx: ∀(j:Nat) (p:PC) (u:Value),q.at j=some p->cur[j]? =some u->u.oneCell'=true/\((∀e,pe=some e->e.1≠j)->Gp P E s j p u))
   (hp: ∀(j:Nat) (te:TypeId) (row:List C),pe=some (j,te,row)->Ze P te≠0/\(∃row0,q.at j=some (.r te row0))/\ ∃v,Qo P E s j te row v):ObjOk E l s (.pk st t q pe)
theorem Lh.one {E:Env} {s j:Nat} {te:TypeId} {row:List C} {u:Value} (h:Lh P E s j te row u):u.oneCell'=true:=by
 rcases h with⟨_,_,rfl⟩|⟨_,_,_,_,_,_,_,rfl,_⟩<;>rfl
def Obj.fz:Obj->Nat
 | .ob _ fz _=>fz
 | .sb _ fz _=>fz
 | .cl n=>n
 |_=>0
inductive RI (w:World) (Pr:Nat->Nat->Prop):V->Value->Prop
 |c {c:C} {u:Value} (h:RC w Pr c u):RI w Pr (.c c) u
 |agg {cs:List C} {us:List Value} (h:RCs w Pr cs us):RI w Pr (.agg cs) (.agg us.toArray)
structure JT where
 J:(Nat->Prop)->(Nat->Nat->Prop)->Option Log->World->Prop
 stab: ∀{Y:Nat->Prop} {Pr Pr':Nat->Nat->Prop} {lg:Option Log} {w w':World},J Y Pr lg w->(∀b,Y b->w'.heap[b]? =w.heap[b]?)->Zj w Pr w' Pr' ->(∀b k,Pr' b k->Pr b k\/ ¬Y b)->
  w.heap.size<=w'.heap.size->w'.os=w.os->w'.tape=w.tape->w'.output=w.output->w.drawn<=w'.drawn->J Y Pr' lg w'
 weak: ∀{Y:Nat->Prop} {Pr:Nat->Nat->Prop} {lg:Option Log} {w:World},J Y Pr lg w->J Y Pr none w
def Zek (j:JT) (Y:Nat->Prop) (Pr:Nat->Nat->Prop) (lg:Log) (rest:List (List V)) (w:World) (e:Ending) (w':World):Prop:=
 e= .returned (.bool (lg.go lg.i))/\ ∃Y':Nat->Prop,(∀b,Y b->Y' b)/\(∀b,Y' b->Y b\/w.heap.size<=b)/\(∀b,Y' b->b<w'.heap.size)/\Zj w Pr w' Pr/\
  j.J Y' Pr (some ⟨lg.l,lg.go,Zjd lg.i,rest, !(lg.go lg.i)⟩) w'/\(∀b,b<w.heap.size-> ¬Y b->w'.heap[b]? =w.heap[b]?)/\w.heap.size<=w'.heap.size/\w'.os=w.os/\w'.tape=w.tape/\w'.output=w.output/\w.drawn<=w'.drawn
def YOk (P:Program) (j:JT):Prop:=
 ∀(Y:Nat->Prop) (Pr:Nat->Nat->Prop) (lg:Log) (w:World) (it:List V) (rest:List (List V)) (us:List Value),j.J Y Pr (some lg) w->lg.st=false->lg.rest=it::rest->us.length=it.length->
  (∀(i:Nat) (x:V) (u:Value),it[i]? =some x->us[i]? =some u->RI w Pr x u)->(∀b k,Pr b k->b<w.heap.size)->(∀b,Y b->b<w.heap.size)->
  YieldAt Fence.wide 0 P lg.l us.toArray w (Zek j Y Pr lg rest w)
structure Fr where
 pt:Nat->TypeId
 w0:World
 Pr0:Nat->Nat->Prop
 M:Nat->Prop
 tm:Nat->Option Value
 n:Nat
 outs:Nat->Option (Nat×Nat)
 jt:JT
 dfix:Bool
def Pf (r:Nat):Deferred:={target:= .collected r,args:= #[]}
structure RbOk (A:Fr) (E:Env) (s j g:Nat):Prop where
 cells: ∃cur t,E.w.heap[g]? =some (.cells cur t (0,0))
 rho: ∀s',E.rho s'≠some g
 one: ∀s' j',E.rb s' j'=some g->s'=s/\j'=j
 pr: ∀k,¬E.Pr g k
 y: ¬E.Y g
 base:A.w0.heap.size<=g\/A.M g
theorem RbOk.lt {A:Fr} {E:Env} {s j g:Nat} (h:RbOk A E s j g):g<E.w.heap.size:=by
 obtain⟨_,_,h⟩:=h.cells;exact(Zft.1 h).1
theorem Ub {A:Fr} {E E':Env} (h: ∀s j g,E.rb s j=some g->RbOk A E s j g) (hrb: ∀s j g,E'.rb s j=some g->E.rb s j=some g) (hrho: ∀s g,E'.rho s=some g->E.rho s=some g\/E.w.heap.size<=g) (hPr: ∀b k,E'.Pr b k->E.Pr b k\/(∃s,E.rho s=some b)\/E.w.heap.size<=b)
  (hY: ∀b,E'.Y b->E.Y b\/E.w.heap.size<=b) (hh: ∀b,b<E.w.heap.size->(∀s,E.rho s≠some b)-> ¬E.Y b->E'.w.heap[b]? =E.w.heap[b]?): ∀s j g,E'.rb s j=some g->RbOk A E' s j g:=by
 intro s j g hg;have h0:=h s j g (hrb s j g hg);have hlt:=h0.lt;refine⟨?_,λs' e=> ?_,λs' j' e=>h0.one s' j' (hrb _ _ _ e),λk e=> ?_,λe=> ?_,h0.base⟩
 ·obtain⟨cur,t,e⟩:=h0.cells;exact⟨cur,t,(hh g hlt h0.rho h0.y).trans e⟩
 ·rcases hrho s' g e with e|e
  ·exact h0.rho s' e
  ·omega
 ·rcases hPr g k e with e|⟨s',e⟩|e
  ·exact h0.pr k e
  ·exact h0.rho s' e
  ·omega
 ·rcases hY g e with e|e
  ·exact h0.y e
  ·omega
theorem RbOk.to {A A':Fr} {E:Env} {s j g:Nat} (h:RbOk A E s j g) (hb:(A.w0.heap.size<=g\/A.M g)->(A'.w0.heap.size<=g\/A'.M g)):RbOk A' E s j g:=⟨h.cells,h.rho,h.one,h.pr,h.y,hb h.base⟩
theorem Ut {A A':Fr} {E E':Env} (h: ∀s j g,E.rb s j=some g->RbOk A E s j g) (h1:E'.rb=E.rb:=by rfl) (h2:E'.rho=E.rho:=by rfl) (h3:E'.Pr=E.Pr:=by rfl) (h4:E'.Y=E.Y:=by rfl)
  (h5:E'.w.heap=E.w.heap:=by rfl) (h6:A'.w0=A.w0:=by rfl) (h7:A'.M=A.M:=by rfl): ∀s j g,E'.rb s j=some g->RbOk A' E' s j g:=by
 intro s j g hg;rw[h1]at hg;obtain⟨a1,a2,a3,a4,a5,a6⟩:=h s j g hg;exact⟨by rw[h5];exact a1,by rw[h2];exact a2,by rw[h1];exact a3,by rw[h3];exact a4,by rw[h4];exact a5,by rw[h6,h7];exact a6⟩
structure Good (A:Fr) (E:Env) (l:Loc) (pend:Nat->Prop):Prop where
 obj: ∀s,¬pend s->ObjOk P E l s (l s)
 pnd: ∀s,pend s->E.rho s=none/\ ∃cs,X9 P (A.pt s)=some cs/\l s= .ob (A.pt s) 0 cs
 inj: ∀s s' g,E.rho s=some g->E.rho s'=some g->s=s'
 base: ∀s g,E.rho s=some g->A.w0.heap.size<=g\/A.M g
 prot: ∀b k,E.Pr b k->b<E.w.heap.size/\ ∀s,E.rho s=some b->k<(l s).fz
 jf:A.jt.J E.Y E.Pr l.log E.w
 pr0:Zj A.w0 A.Pr0 E.w E.Pr
 prN: ∀b k,E.Pr b k->A.Pr0 b k\/A.w0.heap.size<=b\/A.M b
 size:A.w0.heap.size<=E.w.heap.size
 os:E.w.os=A.w0.os
 tape:E.w.tape=A.w0.tape
 output:E.w.output=A.w0.output
 dr:A.w0.drawn<=E.w.drawn
 yok:YOk P A.jt
 yown: ∀s g,E.rho s=some g-> ¬E.Y g
 ylt: ∀b,E.Y b->b<E.w.heap.size
 dm: ∀r,r∈E.D->E.w.heap[r]? =some (.deferred (some []))/\ ¬E.Y r
 rbo: ∀s j g,E.rb s j=some g->RbOk A E s j g
variable {P} in
theorem Good.dmno {A:Fr} {E:Env} {l:Loc} {pend:Nat->Prop} (h:Good P A E l pend) {r:Nat} (hr:r∈E.D) (s:Nat):E.rho s≠some r:=by
 intro e;have h1:=(h.dm r hr).1;by_cases hp:pend s
 ·rw[(h.pnd s hp).1]at e;cases e
 ·have h0:=h.obj s hp;generalize l s=o at h0;cases h0 with
  |dead h=>rw[h]at e;cases e
  |ob h hb _=>rw[h]at e;cases e;obtain⟨cur,h2,_⟩:=hb;rw[h1]at h2;cases h2
  |sbNil h=>rw[h]at e;cases e
  |sb h hb _=>rw[h]at e;cases e;obtain⟨cur,h2,_⟩:=hb;rw[h1]at h2;cases h2
  |mx h hg _ _ _=>rw[h]at e;cases e;rw[h1]at hg;cases hg
  |mp h hg _ _=>rw[h]at e;cases e;rw[h1]at hg;cases hg
  |cl h hg=>rw[h]at e;cases e;rcases hg with⟨c,t,h2⟩|⟨c,t,h2⟩<;>(rw[h1]at h2;cases h2)
  |mr h hg _ _ _ _=>rw[h]at e;cases e;rw[h1]at hg;cases hg
  |mf h hg _ _ _ _ _ _=>rw[h]at e;cases e;rw[h1]at hg;cases hg
  |it h hg _=>rw[h]at e;cases e;rw[h1]at hg;cases hg
  |ir h hg _=>rw[h]at e;cases e;rw[h1]at hg;cases hg
  |pk h hg _ _ _ _=>rw[h]at e;cases e;rw[h1]at hg;cases hg
variable {P} in
theorem Good.jstep {A:Fr} {E E':Env} {l l':Loc} {pend:Nat->Prop} (h:Good P A E l pend) (hY:E'.Y=E.Y) (hlog:l'.log=l.log) (hx:Zj E.w E.Pr E'.w E'.Pr) (hpr: ∀b k,E'.Pr b k->E.Pr b k\/ ¬E.Y b)
  (hb: ∀b,E.Y b->E'.w.heap[b]? =E.w.heap[b]?) (hs:E.w.heap.size<=E'.w.heap.size) (ho:E'.w.os=E.w.os) (ht:E'.w.tape=E.w.tape) (hu:E'.w.output=E.w.output) (hd:E.w.drawn<=E'.w.drawn:=by exact Zf4 _):A.jt.J E'.Y E'.Pr l'.log E'.w:=by
 rw[hY,hlog];exact A.jt.stab h.jf hb hx hpr hs ho ht hu hd
structure Rel (A:Fr) (E:Env) (σ:St) (pend:Nat->Prop) (a:Act):Prop where
 good:Good P A E σ.loc pend
 slots: ∀t,t<σ.slots.length->RV P E σ.loc (σ.get t) (a.tmps.getD t undef)
 size:a.tmps.size=σ.slots.length
 defers:a.defers=E.D.map Pf/\(A.dfix=true->E.D=[])/\E.D.Nodup
 tm: ∀t u,A.tm t=some u->a.tmps.getD t undef=u
 len:σ.slots.length=A.n
 outs: ∀k g n,A.outs k=some (g,n)->RV P E σ.loc (.gh (OUT+k)) (ghv g n)
theorem Loc.eq {l l':Loc} (h: ∀s,l s=l' s) (hl:l.log=l'.log):l=l':=by
 cases l;cases l';simp only[Loc.mk.injEq];exact⟨funext h,hl⟩
theorem Sl.get_eq (l:Sl) (t:Nat):l.get t=if t<l.length then l.fn t else .und:=by
 unfold Sl.get;cases h:Zje t l.length
 ·rw[if_neg (λe=>by have h2:Zje t l.length=true:=Nat.blt_eq.mpr e;rw[h]at h2;cases h2)];rfl
 ·rw[if_pos (Nat.blt_eq.mp h)];rfl
theorem Sl.get_lt {l:Sl} {t:Nat} (h:t<l.length):l.get t=l.fn t:=by rw[Sl.get_eq,if_pos h]
theorem Sl.get_ge {l:Sl} {t:Nat} (h: ¬t<l.length):l.get t= .und:=by rw[Sl.get_eq,if_neg h]
@[simp] theorem Sl.set_length (l:Sl) (t:Nat) (x:V):(l.set t x).length=l.length:=rfl
@[simp] theorem Sl.map_length (l:Sl) (g:V->V):(l.map g).length=l.length:=rfl
theorem Sl.set_self {l:Sl} {t:Nat} {x:V} (h:t<l.length):(l.set t x).get t=x:=by
 rw[Sl.get_lt (by simpa using h)];simp[Sl.set]
theorem Sl.set_ne {l:Sl} {t t':Nat} {x:V} (h:t≠t'):(l.set t x).get t'=l.get t':=by
 have e:Zi8 t' t=false:=by
  cases e:Zi8 t' t
  ·rfl
  ·exact absurd (Zfr e).symm h
 rw[Sl.get_eq,Sl.get_eq];simp[Sl.set,e]
theorem Sl.map_lt {l:Sl} {t:Nat} {g:V->V} (h:t<l.length):(l.map g).get t=g (l.get t):=by
 rw[Sl.get_lt (by simpa using h),Sl.get_lt h];rfl
theorem Sl.set_cases {l:Sl} {t t':Nat} {x y:V} (hl:t'<l.length) (h:(l.set t x).get t'=y):y=x\/l.get t'=y:=by
 by_cases e:t=t'
 ·subst e;rw[Sl.set_self hl]at h;exact .inl h.symm
 ·rw[Sl.set_ne e]at h;exact .inr h
theorem Sl.set_comm (l:Sl) {d e:Nat} (x y:V) (h:d≠e):(l.set d x).set e y=(l.set e y).set d x:=by
 simp only[Sl.set]
 congr 1
 funext t
 cases h1:Zi8 t e
 ·rfl
 ·cases h2:Zi8 t d
  ·rfl
  ·exact absurd ((Zfr h2).symm.trans (Zfr h1)) h
end Go.PM
namespace Go.PM
open Go
variable {P:Program}
def Sh (l l':Loc) (s:Nat):Prop:=
 (∀t fz,l s= .sb t fz []-> ∃fz',l' s= .sb t fz' [])/\
 (∀t fz cs,Zv (l s)=some (t,fz,cs)->(∃fz' cs',Zv (l' s)=some (t,fz',cs'))\/Jr (l' s)=true)/\
 (Jr (l s)=true->Jr (l' s)=true)
theorem Sh.same {l l':Loc} {s:Nat} (h:l' s=l s):Sh l l' s:=
 ⟨λt fz e=>⟨fz,h.trans e⟩,λt fz cs e=> .inl ⟨fz,cs,by rw[h];exact e⟩,λe=>by rw[h];exact e⟩
theorem X0 {o:Obj} {q:TypeId×Nat×List C} (h:Jr o=true) (h':Zv o=some q):False:=by cases o<;>simp_all [Jr,Zv]
def Rk (E E':Env) (l l':Loc) (s:Nat):Prop:=
 (gen (l' s)=none/\(L6 (l' s)=true->L6 (l s)=true))\/(gen (l' s)=gen (l s)/\L6 (l' s)=L6 (l s)/\E'.rb s=E.rb s/\E'.rc s=E.rc s)\/(∃g,gen (l s)=some (g,false)/\gen (l' s)=some (g,true))\/ ∃g g' b b',gen (l s)=some (g,b)/\gen (l' s)=some (g',b')/\g<g'
theorem Q8 {o:Obj} {q:Nat×Bool} (h:gen o=some q):L6 o=false:=by cases o<;>simp_all [gen,L6]
theorem Rk.same {E E':Env} {l l':Loc} {s:Nat} (h:l' s=l s) (h1:E'.rb s=E.rb s:=by rfl) (h2:E'.rc s=E.rc s:=by rfl):Rk E E' l l' s:= .inr (.inl ⟨by rw[h],by rw[h],h1,h2⟩)
theorem Rk.no {E E':Env} {l l':Loc} {s:Nat} {o:Obj} (h:l' s=o) (h1:gen o=none) (h2:L6 o=false):Rk E E' l l' s:= .inl ⟨by rw[h];exact h1,λe=>by rw[h,h2]at e;cases e⟩
theorem Rk.ob {E E':Env} {l l':Loc} {s:Nat} (h:gen (l' s)=none) (h2:L6 (l s)=true):Rk E E' l l' s:= .inl ⟨h,λ_=>h2⟩
theorem Rk.trans {E E1 E2:Env} {l l1 l2:Loc} {s:Nat} (h:Rk E E1 l l1 s) (h':Rk E1 E2 l1 l2 s):Rk E E2 l l2 s:=by
 rcases h' with⟨h',h0'⟩|⟨h1,h0,h2,h3⟩|⟨g,h1,h2⟩|⟨g,g',b,b',h1,h2,h3⟩
 ·refine .inl ⟨h',λe=> ?_⟩;have e1:=h0' e;rcases h with⟨_,q⟩|⟨_,q,_⟩|⟨g,q1,q2⟩|⟨g,g',b,b',q1,q2,q3⟩
  ·exact q e1
  ·exact q▸e1
  ·rw[Q8 q2]at e1;cases e1
  ·rw[Q8 q2]at e1;cases e1
 ·rcases h with⟨h,q⟩|⟨q1,q0,q2,q3⟩|⟨g,q1,q2⟩|⟨g,g',b,b',q1,q2,q3⟩
  ·exact .inl ⟨h1.trans h,λe=>q (h0▸e)⟩
  ·exact .inr (.inl ⟨h1.trans q1,h0.trans q0,h2.trans q2,h3.trans q3⟩)
  ·exact .inr (.inr (.inl ⟨g,q1,h1.trans q2⟩))
  ·exact .inr (.inr (.inr ⟨g,g',b,b',q1,h1.trans q2,q3⟩))
 ·rcases h with⟨h,_⟩|⟨q1,q2,q3⟩|⟨g1,q1,q2⟩|⟨g1,g2,b,b',q1,q2,q3⟩
  ·rw[h]at h1;cases h1
  ·exact .inr (.inr (.inl ⟨g,q1.symm.trans h1,h2⟩))
  ·rw[q2]at h1;injection h1 with h1;injection h1 with _ h1;cases h1
  ·rw[q2]at h1;injection h1 with h1;injection h1 with h1 _;subst h1
   exact .inr (.inr (.inr ⟨g1,g2,b,true,q1,h2,q3⟩))
 ·rcases h with⟨h,_⟩|⟨q1,q2,q3⟩|⟨g1,q1,q2⟩|⟨g1,g2,c,c',q1,q2,q3⟩
  ·rw[h]at h1;cases h1
  ·exact .inr (.inr (.inr ⟨g,g',b,b',q1.symm.trans h1,h2,h3⟩))
  ·rw[q2]at h1;injection h1 with h1;injection h1 with h1 _;subst h1
   exact .inr (.inr (.inr ⟨g1,g',false,b',q1,h2,h3⟩))
  ·rw[q2]at h1;injection h1 with h1;injection h1 with h1 _;subst h1
   exact .inr (.inr (.inr ⟨g1,g',c,b',q1,h2,Zji q3 h3⟩))
theorem Pb.cong {E E':Env} {s j n:Nat} {u:Value} (h1:E'.rb s=E.rb s) (h2:E'.rc s=E.rc s) (h:Pb E s j n u):Pb E' s j n u:=by
 unfold Pb;rw[h1,h2];exact h
theorem Lq {b c:Bool} (h:b=true->c=true) (hc:c=false):b=false:=by
 cases b
 ·rfl
 ·rw[h rfl]at hc;cases hc
theorem Rk.offW {E E':Env} {l l':Loc} {s g:Nat} (h:Rk E E' l l' s) (h0:Za5 (l s) g):Za5 (l' s) g:=by
 obtain⟨h00,h0⟩:=h0;rcases h with⟨h,hq⟩|⟨h,hq,_⟩|⟨g1,h1,h2⟩|⟨g1,g2,b,b',h1,h2,h3⟩
 ·exact⟨Lq hq h00,λg0 pe e=>by rw[h]at e;cases e⟩
 ·exact⟨hq.trans h00,λg0 pe e=>h0 g0 pe (h.symm.trans e)⟩
 ·refine⟨Q8 h2,λg0 pe e=> ?_⟩;rw[h2]at e;injection e with e;injection e with e1 e2;subst e1 e2
  rcases h0 _ _ h1 with h|⟨_,h⟩
  ·exact .inl h
  ·cases h
 ·refine⟨Q8 h2,λg0 pe e=> ?_⟩;rw[h2]at e;injection e with e;injection e with e1 e2;subst e1 e2
  rcases h0 _ _ h1 with h|⟨h,_⟩
  ·exact .inl (Zji h h3)
  ·exact .inl (h▸h3)
theorem Rk.offP {E E':Env} {l l':Loc} {s g:Nat} (h:Rk E E' l l' s) (h0:Za6 (l s) g):Za6 (l' s) g:=by
 obtain⟨h00,h0⟩:=h0;rcases h with⟨h,hq⟩|⟨h,hq,_⟩|⟨g1,h1,h2⟩|⟨g1,g2,b,b',h1,h2,h3⟩
 ·exact⟨Lq hq h00,λg0 pe e=>by rw[h]at e;cases e⟩
 ·exact⟨hq.trans h00,λg0 pe e=>h0 g0 pe (h.symm.trans e)⟩
 ·refine⟨Q8 h2,λg0 pe e=> ?_⟩;rw[h2]at e;injection e with e;injection e with e1 e2;subst e1 e2
  exact h0 _ _ h1
 ·refine⟨Q8 h2,λg0 pe e=> ?_⟩;rw[h2]at e;injection e with e;injection e with e1 e2;subst e1 e2
  exact Zji (h0 _ _ h1) h3
theorem Rk.rw {E E':Env} {l l':Loc} {s g j n:Nat} {u:Value} (h:Rk E E' l l' s) (h0:gen (l s)=some (g,false)) (hv:Pb E s j n u):Za5 (l' s) g\/(gen (l' s)=some (g,false)/\Pb E' s j n u):=by
 rcases h with⟨h,hq⟩|⟨h,_,h1,h2⟩|⟨g1,h1,h2⟩|⟨g1,g2,b,b',h1,h2,h3⟩
 ·exact .inl ⟨Lq hq (Q8 h0),λg0 pe e=>by rw[h]at e;cases e⟩
 ·exact .inr ⟨h.trans h0,hv.cong h1 h2⟩
 ·refine .inl ⟨Q8 h2,λg0 pe e=> ?_⟩;rw[h2]at e;injection e with e;injection e with e1 e2;subst e1 e2
  rw[h0]at h1;injection h1 with h1;injection h1 with h1 _
  exact .inr ⟨h1,rfl⟩
 ·refine .inl ⟨Q8 h2,λg0 pe e=> ?_⟩;rw[h2]at e;injection e with e;injection e with e1 e2;subst e1 e2
  rw[h0]at h1;injection h1 with h1;injection h1 with h1 _
  exact .inl (h1▸h3)
theorem Rk.rp {E E':Env} {l l':Loc} {s g j n:Nat} {u:Value} (h:Rk E E' l l' s) (h0:gen (l s)=some (g,true)) (hv:Pb E s j n u):Za6 (l' s) g\/(gen (l' s)=some (g,true)/\Pb E' s j n u):=by
 rcases h with⟨h,hq⟩|⟨h,_,h1,h2⟩|⟨g1,h1,h2⟩|⟨g1,g2,b,b',h1,h2,h3⟩
 ·exact .inl ⟨Lq hq (Q8 h0),λg0 pe e=>by rw[h]at e;cases e⟩
 ·exact .inr ⟨h.trans h0,hv.cong h1 h2⟩
 ·rw[h0]at h1;injection h1 with h1;injection h1 with _ h1;cases h1
 ·refine .inl ⟨Q8 h2,λg0 pe e=> ?_⟩;rw[h2]at e;injection e with e;injection e with e1 e2;subst e1 e2
  rw[h0]at h1;injection h1 with h1;injection h1 with h1 _
  exact h1▸h3
def Zf (E E':Env) (l l':Loc) (s:Nat):Prop:=
 l' s= .dead\/(l s≠ .dead/\E'.rho s=E.rho s/\E'.bs s=E.bs s/\Sh l l' s/\Rk E E' l l' s)
theorem P2 {o:Obj} {g:Nat} (h:o= .dead):Za5 o g/\Za6 o g:=by
 subst h;exact⟨⟨rfl,λ_ _ e=>(by cases e)⟩,⟨rfl,λ_ _ e=>(by cases e)⟩⟩
def Zet (E E':Env) (l l':Loc) (s:Nat):Prop:=
 Zf E E' l l' s\/(E.rho s=none/\ ∃t fz cs,l s= .ob t fz cs)
theorem RV.mono2 {E E':Env} {l l':Loc} (K:Nat->Prop) (hx:Zj E.w E.Pr E'.w E'.Pr) (hs: ∀s,¬K s->Zet E E' l l' s) {x:V} {u:Value}
  (h:RV P E l x u):(∀s,K s->x.at s=false)->RV P E' l' x u:=by
 induction h with
 |c h=>exact λ_=> .c (h.held hx)
 |agg h=>exact λ_=> .agg (h.held hx)
 |tup hl _ ih=>
  intro hK;have hn: ∀s,¬K s:=λs hk=>by have:=hK s hk;simp[V.at]at this
  exact .tup hl λj x u hx hu=>ih j x u hx hu λs hk=>absurd hk (hn s)
 |mag hl h1 _ ih=>
  intro hK;have hn: ∀s,¬K s:=λs hk=>by have:=hK s hk;simp[V.at]at this
  exact .mag hl h1 λj x u hx hu=>ih j x u hx hu λs hk=>absurd hk (hn s)
 | @ptrDead s off u h=>
  intro hK;by_cases hk:K s
  ·have:=hK s hk;simp[V.at]at this
  ·rcases hs s hk with(hd|⟨hd,_⟩)|⟨_,_,_,_,hv⟩
   ·exact .ptrDead hd
   ·exact absurd h hd
   ·rw[h]at hv;cases hv
 | @ptr s off g h=>
  intro hK;by_cases hk:K s
  ·have:=hK s hk;simp[V.at]at this
  ·rcases hs s hk with(hd|⟨_,hr,_⟩)|⟨hv,_⟩
   ·exact .ptrDead hd
   ·exact .ptr (hr.trans h)
   ·rw[h]at hv;cases hv
 | @cloDead f s u h=>
  intro hK;by_cases hk:K s
  ·have:=hK s hk;simp[V.at]at this
  ·rcases hs s hk with(hd|⟨hd,_⟩)|⟨_,_,_,_,hv⟩
   ·exact .cloDead hd
   ·exact absurd h hd
   ·rw[h]at hv;cases hv
 | @clo f s g h=>
  intro hK;by_cases hk:K s
  ·have:=hK s hk;simp[V.at]at this
  ·rcases hs s hk with(hd|⟨_,hr,_⟩)|⟨hv,_⟩
   ·exact .cloDead hd
   ·exact .clo (hr.trans h)
   ·rw[h]at hv;cases hv
 | @ownDead s off n u h=>
  intro hK;by_cases hk:K s
  ·have:=hK s hk;simp[V.at]at this
  ·rcases hs s hk with(hd|⟨hd,_⟩)|⟨_,_,_,_,hv⟩
   ·exact .ownDead hd
   ·exact absurd h hd
   ·rw[h]at hv;cases hv
 | @ownNil s t fz h hl=>
  intro hK;by_cases hk:K s
  ·have:=hK s hk;simp[V.at]at this
  ·rcases hs s hk with(hd|⟨_,hr,_,hsh,_⟩)|⟨_,_,_,_,hv⟩
   ·exact .ownDead hd
   ·obtain⟨fz',e⟩:=hsh.1 t fz hl;exact .ownNil (hr.trans h) e
   ·rw[hl]at hv;cases hv
 | @own s off n g cap t fz cs h hl hn hc hb=>
  intro hK;by_cases hk:K s
  ·have:=hK s hk;simp[V.at]at this
  ·rcases hs s hk with(hd|⟨_,hr,hbs,hsh,_⟩)|⟨hv,_⟩
   ·exact .ownDead hd
   ·rcases hsh.2.1 t fz cs hl with⟨fz',cs',e⟩|e
    ·exact .own (hr.trans h) e hn hc (by rw[hbs];exact hb)
    ·exact .ownMx e
   ·rw[h]at hv;cases hv
 | @own0 s off g o' t fz cs h hl ho=>
  intro hK;by_cases hk:K s
  ·have:=hK s hk;simp[V.at]at this
  ·rcases hs s hk with(hd|⟨_,hr,hbs,hsh,_⟩)|⟨hv,_⟩
   ·exact .ownDead hd
   ·rcases hsh.2.1 t fz cs hl with⟨fz',cs',e⟩|e
    ·exact .own0 (hr.trans h) e ho
    ·exact .ownMx e
   ·rw[h]at hv;cases hv
 | @mpDead s u h=>
  intro hK;by_cases hk:K s
  ·have:=hK s hk;simp[V.at]at this
  ·rcases hs s hk with(hd|⟨hd,_⟩)|⟨_,_,_,_,hv⟩
   ·exact .mpDead hd
   ·exact absurd h hd
   ·rw[h]at hv;cases hv
 | @mp s g h=>
  intro hK;by_cases hk:K s
  ·have:=hK s hk;simp[V.at]at this
  ·rcases hs s hk with(hd|⟨_,hr,_⟩)|⟨hv,_⟩
   ·exact .mpDead hd
   ·exact .mp (hr.trans h)
   ·rw[h]at hv;cases hv
 | @wsDead s n u h=>
  intro hK;by_cases hk:K s
  ·have:=hK s hk;simp[V.at]at this
  ·rcases hs s hk with(hd|⟨hd,_⟩)|⟨_,_,_,_,hv⟩
   ·exact .wsDead hd
   ·exact absurd h hd
   ·rw[h]at hv;cases hv
 | @ws s n g h hn=>
  intro hK;by_cases hk:K s
  ·have:=hK s hk;simp[V.at]at this
  ·rcases hs s hk with(hd|⟨_,hr,_⟩)|⟨hv,_⟩
   ·exact .wsDead hd
   ·exact .ws (hr.trans h) hn
   ·rw[h]at hv;cases hv
 | @ownMx s off n u h=>
  intro hK;by_cases hk:K s
  ·have:=hK s hk;simp[V.at]at this
  ·rcases hs s hk with(hd|⟨_,_,_,hsh,_⟩)|⟨_,_,_,_,hv⟩
   ·exact .ownDead hd
   ·exact .ownMx (hsh.2.2 h)
   ·rw[hv]at h;cases h
 | @ghDead s u h=>
  intro hK;by_cases hk:K s
  ·have:=hK s hk;simp[V.at]at this
  ·rcases hs s hk with(hd|⟨hd,_⟩)|⟨_,_,_,_,hv⟩
   ·exact .ghDead hd
   ·exact absurd h hd
   ·rw[h]at hv;cases hv
 | @gh s g n h hb=>
  intro hK;by_cases hk:K s
  ·have:=hK s hk;simp[V.at]at this
  ·rcases hs s hk with(hd|⟨_,hr,hbs,_⟩)|⟨hv,_⟩
   ·exact .ghDead hd
   ·exact .gh (hr.trans h) (hbs.trans hb)
   ·rw[h]at hv;cases hv
 |ent _ ih=>exact λhK=> .ent (ih λs hk=>hK s hk)
 |est=>exact λ_=> .est
 |fs h hc=>exact λ_=> .fs (h.held hx) hc
 | @rwOff s g j n u h=>
  intro hK;by_cases hk:K s
  ·have:=hK s hk;simp[V.at]at this
  ·rcases hs s hk with(hd|⟨_,_,_,_,hq⟩)|⟨_,_,_,_,hv⟩
   ·exact .rwOff (P2 hd).1
   ·exact .rwOff (hq.offW h)
   ·have:=h.1;rw[hv]at this;cases this
 | @rw s g j n u h hv=>
  intro hK;by_cases hk:K s
  ·have:=hK s hk;simp[V.at]at this
  ·rcases hs s hk with(hd|⟨_,_,_,_,hq⟩)|⟨_,_,_,_,hv⟩
   ·exact .rwOff (P2 hd).1
   ·rcases hq.rw h hv with h|⟨h,h'⟩
    ·exact .rwOff h
    ·exact .rw h h'
   ·rw[hv]at h;cases h
 | @rpOff s g j n u h=>
  intro hK;by_cases hk:K s
  ·have:=hK s hk;simp[V.at]at this
  ·rcases hs s hk with(hd|⟨_,_,_,_,hq⟩)|⟨_,_,_,_,hv⟩
   ·exact .rpOff (P2 hd).2
   ·exact .rpOff (hq.offP h)
   ·have:=h.1;rw[hv]at this;cases this
 | @rp s g j n u h hv=>
  intro hK;by_cases hk:K s
  ·have:=hK s hk;simp[V.at]at this
  ·rcases hs s hk with(hd|⟨_,_,_,_,hq⟩)|⟨_,_,_,_,hv⟩
   ·exact .rpOff (P2 hd).2
   ·rcases hq.rp h hv with h|⟨h,h'⟩
    ·exact .rpOff h
    ·exact .rp h h'
   ·rw[hv]at h;cases h
 |nq h=>exact λ_=> .nq h
 |un=>exact λ_=> .un
 |und=>exact λ_=> .und
theorem RV.mono {E E':Env} {l l':Loc} (K:Nat->Prop) (hx:Zj E.w E.Pr E'.w E'.Pr) (hs: ∀s,¬K s->Zf E E' l l' s) {x:V} {u:Value}
  (h:RV P E l x u):(∀s,K s->x.at s=false)->RV P E' l' x u:=h.mono2 K hx λs hk=> .inl (hs s hk)
theorem RV.mono0 {E E':Env} {l l':Loc} (hx:Zj E.w E.Pr E'.w E'.Pr) (hs: ∀s,Zf E E' l l' s) {x:V} {u:Value} (h:RV P E l x u):RV P E' l' x u:=
 h.mono (λ_=>False) hx (λs _=>hs s) (λ_ h=>h.elim)
theorem RV.kill {E:Env} {l:Loc} {x:V} {u:Value} (s:Nat) (h:RV P E l x u):RV P E l (x.kill s) u:=by
 unfold V.kill;cases x.at s
 ·exact h
 ·cases h with
  |ent _=>exact .est
  |_=>exact .und
theorem Tp (s:Nat) (x:V):(x.kill s).at s=false:=by
 unfold V.kill;cases h:x.at s
 ·exact h
 ·cases x<;>rfl
theorem Yn.held {w w':World} {Pr Pr':Nat->Nat->Prop} (hx:Zj w Pr w' Pr') {t:TypeId} {cs:List C} {u:Value} (h:Yn P w Pr t cs u):Yn P w' Pr' t cs u:=by
 rcases h with⟨h1,h0,us,h2,h3⟩|⟨h1,c,h2,h3⟩
 ·exact .inl ⟨h1,h0,us,h2,h3.held hx⟩
 ·exact .inr ⟨h1,c,h2,h3.held hx⟩
theorem Blk.keep {E E':Env} {s g:Nat} {t:TypeId} {cs:List C} (hx:Zj E.w E.Pr E'.w E'.Pr) (hg:E'.w.heap[g]? =E.w.heap[g]?) (hb:E'.bs s=E.bs s) (h:Blk E s g t cs):Blk E' s g t cs:=by
 obtain⟨cur,h1,h2,h3,h4⟩:=h;exact⟨cur,hg.trans h1,h2.trans hb.symm,h3,h4.held hx⟩
def P3 (E E':Env) (s j:Nat):Prop:=E'.rb s j=E.rb s j/\ ∀g,E.rb s j=some g->E'.w.heap[g]? =E.w.heap[g]?
theorem Lh.keep {E E':Env} {s j:Nat} {te:TypeId} {row:List C} {u:Value} (hx:Zj E.w E.Pr E'.w E'.Pr) (hk:P3 E E' s j) (h:Lh P E s j te row u):Lh P E' s j te row u:=by
 obtain⟨k1,k3⟩:=hk;rcases h with⟨h1,h2,h3⟩|⟨g,cap,cur,h1,h2,h3,h4,h5,h6,h7,h8,h9⟩
 ·exact .inl ⟨k1.trans h1,h2,h3⟩
 ·exact .inr ⟨g,cap,cur,k1.trans h1,(k3 g h1).trans h2,h3,h4.held hx,h5,h6,h7,h8,h9⟩
theorem Qo.keep {E E':Env} {s j:Nat} {te:TypeId} {row:List C} {u:Value} (hx:Zj E.w E.Pr E'.w E'.Pr) (hk:P3 E E' s j) (hc:E'.rc s j=E.rc s j) (h:Qo P E s j te row u):Qo P E' s j te row u:=
 ⟨h.1.keep hx hk,λa m cap e=>by rw[hc];exact h.2 a m cap e⟩
theorem Gp.keep {E E':Env} {s j:Nat} {p:PC} {u:Value} (hx:Zj E.w E.Pr E'.w E'.Pr) (hk:P3 E E' s j) (hc:E'.rc s j=E.rc s j) (h:Gp P E s j p u):Gp P E' s j p u:=by
 cases p with
 |c c=>exact RC.held hx h
 |r te row=>exact⟨h.1,h.2.keep hx hk hc⟩
theorem ObjOk.keep {E E':Env} {l l':Loc} {s:Nat} {o:Obj} (hx:Zj E.w E.Pr E'.w E'.Pr) (hr:E'.rho s=E.rho s) (hb:E'.bs s=E.bs s)
  (hg: ∀g,E.rho s=some g->E'.w.heap[g]? =E.w.heap[g]?) (hv: ∀x u,x∈o.refs->RV P E l x u->RV P E' l' x u) (h:ObjOk P E l s o)
  (hk: ∀j,P3 E E' s j:=by exact λ_=>⟨rfl,λ_ _=>rfl⟩) (hc:E'.rc s=E.rc s:=by rfl):ObjOk P E' l' s o:=by
 cases h with
 |dead h=>exact .dead (hr.trans h)
 |ob h hk hf=>exact .ob (hr.trans h) (hk.keep hx (hg _ h) hb) hf
 |sbNil h=>exact .sbNil (hr.trans h)
 |sb h hk hf=>exact .sb (hr.trans h) (hk.keep hx (hg _ h) hb) hf
 |mx h hk h0 hu h2=>exact .mx (hr.trans h) ((hg _ h).trans hk) h0 (λj x u hx hu'=>⟨hv _ _ (Zfx hx) (hu j x u hx hu').1,(hu j x u hx hu').2⟩) (hb.trans h2)
 |mp h hk h0 hu=>exact .mp (hr.trans h) ((hg _ h).trans hk) h0 λj k v m he hm=>⟨(hu j k v m he hm).1,(hu j k v m he hm).2.1.held hx,(hu j k v m he hm).2.2.held hx⟩
 |cl h hc=>exact .cl (hr.trans h) (by rw[hg _ h];exact hc)
 |mr h h1 h2 h4 h5 h6=>exact .mr (hr.trans h) ((hg _ h).trans h1) h2 h4 h5 λj k row m he hm=>⟨(h6 j k row m he hm).1,(h6 j k row m he hm).2.1.held hx,(h6 j k row m he hm).2.2.keep hx (hk j)⟩
 |mf h h1 h2 h4 h5 hj hn h6=>exact .mf (hr.trans h) ((hg _ h).trans h1) h2 h4 h5 hj ((hk _).1.trans hn) λj k row m he hm=>⟨(h6 j k row m he hm).1,(h6 j k row m he hm).2.1.held hx,λe=>((h6 j k row m he hm).2.2.1 e).keep hx (hk j),λe=>⟨hv _ _ (by simp[Obj.refs]) ((h6 j k row m he hm).2.2.2 e).1,((h6 j k row m he hm).2.2.2 e).2⟩⟩
 |it h h1 h2=>exact .it (hr.trans h) ((hg _ h).trans h1) (h2.held hx)
 |ir h h1 h2=>exact .ir (hr.trans h) ((hg _ h).trans h1) (hv _ _ (by simp[Obj.refs]) h2)
 |pk h h1 h2 h3 h4 h5=>exact .pk (hr.trans h) ((hg _ h).trans h1) h2 (hb.trans h3) (λj p u hp hu=>⟨(h4 j p u hp hu).1,λe=>((h4 j p u hp hu).2 e).keep hx (hk j) (congrFun hc j)⟩) λj te row e=>⟨(h5 j te row e).1,(h5 j te row e).2.1,(h5 j te row e).2.2.imp λv hv=>hv.keep hx (hk j) (congrFun hc j)⟩
theorem Good.lt {A:Fr} {E:Env} {l:Loc} {pend:Nat->Prop} (h:Good P A E l pend) {s g:Nat} (hr:E.rho s=some g):g<E.w.heap.size:=by
 by_cases hp:pend s
 ·rw[(h.pnd s hp).1]at hr;cases hr
 ·have h0:=h.obj s hp;generalize l s=o at h0;cases h0 with
  |dead h=>rw[h]at hr;cases hr
  |ob h hb _=>rw[h]at hr;cases hr;obtain⟨cur,h1,_⟩:=hb;exact(Zft.1 h1).1
  |sbNil h=>rw[h]at hr;cases hr
  |sb h hb _=>rw[h]at hr;cases hr;obtain⟨cur,h1,_⟩:=hb;exact(Zft.1 h1).1
  |mx h hg _ _ _=>rw[h]at hr;cases hr;exact(Zft.1 hg).1
  |mp h hg _ _=>rw[h]at hr;cases hr;exact(Zft.1 hg).1
  |cl h hg=>rw[h]at hr;cases hr;rcases hg with⟨_,_,hg⟩|⟨_,_,hg⟩<;>exact(Zft.1 hg).1
  |mr h hg _ _ _ _=>rw[h]at hr;cases hr;exact(Zft.1 hg).1
  |mf h hg _ _ _ _ _ _=>rw[h]at hr;cases hr;exact(Zft.1 hg).1
  |it h hg _=>rw[h]at hr;cases hr;exact(Zft.1 hg).1
  |ir h hg _=>rw[h]at hr;cases hr;exact(Zft.1 hg).1
  |pk h hg _ _ _ _=>rw[h]at hr;cases hr;exact(Zft.1 hg).1
theorem Good.ne_dead {A:Fr} {E:Env} {l:Loc} {pend:Nat->Prop} (h:Good P A E l pend) {s g:Nat} (hr:E.rho s=some g):l s≠ .dead:=by
 intro hd;by_cases hp:pend s
 ·rw[(h.pnd s hp).1]at hr;cases hr
 ·have:=h.obj s hp;rw[hd]at this;cases this with
  |dead h=>rw[h]at hr;cases hr
def Env.kill (E:Env) (l:Loc) (s:Nat):Env:={E with rho:=λs'=>match Loc.kill s l s' with| .dead=>none|_=>E.rho s'}
theorem Q9 (s:Nat) (l:Loc) (s':Nat):(Loc.kill s l s'= .dead/\(s'=s\/l s'= .dead))\/(s'≠s/\Loc.kill s l s'=l s'/\(l s').refs=[])\/(s'≠s/\ ∃t xs,l s'= .mx t xs/\Loc.kill s l s'= .mx t (xs.map (V.kill s)))\/
  (s'≠s/\ ∃kt et te es q kc x,l s'= .mf kt et te es q kc x/\Loc.kill s l s'= .mf kt et te es q kc (x.kill s))\/(s'≠s/\ ∃n x,l s'= .ir n x/\Loc.kill s l s'= .ir n (x.kill s)):=by
 simp only[Loc.kill];cases h:Zi8 s' s
 ·have hne:s'≠s:=λe=>by rw[e,Zhc]at h;cases h
  cases ho:l s' with
  |mx t xs=>exact .inr (.inr (.inl ⟨hne,t,xs,rfl,by simp[Obj.kill]⟩))
  |mf kt et te es q kc x=>exact .inr (.inr (.inr (.inl ⟨hne,_,_,_,_,_,_,_,rfl,by simp[Obj.kill]⟩)))
  |ir n x=>exact .inr (.inr (.inr (.inr ⟨hne,_,_,rfl,by simp[Obj.kill]⟩)))
  |dead=>exact .inl ⟨by simp[Obj.kill], .inr rfl⟩
  |_=>exact .inr (.inl ⟨hne,by simp[Obj.kill],rfl⟩)
 ·exact .inl ⟨by simp, .inl (Zfr h)⟩
theorem Zf.kill (E:Env) (l:Loc) (s s':Nat):Zf E (E.kill l s) l (Loc.kill s l) s':=by
 rcases Q9 s l s' with⟨h,_⟩|⟨_,h,_⟩|⟨_,t,xs,hl,h⟩|⟨_,kt,et,te,es,q,kc,x,hl,h⟩|⟨_,n,x,hl,h⟩
 ·exact .inl h
 ·by_cases hd:l s'= .dead
  ·exact .inl (h.trans hd)
  ·refine .inr ⟨hd, ?_,rfl, .same h, .same h⟩;simp only[Env.kill,h]
 ·refine .inr ⟨λe=>(by rw[hl]at e;cases e), ?_,rfl,⟨(λ_ _ e=>by rw[hl]at e;cases e),λ_ _ _ e=>(by rw[hl]at e;cases e),λ_=>by rw[h];rfl⟩, .no h rfl rfl⟩;simp only[Env.kill,h]
 ·refine .inr ⟨λe=>(by rw[hl]at e;cases e), ?_,rfl,⟨(λ_ _ e=>by rw[hl]at e;cases e),λ_ _ _ e=>(by rw[hl]at e;cases e),λe=>by rw[hl]at e;cases e⟩, .no h rfl rfl⟩;simp only[Env.kill,h]
 ·refine .inr ⟨λe=>(by rw[hl]at e;cases e), ?_,rfl,⟨(λ_ _ e=>by rw[hl]at e;cases e),λ_ _ _ e=>(by rw[hl]at e;cases e),λe=>by rw[hl]at e;cases e⟩, .no h rfl rfl⟩;simp only[Env.kill,h]
theorem Good.kill {A:Fr} {E:Env} {l:Loc} {pend:Nat->Prop} (h:Good P A E l pend) {s:Nat} (hs: ¬pend s):Good P A (E.kill l s) (Loc.kill s l) pend:=by
 have hx:Zj E.w E.Pr (E.kill l s).w (E.kill l s).Pr:= .refl _ _;have hrho: ∀s' g,(E.kill l s).rho s'=some g->E.rho s'=some g/\(Loc.kill s l s').fz=(l s').fz:=by
  intro s' g hg;rcases Q9 s l s' with⟨hk,_⟩|⟨_,hk,_⟩|⟨_,t,xs,hl,hk⟩|⟨_,kt,et,te,es,q,kc,x,hl,hk⟩|⟨_,n,x,hl,hk⟩
  ·simp[Env.kill,hk]at hg
  ·refine⟨?_,by rw[hk]⟩;simp only[Env.kill]at hg;split at hg
   ·cases hg
   ·exact hg
  ·refine⟨?_,by rw[hk,hl];rfl⟩;simp only[Env.kill,hk]at hg;exact hg
  ·refine⟨?_,by rw[hk,hl];rfl⟩;simp only[Env.kill,hk]at hg;exact hg
  ·refine⟨?_,by rw[hk,hl];rfl⟩;simp only[Env.kill,hk]at hg;exact hg
 have hkv: ∀{x u},RV P E l x u->RV P (E.kill l s) (Loc.kill s l) (x.kill s) u:=λ{x u} hu=>
  (hu.kill s).mono (λa=>a=s) hx (λa _=>Zf.kill E l s a) (λa ha=>by subst ha;exact Tp _ _)
 refine⟨λs' hp=> ?_,λs' hp=> ?_,λa b g ha hb=>h.inj a b g (hrho _ _ ha).1 (hrho _ _ hb).1,λa g ha=>h.base a g (hrho _ _ ha).1,λb k hp=>⟨(h.prot b k hp).1,λa ha=> ?_⟩,h.jf,h.pr0,h.prN,h.size,h.os,h.tape,h.output,h.dr,h.yok,λa g ha=>h.yown a g (hrho _ _ ha).1,h.ylt,h.dm,Ub h.rbo (λ_ _ _ e=>e) (λa g ha=> .inl (hrho a g ha).1) (λ_ _ e=> .inl e) (λ_ e=> .inl e) λ_ _ _ _=>rfl⟩
 ·rcases Q9 s l s' with⟨hk,_⟩|⟨hne,hk,hrf⟩|⟨hne,t,xs,hl,hk⟩|⟨hne,kt,et,te,es,q,kc,x,hl,hk⟩|⟨hne,n,x,hl,hk⟩
  ·rw[hk];exact .dead (by simp[Env.kill,hk])
  ·rw[hk];by_cases hd:l s'= .dead
   ·rw[hd];exact .dead (by simp[Env.kill,hk,hd])
   ·have hr:(E.kill l s).rho s'=E.rho s':=by
     simp only[Env.kill,hk]
    exact(h.obj s' hp).keep hx hr rfl (λ_ _=>rfl) λx u e _=>by rw[hrf]at e;cases e
  ·have h0:=h.obj s' hp;rw[hl]at h0;rw[hk];cases h0 with
   |mx h1 h2 h3 h4 h5=>
    refine .mx (by simp only[Env.kill,hk];exact h1) h2 (by simpa using h3) (λj x u hx' hu=> ?_) h5;rw[Zf0]at hx';obtain⟨y,hy,rfl⟩:=Zgd.1 hx';exact⟨hkv (h4 j y u hy hu).1,(h4 j y u hy hu).2⟩
  ·have h0:=h.obj s' hp;rw[hl]at h0;rw[hk];cases h0 with
   |mf h1 h2 h3 h5 h6 hj hn h7=>
    exact .mf (by simp only[Env.kill,hk];exact h1) h2 h3 h5 h6 hj hn λj k row m he hm=>⟨(h7 j k row m he hm).1,(h7 j k row m he hm).2.1,λe=>((h7 j k row m he hm).2.2.1 e).keep hx ⟨rfl,λ_ _=>rfl⟩,λe=>⟨hkv ((h7 j k row m he hm).2.2.2 e).1,((h7 j k row m he hm).2.2.2 e).2⟩⟩
  ·have h0:=h.obj s' hp;rw[hl]at h0;rw[hk];cases h0 with
   |ir h1 h2 h3=>exact .ir (by simp only[Env.kill,hk];exact h1) h2 (hkv h3)
 ·obtain⟨h1,cs,hz,ho⟩:=h.pnd s' hp;have hne:s'≠s:=λe=>hs (e▸hp);have hk:Loc.kill s l s'=l s':=by
   rcases Q9 s l s' with⟨hk,e|e⟩|⟨_,hk,_⟩|⟨_,t,xs,e,_⟩|⟨_,_,_,_,_,_,_,_,e,_⟩|⟨_,_,_,e,_⟩
   ·exact absurd e hne
   ·rw[e]at ho;cases ho
   ·exact hk
   ·rw[e]at ho;cases ho
   ·rw[e]at ho;cases ho
   ·rw[e]at ho;cases ho
  exact⟨by simp only[Env.kill,hk,ho];exact h1,cs,hz,hk.trans ho⟩
 ·have:=(hrho _ _ ha);rw[this.2];exact(h.prot b k hp).2 a this.1
theorem Zd (l:Loc) (s:Nat) (o:Obj):l.put s o s=o:=by simp[Loc.put]
theorem Zc (l:Loc) {s s':Nat} (o:Obj) (h:s'≠s):l.put s o s'=l s':=by
 have hb:Zi8 s' s=false:=by
  cases hb:Zi8 s' s
  ·rfl
  ·exact absurd (Zfr hb) h
 simp[Loc.put,hb]
theorem Y4 (w:World) (Pr:Nat->Nat->Prop) (o:Go.Obj) (h: ∀b k,Pr b k->b<w.heap.size):Zj w Pr (w.alloc o) Pr:=
 λb k hp=>⟨hp,World.cell?_alloc_lt w o ⟨b,k,none⟩ (h b k hp),Ys (Go.RowKit.Below.heap_alloc _ _ _ (h b k hp))⟩
def Env.new (E:Env) (s:Nat) (cur:Array Value) (t:TypeId):Env:=
 {E with w:=E.w.alloc (.cells cur t),rho:=λs'=>if s'=s then some E.w.heap.size else E.rho s',bs:=λs'=>if s'=s then cur.size else E.bs s'}
theorem Zf.new {A:Fr} {E:Env} {l:Loc} {pend:Nat->Prop} (h:Good P A E l pend) (s:Nat) (cur:Array Value) (t:TypeId) (o:Obj) {s':Nat} (hne:s'≠s):
  Zf E (E.new s cur t) l (l.put s o) s':=by
 by_cases hd:l s'= .dead
 ·exact .inl ((Zc l o hne).trans hd)
 ·exact .inr ⟨hd,by simp[Env.new,hne],by simp[Env.new,hne], .same (Zc l o hne), .same (Zc l o hne)⟩
theorem Good.newO {A:Fr} {E:Env} {l:Loc} {pend pend':Nat->Prop} (h:Good P A E l pend) {s:Nat} (hd:(l s= .dead/\ ∀x,pend' x↔pend x)\/(pend s/\ ∀x,pend' x↔pend x/\x≠s))
  {cur:Array Value} {t:TypeId} {o:Obj} (hob:ObjOk P (E.new s cur t) (l.put s o) s o) (href: ∀s',∀x∈(l s').refs,x.at s=false):Good P A (E.new s cur t) (l.put s o) pend':=by
 have hx:Zj E.w E.Pr (E.new s cur t).w (E.new s cur t).Pr:=Y4 _ _ _ λb k hp=>(h.prot b k hp).1;have hrs:E.rho s=none:=by
  rcases hd with⟨hd,_⟩|⟨hd,_⟩
  ·by_cases hp:pend s
   ·exact(h.pnd s hp).1
   ·have:=h.obj s hp;rw[hd]at this;cases this with|dead h=>exact h
  ·exact(h.pnd s hd).1
 have hrn:(E.new s cur t).rho s=some E.w.heap.size:=by simp[Env.new]
 have hro: ∀s',s'≠s->(E.new s cur t).rho s'=E.rho s':=λs' hne=>by simp[Env.new,hne]
 refine⟨λs' hp=> ?_,λs' hp=> ?_,λa b g ha hb=> ?_,λa g ha=> ?_,λb k hp=>⟨?_,λa ha=> ?_⟩,h.jstep rfl rfl hx (λ_ _ h=> .inl h) (λb hb=>Go.RowKit.Below.heap_alloc _ _ _ (h.ylt b hb)) ?_ rfl rfl rfl,h.pr0.trans hx,h.prN, ?_,h.os,h.tape,h.output,h.dr,h.yok,λa g ha hy=> ?_,λb hb=> ?_,λr hr=>⟨(Go.RowKit.Below.heap_alloc _ _ _ (Zft.1 (h.dm r hr).1).1).trans (h.dm r hr).1,(h.dm r hr).2⟩,Ub h.rbo (λ_ _ _ e=>e) (λa g ha=>by
  by_cases e:a=s
  ·subst e;rw[hrn]at ha;cases ha;exact .inr (Zf4 _)
  ·rw[hro a e]at ha;exact .inl ha) (λ_ _ e=> .inl e) (λ_ e=> .inl e) λb hb _ _=>Go.RowKit.Below.heap_alloc _ _ _ hb⟩
 ·by_cases hne:s'=s
  ·subst hne;rw[Zd];exact hob
  ·rw[Zc l o hne];have hp': ¬pend s':=by
    rcases hd with⟨_,hd⟩|⟨_,hd⟩
    ·exact λe=>hp ((hd s').2 e)
    ·exact λe=>hp ((hd s').2 ⟨e,hne⟩)
   exact(h.obj s' hp').keep hx (hro s' hne) (by simp[Env.new,hne]) (λg hg=>Go.RowKit.Below.heap_alloc _ _ _ (h.lt hg)) (λx u hm hu=>
    hu.mono (λa=>a=s) hx (λa ha=>Zf.new h s cur t o ha) (λa ha=>by subst ha;exact href s' x hm)) λj=>⟨rfl,λg hg=>Go.RowKit.Below.heap_alloc _ _ _ (h.rbo _ _ _ hg).lt⟩
 ·have hp':pend s'/\s'≠s:=by
   rcases hd with⟨hdd,hd⟩|⟨_,hd⟩
   ·refine⟨(hd s').1 hp,λe=> ?_⟩;obtain⟨_,cs',_,ho'⟩:=h.pnd s' ((hd s').1 hp);rw[e,hdd]at ho';cases ho'
   ·exact(hd s').1 hp
  obtain⟨h1,cs',hz,ho'⟩:=h.pnd s' hp'.1;exact⟨(hro s' hp'.2).trans h1,cs',hz,(Zc l o hp'.2).trans ho'⟩
 ·by_cases ea:a=s<;>by_cases eb:b=s
  ·rw[ea,eb]
  ·subst ea;rw[hrn]at ha;rw[hro b eb]at hb;have:=h.lt hb;cases ha;omega
  ·subst eb;rw[hrn]at hb;rw[hro a ea]at ha;have:=h.lt ha;cases hb;omega
  ·rw[hro a ea]at ha;rw[hro b eb]at hb;exact h.inj a b g ha hb
 ·by_cases ea:a=s
  ·subst ea;rw[hrn]at ha;cases ha;exact .inl h.size
  ·rw[hro a ea]at ha;exact h.base a g ha
 ·have:=(h.prot b k hp).1;simp[Env.new];omega
 ·by_cases ea:a=s
  ·subst ea;rw[hrn]at ha;have:=(h.prot b k hp).1;cases ha;omega
  ·rw[hro a ea]at ha;rw[Zc l o ea];exact(h.prot b k hp).2 a ha
 ·simp[Env.new]
 ·have:=h.size;simp[Env.new];omega
 ·by_cases ea:a=s
  ·subst ea;rw[hrn]at ha;cases ha;have:=h.ylt _ hy;omega
  ·rw[hro a ea]at ha;exact h.yown a g ha hy
 ·have:=h.ylt b hb;simp[Env.new];omega
theorem Good.new {A:Fr} {E:Env} {l:Loc} {pend pend':Nat->Prop} (h:Good P A E l pend) {s:Nat} (hd:(l s= .dead/\ ∀x,pend' x↔pend x)\/(pend s/\ ∀x,pend' x↔pend x/\x≠s))
  {cur:Array Value} {t:TypeId} {cs:List C} {fz:Nat} {o:Obj} (ho:o= .ob t fz cs\/o= .sb t fz cs) (hfz:fz<=cs.length)
  (hc:cs.length<=cur.size) (hr:RCs E.w E.Pr cs (cur.toList.take cs.length)) (href: ∀s',∀x∈(l s').refs,x.at s=false):Good P A (E.new s cur t) (l.put s o) pend':=by
 have hx:Zj E.w E.Pr (E.new s cur t).w (E.new s cur t).Pr:=Y4 _ _ _ λb k hp=>(h.prot b k hp).1;have hrn:(E.new s cur t).rho s=some E.w.heap.size:=by simp[Env.new]
 have hblk:Blk (E.new s cur t) s E.w.heap.size t cs:=⟨cur,heap_alloc_new _ _,by simp[Env.new],hc,hr.held hx⟩;refine h.newO hd ?_ href;rcases ho with rfl|rfl
 ·exact .ob hrn hblk hfz
 ·exact .sb hrn hblk hfz
def Env.fix (E:Env) (cur:Array Value) (t:TypeId):Env:=
 {E with w:=E.w.alloc (.cells cur t),Pr:=λb k=>E.Pr b k\/b=E.w.heap.size}
theorem L8 {A:Fr} {E:Env} {l:Loc} {pend:Nat->Prop} (h:Good P A E l pend) (cur:Array Value) (t:TypeId):Zj E.w E.Pr (E.fix cur t).w (E.fix cur t).Pr:=
 λb k hp=>⟨.inl hp,World.cell?_alloc_lt _ _ ⟨b,k,none⟩ (h.prot b k hp).1,Ys (Go.RowKit.Below.heap_alloc _ _ _ (h.prot b k hp).1)⟩
theorem Zf.fix (E:Env) (l:Loc) (cur:Array Value) (t:TypeId) (s:Nat):Zf E (E.fix cur t) l l s:=by
 by_cases hd:l s= .dead
 ·exact .inl hd
 ·exact .inr ⟨hd,rfl,rfl, .same rfl, .same rfl⟩
theorem Good.fix {A:Fr} {E:Env} {l:Loc} {pend:Nat->Prop} (h:Good P A E l pend) (cur:Array Value) (t:TypeId):Good P A (E.fix cur t) l pend:=by
 have hx:=L8 h cur t;refine⟨λs hp=> ?_,h.pnd,h.inj,h.base,λb k hp=>⟨?_,λa ha=> ?_⟩,h.jstep rfl rfl hx (λb k hp=>by
  rcases hp with hp|rfl
  ·exact .inl hp
  ·exact .inr λhy=>Zhz _ (h.ylt _ hy)) (λb hb=>Go.RowKit.Below.heap_alloc _ _ _ (h.ylt b hb)) ?_ rfl rfl rfl,h.pr0.trans hx,λb k hp=>by
  rcases hp with hp|rfl
  ·exact h.prN b k hp
  ·exact .inr (.inl h.size), ?_,h.os,h.tape,h.output,h.dr,h.yok,h.yown,λb hb=> ?_,λr hr=>⟨(Go.RowKit.Below.heap_alloc _ _ _ (Zft.1 (h.dm r hr).1).1).trans (h.dm r hr).1,(h.dm r hr).2⟩,Ub h.rbo (λ_ _ _ e=>e) (λ_ _ e=> .inl e) (λb k hp=>hp.elim .inl λe=> .inr (.inr (Zhd e.symm))) (λ_ e=> .inl e) λb hb _ _=>Go.RowKit.Below.heap_alloc _ _ _ hb⟩
 ·exact(h.obj s hp).keep hx rfl rfl (λg hg=>Go.RowKit.Below.heap_alloc _ _ _ (h.lt hg)) (λ_ _ _ hu=>hu.mono0 hx λa=>Zf.fix E l cur t a) λj=>⟨rfl,λg hg=>Go.RowKit.Below.heap_alloc _ _ _ (h.rbo _ _ _ hg).lt⟩
 ·rcases hp with hp|rfl
  ·have:=(h.prot b k hp).1;simp[Env.fix];omega
  ·simp[Env.fix]
 ·rcases hp with hp|rfl
  ·exact(h.prot b k hp).2 a ha
  ·have:=h.lt ha;omega
 ·simp[Env.fix]
 ·have:=h.size;simp[Env.fix];omega
 ·have:=h.ylt b hb;simp[Env.fix];omega
end Go.PM
namespace Go.PM
open Go
variable {P:Program}
theorem Zf.refl (E:Env) (l:Loc) (s:Nat):Zf E E l l s:=by
 by_cases hd:l s= .dead
 ·exact .inl hd
 ·exact .inr ⟨hd,rfl,rfl, .same rfl, .same rfl⟩
theorem Sh.trans {l l1 l2:Loc} {s:Nat} (h:Sh l l1 s) (h':Sh l1 l2 s):Sh l l2 s:=by
 refine⟨λt fz e=> ?_,λt fz cs e=> ?_,λe=> ?_⟩
 ·obtain⟨fz',e'⟩:=h.1 t fz e;exact h'.1 t fz' e'
 ·rcases h.2.1 t fz cs e with⟨fz',cs',e'⟩|e'
  ·exact h'.2.1 t fz' cs' e'
  ·exact .inr (h'.2.2 e')
 ·exact h'.2.2 (h.2.2 e)
theorem Zf.trans {E E1 E2:Env} {l l1 l2:Loc} {s:Nat} (h:Zf E E1 l l1 s) (h':Zf E1 E2 l1 l2 s):Zf E E2 l l2 s:=by
 rcases h' with h'|⟨hd,h1,h2,h3⟩
 ·exact .inl h'
 ·rcases h with h|⟨hd',h1',h2',h3'⟩
  ·exact absurd h hd
  ·exact .inr ⟨hd',h1.trans h1',h2.trans h2',h3'.1.trans h3.1,h3'.2.trans h3.2⟩
structure Mild (E E':Env) (l l':Loc):Prop where
 w:E'.w=E.w
 rho:E'.rho=E.rho
 bs:E'.bs=E.bs
 held:Zj E.w E.Pr E'.w E'.Pr
 keeps: ∀s,Zf E E' l l' s
 Y:E'.Y=E.Y
 D:E'.D=E.D
 log:l'.log=l.log
theorem Mild.refl (E:Env) (l:Loc):Mild E E l l:=⟨rfl,rfl,rfl, .refl _ _,λs=> .refl E l s,rfl,rfl,rfl⟩
theorem Mild.trans {E E1 E2:Env} {l l1 l2:Loc} (h:Mild E E1 l l1) (h':Mild E1 E2 l1 l2):Mild E E2 l l2:=
 ⟨h'.w.trans h.w,h'.rho.trans h.rho,h'.bs.trans h.bs,h.held.trans h'.held,λs=>(h.keeps s).trans (h'.keeps s),h'.Y.trans h.Y,h'.D.trans h.D,h'.log.trans h.log⟩
theorem Mild.rv {E E':Env} {l l':Loc} (h:Mild E E' l l') {x:V} {u:Value} (hx:RV P E l x u):RV P E' l' x u:=hx.mono0 h.held h.keeps
def Env.frz (E:Env) (g n:Nat):Env:={E with Pr:=λb k=>E.Pr b k\/(b=g/\k<n)}
theorem Yt {o:Obj} {t:TypeId} {fz:Nat} {cs:List C} (h:Zv o=some (t,fz,cs)):o= .ob t fz cs\/o= .sb t fz cs:=by
 cases o<;>simp[Zv]at h
 ·obtain⟨rfl,rfl,rfl⟩:=h;exact .inl rfl
 ·obtain⟨rfl,rfl,rfl⟩:=h;exact .inr rfl
theorem Zeu {l:Loc} {s n:Nat} {t:TypeId} {fz:Nat} {cs:List C} (h:Zv (l s)=some (t,fz,cs)):
  ∃o,frz l s n=l.put s o/\Zv o=some (t,Zjf fz n,cs)/\o.fz=Zjf fz n/\Sh l (l.put s o) s/\ ∀E E',Rk E E' l (l.put s o) s:=by
 rcases Yt h with e|e
 ·refine⟨.ob t (Zjf fz n) cs,by simp[frz,e],rfl,rfl,⟨(λt' fz' e'=>by rw[e]at e';cases e'),λt' fz' cs' e'=> ?_,(λe'=>by rw[e]at e';cases e')⟩,λ_ _=> .ob (by rw[Zd];rfl) (by rw[e];rfl)⟩;rw[h]at e';injection e' with e';injection e' with e1 e2;injection e2 with e2 e3;subst e1 e3
  exact .inl ⟨Zjf fz n,cs,by rw[Zd];rfl⟩
 ·refine⟨.sb t (Zjf fz n) cs,by simp[frz,e],rfl,rfl,⟨λt' fz' e'=> ?_,λt' fz' cs' e'=> ?_,(λe'=>by rw[e]at e';cases e')⟩,λ_ _=> .no (Zd _ _ _) rfl rfl⟩
  ·rw[e]at e';injection e' with e1 e2 e3;subst e1 e3;exact⟨_,Zd _ _ _⟩
  ·rw[h]at e';injection e' with e';injection e' with e1 e2;injection e2 with e2 e3;subst e1 e3
   exact .inl ⟨Zjf fz n,cs,by rw[Zd];rfl⟩
theorem L9 {A:Fr} {E:Env} {l:Loc} {pend:Nat->Prop} (hG:Good P A E l pend) {s n g:Nat} {t:TypeId} {fz:Nat} {cs:List C}
  (h:Zv (l s)=some (t,fz,cs)) (hr:E.rho s=some g) (hn:n<=cs.length):Good P A (E.frz g n) (frz l s n) pend/\Mild E (E.frz g n) l (frz l s n):=by
 obtain⟨o,he,ho,hfz,hsh,hrk0⟩:=Zeu (n:=n) h;rw[he];have hx:Zj E.w E.Pr (E.frz g n).w (E.frz g n).Pr:=λb k hp=>⟨.inl hp,rfl,rfl⟩;have hk: ∀s',Zf E (E.frz g n) l (l.put s o) s':=by
  intro s';by_cases hne:s'=s
  ·subst hne;exact .inr ⟨hG.ne_dead hr,rfl,rfl,hsh,hrk0 _ _⟩
  ·by_cases hd:l s'= .dead
   ·exact .inl ((Zc l o hne).trans hd)
   ·exact .inr ⟨hd,rfl,rfl, .same (Zc l o hne), .same (Zc l o hne)⟩
 have hps: ¬pend s:=λhp=>by rw[(hG.pnd s hp).1]at hr;cases hr
 refine⟨⟨λs' hp=> ?_,λs' hp=> ?_,hG.inj,hG.base,λb k hp=>⟨?_,λa ha=> ?_⟩,hG.jstep rfl rfl hx (λb k hp=>(by
  rcases hp with hp|⟨rfl,_⟩
  ·exact .inl hp
  ·exact .inr (hG.yown s b hr))) (λ_ _=>rfl) (Zf4 _) rfl rfl rfl,hG.pr0.trans hx,λb k hp=>(by
  rcases hp with hp|⟨rfl,_⟩
  ·exact hG.prN b k hp
  ·exact .inr (hG.base s b hr)),hG.size,hG.os,hG.tape,hG.output,hG.dr,hG.yok,hG.yown,hG.ylt,hG.dm,Ub hG.rbo (λ_ _ _ e=>e) (λ_ _ e=> .inl e) (λb k hp=>hp.elim .inl λe=> .inr (.inl ⟨s,e.1▸hr⟩)) (λ_ e=> .inl e) λ_ _ _ _=>rfl⟩,rfl,rfl,rfl,hx,hk,rfl,rfl,rfl⟩
 ·by_cases hne:s'=s
  ·subst hne;rw[Zd];have h0:=hG.obj s' hp;rcases Yt h with e|e<;>rw[e]at h0<;>rcases Yt ho with e'|e'<;>rw[e']
   ·cases h0 with|ob h1 h2 h3=>exact .ob h1 (h2.keep hx rfl rfl) (Zjh.2 ⟨h3,hn⟩)
   ·cases h0 with|ob h1 h2 h3=>exact .sb h1 (h2.keep hx rfl rfl) (Zjh.2 ⟨h3,hn⟩)
   ·cases h0 with
    |sbNil h1=>rw[h1]at hr;cases hr
    |sb h1 h2 h3=>exact .ob h1 (h2.keep hx rfl rfl) (Zjh.2 ⟨h3,hn⟩)
   ·cases h0 with
    |sbNil h1=>rw[h1]at hr;cases hr
    |sb h1 h2 h3=>exact .sb h1 (h2.keep hx rfl rfl) (Zjh.2 ⟨h3,hn⟩)
  ·rw[Zc l o hne];exact(hG.obj s' hp).keep hx rfl rfl (λ_ _=>rfl) λ_ _ _ hu=>hu.mono0 hx hk
 ·obtain⟨h1,cs',hz,ho'⟩:=hG.pnd s' hp;exact⟨h1,cs',hz,(Zc l o (λ(e:s'=s)=>hps (e▸hp))).trans ho'⟩
 ·rcases hp with hp|⟨rfl,_⟩
  ·exact(hG.prot b k hp).1
  ·exact hG.lt hr
 ·by_cases hne:a=s
  ·subst hne;rw[Zd,hfz];have hb:b=g:=by have h1:E.rho a=some b:=ha;rw[hr]at h1;injection h1 with h1;exact h1.symm
   rcases hp with hp|⟨_,hk'⟩
   ·have h1:=(hG.prot b k hp).2 a ha;have h2:(l a).fz=fz:=by rcases Yt h with e|e<;>rw[e]<;>rfl
    rw[h2]at h1;exact Zf1 h1 (Nat.le_max_left _ _)
   ·exact Zf1 hk' (Nat.le_max_right _ _)
  ·rw[Zc l o hne];rcases hp with hp|⟨rfl,_⟩
   ·exact(hG.prot b k hp).2 a ha
   ·exact absurd (hG.inj a s b ha hr) hne
theorem Ka {A:Fr} {E:Env} {l:Loc} {pend:Nat->Prop} (hG:Good P A E l pend) {s n g:Nat} (hr:E.rho s=some g) (hfz:(l s).fz<=n) (hno:Zv (l s)=none)
  (hok:(∃cur t,E.w.heap[g]? =some (.cells cur t (0,0)))\/ ∃ms k,E.w.heap[g]? =some (.map ms k)):Good P A (E.frz g n) (l.put s (.cl n)) pend/\Mild E (E.frz g n) l (l.put s (.cl n)):=by
 have hx:Zj E.w E.Pr (E.frz g n).w (E.frz g n).Pr:=λb k hp=>⟨.inl hp,rfl,rfl⟩;have hsh:Sh l (l.put s (.cl n)) s:=⟨λt fz e=>(by rw[e]at hno;cases hno),λt fz cs e=>(by rw[e]at hno;cases hno),λ_=>(by rw[Zd];rfl)⟩;have hk: ∀s',Zf E (E.frz g n) l (l.put s (.cl n)) s':=by
  intro s';by_cases hne:s'=s
  ·subst hne;exact .inr ⟨hG.ne_dead hr,rfl,rfl,hsh, .no (Zd _ _ _) rfl rfl⟩
  ·by_cases hd:l s'= .dead
   ·exact .inl ((Zc l _ hne).trans hd)
   ·exact .inr ⟨hd,rfl,rfl, .same (Zc l _ hne), .same (Zc l _ hne)⟩
 have hps: ¬pend s:=λhp=>by rw[(hG.pnd s hp).1]at hr;cases hr
 refine⟨⟨λs' hp=> ?_,λs' hp=> ?_,hG.inj,hG.base,λb k hp=>⟨?_,λa ha=> ?_⟩,hG.jstep rfl rfl hx (λb k hp=>(by
  rcases hp with hp|⟨rfl,_⟩
  ·exact .inl hp
  ·exact .inr (hG.yown s b hr))) (λ_ _=>rfl) (Zf4 _) rfl rfl rfl,hG.pr0.trans hx,λb k hp=>(by
  rcases hp with hp|⟨rfl,_⟩
  ·exact hG.prN b k hp
  ·exact .inr (hG.base s b hr)),hG.size,hG.os,hG.tape,hG.output,hG.dr,hG.yok,hG.yown,hG.ylt,hG.dm,Ub hG.rbo (λ_ _ _ e=>e) (λ_ _ e=> .inl e) (λb k hp=>hp.elim .inl λe=> .inr (.inl ⟨s,e.1▸hr⟩)) (λ_ e=> .inl e) λ_ _ _ _=>rfl⟩,rfl,rfl,rfl,hx,hk,rfl,rfl,rfl⟩
 ·by_cases hne:s'=s
  ·subst hne;rw[Zd];exact .cl hr hok
  ·rw[Zc l _ hne];exact(hG.obj s' hp).keep hx rfl rfl (λ_ _=>rfl) λ_ _ _ hu=>hu.mono0 hx hk
 ·obtain⟨h1,cs',hz,ho'⟩:=hG.pnd s' hp;exact⟨h1,cs',hz,(Zc l _ (λ(e:s'=s)=>hps (e▸hp))).trans ho'⟩
 ·rcases hp with hp|⟨rfl,_⟩
  ·exact(hG.prot b k hp).1
  ·exact hG.lt hr
 ·by_cases hne:a=s
  ·subst hne;rw[Zd];have hb:b=g:=by have h1:E.rho a=some b:=ha;rw[hr]at h1;injection h1 with h1;exact h1.symm
   rcases hp with hp|⟨_,hk'⟩
   ·exact Zf1 ((hG.prot b k hp).2 a ha) hfz
   ·exact hk'
  ·rw[Zc l _ hne];rcases hp with hp|⟨rfl,_⟩
   ·exact(hG.prot b k hp).2 a ha
   ·exact absurd (hG.inj a s b ha hr) hne
def Uu (b:Bool) (u:Value):List Value:=match b,u with|true, .agg us=>us.toList|_,u=>[u]
theorem Yn.cells {w:World} {Pr:Nat->Nat->Prop} {t:TypeId} {cs:List C} {u:Value} (h:Yn P w Pr t cs u):shp (Q6 P t) u (Uu (Ya P t) u)/\RCs w Pr cs (Uu (Ya P t) u):=by
 unfold Q6;rcases h with⟨ha,h0,us,rfl,h3⟩|⟨ha,c,rfl,h3⟩
 ·rw[ha];exact⟨⟨by simp[Uu],by simp[Uu,h3.1,h0]⟩,by simpa[Uu]using h3⟩
 ·rw[ha];have:Uu false u=[u]:=by cases u<;>rfl
  rw[this];exact⟨rfl, .one h3⟩
theorem Yn.of_cells {w:World} {Pr:Nat->Nat->Prop} {t:TypeId} {cs:List C} {u:Value} {us:List Value} (h:shp (Q6 P t) u us) (hr:RCs w Pr cs us):Yn P w Pr t cs u:=by
 unfold Q6 at h;cases ha:Ya P t with
 |true=>rw[ha]at h;exact .inl ⟨ha,by rw[<-hr.1];exact h.2,us,h.1,hr⟩
 |false=>
  rw[ha]at h;have h:us=[u]:=h;subst h;obtain⟨h1,h2⟩:=hr;obtain⟨c,rfl⟩:=List.length_eq_one_iff.1 h1.symm;exact .inr ⟨ha,c,rfl,h2 0 c u rfl rfl⟩
theorem Va {A:Fr} {E:Env} {l:Loc} {pend:Nat->Prop} (hG:Good P A E l pend) {s g:Nat} {t:TypeId} {fz:Nat} {cs:List C}
  (h:Zv (l s)=some (t,fz,cs)) (hr:E.rho s=some g):Blk E s g t cs/\fz<=cs.length:=by
 have hps: ¬pend s:=λhp=>by rw[(hG.pnd s hp).1]at hr;cases hr
 have h0:=hG.obj s hps;rcases Yt h with e|e<;>rw[e]at h0
 ·cases h0 with|ob h1 h2 h3=>rw[h1]at hr;cases hr;exact⟨h2,h3⟩
 ·cases h0 with
  |sbNil h1=>rw[h1]at hr;cases hr
  |sb h1 h2 h3=>rw[h1]at hr;cases hr;exact⟨h2,h3⟩
theorem Eh {A:Fr} {E:Env} {l:Loc} {pend:Nat->Prop} (hG:Good P A E l pend) {s g:Nat} {t:TypeId} {xs:List V} (h:l s= .mx t xs) (hr:E.rho s=some g):
  ∃cur:Array Value,E.w.heap[g]? =some (.cells cur t (0,0))/\xs.length<=cur.size/\(∀(j:Nat) (x:V) (u:Value),xs[j]? =some x->cur[j]? =some u->RV P E l x u/\u.oneCell'=true)/\E.bs s=cur.size:=by
 have hps: ¬pend s:=λhp=>by rw[(hG.pnd s hp).1]at hr;cases hr
 have h0:=hG.obj s hps;rw[h]at h0;cases h0 with
 |mx h1 h2 h3 h4 h5=>rw[h1]at hr;cases hr;exact⟨_,h2,h3,h4,h5⟩
theorem Ae {A:Fr} {E:Env} {l:Loc} {pend:Nat->Prop} (hG:Good P A E l pend) {s g:Nat} {kt et:TypeId} {es:List (List C×List C)} (h:l s= .mp kt et es) (hr:E.rho s=some g):
  ∃ms:Array MapEntry,E.w.heap[g]? =some (.map ms es.length)/\ms.size=es.length/\ ∀(j:Nat) (k v:List C) (m:MapEntry),es[j]? =some (k,v)->ms[j]? =some m->m.born=j/\Yn P E.w E.Pr kt k m.key/\Yn P E.w E.Pr et v m.val:=by
 have hps: ¬pend s:=λhp=>by rw[(hG.pnd s hp).1]at hr;cases hr
 have h0:=hG.obj s hps;rw[h]at h0;cases h0 with
 |mp h1 h2 h3 h4=>rw[h1]at hr;cases hr;exact⟨_,h2,h3,h4⟩
theorem mr_of {A:Fr} {E:Env} {l:Loc} {pend:Nat->Prop} (hG:Good P A E l pend) {s g:Nat} {kt et te:TypeId} {es:List (List C×List C)} (h:l s= .mr kt et te es) (hr:E.rho s=some g):
  ∃ms:Array MapEntry,E.w.heap[g]? =some (.map ms es.length)/\ms.size=es.length/\P.underlying et=some (.slice te)/\Ze P te≠0/\ ∀(j:Nat) (k row:List C) (m:MapEntry),es[j]? =some (k,row)->ms[j]? =some m->m.born=j/\Yn P E.w E.Pr kt k m.key/\Lh P E s j te row m.val:=by
 have hps: ¬pend s:=λhp=>by rw[(hG.pnd s hp).1]at hr;cases hr
 have h0:=hG.obj s hps;rw[h]at h0;cases h0 with
 |mr h1 h2 h3 h4 h5 h6=>rw[h1]at hr;cases hr;exact⟨_,h2,h3,h4,h5,h6⟩
def At (w:World) (Pr:Nat->Nat->Prop) (g o:Nat) (cs:List C):Prop:= ∀(j:Nat) (c:C),cs[j]? =some c-> ∃u,w.cell? ⟨g,o+j,none⟩=some u/\RC w Pr c u
theorem Blk.at_ {E:Env} {s g:Nat} {t:TypeId} {cs:List C} (h:Blk E s g t cs):At E.w E.Pr g 0 cs:=by
 obtain⟨cur,h1,h2,h3,h4⟩:=h;intro j c hj;have hlt:j<cs.length:=(Zfv.1 hj).1;have hlt':j<cur.size:=by omega
 refine⟨cur[j], ?_,h4.2 j c cur[j] hj ?_⟩
 ·rw[cell_of_row E.w g (0+j) cur t (0,0) h1,Zf9];exact Zf8 hlt'
 ·rw[Zf3,if_pos hlt];simp[hlt']
theorem RCs.at_ {w w0:World} {Pr:Nat->Nat->Prop} {g o:Nat} {cs:List C} {us:List Value} (h:RCs w0 Pr cs us) (hw:w0=w) (hu: ∀(j:Nat) (u:Value),us[j]? =some u->w.cell? ⟨g,o+j,none⟩=some u):At w Pr g o cs:=by
 subst hw;intro j c hj;have hlt:j<us.length:=by rw[h.1];exact(Zfv.1 hj).1
 exact⟨us[j],hu j _ (Zfw hlt),h.2 j c _ hj (Zfw hlt)⟩
theorem At.drop {w:World} {Pr:Nat->Nat->Prop} {g o:Nat} {cs:List C} (h:At w Pr g o cs) (n:Nat):At w Pr g (o+n) (cs.drop n):=by
 intro j c hj;rw[Zf6]at hj;have:=h _ c hj
 rwa [<-Zjj]at this
theorem At.take {w:World} {Pr:Nat->Nat->Prop} {g o:Nat} {cs:List C} (h:At w Pr g o cs) (n:Nat):At w Pr g o (cs.take n):=by
 intro j c hj;rw[Zf3]at hj;split at hj
 ·exact h j c hj
 ·cases hj
open Classical in
theorem At.fn {w:World} {Pr:Nat->Nat->Prop} {g o:Nat} {cs:List C} (h:At w Pr g o cs) (hp: ∀j,j<cs.length->Pr g (o+j)):
  ∃us:Nat->Value,(∀(j:Nat) (c:C),cs[j]? =some c->w.cell? ⟨g,o+j,none⟩=some (us j)/\Pr g (o+j))/\ ∀(j:Nat) (c:C),cs[j]? =some c->RC w Pr c (us j):=by
 refine⟨λj=>(w.cell? ⟨g,o+j,none⟩).getD undef,λj c hj=> ?_,λj c hj=> ?_⟩
 ·obtain⟨u,hu,_⟩:=h j c hj;exact⟨by simp[hu],hp j (Zfv.1 hj).1⟩
 ·obtain⟨u,hu,hr⟩:=h j c hj;simp only[hu];exact hr
theorem At.held {w w':World} {Pr Pr':Nat->Nat->Prop} (hx:Zj w Pr w' Pr') (hw:w'=w) {g o:Nat} {cs:List C} (h:At w Pr g o cs):At w' Pr' g o cs:=by
 subst hw;intro j c hj;obtain⟨u,hu,hr⟩:=h j c hj;exact⟨u,hu,hr.held hx⟩
theorem Za {R:Type} {b:Bool} {k:Option R} {r:R} (h:need b k=some r):b=true/\k=some r:=by
 cases b
 ·cases h
 ·exact⟨rfl,h⟩
def Env.frzR (E:Env) (s g:Nat) (es:List (List C×List C)):Env:=
 {E with rb:=λs' j=>if s'=s then none else E.rb s' j,Pr:=λb k=>E.Pr b k\/(b=g/\k<1)\/ ∃(j:Nat) (e:List C×List C),es[j]? =some e/\E.rb s j=some b/\k<e.2.length}
theorem Wb {A:Fr} {E:Env} {l:Loc} {pend:Nat->Prop} (hG:Good P A E l pend) {s g:Nat} {kt et te:TypeId} {es:List (List C×List C)} (hl:l s= .mr kt et te es) (hr:E.rho s=some g):
  Good P A (E.frzR s g es) (l.put s (.cl 1)) pend/\Mild E (E.frzR s g es) l (l.put s (.cl 1))/\ ∃ms:Array MapEntry,E.w.heap[g]? =some (.map ms es.length)/\ms.size=es.length/\(∀(j:Nat) (k row:List C) (m:MapEntry),es[j]? =some (k,row)->ms[j]? =some m->m.born=j/\Yn P E.w E.Pr kt k m.key/\Lh P E s j te row m.val)/\Ze P te≠0:=by
 have hps: ¬pend s:=λhp=>by rw[(hG.pnd s hp).1]at hr;cases hr
 have hob:=hG.obj s hps;rw[hl]at hob;cases hob with
 | @mr _ _ _ _ g' ms h1 h2 h3 h5 h6 h7=>
  rw[hr]at h1;injection h1 with h1
  subst h1;have hx:Zj E.w E.Pr (E.frzR s g es).w (E.frzR s g es).Pr:=λb k hp=>⟨.inl hp,rfl,rfl⟩;have hk: ∀s',Zf E (E.frzR s g es) l (l.put s (.cl 1)) s':=by
   intro s';by_cases hne:s'=s
   ·subst hne;exact .inr ⟨hG.ne_dead hr,rfl,rfl,⟨(λt fz e=>by rw[hl]at e;cases e),(λt fz cs e=>by rw[hl]at e;cases e),λe=>by rw[hl]at e;cases e⟩, .no (Zd _ _ _) rfl rfl⟩
   ·by_cases hd:l s'= .dead
    ·exact .inl ((Zc l _ hne).trans hd)
    ·exact .inr ⟨hd,rfl,rfl, .same (Zc l _ hne), .same (Zc l _ hne) (by funext j;simp[Env.frzR,hne])⟩
  have hrb: ∀s' j b,(E.frzR s g es).rb s' j=some b->s'≠s/\E.rb s' j=some b:=by
   intro s' j b h;simp only[Env.frzR]at h;split at h
   ·cases h
   ·rename_i hn;exact⟨hn,h⟩
  refine⟨⟨λs' hp=> ?_,λs' hp=> ?_,hG.inj,hG.base,λb k hp=>⟨?_,λa ha=> ?_⟩,hG.jstep rfl rfl hx (λb k hp=>(by
   rcases hp with hp|⟨rfl,_⟩|⟨j,e,_,hj,_⟩
   ·exact .inl hp
   ·exact .inr (hG.yown s b hr)
   ·exact .inr (hG.rbo s j b hj).y)) (λ_ _=>rfl) (Zf4 _) rfl rfl rfl,hG.pr0.trans hx,λb k hp=>(by
   rcases hp with hp|⟨rfl,_⟩|⟨j,e,_,hj,_⟩
   ·exact hG.prN b k hp
   ·exact .inr (hG.base s b hr)
   ·exact .inr (hG.rbo s j b hj).base),hG.size,hG.os,hG.tape,hG.output,hG.dr,hG.yok,hG.yown,hG.ylt,hG.dm,λs' j b hb=> ?_⟩,⟨rfl,rfl,rfl,hx,hk,rfl,rfl,rfl⟩,ms,h2,h3,h7,h6⟩
  ·by_cases hne:s'=s
   ·subst hne;rw[Zd];exact .cl hr (.inr ⟨_,_,h2⟩)
   ·rw[Zc l _ hne];exact(hG.obj s' hp).keep hx rfl rfl (λ_ _=>rfl) (λ_ _ _ hu=>hu.mono0 hx hk) λj=>⟨by simp[Env.frzR,hne],λ_ _=>rfl⟩
  ·obtain⟨h1,cs',hz,ho'⟩:=hG.pnd s' hp;exact⟨h1,cs',hz,(Zc l _ (λ(e:s'=s)=>hps (e▸hp))).trans ho'⟩
  ·rcases hp with hp|⟨rfl,_⟩|⟨j,e,_,hj,_⟩
   ·exact(hG.prot b k hp).1
   ·exact hG.lt hr
   ·exact(hG.rbo s j b hj).lt
  ·have ha:E.rho a=some b:=ha;rcases hp with hp|⟨rfl,hk'⟩|⟨j,e,_,hj,_⟩
   ·have:=(hG.prot b k hp).2 a ha;by_cases hne:a=s
    ·subst hne;rw[hl]at this;simp[Obj.fz]at this
    ·rw[Zc l _ hne];exact this
   ·obtain rfl:=hG.inj a s b ha hr;rw[Zd];exact hk'
   ·exact absurd ha ((hG.rbo s j b hj).rho a)
  ·obtain⟨hne,hb'⟩:=hrb _ _ _ hb;have h0:=hG.rbo s' j b hb';refine⟨h0.cells,h0.rho,λs2 j2 e=>h0.one s2 j2 (hrb _ _ _ e).2,λk hp=> ?_,h0.y,h0.base⟩;rcases hp with hp|⟨rfl,_⟩|⟨j2,e,_,hj,_⟩
   ·exact h0.pr k hp
   ·exact h0.rho s hr
   ·exact hne ((hG.rbo s j2 b hj).one s' j hb').1
theorem Lh.rc {E:Env} {s j:Nat} {te:TypeId} {row:List C} {u:Value} {w':World} {Pr':Nat->Nat->Prop} (hx:Zj E.w E.Pr w' Pr') (hw:w'=E.w) (hp: ∀b k,E.rb s j=some b->k<row.length->Pr' b k) (h:Lh P E s j te row u):RC w' Pr' (.sl (row.length/Ze P te) row) u:=by
 rcases h with⟨_,rfl,rfl⟩|⟨g,cap,cur,h1,h2,h3,h4,rfl,h6,h7,h8,h9⟩
 ·simp only[Zgz,Nat.zero_div];exact .sl0 (Zgi _)
 ·subst hw;have hlt: ∀i,i<row.length->i<cur.size:=λi hi=>by omega
  refine .sl (us:=λi=>cur.getD i undef) h7 h8 (λi c hi=> ?_) λi c hi=> ?_
  ·have hl:=(Zfv.1 hi).1;refine⟨?_,by rw[Zf9];exact hp g i h1 hl⟩;rw[cell_of_row _ g (0+i) cur te (0,0) h2,Zf9];simp[Zgr,hlt i hl]
  ·have hl:=(Zfv.1 hi).1;have:=h4.2 i c cur[i] hi (by rw[Zf3,if_pos hl];simp[hlt i hl]);simp only[Zgr,Zf8 (hlt i hl),Option.getD_some];exact this.held hx
theorem P4 {A:Fr} {E:Env} {l:Loc} {pend:Nat->Prop} (hG:Good P A E l pend) {s st:Nat} {t:TypeId} {q:Rws} {pe:Option (Nat×TypeId×List C)} (h:l s= .pk st t q pe):
  ∃(g:Nat) (cur:Array Value),E.rho s=some g/\ ¬pend s/\E.w.heap[g]? =some (.cells cur t (0,0))/\q.len<=cur.size/\E.bs s=cur.size/\
   (∀(j:Nat) (p:PC) (u:Value),q.at j=some p->cur[j]? =some u->u.oneCell'=true/\((∀e,pe=some e->e.1≠j)->Gp P E s j p u))/\ ∀(j:Nat) (te:TypeId) (row:List C),pe=some (j,te,row)->Ze P te≠0/\(∃row0,q.at j=some (.r te row0))/\ ∃v,Qo P E s j te row v:=by
 have hps: ¬pend s:=λhp=>by obtain⟨_,cs,_,e⟩:=hG.pnd s hp;rw[h]at e;cases e
 have h0:=hG.obj s hps;rw[h]at h0;cases h0 with
 |pk h1 h2 h3 h4 h5 h6=>exact⟨_,_,h1,hps,h2,h3,h4,h5,h6⟩
theorem Rws.at_lt {q:Rws} {j:Nat} {p:PC} (h:q.at j=some p):j<q.len:=by
 cases q with
 |ps l=>exact(Zfv.1 h).1
 |rs te rows=>
  obtain⟨r,hr,_⟩:=Zgd.1 h;exact(Zfv.1 hr).1
theorem Pb.eq {E:Env} {s j n:Nat} {te:TypeId} {row:List C} {u u0:Value} (h:Pb E s j n u) (h0:Qo P E s j te row u0) (hz:Ze P te≠0) (hn:n*Ze P te=row.length):u=u0:=by
 obtain⟨h0,h0'⟩:=h0;rcases h with⟨h1,_,rfl⟩|⟨g,h1,rfl⟩
 ·rcases h0 with⟨_,_,rfl⟩|⟨g,_,_,h2,_⟩
  ·rfl
  ·rw[h1]at h2;cases h2
 ·rcases h0 with⟨h2,_⟩|⟨g',cap,cur,h2,h3,h4,h5,rfl,_⟩
  ·rw[h1]at h2;cases h2
  ·rw[h1]at h2;injection h2 with h2;subst h2
   have:=h0' _ _ _ rfl;subst this;have:row.length/Ze P te=n:=by rw[<-hn];exact Zhh _ (Zhi hz)
   rw[this]
theorem Qo.rowV {E:Env} {s j:Nat} {te:TypeId} {row:List C} {u:Value} (h:Qo P E s j te row u):Pb E s j (row.length/Ze P te) u:=by
 obtain⟨h0,h0'⟩:=h;rcases h0 with⟨h1,rfl,rfl⟩|⟨g,cap,cur,h2,h3,h4,h5,rfl,_⟩
 ·exact .inl ⟨h1,by simp,rfl⟩
 ·have:=h0' _ _ _ rfl;subst this;exact .inr ⟨g,h2,rfl⟩
theorem Rws.look_eq {R:Type} {q:Rws} {j:Nat} {k:PC->Option R} {r:R} (h:q.look j k=some r): ∃p,q.at j=some p/\k p=some r:=by
 cases q with
 |ps l=>
  simp only[Rws.look]at h;split at h
  ·rename_i p hp;exact⟨p,hp,h⟩
  ·cases h
 |rs te rows=>
  obtain⟨hb,h⟩:=Za h;have hj:j<rows.length:=Zfu hb;refine⟨_, ?_,h⟩;simp[Rws.at,hj]
theorem Af {E:Env} {l:Loc} {s g j n g':Nat} {t:TypeId} {q:Rws} {u:Value} (h:RV P E l (.rw s g j n) u) (hl:l s= .pk g' t q none) (hg:Zi8 g g'=true):Pb E s j n u:=by
 have e:=Zfr hg;subst e;cases h with
 |rwOff h=>
  rcases h.2 g false (by rw[hl];rfl)with h|⟨_,h⟩
  ·omega
  ·cases h
 |rw _ hv=>exact hv
def Env.frzP (E:Env) (s g m:Nat) (J:Nat->Bool) (len:Nat->Nat):Env:=
 {E with rb:=λs' j=>if s'=s/\J j=true then none else E.rb s' j,Pr:=λb k=>E.Pr b k\/(b=g/\k<m)\/ ∃j,J j=true/\E.rb s j=some b/\k<len j}
theorem Ha {A:Fr} {E:Env} {l:Loc} {pend:Nat->Prop} (hG:Good P A E l pend) {s g m:Nat} {J:Nat->Bool} {len:Nat->Nat} {ob:Obj} (hr:E.rho s=some g) (hfz:(l s).fz=0) (hof:ob.fz=m)
  (hno:Zv (l s)=none) (hno2:Jr (l s)=false) (hrk: ∀E' l',l' s=ob->Rk E E' l l' s)
  (hob:Zj E.w E.Pr (E.frzP s g m J len).w (E.frzP s g m J len).Pr->ObjOk P (E.frzP s g m J len) (l.put s ob) s ob):
  Good P A (E.frzP s g m J len) (l.put s ob) pend/\Mild E (E.frzP s g m J len) l (l.put s ob):=by
 have hps: ¬pend s:=λhp=>by rw[(hG.pnd s hp).1]at hr;cases hr
 have hx:Zj E.w E.Pr (E.frzP s g m J len).w (E.frzP s g m J len).Pr:=λb k hp=>⟨.inl hp,rfl,rfl⟩;have hk: ∀s',Zf E (E.frzP s g m J len) l (l.put s ob) s':=by
  intro s';by_cases hne:s'=s
  ·subst hne;exact .inr ⟨hG.ne_dead hr,rfl,rfl,⟨(λt fz e=>by rw[e]at hno;cases hno),(λt fz cs e=>by rw[e]at hno;cases hno),λe=>by rw[e]at hno2;cases hno2⟩,hrk _ _ (Zd _ _ _)⟩
  ·by_cases hd:l s'= .dead
   ·exact .inl ((Zc l _ hne).trans hd)
   ·exact .inr ⟨hd,rfl,rfl, .same (Zc l _ hne), .same (Zc l _ hne) (by funext j;simp[Env.frzP,hne])⟩
 have hrb: ∀s' j b,(E.frzP s g m J len).rb s' j=some b-> ¬(s'=s/\J j=true)/\E.rb s' j=some b:=by
  intro s' j b h;simp only[Env.frzP]at h;split at h
  ·cases h
  ·rename_i hn;exact⟨hn,h⟩
 refine⟨⟨λs' hp=> ?_,λs' hp=> ?_,hG.inj,hG.base,λb k hp=>⟨?_,λa ha=> ?_⟩,hG.jstep rfl rfl hx (λb k hp=>(by
  rcases hp with hp|⟨rfl,_⟩|⟨j,_,hj,_⟩
  ·exact .inl hp
  ·exact .inr (hG.yown s b hr)
  ·exact .inr (hG.rbo s j b hj).y)) (λ_ _=>rfl) (Zf4 _) rfl rfl rfl,hG.pr0.trans hx,λb k hp=>(by
  rcases hp with hp|⟨rfl,_⟩|⟨j,_,hj,_⟩
  ·exact hG.prN b k hp
  ·exact .inr (hG.base s b hr)
  ·exact .inr (hG.rbo s j b hj).base),hG.size,hG.os,hG.tape,hG.output,hG.dr,hG.yok,hG.yown,hG.ylt,hG.dm,λs' j b hb=> ?_⟩,⟨rfl,rfl,rfl,hx,hk,rfl,rfl,rfl⟩⟩
 ·by_cases hne:s'=s
  ·subst hne;rw[Zd];exact hob hx
  ·rw[Zc l _ hne];exact(hG.obj s' hp).keep hx rfl rfl (λ_ _=>rfl) (λ_ _ _ hu=>hu.mono0 hx hk) λj=>⟨by simp[Env.frzP,hne],λ_ _=>rfl⟩
 ·obtain⟨h1,cs',hz,ho'⟩:=hG.pnd s' hp;exact⟨h1,cs',hz,(Zc l _ (λ(e:s'=s)=>hps (e▸hp))).trans ho'⟩
 ·rcases hp with hp|⟨rfl,_⟩|⟨j,_,hj,_⟩
  ·exact(hG.prot b k hp).1
  ·exact hG.lt hr
  ·exact(hG.rbo s j b hj).lt
 ·have ha:E.rho a=some b:=ha;rcases hp with hp|⟨rfl,hk'⟩|⟨j,_,hj,_⟩
  ·have:=(hG.prot b k hp).2 a ha;by_cases hne:a=s
   ·subst hne;rw[hfz]at this;omega
   ·rw[Zc l _ hne];exact this
  ·obtain rfl:=hG.inj a s b ha hr;rw[Zd,hof];exact hk'
  ·exact absurd ha ((hG.rbo s j b hj).rho a)
 ·obtain⟨hne,hb'⟩:=hrb _ _ _ hb;have h0:=hG.rbo s' j b hb';refine⟨h0.cells,h0.rho,λs2 j2 e=>h0.one s2 j2 (hrb _ _ _ e).2,λk hp=> ?_,h0.y,h0.base⟩;rcases hp with hp|⟨rfl,_⟩|⟨j2,hJ,hj,_⟩
  ·exact h0.pr k hp
  ·exact h0.rho s hr
  ·obtain⟨e1,e2⟩:=(hG.rbo s j2 b hj).one s' j hb';exact hne ⟨e1,by rw[e2];exact hJ⟩
theorem Qo.frzP {E:Env} {s g m j:Nat} {J:Nat->Bool} {len:Nat->Nat} {te:TypeId} {row:List C} {u:Value} (hx:Zj E.w E.Pr (E.frzP s g m J len).w (E.frzP s g m J len).Pr) (hj:J j=false) (h:Qo P E s j te row u):Qo P (E.frzP s g m J len) s j te row u:=
 h.keep hx ⟨by simp[Env.frzP,hj],λ_ _=>rfl⟩ rfl
theorem Tq {R:Type} {A:Fr} {E:Env} {l:Loc} {pend:Nat->Prop} (hG:Good P A E l pend) {strict:Bool} {x:V} {u:Value} (hx:RV P E l x u) {k:List C->Loc->Option R} {r:R}
  (h:Yx P strict x l k=some r): ∃cs l1 E1,k cs l1=some r/\Good P A E1 l1 pend/\Mild E E1 l l1/\RCs E1.w E1.Pr cs u.cells.toList/\(strict=true->l1=l):=by
 cases x with
 |c c=>
  cases hx with
  |c hc=>exact⟨[c],l,E,h,hG, .refl E l,by rw[cells_one hc.one];exact .one hc,λ_=>rfl⟩
 |agg cs=>
  cases hx with
  |agg hc=>exact⟨cs,l,E,h,hG, .refl E l,by simpa[Value.cells]using hc,λ_=>rfl⟩
 |tup vs=>cases h
 |mp s=>
  cases strict with
  |true=>cases h
  |false=>
   simp only[Yx]at h;split at h
   ·rename_i kt et es _ hl;cases hx with
    |mpDead hd=>rw[hd]at hl;cases hl
    | @mp _ g hr=>
     obtain⟨ms,hg,hlen,hms⟩:=Ae hG hl hr;obtain⟨hG1,hM⟩:=Ka (n:=1) hG hr (by rw[hl];exact Zgi _) (by rw[hl];rfl) (.inr ⟨_,_,hg⟩);refine⟨_,_,E.frz g 1,h,hG1,hM, ?_,λh=>by cases h⟩;refine .one (.mp (ms:=ms) (kus:=λj=>match ms[j]? with|some m=>Uu (Ya P kt) m.key|none=>[]) (vus:=λj=>match ms[j]? with|some m=>Uu (Ya P et) m.val|none=>[])
      ((V7).2 hg) (.inr ⟨rfl,Nat.zero_lt_one⟩) hlen (λj q m hq hm=> ?_) (λj q i c u hq hc hu=> ?_) (λj q i c u hq hc hu=> ?_))
     ·obtain⟨a,b⟩:=q;obtain⟨h1,h2,h3⟩:=hms j a b m hq hm;simp only[hm];exact⟨h1,h2.cells.1,h3.cells.1,h2.cells.2.1,h3.cells.2.1⟩
     ·obtain⟨a,b⟩:=q;have hm: ∃m,ms[j]? =some m:=⟨ms[j]'(by rw[hlen];exact(Zfv.1 hq).1),Zf8 _⟩;obtain⟨m,hm⟩:=hm;simp only[hm]at hu;exact((hms j a b m hq hm).2.1.cells.2.2 i c u hc hu).held hM.held
     ·obtain⟨a,b⟩:=q;have hm: ∃m,ms[j]? =some m:=⟨ms[j]'(by rw[hlen];exact(Zfv.1 hq).1),Zf8 _⟩;obtain⟨m,hm⟩:=hm;simp only[hm]at hu;exact((hms j a b m hq hm).2.2.cells.2.2 i c u hc hu).held hM.held
   ·rename_i kt et te es _ hl;obtain⟨ha,h⟩:=Za h;simp only[Zgb]at ha;cases hx with
    |mpDead hd=>rw[hd]at hl;cases hl
    | @mp _ g hr=>
     obtain⟨hG1,hM,ms,hg,hlen,hms,_⟩:=Wb hG hl hr;refine⟨_,_,E.frzR s g es,h,hG1,hM, ?_,λh=>by cases h⟩;have hfl:(L0 P te es).length=es.length:=by simp[L0]
     have hfe: ∀(j:Nat) (q:List C×List C),(L0 P te es)[j]? =some q-> ∃k row:List C,es[j]? =some (k,row)/\q=(k,[C.sl (row.length/Ze P te) row]):=by
      intro j q hq;simp only[L0,Zf0]at hq;obtain⟨e,he,rfl⟩:=Zgd.1 hq;exact⟨e.1,e.2,he,rfl⟩
     refine .one (.mp (ms:=ms) (kus:=λj=>match ms[j]? with|some m=>Uu (Ya P kt) m.key|none=>[]) (vus:=λj=>match ms[j]? with|some m=>[m.val]|none=>[])
      ((V7).2 (by rw[hfl];exact hg)) (.inr (.inl ⟨rfl,Nat.zero_lt_one⟩)) (by rw[hfl];exact hlen) (λj q m hq hm=> ?_) (λj q i c u hq hc hu=> ?_) (λj q i c u hq hc hu=> ?_))
     ·obtain⟨a,b,he,rfl⟩:=hfe j q hq;obtain⟨h1,h2,h3⟩:=hms j a b m he hm;simp only[hm];refine⟨h1,h2.cells.1, ?_,h2.cells.2.1,rfl⟩;simp[shp,Q6,ha]
     ·obtain⟨a,b,he,rfl⟩:=hfe j q hq;obtain⟨m,hm⟩: ∃m,ms[j]? =some m:=⟨ms[j]'(by rw[hlen];exact(Zfv.1 he).1),Zf8 _⟩;simp only[hm]at hu;exact((hms j a b m he hm).2.1.cells.2.2 i c u hc hu).held hM.held
     ·obtain⟨a,b,he,rfl⟩:=hfe j q hq;obtain⟨m,hm⟩: ∃m,ms[j]? =some m:=⟨ms[j]'(by rw[hlen];exact(Zfv.1 he).1),Zf8 _⟩;simp only[hm]at hu;cases i with
      |succ i=>simp at hc
      |zero=>
       simp at hc hu;subst hc hu;exact(hms j a b m he hm).2.2.rc hM.held rfl λb' k hb hk=> .inr (.inr ⟨j,_,he,hb,hk⟩)
   ·cases h
 |gh s=>cases h
 |ent s n j=>cases h
 |est j=>cases h
 |rp s g j n=>cases h
 |rw s g j n=>
  cases strict with
  |true=>cases h
  |false=>
   simp only[Yx]at h;split at h
   case h_2=>cases h
   rename_i g' t ps _ hl;obtain⟨hg,h⟩:=Za h;split at h
   case h_2=>cases h
   rename_i te row hp;obtain⟨hn,h⟩:=Za h;simp only[Zfs,Zgb]at hn;have hz:Ze P te≠0:=λe=>by rw[e]at hn;cases hn.2
   have hn:=Zfr hn.1;have hv:=Af hx hl hg;obtain⟨gb,cur,hr,hps,hc,hlen,hbs,hcs,_⟩:=P4 hG hl;have hjl:j<ps.length:=(Zfv.1 hp).1;have hjc:j<cur.size:=Zf1 hjl hlen;obtain⟨_,hpc⟩:=hcs j (.r te row) cur[j] hp (Zf8 hjc);obtain⟨_,hrow⟩:=hpc (λe he=>by cases he);have hu:=hv.eq hrow hz hn;have hdiv:row.length/Ze P te=n:=by rw[<-hn];exact Zhh _ (Zhi hz)
   have hrc: ∀{w' Pr'},Zj E.w E.Pr w' Pr' ->w'=E.w->(∀b k,E.rb s j=some b->k<row.length->Pr' b k)->RC w' Pr' (.sl n row) cur[j]:=λh1 h2 h3=>by rw[<-hdiv];exact hrow.1.rc h1 h2 h3
   obtain⟨hG1,hM⟩:=Ha (m:=0) (J:=λi=>Zi8 i j) (len:=λ_=>row.length) (ob:= .pk (Zjd g') t (.ps (ps.set j (.c (.sl n row)))) none) hG hr (by rw[hl];rfl) rfl (by rw[hl];rfl) (by rw[hl];rfl)
    (λE' l' e=> .inr (.inr (.inr ⟨g',Zjd g',false,false,by rw[hl];rfl,by rw[e];rfl,Zib _⟩)))
    (λhx=> .pk hr hc (by simpa[Rws.len]using hlen) hbs (λi p v hp' hv'=>by
     by_cases e:i=j
     ·subst e;have hp':(ps.set i (.c (.sl n row)))[i]? =some p:=hp';rw[Zhg hjl]at hp';injection hp' with hp';subst hp'
      have hv2:v=cur[i]:=by rw[Zf8 hjc]at hv';injection hv' with hv';exact hv'.symm
      subst hv2;have hh:=hrc hx rfl λb k hb hk=> .inr (.inr ⟨i,Zhc i,hb,hk⟩);exact⟨hh.one,λ_=>hh⟩
     ·have hp':(ps.set j (.c (.sl n row)))[i]? =some p:=hp';rw[Zhm (Ne.symm e)]at hp';obtain⟨o1,o2⟩:=hcs i p v hp' hv';refine⟨o1,λhe=> ?_⟩;have hb:Zi8 i j=false:=by
       cases hb:Zi8 i j
       ·rfl
       ·exact absurd (Zfr hb) e
      have h2:=o2 (λe he=>by cases he);cases p with
      |c c=>exact RC.held hx h2
      |r te2 row2=>exact⟨h2.1,h2.2.frzP hx hb⟩) λ_ _ _ e=>by cases e)
   refine⟨_,_,_,h,hG1,hM, ?_,λh=>by cases h⟩;have hh:=hrc hM.held hM.w λb k hb hk=> .inr (.inr ⟨j,Zhc j,hb,hk⟩);rw[hu,cells_one hh.one];exact .one hh
 |ws s n=>
  cases strict with
  |true=>cases h
  |false=>
   simp only[Yx]at h;split at h
   case h_2=>cases h
   rename_i g' t te rows _ hl;obtain⟨hn,h⟩:=Za h;have hn:=Zfr hn;subst hn;cases hx with
   |wsDead hd=>rw[hd]at hl;cases hl
   | @ws _ _ gb hr hcap=>
   obtain⟨gb',cur,hr',hps,hc,hlen,hbs,hcs,_⟩:=P4 hG hl;rw[hr]at hr';injection hr' with hr';subst hr'
   obtain⟨hG1,hM⟩:=Ha (m:=rows.length) (J:=λ_=>true) (len:=λi=>(rows.getD i []).length) (ob:= .cl rows.length) hG hr (by rw[hl];rfl) rfl (by rw[hl];rfl) (by rw[hl];rfl)
    (λE' l' e=> .no e rfl rfl) (λhx=> .cl hr (.inl ⟨_,_,hc⟩))
   refine⟨_,_,_,h,hG1,hM, ?_,λh=>by cases h⟩;have hlen':rows.length<=cur.size:=hlen;refine .one (.sl (us:=λi=>cur.getD i undef) (Zf4 _) hcap (λi c hi=> ?_) λi c hi=> ?_)
   ·have hil:i<rows.length:=by simpa using (Zfv.1 hi).1
    refine⟨?_, .inr (.inl ⟨rfl,by rw[Zf9];exact hil⟩)⟩;rw[Zf9,hM.w,cell_of_row _ gb i cur t (0,0) hc];have:i<cur.size:=by omega
    simp[Zgr,this]
   ·rw[Zf0]at hi;obtain⟨row,hrow,rfl⟩:=Zgd.1 hi;have hil:i<rows.length:=(Zfv.1 hrow).1;have hic:i<cur.size:=by omega
    obtain⟨_,hpc⟩:=hcs i (.r te row) cur[i] (by show(rows[i]?).map _=_;rw[hrow];rfl) (Zf8 hic);obtain⟨_,h2⟩:=hpc (λe he=>by cases he);have:cur.getD i undef=cur[i]:=by simp[Zgr,hic]
    rw[this];exact h2.1.rc hM.held hM.w λb k hb hk=> .inr (.inr ⟨i,rfl,hb,by simpa[Zin,hrow]using hk⟩)
 |mag xs=>cases h
 |clo f s=>cases h
 |fs n cs=>cases h
 |nq n neg=>cases h
 |un=>cases h
 |und=>cases h
 |own s off n=>
  cases strict with
  |true=>cases h
  |false=>
   simp only[Yx]at h;cases ho:Zv (l s)with
   |none=>rw[ho]at h;cases h
   |some q=>
    obtain⟨t,fz,cs⟩:=q;rw[ho]at h;obtain⟨hle,hk⟩:=Za h;have hle':off+n*Ze P t<=cs.length:=Zfu hle;cases hx with
    |ownDead hd=>rw[hd]at ho;cases ho
    |ownMx hd=>exact(X0 hd ho).elim
    |ownNil hr hl=>
     rw[hl]at ho;injection ho with ho;injection ho with e1 e2;injection e2 with e2 e3;subst e1 e2 e3
     have hf: ∀m,m=0->frz l s m=l:=by
      intro m hm;subst hm;refine Loc.eq (λs'=> ?_) (by simp only[frz,hl];rfl);simp only[frz,hl];by_cases hne:s'=s
      ·subst hne;rw[Zd,hl];simp
      ·exact Zc l _ hne
     rw[hf _ (by simp)]at hk;refine⟨_,_,E,hk,hG, .refl E _, ?_,λh=>by cases h⟩;simp only[Zhq,Zh3,Value.cells];exact .one (.sl0 (by unfold maxLen;omega))
    | @own0 _ _ g o' t' fz' cs' hr hl hoff=>
     have hz:off+0*Ze P t<=cs.length:=hle';obtain⟨hG1,hM⟩:=L9 hG ho hr hz;refine⟨_,_,E.frz g (off+0*Ze P t),hk,hG1,hM, ?_,λh=>by cases h⟩;simp only[Zhq,Zh3,Value.cells];exact .one (.sl0 (by unfold maxLen;omega))
    | @own _ _ _ g cap t' fz' cs' hr hl hn hc hb=>
     rw[ho]at hl;injection hl with hl;injection hl with e1 e2;injection e2 with e2 e3;subst e1 e2 e3
     obtain⟨hG1,hM⟩:=L9 hG ho hr hle';refine⟨_,_,E.frz g (off+n*Ze P t),hk,hG1,hM, ?_,λh=>by cases h⟩;have hat:=((((Va hG ho hr).1.at_).drop off).take (n*Ze P t)).held hM.held rfl;rw[Zf9]at hat;obtain⟨us,h1,h2⟩:=hat.fn λj hj=> .inr ⟨rfl,by simp only[Zgp,Zhx]at hj;omega⟩;exact .one (.sl hn hc h1 h2)
 |ptr s off=>
  cases strict with
  |true=>cases h
  |false=>
   simp only[Yx]at h;cases ho:Zv (l s)with
   |none=>rw[ho]at h;cases h
   |some q=>
    obtain⟨t,fz,cs⟩:=q;rw[ho]at h;cases hx with
    |ptrDead hd=>rw[hd]at ho;cases ho
    | @ptr _ _ g hr=>
     obtain⟨hG1,hM⟩:=L9 hG ho hr (Zf4 _);refine⟨_,_,E.frz g cs.length,h,hG1,hM, ?_,λh=>by cases h⟩;have hat:=(((Va hG ho hr).1.at_).drop off).held hM.held rfl;rw[Zf9]at hat;obtain⟨us,h1,h2⟩:=hat.fn λj hj=> .inr ⟨rfl,by simp only[Zhx]at hj;omega⟩;exact .one (.cp h1 h2)
theorem Tr {R:Type} {A:Fr} {pend:Nat->Prop} {strict:Bool}: ∀{xs:List V} {us:List Value} {E:Env} {l:Loc} (_:Good P A E l pend)
  (_:us.length=xs.length) (_: ∀(j:Nat) (x:V) (u:Value),xs[j]? =some x->us[j]? =some u->RV P E l x u/\u.oneCell'=true) {k:List C->Loc->Option R} {r:R}
  (_:U1 P strict xs l k=some r),∃cs l1 E1,k cs l1=some r/\Good P A E1 l1 pend/\Mild E E1 l l1/\RCs E1.w E1.Pr cs us/\(strict=true->l1=l)
 | [],us,E,l,hG,hl,_,k,r,h=>⟨[],l,E,h,hG, .refl E l,by obtain rfl:us=[]:=Zf2 (by simpa using hl);exact .nil,λ_=>rfl⟩
 |x::xs,[],E,l,hG,hl,_,k,r,h=>by simp at hl
 |x::xs,u::us,E,l,hG,hl,hx,k,r,h=>by
  obtain⟨hu,h1⟩:=hx 0 x u rfl rfl;have next: ∀{c:C} {l1:Loc} {E1:Env},Good P A E1 l1 pend->Mild E E1 l l1->RC E1.w E1.Pr c u->(strict=true->l1=l)->U1 P strict xs l1 (λcs l2=>k (c::cs) l2)=some r->
    ∃cs l1 E1,k cs l1=some r/\Good P A E1 l1 pend/\Mild E E1 l l1/\RCs E1.w E1.Pr cs (u::us)/\(strict=true->l1=l):=by
   intro c l1 E1 hG1 hM1 hc hs1 h;obtain⟨cs,l2,E2,h2,hG2,hM2,hp,hs2⟩:=Tr (xs:=xs) (us:=us) hG1 (by simpa using hl) (λj y v hy hv=>⟨hM1.rv (hx (j+1) y v (by simpa using hy) (by simpa using hv)).1,(hx (j+1) y v (by simpa using hy) (by simpa using hv)).2⟩) h;exact⟨c::cs,l2,E2,h2,hG2,hM1.trans hM2, .cons (hc.held hM2.held) hp,λh=>(hs2 h).trans (hs1 h)⟩
  cases x with
  |c c=>cases hu with|c hc=>exact next hG (.refl E l) hc (λ_=>rfl) h
  |own s off n=>
   simp only[U1]at h;obtain⟨cs,l1,E1,hk,hG1,hM,hc,hst⟩:=Tq hG hu h;rw[cells_one h1]at hc;split at hk
   ·obtain⟨v,vs,e,hc1,_⟩:=hc.uncons;simp at e;obtain⟨e1,e2⟩:=e;subst e1;exact next hG1 hM hc1 hst hk
   ·cases hk
  |mp s=>
   simp only[U1]at h;obtain⟨cs,l1,E1,hk,hG1,hM,hc,hst⟩:=Tq hG hu h;rw[cells_one h1]at hc;split at hk
   ·obtain⟨v,vs,e,hc1,_⟩:=hc.uncons;simp at e;obtain⟨e1,e2⟩:=e;subst e1;exact next hG1 hM hc1 hst hk
   ·cases hk
  |ws s n=>
   simp only[U1]at h;obtain⟨cs,l1,E1,hk,hG1,hM,hc,hst⟩:=Tq hG hu h;rw[cells_one h1]at hc;split at hk
   ·obtain⟨v,vs,e,hc1,_⟩:=hc.uncons;simp at e;obtain⟨e1,e2⟩:=e;subst e1;exact next hG1 hM hc1 hst hk
   ·cases hk
  |_=>cases h
theorem Yz {R:Type} {A:Fr} {E:Env} {l:Loc} {pend:Nat->Prop} (hG:Good P A E l pend) {strict:Bool} {x:V} {u:Value} (hx:RV P E l x u) {k:List C->Loc->Option R} {r:R}
  (h:pur P strict x l k=some r): ∃cs l1 E1,k cs l1=some r/\Good P A E1 l1 pend/\Mild E E1 l l1/\RCs E1.w E1.Pr cs u.cells.toList/\(strict=true->l1=l):=by
 have old:Yx P strict x l k=some r-> ∃cs l1 E1,k cs l1=some r/\Good P A E1 l1 pend/\Mild E E1 l l1/\RCs E1.w E1.Pr cs u.cells.toList/\(strict=true->l1=l):=Tq hG hx;cases x with
 |ptr s off=>
  unfold pur at h;simp only at h;split at h
  case h_2=>exact old h
  case h_1 t xs hl=>
   cases strict with
   |true=>cases h
   |false=>
    simp only at h;cases hx with
    |ptrDead hd=>rw[hd]at hl;cases hl
    | @ptr _ _ g hr=>
     obtain⟨cur,hg,hle,hcs,hb⟩:=Eh hG hl hr;obtain⟨cs,l1,E1,hk,hG1,hM1,hrc,_⟩:=Tr (us:=cur.toList.take xs.length) hG (by simp;omega) (λj x u hx hu=>by
      rw[Zf3]at hu;split at hu
      ·exact hcs j x u hx (by simpa using hu)
      ·cases hu) h
     split at hk
     case h_2=>cases hk
     case h_1 t1 xs1 hl1=>
      have hr1:E1.rho s=some g:=by rw[hM1.rho];exact hr
      have hg1:E1.w.heap[g]? =some (.cells cur t (0,0)):=by rw[hM1.w];exact hg
      obtain⟨hG2,hM2⟩:=Ka (n:=cs.length) hG1 hr1 (by rw[hl1];exact Zgi _) (by rw[hl1];rfl) (.inl ⟨_,_,hg1⟩);refine⟨_,_,E1.frz g cs.length,hk,hG2,hM1.trans hM2, ?_,λh=>by cases h⟩;have hlen:cs.length=xs.length:=by rw[<-hrc.1];simp;omega
      have hblk:Blk E1 s g t cs:=⟨cur,hg1,by rw[hM1.bs];exact hb.symm,by omega,by rw[hlen];exact hrc⟩;have hat:=((hblk.at_).drop off).held hM2.held rfl;rw[Zf9]at hat;obtain⟨us,h1,h2⟩:=hat.fn λj hj=> .inr ⟨rfl,by simp only[Zhx]at hj;omega⟩;exact .one (.cp h1 h2)
 |_=>exact old h
theorem Tt {R:Type} {A:Fr} {pend:Nat->Prop} {strict:Bool}: ∀{xs:List V} {us:List Value} {E:Env} {l:Loc} (_:Good P A E l pend)
  (_:us.length=xs.length) (_: ∀(j:Nat) (x:V) (u:Value),xs[j]? =some x->us[j]? =some u->RV P E l x u) {k:List (List C)->Loc->Option R} {r:R}
  (_:Ro P strict xs l k=some r),∃ps l1 E1,k ps l1=some r/\Good P A E1 l1 pend/\Mild E E1 l l1/\ps.length=us.length/\
   (∀(j:Nat) (cs:List C) (u:Value),ps[j]? =some cs->us[j]? =some u->RCs E1.w E1.Pr cs u.cells.toList)/\(strict=true->l1=l)
 | [],us,E,l,hG,hl,_,k,r,h=>⟨[],l,E,h,hG, .refl E l,by simpa using hl.symm,by simp,λ_=>rfl⟩
 |x::xs,[],E,l,hG,hl,_,k,r,h=>by simp at hl
 |x::xs,u::us,E,l,hG,hl,hx,k,r,h=>by
  obtain⟨cs,l1,E1,h1,hG1,hM1,hc,hs1⟩:=Yz hG (hx 0 x u rfl rfl) h;obtain⟨ps,l2,E2,h2,hG2,hM2,hp,hpc,hs2⟩:=Tt (xs:=xs) (us:=us) hG1 (by simpa using hl) (λj y v hy hv=>hM1.rv (hx (j+1) y v (by simpa using hy) (by simpa using hv))) h1;refine⟨cs::ps,l2,E2,h2,hG2,hM1.trans hM2,by simp[hp],λj cs' u' hc' hu'=> ?_,λh=>(hs2 h).trans (hs1 h)⟩;cases j with
  |zero=>simp at hc' hu';subst hc' hu';exact hc.held hM2.held
  |succ j=>exact hpc j cs' u' (by simpa using hc') (by simpa using hu')
end Go.PM
namespace Go.PM
open Go
variable {P:Program}
def Zel (P:Program) (run:Result Next) (Φ:Value->World->Prop):Prop:=
 match run with
 | .ok (.value u) w'=>Φ u w'
 | .ok .skip w'=>Φ undef w'
 | .ok (.enter f args) w'=>Calls P f args w' (λe w''=> ∃u,e= .returned u/\Φ u w'')
 | .ok (.round l f tmps assign body) w'=>RoundIn Fence.wide 0 P l f tmps assign body w' (λe w''=> ∃u,e= .returned u/\Φ u w'')
 |_=>False
def Up (P:Program) (A:Fr) (E:Env) (l:Loc) (pend:Nat->Prop) (x:V) (l':Loc) (ks:List Nat) (u:Value) (w':World):Prop:=
 ∃E',E'.w=w'/\(Good P A E' l' pend/\E'.D=E.D)/\RV P E' l' x u/\ ∀y v,RV P E l y v->(∀s∈ks,y.at s=false)->RV P E' l' y v
def Zm (P:Program) (A:Fr) (E:Env) (l:Loc) (pend:Nat->Prop) (run:Result Next) {R:Type} (k:V->Loc->List Nat->Option R) (r:R):Prop:=
 ∃x l' ks,k x l' ks=some r/\Zel P run (Up P A E l pend x l' ks)
section
variable {A:Fr} {E:Env} {l:Loc} {pend:Nat->Prop} {R:Type} {k:V->Loc->List Nat->Option R} {r:R}
theorem Zm.quiet (hG:Good P A E l pend) {x:V} {u:Value} (hk:k x l []=some r) (hx:RV P E l x u):Zm P A E l pend (.ok (.value u) E.w) k r:=
 ⟨x,l,[],hk,E,rfl,⟨hG,rfl⟩,hx,λ_ _ h _=>h⟩
theorem Zm.mild {l1:Loc} {E1:Env} (hG:Good P A E1 l1 pend) (hM:Mild E E1 l l1) {x:V} {u:Value} (hk:k x l1 []=some r) (hx:RV P E1 l1 x u):Zm P A E l pend (.ok (.value u) E.w) k r:=
 ⟨x,l1,[],hk,E1,hM.w,⟨hG,hM.D⟩,hx,λ_ _ h _=>hM.rv h⟩
end
section looks
variable {R:Type}
theorem Vb {l:Lf} {c:C} {k:C->Option R} {r:R} (h:Xr l c k=some r):k c=some r:=by
 cases l with
 |o=>exact h
 |i kd=>
  simp only[Xr,asI]at h;split at h
  ·split at h
   ·rename_i hk;rw[<-hk]at h;exact h
   ·cases h
  ·cases h
 |b=>
  simp only[Xr,asB]at h;split at h
  ·exact h
  ·cases h
 |s=>
  simp only[Xr,asS]at h;split at h
  ·exact h
  ·cases h
theorem Ul: ∀{ls:List Lf} {cs:List C} {k:List C->Option R} {r:R} (_:Ue ls cs k=some r),ls.length<=cs.length/\k (cs.take ls.length)=some r
 | [],cs,k,r,h=>⟨Zgi _,h⟩
 |l::ls,[],k,r,h=>by cases h
 |l::ls,c::cs,k,r,h=>by
  have h1:=Ul (Vb (show Xr l c (λc'=>Ue ls cs λcs'=>k (c'::cs'))=some r from h));exact⟨by simp;exact h1.1,by simpa using h1.2⟩
theorem Kb {t:TypeId} {cs:List C} {k:V->Option R} {r:R} (h:ldC P t cs k=some r):
  ∃i,P.info? t=some i/\((Ya P t=true/\i.size<=cs.length/\k (.agg (cs.take i.size))=some r)\/(Ya P t=false/\ ∃c rest,cs=c::rest/\k (.c c)=some r)):=by
 unfold ldC at h;cases hi:P.info? t with
 |none=>rw[hi]at h;cases h
 |some i=>
  rw[hi]at h;refine⟨i,rfl, ?_⟩;cases ha:Ya P t with
  |true=>
   rw[ha]at h;left;cases hl:leaves P 20 t with
   |none=>
    rw[hl]at h;obtain⟨h1,h2⟩:=Za h;exact⟨rfl,Zfu h1,h2⟩
   |some ls=>
    rw[hl]at h;obtain⟨h1,h2⟩:=Za h;have h3:=Ul h2;have h4:ls.length=i.size:=Zfr h1;rw[h4]at h3;exact⟨rfl,h3.1,h3.2⟩
  |false=>
   rw[ha]at h;right;refine⟨rfl, ?_⟩;cases hl:leaves P 20 t with
   |none=>rw[hl]at h;cases h
   |some ls=>
    rw[hl]at h
    match ls,h with
    | [],h=>cases h
    |_::_::_,h=>cases h
    | [f],h=>
     cases cs with
     |nil=>cases h
     |cons c rest=>exact⟨c,rest,rfl,Vb (show Xr f c (λc'=>k (.c c'))=some r from h)⟩
theorem Yp (t:TypeId) (w:World) (d:TypeDesc) (h:P.underlying t=some d):(isAgg t).run P w= .ok (Ya P t) w:=by
 unfold isAgg Ya;simp only[Sem.run_bind,run_underlying h,Result.andThen_ok,h];cases d<;>rfl
theorem T8 {t:TypeId} {i:TypeInfo} (ha:Ya P t=true): ∃d,P.underlying t=some d:=by
 unfold Ya at ha;cases h:P.underlying t with
 |none=>rw[h]at ha;cases ha
 |some d=>exact⟨d,rfl⟩
end looks
theorem Yk (g o j:Nat):(⟨g,o,none⟩:Addr).add j=⟨g,o+j,none⟩:=by
 unfold Addr.add;split<;>simp_all
theorem At.list {w:World} {Pr:Nat->Nat->Prop}: ∀{cs:List C} {g o:Nat} (_:At w Pr g o cs),∃us:List Value,(∀(j:Nat) (u:Value),us[j]? =some u->w.cell? ⟨g,o+j,none⟩=some u)/\RCs w Pr cs us
 | [],g,o,_=>⟨[],by simp, .nil⟩
 |c::cs,g,o,h=>by
  obtain⟨u,hu,hc⟩:=h 0 c rfl;obtain⟨us,h1,h2⟩:=At.list (cs:=cs) (g:=g) (o:=o+1) (λj c' hj=>by
   have:=h (j+1) c' (by simpa using hj)
   rwa [show o+(j+1)=o+1+j by omega]at this)
  refine⟨u::us,λj v hv=> ?_, .cons hc h2⟩;cases j with
  |zero=>simp at hv;subst hv;exact hu
  |succ j=>rw[show o+(j+1)=o+1+j by omega];exact h1 j v (by simpa using hv)
theorem RCs.len {w:World} {Pr:Nat->Nat->Prop} {cs:List C} {us:List Value} (h:RCs w Pr cs us):us.length=cs.length:=h.1
theorem run_sizeOf {t:TypeId} {i:TypeInfo} (hi:P.info? t=some i) (w:World):(sizeOf t).run P w= .ok i.size w:=by simp[sizeOf,typeInfo,hi]
theorem Yl {w:World} {Pr:Nat->Nat->Prop} {t:TypeId} {d:TypeDesc} (hd:P.underlying t=some d) {g o:Nat} {cs:List C} (h:At w Pr g o cs) {R:Type} {k:V->Option R} {r:R}
  (h0:ldC P t cs k=some r): ∃v u,k v=some r/\(loadVar t ⟨g,o,none⟩).run P w= .ok u w/\((∃c,v= .c c/\RC w Pr c u)\/(∃cs' us,v= .agg cs'/\u= .agg us.toArray/\RCs w Pr cs' us)):=by
 obtain⟨i,hi,⟨ha,hle,hk⟩|⟨ha,c,rest,e,hk⟩⟩:=Kb h0
 ·obtain⟨us,h1,h2⟩:=(h.take i.size).list;have hl:us.length=i.size:=by rw[h2.len,Zgp];omega
  have hrun:=run_loadCells_list (P:=P) w ⟨g,o,none⟩ us (λj v hv=>by rw[Yk];exact h1 j v hv);rw[hl]at hrun;exact⟨_, .agg us.toArray,hk,by simp[loadVar,Yp t w d hd,ha,run_sizeOf hi,hrun], .inr ⟨_,us,rfl,rfl,h2⟩⟩
 ·subst e;obtain⟨u,hu,hc⟩:=h 0 c rfl;refine⟨_,u,hk, ?_, .inl ⟨c,rfl,hc⟩⟩;rw[Zgq]at hu;simp[loadVar,Yp t w d hd,ha,hu]
theorem Xv {E:Env} {l:Loc} {v:V} {u:Value} (h:(∃c,v= .c c/\RC E.w E.Pr c u)\/(∃cs' us,v= .agg cs'/\u= .agg us.toArray/\RCs E.w E.Pr cs' us)):RV P E l v u:=by
 rcases h with⟨c,rfl,hc⟩|⟨cs',us,rfl,rfl,hc⟩
 ·exact .c hc
 ·exact .agg hc
theorem Uv {t:TypeId} {cs:List C} {R:Type} {k:V->Option R} {r:R} (h:ldC P t cs k=some r): ∃d,P.underlying t=some d:=by
 obtain⟨i,hi,⟨ha,_⟩|⟨ha,c,rest,e,_⟩⟩:=Kb h
 ·exact T8 (i:=i) ha
 ·unfold ldC at h;rw[hi,ha]at h;cases hu:P.underlying t with
  |some d=>exact⟨d,rfl⟩
  |none=>
   have:leaves P 20 t=none:=by simp[leaves,hu]
   rw[this]at h;cases h
theorem Mn {w w0:World} {Pr:Nat->Nat->Prop} {t:TypeId} {cs:List C} {us:List Value} (h:RCs w0 Pr cs us) (off:Nat) {R:Type} {k:V->Option R} {r:R}
  (h0:ldC P t (cs.drop off) k=some r): ∃v u,k v=some r/\(part t us.toArray off).run P w= .ok u w/\((∃c,v= .c c/\RC w0 Pr c u)\/(∃cs' us',v= .agg cs'/\u= .agg us'.toArray/\RCs w0 Pr cs' us')):=by
 obtain⟨d,hd⟩:=Uv h0;obtain⟨i,hi,⟨ha,hle,hk⟩|⟨ha,c,rest,e,hk⟩⟩:=Kb h0
 ·refine⟨_, .agg ((us.drop off).take i.size).toArray,hk, ?_, .inr ⟨_,_,rfl,rfl,(h.drop off).take i.size⟩⟩;simp[part,Yp t w d hd,ha,run_sizeOf hi,Zi2,Zhy]
 ·have hh:=h.drop off;rw[e]at hh;obtain⟨u,us',hu,hc,_⟩:=hh.uncons;refine⟨_,u,hk, ?_, .inl ⟨c,rfl,hc⟩⟩;have h1:us[off]? =some u:=by
   have:(us.drop off)[0]? =some u:=by rw[hu];rfl
   rwa [Zf6,Zgq]at this
  simp[part,Yp t w d hd,ha,h1]
end Go.PM
namespace Go.PM
open Go
variable {P:Program}
theorem Gq {R:Type} {op:BinOp} {kd:IntKind} {a b:Int} {k:V->Option R} {r:R} (h:Nv op kd a b k=some r) (t:TypeId) (w:World):
  ∃v,Jq v=true/\k (.c (.v v))=some r/\(binOp op t (.int kd a) (.int kd b)).run P w= .ok v w:=by
 cases op<;>simp only[Nv]at h
 case quo=>
  obtain⟨h1,h2⟩:=Za h;have h3:b≠0:=by simpa using h1
  exact⟨_,rfl,h2,by simp[binOp,Op.intDiv,h3]⟩
 case rem=>
  obtain⟨h1,h2⟩:=Za h;have h3:b≠0:=by simpa using h1
  exact⟨_,rfl,h2,by simp[binOp,Op.intDiv,h3]⟩
 case shl=>cases h
 case shr=>cases h
 all_goals exact⟨_,rfl,h,by simp[binOp,Op.intArith,Op.intBits,Op.intCmp]⟩
theorem Mo {R:Type} {op:BinOp} {kd kd':IntKind} {a b:Int} {k:V->Option R} {r:R} (h:J5 op kd a b k=some r) (t:TypeId) (w:World):
  ∃v,Jq v=true/\k (.c (.v v))=some r/\(binOp op t (.int kd a) (.int kd' b)).run P w= .ok v w:=by
 cases op<;>simp only[J5]at h
 case shl=>
  obtain⟨h1,h2⟩:=Za h;have h3: ¬b<0:=by simpa using h1
  exact⟨_,rfl,h2,by simp[binOp,Op.shift,h3]⟩
 case shr=>
  obtain⟨h1,h2⟩:=Za h;have h3: ¬b<0:=by simpa using h1
  exact⟨_,rfl,h2,by simp[binOp,Op.shift,h3]⟩
 all_goals cases h
theorem Gr {R:Type} {op:BinOp} {a b:ByteArray} {k:V->Option R} {r:R} (h:Nw op a b k=some r) (t:TypeId) (w:World):
  ∃v,Jq v=true/\k (.c (.v v))=some r/\(binOp op t (.string a) (.string b)).run P w= .ok v w:=by
 cases op<;>simp only[Nw]at h
 case add=>
  obtain⟨h1,h2⟩:=Za h;have h3:a.size+b.size<=9223372036854775807:=Zfu h1;have h4: ¬(((a.size+b.size:Nat):Int)>Zi5.max):=by
   have:Zi5.max=9223372036854775807:=by decide
   rw[this];omega
  exact⟨_,rfl,h2,by simp only[binOp,Op.stringOp];rw[if_neg h4];rfl⟩
 case sub|mul|quo|rem|and|or|xor|shl|shr|andNot=>cases h
 all_goals exact⟨_,rfl,h,by simp[binOp,Op.stringOp]⟩
def Kc (P:Program) (t:TypeId) (us:List Value) (v:Value):Prop:=(Ya P t=true/\v= .agg us.toArray)\/(Ya P t=false/\ ∃r,us=v::r)
theorem P5 {w0 w:World} {Pr:Nat->Nat->Prop} {t:TypeId} {D:TypeDesc} (hD:P.underlying t=some D) {us:List Value} {off:Nat} {v:Value} {i:TypeInfo} (hi:P.info? t=some i)
  (h:Kc P t ((us.drop off).take i.size) v):(part t us.toArray off).run P w= .ok v w:=by
 rcases h with⟨ha,rfl⟩|⟨ha,r,e⟩
 ·simp[part,Yp t w D hD,ha,run_sizeOf hi,Zi2,Zhy]
 ·have h1:us[off]? =some v:=by
   have:((us.drop off).take i.size)[0]? =some v:=by rw[e];rfl
   rw[Zf3]at this;split at this
   ·rwa [Zf6,Zgq]at this
   ·cases this
  simp[part,Yp t w D hD,ha,h1]
theorem Hc {w0:World} {Pr:Nat->Nat->Prop} (w:World): ∀(d:Nat) (t:TypeId) (cs ds:List C) (us vs:List Value) (_:RCs w0 Pr cs us) (_:RCs w0 Pr ds vs) (b:Bool) (_:eqT P d t cs ds=some b) (n:Nat) (_:d<=n),
  (∃D,P.underlying t=some D)/\ ∃a a',Kc P t us a/\Kc P t vs a'/\(Op.equalIn n t a a').run P w= .ok b w:=by
 intro d
 induction d with
 |zero=>intro t cs ds us vs _ _ b h;cases h
 |succ d ih=>
  intro t cs ds us vs hc hd b h n hn;obtain⟨n,rfl⟩: ∃m,n=m+1:=⟨n-1,by omega⟩;unfold eqT at h;cases hu:P.underlying t with
  |none=>rw[hu]at h;cases h
  |some D=>
   rw[hu]at h;refine⟨⟨D,rfl⟩, ?_⟩;cases D<;>simp only at h<;>try (cases h;done)
   case int kd=>
    have ha:Ya P t=false:=by simp[Ya,hu]
    split at h
    ·rename_i k a _ k' b' _;obtain⟨u,us',rfl,h1,_⟩:=hc.uncons;obtain⟨v,vs',rfl,h2,_⟩:=hd.uncons;cases h1 with|v _=>cases h2 with|v _=>
     split at h
     ·rename_i hk;subst hk;injection h with h;subst h
      exact⟨_,_, .inr ⟨ha,_,rfl⟩, .inr ⟨ha,_,rfl⟩,run_equalIn_int w n t k kd a b' hu⟩
     ·cases h
    ·cases h
   case bool=>
    have ha:Ya P t=false:=by simp[Ya,hu]
    split at h
    ·rename_i a _ b' _;obtain⟨u,us',rfl,h1,_⟩:=hc.uncons;obtain⟨v,vs',rfl,h2,_⟩:=hd.uncons;cases h1 with|v _=>cases h2 with|v _=>
     injection h with h;subst h
     exact⟨_,_, .inr ⟨ha,_,rfl⟩, .inr ⟨ha,_,rfl⟩,run_equalIn_bool' w n t a b' hu⟩
    ·cases h
   case string=>
    have ha:Ya P t=false:=by simp[Ya,hu]
    split at h
    ·rename_i a _ b' _;obtain⟨u,us',rfl,h1,_⟩:=hc.uncons;obtain⟨v,vs',rfl,h2,_⟩:=hd.uncons;cases h1 with|v _=>cases h2 with|v _=>
     injection h with h;subst h
     exact⟨_,_, .inr ⟨ha,_,rfl⟩, .inr ⟨ha,_,rfl⟩,run_equalIn_string w n t a b' hu⟩
    ·cases h
   case struct fs=>
    have ha:Ya P t=true:=by simp[Ya,hu]
    have hf:P.fieldsOf t=fs:=by simp[Program.fieldsOf,hu]
    cases hs:P.stoodInHeld t with
    |true=>rw[hs]at h;cases h
    |false=>
     rw[hs]at h;simp only[cond_false]at h;refine⟨_,_, .inl ⟨ha,rfl⟩, .inl ⟨ha,rfl⟩, ?_⟩;rw[run_equalIn_struct w n t us.toArray vs.toArray (by rw[hf];exact hu) hs,hf];clear hf hu;generalize fs.toList=l at h
     induction l generalizing b with
     |nil=>injection h with h;subst h;rfl
     |cons f l ihl=>
      simp only [Zhr] at h;cases hn' : (f.name == "_") with
      |true=>rw[hn']at h;cases h
      |false=>
       rw[hn']at h;simp only[cond_false]at h;split at h
       ·rename_i b1 b2 h1 h2;injection h with h;subst h
        have hne : f.name ≠ "_" := by simpa using hn'
        obtain⟨⟨D,hD⟩,a,a',ha1,ha2,he⟩:=ih f.type _ _ _ _ ((hc.drop f.offset).take (Ze P f.type)) ((hd.drop f.offset).take (Ze P f.type)) b1 h1 n (by omega);have hi: ∃i,P.info? f.type=some i:=by
         cases hi:P.info? f.type with
         |some i=>exact⟨i,rfl⟩
         |none=>
          have:P.underlying f.type=none:=by simp[Program.underlying,hi]
          rw[this]at hD;cases hD
        obtain⟨i,hi⟩:=hi;have hsz:Ze P f.type=i.size:=by simp[Ze,hi]
        rw[hsz]at ha1 ha2;have r1:=P5 (w0:=w0) (w:=w) (Pr:=Pr) hD hi ha1;have r2:=P5 (w0:=w0) (w:=w) (Pr:=Pr) hD hi ha2;simp only[Op.eqFields,if_pos hne,Sem.run_bind,r1,r2,he,Result.andThen_ok,Sem.run_ite];cases b1
        ·simp
        ·simpa using ihl b2 h2
       ·cases h
theorem Wc {R:Type} {E:Env} {l:Loc} {op:UnOp} {x:V} {u:Value} (hx:RV P E l x u) {k:V->Option R} {r:R} (h:unV op x k=some r) (w:World):
  ∃v,Jq v=true/\k (.c (.v v))=some r/\(Op.unary op u).run P w= .ok v w:=by
 unfold unV at h;split at h
 ·cases hx with|c hc=>cases hc with|v _=>exact⟨_,rfl,h,by simp[Op.unary,Op.intArith]⟩
 ·cases hx with|c hc=>cases hc with|v _=>exact⟨_,rfl,h,by simp[Op.unary,Op.intBits,cond_eq_ite]⟩
 ·cases hx with|c hc=>cases hc with|v _=>exact⟨_,rfl,h,by simp[Op.unary]⟩
 ·cases h
theorem Ej {R:Type} {E:Env} {l:Loc} {src dst:TypeId} {x:V} {u:Value} (hx:RV P E l x u) {k:V->Option R} {r:R} (h:Rs P src dst x k=some r) (w:World):
  ∃v,Jq v=true/\k (.c (.v v))=some r/\(convert src dst u).run P w= .ok v w:=by
 unfold Rs at h;split at h
 ·rename_i d kd k' n hs hd;cases hx with|c hc=>cases hc with|v _=>
  refine⟨_,rfl,h, ?_⟩;simp only[convert,Sem.run_bind,run_underlying hs,run_underlying hd,Result.andThen_ok];cases d<;>simp[Conv.intToInt]
 ·rename_i d s hs hd;cases hx with|c hc=>cases hc with|v _=>
  refine⟨_,rfl,h, ?_⟩;simp only[convert,Sem.run_bind,run_underlying hs,run_underlying hd,Result.andThen_ok];cases d<;>simp
 ·rename_i d kd n hs hd;cases hx with|c hc=>cases hc with|v _=>
  refine⟨_,rfl,h, ?_⟩;simp only[convert,Sem.run_bind,run_underlying hs,run_underlying hd,Result.andThen_ok];cases d<;>simp[Conv.intToString]
 ·cases h
theorem Qc (w:World) (t e:TypeId) (a:Option Addr) (n c n' c':Nat) (h:P.underlying t=some (.slice e)):
  (binOp .eql t (.slice a n c) (.slice none n' c')).run P w= .ok (.bool a.isNone) w/\(binOp .neq t (.slice a n c) (.slice none n' c')).run P w= .ok (.bool (!a.isNone)) w:=by
 have key: ∀d,(Op.equalIn (d+1) t (.slice a n c) (.slice none n' c')).run P w= .ok a.isNone w:=λd=>by cases a<;>simp[Op.equalIn,run_underlying h]
 constructor<;>simp[binOp,Op.equal,Op.maxDepth,key 9999]
theorem Lr {R:Type} {E:Env} {l:Loc} {k:V->Option R} {r:R} {X:Value->Prop} (h: ∃z,Jq z=true/\k (.c (.v z))=some r/\X z): ∃z y,RV P E l y z/\k y=some r/\X z:=
 let ⟨z,h1,h2,h3⟩:=h;⟨z,_, .c (.v h1),h2,h3⟩
theorem Cp {R:Type} {E:Env} {l:Loc} {op:BinOp} {t:TypeId} {x y:V} {u v:Value} (hx:RV P E l x u) (hy:RV P E l y v) {k:V->Option R} {r:R} (h:Tj P op t x y k=some r) (ox oy:Operand) (w:World):
  ∃z y,RV P E l y z/\k y=some r/\(do eqGuard op t ox oy u v;binOp op t u v:Sem Value).run P w= .ok z w:=by
 unfold Tj at h;split at h
 ·rename_i kd a kd' b;cases hx with|c hc=>cases hc with|v _=>
  cases hy with|c hc=>cases hc with|v _=>
  have hg: ∀(f:Unit->Sem Value),((eqGuard op t ox oy (.int kd a) (.int kd' b))>>=f).run P w=(f ()).run P w:=by intro f;cases op<;>simp[eqGuard]
  rw[hg];refine Lr ?_;split at h
  ·exact Mo h t w
  ·exact Mo h t w
  ·split at h
   ·rename_i hk;subst hk;exact Gq h t w
   ·cases h
 ·rename_i a b;cases hx with|c hc=>cases hc with|v _=>
  cases hy with|c hc=>cases hc with|v _=>
  have hg: ∀(f:Unit->Sem Value),((eqGuard op t ox oy (.string a) (.string b))>>=f).run P w=(f ()).run P w:=by intro f;cases op<;>simp[eqGuard]
  rw[hg];exact Lr (Gr h t w)
 ·rename_i a b;cases hx with|c hc=>cases hc with|v _=>
  cases hy with|c hc=>cases hc with|v _=>
  have hg: ∀(f:Unit->Sem Value),((eqGuard op t ox oy (.bool a) (.bool b))>>=f).run P w=(f ()).run P w:=by intro f;cases op<;>simp[eqGuard]
  rw[hg];refine Lr ?_;split at h
  ·rename_i hu;exact⟨_,rfl,h,by simp[binOp,Op.equal,Op.maxDepth,run_equalIn_bool' w 9999 t a b hu]⟩
  ·rename_i hu;exact⟨_,rfl,h,by simp[binOp,Op.equal,Op.maxDepth,run_equalIn_bool' w 9999 t a b hu]⟩
  ·cases h
 ·rename_i cs ds;cases hx with| @agg _ us hc=>
  cases hy with| @agg _ vs hd=>
  split at h
  ·rename_i b hag hm he;have hg: ∀(f:Unit->Sem Value),((eqGuard op t ox oy (.agg us.toArray) (.agg vs.toArray))>>=f).run P w=(f ()).run P w:=by
    intro f;rw[Sem.run_bind,run_eqGuard_agg w op t ox oy _ _ hm];rfl
   rw[hg];obtain⟨_,a,a',ha,ha',hr⟩:=Hc (P:=P) w 20 t cs ds us vs hc hd b he 10000 (by omega);have e1:a= .agg us.toArray:=by
    rcases ha with⟨_,e⟩|⟨hf,q,e⟩
    ·exact e
    ·rw[hag]at hf;cases hf
   have e2:a'= .agg vs.toArray:=by
    rcases ha' with⟨_,e⟩|⟨hf,q,e⟩
    ·exact e
    ·rw[hag]at hf;cases hf
   subst e1 e2;refine Lr ?_;split at h
   ·exact⟨_,rfl,h,by rw[run_eql_struct,hr];rfl⟩
   ·exact⟨_,rfl,h,by rw[run_neq_struct,hr];rfl⟩
   ·cases h
  ·cases h
 ·rename_i n cs;cases hy with|c hc=>cases hc with|nl=>
  cases hx with|c hc=>
  have hu: ∃a m c,u= .slice a m c/\(n≠0->a.isNone=false):=by
   cases hc with
   |sl0 _=>exact⟨_,_,_,rfl,λh=>absurd rfl h⟩
   |sl _ _ _ _=>exact⟨_,_,_,rfl,λ_=>rfl⟩
  obtain⟨a,m,c,rfl,ha⟩:=hu;have hg: ∀(f:Unit->Sem Value),((eqGuard op t ox oy (.slice a m c) (.slice none 0 0))>>=f).run P w=(f ()).run P w:=by intro f;cases op<;>simp[eqGuard]
  rw[hg];split at h
  ·rename_i e ht;exact⟨_,_, .nq ha,h,(Qc w t e a m c 0 0 ht).1⟩
  ·rename_i e ht;refine⟨_,_, .nq λhn=> ?_,h,(Qc w t e a m c 0 0 ht).2⟩;rw[ha hn];rfl
  ·cases h
 ·cases hy with|c hc=>cases hc with|nl=>
  cases hx with|c hc=>cases hc with|nl=>
  have hg: ∀(f:Unit->Sem Value),((eqGuard op t ox oy (.slice none 0 0) (.slice none 0 0))>>=f).run P w=(f ()).run P w:=by intro f;cases op<;>simp[eqGuard]
  rw[hg];split at h
  ·rename_i e ht;exact⟨_,_, .c (.v rfl),h,(Qc w t e none 0 0 0 0 ht).1⟩
  ·rename_i e ht;exact⟨_,_, .c (.v rfl),h,(Qc w t e none 0 0 0 0 ht).2⟩
  ·cases h
 ·cases h
end Go.PM
namespace Go.PM
open Go
variable {P:Program}
section
variable {A:Fr} {E:Env} {l:Loc} {pend:Nat->Prop} {R:Type} {k:V->Loc->List Nat->Option R} {r:R} {cf:Cfg} {strict:Bool} {o:Oper} {e:Operand->V} {ρ:Operand->Value}
theorem Ag (hG:Good P A E l pend) {x:Operand} (ho:o.op= .move x\/o.op= .assign x) (hx:RV P E l (e x) (ρ x)) (hk:k (e x) l []=some r):Zm P A E l pend ((execOp ρ o).run P E.w) k r:=by
 have:(execOp ρ o).run P E.w= .ok (.value (ρ x)) E.w:=by rcases ho with ho|ho<;>simp[execOp,ho]
 rw[this];exact .quiet hG hk hx
theorem Zc3 (hG:Good P A E l pend) {c a b:Operand} (ho:o.op= .pick c a b) (hc:RV P E l (e c) (ρ c)) (ha:RV P E l (e a) (ρ a)) (hb:RV P E l (e b) (ρ b)) {q:Bool} (hq:e c= .c (.v (.bool q)))
  (hk:k (Zau q (e a) (e b)) l []=some r):Zm P A E l pend ((execOp ρ o).run P E.w) k r:=by
 rw[hq]at hc;have hv:ρ c= .bool q:=by
  generalize ρ c=u at hc;cases hc with|c h=>cases h with|v _=>rfl
 have:(execOp ρ o).run P E.w= .ok (.value (if q then ρ a else ρ b)) E.w:=by simp[execOp,ho,hv,asBool]
 rw[this];refine .quiet hG hk ?_;unfold Zau;split
 ·rename_i p' q' h1 h2;rw[h1]at ha;rw[h2]at hb;generalize ρ a=ua at ha;generalize ρ b=ub at hb;cases ha with|c h=>cases h with|v _=>
  cases hb with|c h=>cases h with|v _=>
  cases q<;>exact .c (.v rfl)
 ·cases q
  ·exact hb
  ·exact ha
theorem Gs {c:C} {k:List C->Option R} {r:R} (h:asP c k=some r): ∃cs,c= .cp cs/\k cs=some r:=by
 unfold asP at h;split at h
 ·exact⟨_,rfl,h⟩
 ·cases h
theorem Ah {c:C} {k:Nat->List C->Option R} {r:R} (h:asSl c k=some r): ∃n cs,(c= .sl n cs\/(c= .nl/\n=0/\cs=[]))/\k n cs=some r:=by
 unfold asSl slOf at h;cases c with
 |sl n cs=>exact⟨_,_, .inl rfl,h⟩
 |nl=>exact⟨0,[], .inr ⟨rfl,rfl,rfl⟩,h⟩
 |_=>cases h
theorem Cq {c:C} {k:ByteArray->Option R} {r:R} (h:asS c k=some r): ∃s,c= .v (.string s)/\k s=some r:=by
 unfold asS at h;split at h
 ·exact⟨_,rfl,h⟩
 ·cases h
theorem Tu {kd:IntKind} {c:C} {k:Int->Option R} {r:R} (h:asI kd c k=some r): ∃n,c= .v (.int kd n)/\k n=some r:=by
 unfold asI at h;split at h
 ·split at h
  ·rename_i e;subst e;exact⟨_,rfl,h⟩
  ·cases h
 ·cases h
theorem Zc4 {c:C} {k:FuncId->List C->Option R} {r:R} (h:asFn c k=some r): ∃f cs,c= .fn f cs/\k f cs=some r:=by
 unfold asFn at h;split at h
 ·exact⟨_,_,rfl,h⟩
 ·cases h
theorem RC.cp_at {w:World} {Pr:Nat->Nat->Prop} {cs:List C} {u:Value} (h:RC w Pr (.cp cs) u): ∃a,u= .pointer (some a)/\(cs=[]\/ ∃g o,a=⟨g,o,none⟩/\At w Pr g o cs/\ ∀j,j<cs.length->Pr g (o+j)):=by
 cases h with
 |cp0=>exact⟨_,rfl, .inl rfl⟩
 |cp h1 h2=>exact⟨_,rfl, .inr ⟨_,_,rfl,λj c hj=>⟨_,(h1 j c hj).1,h2 j c hj⟩,λj hj=>(h1 j _ (Zfw hj)).2⟩⟩
theorem Zc5 {t:TypeId} {k:V->Option R} {r:R} (h:ldC P t [] k=some r): ∃d i,P.underlying t=some d/\P.info? t=some i/\Ya P t=true/\i.size=0/\k (.agg [])=some r:=by
 obtain⟨d,hd⟩:=Uv h;obtain⟨i,hi,⟨ha,hle,hk⟩|⟨_,c,rest,e,_⟩⟩:=Kb h
 ·have:i.size=0:=by simpa using hle
  rw[this]at hk;exact⟨d,i,hd,hi,ha,this,hk⟩
 ·cases e
theorem Li {w:World} {Pr:Nat->Nat->Prop} {t:TypeId} {cs:List C} {a:Addr} (hc:cs=[]\/ ∃g o,a=⟨g,o,none⟩/\At w Pr g o cs/\ ∀j,j<cs.length->Pr g (o+j)) {k:V->Option R} {r:R}
  (h0:ldC P t cs k=some r): ∃v u,k v=some r/\(loadVar t a).run P w= .ok u w/\((∃c,v= .c c/\RC w Pr c u)\/(∃cs' us,v= .agg cs'/\u= .agg us.toArray/\RCs w Pr cs' us)):=by
 rcases hc with rfl|⟨g,o,rfl,hat,_⟩
 ·obtain⟨d,i,hd,hi,ha,hs,hk⟩:=Zc5 h0;exact⟨_, .agg #[],hk,by simp[loadVar,Yp t w d hd,ha,run_sizeOf hi,hs,loadCells,loadCellsFrom], .inr ⟨[],[],rfl,rfl, .nil⟩⟩
 ·obtain⟨d,hd⟩:=Uv h0;exact Yl hd hat h0
theorem Vr {w:World} {t:TypeId} {i:TypeInfo} (hi:P.info? t=some i) (ha:Ya P t=true) {g o:Nat} {us:List Value} (h: ∀(j:Nat) (u:Value),us[j]? =some u->w.cell? ⟨g,o+j,none⟩=some u) (hl:us.length=Ze P t):
  (loadVar t ⟨g,o,none⟩).run P w= .ok (.agg us.toArray) w:=by
 obtain⟨d,hd⟩:=T8 (i:=i) ha;have hrun:=run_loadCells_list (P:=P) w ⟨g,o,none⟩ us (λj v hv=>by rw[Yk];exact h j v hv);have hsz:Ze P t=i.size:=by simp[Ze,hi]
 rw[hl,hsz]at hrun;simp[loadVar,Yp t w d hd,ha,run_sizeOf hi,hrun]
theorem Zc6 (hG:Good P A E l pend) {t:TypeId} {a:Operand} {strict:Bool} (ho:o.op= .load t a) {x:V} {u:Value} (hx:RV P E l x u) (hu:ρ a=u) (h:Zz P l k strict t x=some r):Zm P A E l pend ((execOp ρ o).run P E.w) k r:=by
 have key: ∀ad v w',u= .pointer (some ad)->(loadVar t ad).run P E.w= .ok v w' ->(execOp ρ o).run P E.w= .ok (.value v) w':=by
  intro ad v w' h1 h2;simp[execOp,ho,hu,h1,Instr.loadAt,Instr.sureAddr,h2]
 cases x with
 |c c=>
  obtain⟨cs,rfl,hh⟩:=Gs h;cases hx with|c hc=>
  obtain⟨ad,e1,hat⟩:=hc.cp_at;obtain⟨v,u',hk,hr,hv⟩:=Li (P:=P) hat hh;rw[key ad u' _ e1 hr];exact .quiet hG hk (Xv hv)
 |ptr s off=>
  have hob: ∀t' fz cs,Zv (l s)=some (t',fz,cs)->ldC P t (cs.drop off) (λv=>k v l [])=some r->Zm P A E l pend ((execOp ρ o).run P E.w) k r:=by
   intro t' fz cs hl h;cases hx with
   |ptrDead hd=>rw[hd]at hl;cases hl
   | @ptr _ _ g hr=>
    have hat:=((Va hG hl hr).1.at_).drop off;rw[Zf9]at hat;obtain⟨d,hd⟩:=Uv h;obtain⟨v,u',hk,hr',hv⟩:=Yl (P:=P) hd hat h;rw[key _ u' _ rfl hr'];exact .quiet hG hk (Xv hv)
  simp only[Zz]at h;cases hl:l s with
  |dead=>rw[hl]at h;cases h
  |ob t' fz cs=>rw[hl]at h;exact hob t' fz cs (by rw[hl];rfl) h
  |sb t' fz cs=>rw[hl]at h;exact hob t' fz cs (by rw[hl];rfl) h
  |mp _ _ _=>rw[hl]at h;cases h
  |cl _=>rw[hl]at h;cases h
  |mr _ _ _ _=>rw[hl]at h;cases h
  |mf _ _ _ _ _ _ _=>rw[hl]at h;cases h
  |it _ _ _ _ _=>rw[hl]at h;cases h
  |ir _ _=>rw[hl]at h;cases h
  |pk g' t' q pe=>
   rw[hl]at h;cases pe with
   |some _=>cases h
   |none=>
   obtain⟨hb,h⟩:=Za h;rw[Zfs]at hb;obtain⟨ha,hi⟩:=hb;simp only[Zgb]at ha;obtain⟨d,hd⟩:=Zf7.1 hi;obtain⟨p,hp,h⟩:=Rws.look_eq h;obtain⟨gb,cur,hr',hps,hg,hlen,_,hxx,_⟩:=P4 hG hl;cases hx with
   |ptrDead hd'=>rw[hd']at hl;cases hl
   | @ptr _ _ g hr=>
    rw[hr']at hr;injection hr with hr;subst hr
    have hlt:off<cur.size:=Zf1 (Rws.at_lt hp) hlen;obtain⟨_,hpc⟩:=hxx off p cur[off] hp (by simp[hlt]);have hpc:=hpc (λe he=>by cases he);have hc:E.w.cell? ⟨gb,off,none⟩=some cur[off]:=(cell_of_row E.w _ off _ _ _ hg).trans (by simp[hlt]);cases p with
    |c c=>
     have hat:At E.w E.Pr gb off [c]:=λj c' hj=>by
      cases j with
      |zero=>simp at hj;subst hj;exact⟨_,hc,hpc⟩
      |succ j=>simp at hj
     obtain⟨v,u',hk,hr',hv⟩:=Yl (P:=P) hd hat h;rw[key _ u' _ rfl hr'];exact .quiet hG hk (Xv hv)
    |r te row=>
     rw[key _ cur[off] E.w rfl (by simp[loadVar,Yp t E.w d hd,ha,hc])];exact .quiet hG h (.rw (by rw[hl];rfl) hpc.2.rowV)
  |mx t' xs=>
   rw[hl]at h;simp only at h;cases hx with
   |ptrDead hd'=>rw[hd']at hl;cases hl
   | @ptr _ _ g hr=>
    obtain⟨cur,hg,hlen,hxx,_⟩:=Eh hG hl hr;have hcell: ∀(j:Nat) (u:Value),cur[j]? =some u->E.w.cell? ⟨g,j,none⟩=some u:=λj u hj=>(cell_of_row E.w _ j _ _ _ hg).trans hj;cases ha:Ya P t with
    |true=>
     rw[ha]at h;obtain⟨hb,hk⟩:=Za h;have hle:=Zfu hb;obtain⟨cs,l1,E1,h1,hG1,hM,hc,_⟩:=Tr (us:=(cur.toList.drop off).take (Ze P t)) hG (by simp;omega) (λj x u hx hu=>by
      rw[Zf3]at hx hu;split at hx
      ·rename_i hj;rw[if_pos hj,Zf6]at hu;rw[Zf6]at hx;exact hxx _ x u hx (by simpa using hu)
      ·cases hx) hk
     have hat:At E1.w E1.Pr g off cs:=hc.at_ rfl λj u hu=>by
      rw[Zf3]at hu;split at hu
      ·rw[Zf6]at hu;rw[hM.w];exact hcell _ u (by simpa using hu)
      ·cases hu
     obtain⟨d,hd⟩:=Uv h1;obtain⟨v,u',hk,hr',hv⟩:=Yl (P:=P) hd hat h1;rw[hM.w]at hr';rw[key _ u' _ rfl hr'];exact .mild hG1 hM hk (Xv hv)
    |false=>
     rw[ha]at h;simp only at h;cases hxs:xs.drop off with
     |nil=>rw[hxs]at h;cases h
     |cons y ys=>
      rw[hxs]at h;simp only at h;have hy:xs[off]? =some y:=by
       have:(xs.drop off)[0]? =some y:=by rw[hxs];rfl
       rwa [Zf6,Zgq]at this
      have hlt:off<cur.size:=by have:=(Zfv.1 hy).1;omega
      obtain⟨hrv,h1c⟩:=hxx off y cur[off] hy (by simp[hlt]);have hc:=hcell off cur[off] (by simp[hlt]);unfold Vv at h;split at h
      ·rename_i c;cases hrv with|c hrc=>
       have hat:At E.w E.Pr g off [c]:=λj c' hj=>by
        cases j with
        |zero=>simp at hj;subst hj;exact⟨_,hc,hrc⟩
        |succ j=>simp at hj
       obtain⟨d,hd⟩:=Uv h;obtain⟨v,u',hk,hr',hv⟩:=Yl (P:=P) hd hat h;rw[key _ u' _ rfl hr'];exact .quiet hG hk (Xv hv)
      ·obtain⟨hb,hk⟩:=Za h;obtain⟨d,hd⟩:=Zf7.1 hb;rw[key _ cur[off] E.w rfl (by simp[loadVar,Yp t E.w d hd,ha,hc])];exact .quiet hG hk hrv
      ·obtain⟨hb,hk⟩:=Za h;obtain⟨d,hd⟩:=Zf7.1 hb;rw[key _ cur[off] E.w rfl (by simp[loadVar,Yp t E.w d hd,ha,hc])];exact .quiet hG hk hrv
      ·obtain⟨hb,hk⟩:=Za h;obtain⟨d,hd⟩:=Zf7.1 hb;rw[key _ cur[off] E.w rfl (by simp[loadVar,Yp t E.w d hd,ha,hc])];exact .quiet hG hk hrv
      ·cases h
 |_=>cases h
theorem Za7 (hG:Good P A E l pend) {t:TypeId} {a:Operand} (ho:o.op= .load t a) {x:V} {u:Value} (hx:RV P E l x u) (hu:ρ a=u) (h:Mk P l k t x=some r):Zm P A E l pend ((execOp ρ o).run P E.w) k r:=by
 unfold Mk at h;split at h
 ·rename_i s off;split at h
  ·rename_i t' xs hl;cases hx with
   |ptrDead hd'=>rw[hd']at hl;cases hl
   | @ptr _ _ g hr=>
    obtain⟨cur,hg,hlen,hxx,_⟩:=Eh hG hl hr;obtain⟨hb,hk⟩:=Za h;rw[Zfs,Zfs]at hb;obtain⟨⟨ha,hi⟩,hle⟩:=hb;have hle:=Zfu hle;obtain⟨i,hi⟩:=Zf7.1 hi;have hsub: ∀(j:Nat) (x:V) (u:Value),((xs.drop off).take (Ze P t))[j]? =some x->((cur.toList.drop off).take (Ze P t))[j]? =some u->RV P E l x u/\u.oneCell'=true:=λj x u hx hu=>by
     rw[Zf3]at hx hu;split at hx
     ·rename_i hj;rw[if_pos hj,Zf6]at hu;rw[Zf6]at hx;exact hxx _ x u hx (by simpa using hu)
     ·cases hx
    have hll:((cur.toList.drop off).take (Ze P t)).length=((xs.drop off).take (Ze P t)).length:=by simp;omega
    have hload:=Vr (P:=P) (w:=E.w) (g:=g) (o:=off) (us:=(cur.toList.drop off).take (Ze P t)) hi ha (λj u hu=>by
     rw[Zf3]at hu;split at hu
     ·rw[Zf6]at hu;exact(cell_of_row E.w _ (off+j) _ _ _ hg).trans (by simpa using hu)
     ·cases hu) (by simp;omega)
    have hrun:(execOp ρ o).run P E.w= .ok (.value (.agg ((cur.toList.drop off).take (Ze P t)).toArray)) E.w:=by
     simp[execOp,ho,hu,Instr.loadAt,Instr.sureAddr,hload]
    rw[hrun];refine .quiet hG hk (.mag hll (λu hu=> ?_) λj x u hx hu=>(hsub j x u hx hu).1);obtain⟨j,hj,rfl⟩:=Zgk.1 hu;exact(hsub j ((xs.drop off).take (Ze P t))[j] _ (Zfw (by omega)) (Zfw hj)).2
  ·cases h
 ·cases h
theorem Za8 (hG:Good P A E l pend) {mag:Bool} {t:TypeId} {a:Operand} {strict:Bool} (ho:o.op= .load t a) {x:V} {u:Value} (hx:RV P E l x u) (hu:ρ a=u) (h:J9 P l k mag strict t x=some r):Zm P A E l pend ((execOp ρ o).run P E.w) k r:=by
 unfold J9 at h;split at h
 ·exact Za7 hG ho hx hu h
 ·exact Zc6 hG ho hx hu h
theorem ne_dead {o:Obj} (h:live o=true):o≠ .dead:=by rintro rfl;cases h
theorem Zev (hG:Good P A E l pend) {a:Operand} (ho:o.op= .nilCheck a) {x:V} {u:Value} (hx:RV P E l x u) (hu:ρ a=u) (h:Se l k x=some r):Zm P A E l pend ((execOp ρ o).run P E.w) k r:=by
 cases x with
 |c c=>
  simp only[Se]at h;split at h
  ·cases hx with|c hc=>
   obtain⟨ad,e1,_⟩:=hc.cp_at;have:(execOp ρ o).run P E.w= .ok (.value u) E.w:=by rw[e1]at hu;simp[execOp,ho,hu,e1]
   rw[this];exact .quiet hG h (.c hc)
  ·rename_i f' cs';cases hx with|c hc=>
   cases hc with
   | @fn _ _ us h1 h2=>
    have:(execOp ρ o).run P E.w= .ok (.value (.func (.func f') #[] us.toArray)) E.w:=by simp[execOp,ho,hu]
    rw[this];exact .quiet hG h (.c (.fn h1 h2))
  ·cases h
 |ptr s off=>
  simp only[Se]at h;have h':l s≠ .dead/\k (.ptr s off) l []=some r:=⟨ne_dead (Za h).1,(Za h).2⟩;cases hx with
  |ptrDead hd=>exact absurd hd h'.1
  | @ptr _ _ g hr=>
   have:(execOp ρ o).run P E.w= .ok (.value (.pointer (some ⟨g,off,none⟩))) E.w:=by simp[execOp,ho,hu]
   rw[this];exact .quiet hG h'.2 (.ptr hr)
 |_=>cases h
theorem Zew (hG:Good P A E l pend) {op:BinOp} {t yt:TypeId} {a b:Operand} (ho:o.op= .binOp op t a b yt) {x y:V} (hx:RV P E l x (ρ a)) (hy:RV P E l y (ρ b)) (h:Tj P op t x y (λv=>k v l [])=some r):
  Zm P A E l pend ((execOp ρ o).run P E.w) k r:=by
 obtain⟨z,y,hz,hk,hr⟩:=Cp hx hy h a b E.w;have:(execOp ρ o).run P E.w= .ok (.value z) E.w:=by
  simp only[execOp,ho];rw[Sem.run_bind,hr];rfl
 rw[this];exact .quiet hG hk hz
theorem op_un (hG:Good P A E l pend) {op:UnOp} {t:TypeId} {a:Operand} (ho:o.op= .unOp op t a) {x:V} (hx:RV P E l x (ρ a)) (h:unV op x (λv=>k v l [])=some r):Zm P A E l pend ((execOp ρ o).run P E.w) k r:=by
 obtain⟨z,hz,hk,hr⟩:=Wc hx h E.w;have:(execOp ρ o).run P E.w= .ok (.value z) E.w:=by
  simp only[execOp,ho];rw[Sem.run_bind,hr];rfl
 rw[this];exact .quiet hG hk (.c (.v hz))
theorem Zc7 (hG:Good P A E l pend) {src dst:TypeId} {a:Operand} (ho:o.op= .convert src dst a) {x:V} (hx:RV P E l x (ρ a)) (h:Rs P src dst x (λv=>k v l [])=some r):Zm P A E l pend ((execOp ρ o).run P E.w) k r:=by
 obtain⟨z,hz,hk,hr⟩:=Ej hx h E.w;have:(execOp ρ o).run P E.w= .ok (.value z) E.w:=by
  simp only[execOp,ho];rw[Sem.run_bind,hr];rfl
 rw[this];exact .quiet hG hk (.c (.v hz))
theorem Zu {t:TypeId} {i:TypeInfo} (h:P.info? t=some i):Ze P t=i.size:=by simp[Ze,h]
theorem info_of_underlying {t:TypeId} {d:TypeDesc} (h:P.underlying t=some d): ∃i,P.info? t=some i:=by
 cases hi:P.info? t with
 |some i=>exact⟨i,rfl⟩
 |none=>simp[Program.underlying,hi]at h
theorem Kd {T:TypeId} {f fo:Nat} {ft:TypeId} (h:Lo P T f=some (fo,ft)): ∃fs fd,P.underlying T=some (.struct fs)/\fs[f]? =some fd/\fd.offset=fo/\fd.type=ft:=by
 unfold Lo at h;split at h
 ·rename_i fs hu;split at h
  ·rename_i fd hf;injection h with h;injection h with h1 h2
   exact⟨fs,fd,hu,by simpa using hf,h1,h2⟩
  ·cases h
 ·cases h
theorem Ke (g o:Nat) (a:Addr) (fd:Field) (hs:Ze P fd.type≠0) (w:World):(fieldPlace a fd).run P w= .ok (a.add fd.offset) w:=by
 have: ∃i,P.info? fd.type=some i:=by
  cases hi:P.info? fd.type with
  |some i=>exact⟨i,rfl⟩
  |none=>simp[Ze,hi]at hs
 obtain⟨i,hi⟩:=this;have hne:i.size≠0:=by rw[<-Zu hi];exact hs
 simp[fieldPlace,run_sizeOf hi,hne]
theorem Gt (hG:Good P A E l pend) {T:TypeId} {f:Nat} {a:Operand} (ho:o.op= .fieldAddr T a f) {x:V} {u:Value} (hx:RV P E l x u) (hu:ρ a=u) (h0:Zp P l k T f x=some r):Zm P A E l pend ((execOp ρ o).run P E.w) k r:=by
 unfold Zp at h0;split at h0
 case h_2=>cases h0
 case h_1 fo ft hf=>
  obtain⟨hb,h1⟩:=Za h0;obtain⟨fs,fd,hT,hfd,rfl,rfl⟩:=Kd hf;have hs:Ze P fd.type≠0:=by
   intro e;rw[e]at hb;cases hb
  have key: ∀ad,u= .pointer (some ad)->(execOp ρ o).run P E.w= .ok (.value (.pointer (some (ad.add fd.offset)))) E.w:=by
   intro ad h1;simp[execOp,ho,hu,h1,Instr.fieldAt,run_underlying hT,hfd,Instr.sureAddr,Ke 0 0 ad fd hs]
  cases x with
  |c c=>
   obtain⟨cs,rfl,hh⟩:=Gs h1;cases hx with|c hc=>
   obtain⟨ad,e1,hat⟩:=hc.cp_at;rw[key ad e1];refine .quiet hG hh (.c ?_);rcases hat with rfl|⟨g,o',rfl,hat,hp⟩
   ·simp only[List.drop_nil];exact .cp0
   ·rw[Yk];obtain⟨us,h1,h2⟩:=(hat.drop fd.offset).fn (λj hj=>by have:=hp (fd.offset+j) (by simp only[Zhx]at hj;omega);rwa [<-Zjj]at this);exact .cp h1 h2
  |ptr s off=>
   obtain⟨hl,hk⟩:=Za h1;cases hx with
   |ptrDead hd=>exact absurd hd (ne_dead hl)
   | @ptr _ _ g hr=>
    rw[key _ rfl,Yk];exact .quiet hG hk (.ptr hr)
  |_=>cases h1
theorem Za9 (hG:Good P A E l pend) {T:TypeId} {f:Nat} {a:Operand} (ho:o.op= .field T a f) {x:V} {u:Value} (hx:RV P E l x u) (hu:ρ a=u) (h0:Q7 P l k T f x=some r):Zm P A E l pend ((execOp ρ o).run P E.w) k r:=by
 unfold Q7 at h0;split at h0
 case h_2=>cases h0
 case h_1 fo ft cs hf=>
  obtain⟨fs,fd,hT,hfd,rfl,rfl⟩:=Kd hf;cases hx with
  | @agg _ us hc=>
   obtain⟨v,u',hk,hr,hv⟩:=Mn (P:=P) (w:=E.w) hc fd.offset h0;have:(execOp ρ o).run P E.w= .ok (.value u') E.w:=by
    simp[execOp,ho,hu,Instr.field,run_underlying hT,hfd,asAgg,hr]
   rw[this];exact .quiet hG hk (Xv hv)
theorem X3 {x:V} {i:Int} (h:Ql x=some i) {u:Value} (hx:RV P E l x u): ∃kd,u= .int kd i:=by
 unfold Ql at h;split at h
 ·injection h with h;subst h
  cases hx with|c hc=>cases hc with|v _=>exact⟨_,rfl⟩
 ·cases h
theorem Pg {i:Int} {n:Nat} (h:inR i n=true):0<=i/\i<n:=by
 unfold inR at h;simpa using h
theorem RC.sl_at {w:World} {Pr:Nat->Nat->Prop} {n:Nat} {cs:List C} {u:Value} (h:RC w Pr (.sl n cs) u):
  ∃a cap,u= .slice a n cap/\n<=cap/\cap<=maxLen/\((n=0/\cs=[])\/ ∃g o,a=some ⟨g,o,none⟩/\At w Pr g o cs/\ ∀j,j<cs.length->Pr g (o+j)):=by
 cases h with
 |sl0 hc=>exact⟨_,_,rfl,Zgi _,hc, .inl ⟨rfl,rfl⟩⟩
 |sl hn hc h1 h2=>exact⟨_,_,rfl,hn,hc, .inr ⟨_,_,rfl,λj c hj=>⟨_,(h1 j c hj).1,h2 j c hj⟩,λj hj=>(h1 j _ (Zfw hj)).2⟩⟩
theorem P6 {c:C} {w:World} {Pr:Nat->Nat->Prop} {u:Value} (hc:RC w Pr c u) {kk:Nat->List C->Option R} (h:asSl c kk=some r):
  ∃n cs a cap,kk n cs=some r/\u= .slice a n cap/\n<=cap/\cap<=maxLen/\((n=0/\cs=[])\/ ∃g o,a=some ⟨g,o,none⟩/\At w Pr g o cs/\ ∀j,j<cs.length->Pr g (o+j)):=by
 obtain⟨n,cs,rfl|⟨rfl,rfl,rfl⟩,hk⟩:=Ah h
 ·obtain⟨a,cap,h1,h2,h3,h4⟩:=hc.sl_at;exact⟨n,cs,a,cap,hk,h1,h2,h3,h4⟩
 ·cases hc with
  |nl=>exact⟨0,[],none,0,hk,rfl,Zf4 _,by unfold maxLen;omega, .inl ⟨rfl,rfl⟩⟩
theorem At.toC {w:World} {Pr:Nat->Nat->Prop} {g o:Nat} {cs:List C} (h:At w Pr g o cs) (hp: ∀j,j<cs.length->Pr g (o+j)):RC w Pr (.cp cs) (.pointer (some ⟨g,o,none⟩)):=by
 obtain⟨us,h1,h2⟩:=h.fn hp;exact .cp h1 h2
theorem Cr {Pr:Nat->Nat->Prop} {g o m:Nat} {cs:List C} (hp: ∀j,j<cs.length->Pr g (o+j)): ∀j,j<(cs.drop m).length->Pr g (o+m+j):=
 λj hj=>by have:=hp (m+j) (by simp only[Zhx]at hj;omega);rwa [<-Zjj]at this
theorem Gu (hG:Good P A E l pend) {T:TypeId} {a b:Operand} (ho:o.op= .indexAddr T a b) {x y:V} {u v:Value} (hx:RV P E l x u) (hy:RV P E l y v) (hu:ρ a=u) (hv:ρ b=v)
  (h0:Zk P l k T x y=some r):Zm P A E l pend ((execOp ρ o).run P E.w) k r:=by
 unfold Zk at h0;split at h0
 case h_3=>cases h0
 case h_1 i el hi hT=>
  obtain⟨kd,rfl⟩:=X3 hi hy;split at h0
  case h_2=>cases h0
  case h_1 inf hinf=>
   have key: ∀ad n cap,u= .slice (some ad) n cap->0<=i->i<n->(execOp ρ o).run P E.w= .ok (.value (.pointer (some (ad.add (i.toNat*inf.size))))) E.w:=by
    intro ad n cap h1 h2 h3;simp[execOp,ho,hu,hv,h1,Instr.indexAt,asIntOf,run_underlying hT,h2,h3,run_sizeOf hinf]
   cases x with
   |c c=>
    cases hx with|c hc=>
    obtain⟨n,cs,a',cap,hk,e1,_,_,hz⟩:=P6 hc h0;obtain⟨hb,hk⟩:=Za hk;obtain⟨hb1,hb2⟩:=Pg hb;rcases hz with⟨rfl,_⟩|⟨g,o',rfl,hat,hp⟩
    ·omega
    ·rw[key _ _ _ e1 hb1 hb2,Yk];exact .quiet hG hk (.c ((hat.drop _).toC (Cr hp)))
   |own s off n=>
    simp only at h0;split at h0
    case h_2=>cases h0
    case h_1 q hl=>
     obtain⟨t',fz,cs⟩:=q;obtain⟨hb,hk⟩:=Za h0;obtain⟨hb1,hb2⟩:=Pg hb;cases hx with
     |ownDead hd=>rw[hd]at hl;cases hl
     |ownMx hd=>first|exact(X0 hd hl).elim|(rw[hl]at hd;cases hd)
     |ownNil _ _=>omega
     |own0 _ _ _=>omega
     | @own _ _ _ g cap _ _ _ hr _ _ _ _=>
      rw[key _ _ _ rfl hb1 hb2,Yk];exact .quiet hG hk (.ptr hr)
   |ws s n=>
    obtain⟨hb,hk⟩:=Za h0;rw[Zfs]at hb;obtain⟨hb1,hb2⟩:=Pg hb.2;cases hx with
    |wsDead hd=>rw[hd]at hb;cases hb.1
    |ws hr _=>
     rw[key _ _ _ rfl hb1 hb2,Yk,Zf9];exact .quiet hG hk (.ptr hr)
   |_=>cases h0
 case h_2 i m el hi hT=>
  obtain⟨kd,rfl⟩:=X3 hi hy;split at h0
  case h_2=>cases h0
  case h_1 inf hinf=>
   have key: ∀ad,u= .pointer (some ad)->0<=i->i<m->(execOp ρ o).run P E.w= .ok (.value (.pointer (some (ad.add (i.toNat*inf.size))))) E.w:=by
    intro ad h1 h2 h3;simp[execOp,ho,hu,hv,h1,Instr.indexAt,asIntOf,run_underlying hT,h2,h3,run_sizeOf hinf,Instr.sureAddr]
   cases x with
   |c c=>
    obtain⟨cs,rfl,hh⟩:=Gs h0;obtain⟨hb,hk⟩:=Za hh;obtain⟨hb1,hb2⟩:=Pg hb;cases hx with|c hc=>
    obtain⟨ad,e1,hat⟩:=hc.cp_at;rw[key ad e1 hb1 hb2];refine .quiet hG hk (.c ?_);rcases hat with rfl|⟨g,o',rfl,hat,hp⟩
    ·simp only[List.drop_nil];exact .cp0
    ·rw[Yk];exact(hat.drop _).toC (Cr hp)
   |ptr s off=>
    obtain⟨hb,hk⟩:=Za h0;rw[Zfs]at hb;obtain⟨hb1,hb2⟩:=Pg hb.2;cases hx with
    |ptrDead hd=>exact absurd hd (ne_dead hb.1)
    | @ptr _ _ g hr=>
     rw[key _ rfl hb1 hb2,Yk];exact .quiet hG hk (.ptr hr)
   |_=>cases h0
theorem Zba (hG:Good P A E l pend) {T:TypeId} {a b:Operand} (ho:o.op= .index T a b) {x y:V} {u v:Value} (hx:RV P E l x u) (hy:RV P E l y v) (hu:ρ a=u) (hv:ρ b=v)
  (h0:U6 P l k T x y=some r):Zm P A E l pend ((execOp ρ o).run P E.w) k r:=by
 unfold U6 at h0;split at h0
 case h_3=>cases h0
 case h_1 i m el hi hT=>
  obtain⟨kd,rfl⟩:=X3 hi hy;split at h0
  case h_2=>cases h0
  case h_1 inf hinf=>
   cases x with
   |agg cs=>
    obtain⟨hb,hk⟩:=Za h0;obtain⟨hb1,hb2⟩:=Pg hb;cases hx with
    | @agg _ us hc=>
     obtain⟨z,u',hk',hr,hz⟩:=Mn (P:=P) (w:=E.w) hc (i.toNat*inf.size) hk;have:(execOp ρ o).run P E.w= .ok (.value u') E.w:=by
      simp[execOp,ho,hu,hv,Instr.index,asIntOf,run_underlying hT,hb1,hb2,run_sizeOf hinf,hr]
     rw[this];exact .quiet hG hk' (Xv hz)
   |_=>cases h0
 case h_2 i hi hT=>
  obtain⟨kd,rfl⟩:=X3 hi hy;cases x with
  |c c=>
   obtain⟨s,rfl,hh⟩:=Cq h0;obtain⟨hb,hk⟩:=Za hh;obtain⟨hb1,hb2⟩:=Pg hb;cases hx with|c hc=>cases hc with|v _=>
   have hlt:i.toNat<s.size:=by omega
   have hg:s[i.toNat]? =some s[i.toNat]:=by simp[getElem?_def,hlt]
   have:(execOp ρ o).run P E.w= .ok (.value (.int .u8 (s.data.getD i.toNat 0).toNat)) E.w:=by
    simp only[execOp,ho,hu,hv,Instr.index,asIntOf,run_underlying hT,Sem.run_bind,Sem.run_pure,Result.andThen_ok,if_pos hb1,hg];have:s.data.getD i.toNat 0=s[i.toNat]:=by
     have hlt':i.toNat<s.data.size:=hlt;unfold Array.getD;rw[dif_pos hlt'];rfl
    rw[this]
   rw[this];exact .quiet hG hk (.c (.v rfl))
  |_=>cases h0
theorem Cs (hG:Good P A E l pend) {i:Nat} {a:Operand} (ho:o.op= .extract a i) {x:V} {u:Value} (hx:RV P E l x u) (hu:ρ a=u) (h0:Y8 l k i x=some r):Zm P A E l pend ((execOp ρ o).run P E.w) k r:=by
 cases x with
 |tup vs=>
  simp only[Y8]at h0;split at h0
  case h_2=>cases h0
  case h_1 z hz=>
   cases hx with
   | @tup _ us hs h=>
    have hlt:i<us.length:=by rw[hs];exact(Zfv.1 hz).1
    have hg:us[i]? =some us[i]:=Zfw hlt;have:(execOp ρ o).run P E.w= .ok (.value us[i]) E.w:=by simp[execOp,ho,hu,Instr.extract,hg]
    rw[this];exact .quiet hG h0 (h i z _ hz hg)
 |ent s n j=>
  simp only[Y8]at h0;cases hx with
  | @ent _ _ _ v hv=>
   split at h0
   ·have:(execOp ρ o).run P E.w= .ok (.value v) E.w:=by simp[execOp,ho,hu,Instr.extract]
    rw[this];exact .quiet hG h0 hv
   ·have:(execOp ρ o).run P E.w= .ok (.value (.int .i64 j)) E.w:=by simp[execOp,ho,hu,Instr.extract]
    rw[this];exact .quiet hG h0 (.c (.v rfl))
   ·cases h0
 |est j=>
  simp only[Y8]at h0;cases hx with
  | @est _ v=>
   split at h0
   ·have:(execOp ρ o).run P E.w= .ok (.value (.int .i64 j)) E.w:=by simp[execOp,ho,hu,Instr.extract]
    rw[this];exact .quiet hG h0 (.c (.v rfl))
   ·cases h0
 |_=>cases h0
end
end Go.PM
