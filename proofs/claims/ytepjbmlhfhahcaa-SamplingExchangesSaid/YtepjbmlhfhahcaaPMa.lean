/- The pure machine: values without addresses, and the run of a function's code over them (definitions only). -/
import Derived.WalkKit
import Derived.Orders
set_option linter.unusedVariables false
set_option linter.unusedSimpArgs false
namespace Go.PM
open Go

mutual
/-- What one cell holds, with no address in it: a scalar; a nil slice; a slice whose cells read so; an address behind which the cells read so; a function value; the yield of a range over a function: the loop's record, what the rounds answer, the items that are to come. -/
inductive C where
  | v (x : Value)
  | nl
  | sl (n : Nat) (cs : List C)
  | cp (cs : List C)
  | fn (f : FuncId) (caps : List C)
  | yl (l : Nat) (go : Nat → Bool) (xs : List (List V))
/-- What a slot holds. 'ptr', 'own': into the object of a site; 'un': just the model's 'undef'; 'und': anything. -/
inductive V where
  | c (x : C)
  | agg (cs : List C)
  | tup (vs : List V)
  | ptr (s off : Nat)
  | own (s off n : Nat)
  /-- never in a slot: that a site's block is the same still -/
  | gh (s : Nat)
  | un
  | und
end
instance : Inhabited C := ⟨.nl⟩
instance : Inhabited V := ⟨.und⟩

/-- An object of the call's own: 'ob': a block; 'sb': a slice's block, or none where it is empty; 'rf': a block of one cell that holds a reference. -/
inductive Obj where
  | dead
  | ob (t : TypeId) (fz : Nat) (cs : List C)
  | sb (t : TypeId) (fz : Nat) (cs : List C)
  | rf (t : TypeId) (x : V)
  deriving Inhabited

/-- How far an iterator has come: for which loop, what the rounds answer, how many items have come, those that are to come, and whether a round has said 'no more'. -/
structure Log where
  l : Nat
  go : Nat → Bool
  i : Nat
  rest : List (List V)
  st : Bool
  deriving Inhabited

structure Loc where
  fn : Nat → Obj
  log : Option Log
instance : CoeFun Loc (fun _ => Nat → Obj) := ⟨Loc.fn⟩

/-- A frame's slots. -/
structure Sl where
  fn : Nat → V
  length : Nat
def Sl.set (l : Sl) (t : Nat) (x : V) : Sl := ⟨fun t' => bif Nat.beq t' t then x else l.fn t', l.length⟩
def Sl.map (g : V → V) (l : Sl) : Sl := ⟨fun t => g (l.fn t), l.length⟩
def Sl.get (l : Sl) (t : Nat) : V := bif Nat.blt t l.length then l.fn t else .und

structure St where
  slots : Sl
  loc : Loc

def Loc.put (l : Loc) (s : Nat) (o : Obj) : Loc := ⟨fun s' => bif Nat.beq s' s then o else l s', l.log⟩

def St.get (σ : St) (t : Nat) : V := σ.slots.get t
def St.put (σ : St) (d : Option Nat) (x : V) (l : Loc) : St :=
  match d with
  | some t => ⟨σ.slots.set t x, l⟩
  | none => ⟨σ.slots, l⟩

/-- A call's outcome: the result, and the objects that were handed over as they are behind it, then new ones that the result leads to. -/
structure Out where
  r : V
  objs : List Obj
  log : Option Log

abbrev I (n : Int) : V := .c (.v (.int .i64 n))
abbrev B (b : Bool) : V := .c (.v (.bool b))

def scal : Value → Bool
  | .bool _ | .int _ _ | .float _ _ | .complex _ _ _ | .string _ | .pointer none | .map none | .chan none | .nilFunc | .nilIface => true
  | _ => false

def constC : Value → Option C
  | .slice none 0 0 => some .nl
  | .func (.func f) first captured => if first.size = 0 ∧ captured.size = 0 then some (.fn f []) else none
  | x => if scal x then some (.v x) else none

def constCs : List Value → Option (List C)
  | [] => some []
  | x :: r => match constC x, constCs r with
    | some c, some cs => some (c :: cs)
    | _, _ => none

def constV (x : Value) : V :=
  match x with
  | .agg cs => match constCs cs.toList with | some l => .agg l | none => .und
  | x => match constC x with | some c => .c c | none => .und

def St.ev (σ : St) : Operand → V
  | .tmp t => σ.get t
  | .const x => constV x
  | .global _ => .und
  | .func f => .c (.fn f [])

/-! Looking at values: each hands what it finds to 'k'. -/
section
variable {R : Type}

def asI (kd : IntKind) (c : C) (k : Int → Option R) : Option R :=
  match c with
  | .v (.int kd' n) => if kd' = kd then k n else none
  | _ => none
def asB (c : C) (k : Bool → Option R) : Option R :=
  match c with
  | .v (.bool b) => k b
  | _ => none
def asS (c : C) (k : ByteArray → Option R) : Option R :=
  match c with
  | .v (.string s) => k s
  | _ => none
def asSl (c : C) (k : Nat → List C → Option R) : Option R :=
  match c with
  | .sl n cs => k n cs
  | .nl => k 0 []
  | _ => none
def asFn (c : C) (k : FuncId → List C → Option R) : Option R :=
  match c with
  | .fn f cs => k f cs
  | _ => none
/-- A function value, or the yield of a loop. -/
def asYF (c : C) (ky : Nat → Option R) (k : FuncId → List C → Option R) : Option R :=
  match c with
  | .fn f cs => k f cs
  | .yl l _ _ => ky l
  | _ => none
def asP (c : C) (k : List C → Option R) : Option R :=
  match c with
  | .cp cs => k cs
  | _ => none
def unc (cs : List C) (k : C → List C → Option R) : Option R :=
  match cs with
  | [] => none
  | c :: r => k c r
def need (b : Bool) (k : Option R) : Option R := bif b then k else none
end

/-- The kinds of a type's cells: what is known of each. -/
inductive Lf where
  | i (k : IntKind)
  | b
  | s
  | o
  deriving DecidableEq, Inhabited

def getLf {R : Type} (l : Lf) (c : C) (k : C → Option R) : Option R :=
  match l with
  | .i kd => asI kd c fun n => k (.v (.int kd n))
  | .b => asB c fun b => k (.v (.bool b))
  | .s => asS c fun s => k (.v (.string s))
  | .o => k c

def getLfs {R : Type} : List Lf → List C → (List C → Option R) → Option R
  | [], _, k => k []
  | l :: ls, cs, k => unc cs fun c r => getLf l c fun c' => getLfs ls r fun cs' => k (c' :: cs')

/-- The leaves of a type, where they are few and no array is among them. -/
def leaves (P : Program) : Nat → TypeId → Option (List Lf)
  | 0, _ => none
  | d + 1, t =>
    match P.underlying t with
    | some (.int k) => some [.i k]
    | some .bool => some [.b]
    | some .string => some [.s]
    | some (.struct fs) => fs.toList.foldr (fun f acc => match leaves P d f.type, acc with | some a, some b => some (a ++ b) | _, _ => none) (some [])
    | some (.array _ _) => none
    | some _ => some [.o]
    | none => none

def aggB (P : Program) (t : TypeId) : Bool :=
  match P.underlying t with
  | some (.struct _) | some (.array _ _) => true
  | _ => false

def szOf (P : Program) (t : TypeId) : Nat := match P.info? t with | some i => i.size | none => 0

/-- A value of type t out of the cells that begin here. -/
def ldC {R : Type} (P : Program) (t : TypeId) (cs : List C) (k : V → Option R) : Option R :=
  match P.info? t with
  | none => none
  | some i =>
    match aggB P t with
    | true =>
      match leaves P 20 t with
      | some ls => need (Nat.beq ls.length i.size) (getLfs ls cs fun l => k (.agg l))
      | none => need (Nat.ble i.size cs.length) (k (.agg (cs.take i.size)))
    | false =>
      match leaves P 20 t with
      | some [l] => unc cs fun c _ => getLf l c fun c' => k (.c c')
      | _ => none

/-! Operators. -/
def binInt {R : Type} (op : BinOp) (kd : IntKind) (a b : Int) (k : V → Option R) : Option R :=
  match op with
  | .add => k (.c (.v (.int kd (kd.wrap (a + b)))))
  | .sub => k (.c (.v (.int kd (kd.wrap (a - b)))))
  | .mul => k (.c (.v (.int kd (kd.wrap (a * b)))))
  | .quo => need (!(b == 0)) (k (.c (.v (.int kd (kd.wrap (a.tdiv b))))))
  | .rem => need (!(b == 0)) (k (.c (.v (.int kd (a.tmod b)))))
  | .and => k (.c (.v (.int kd (kd.wrap (BitVec.ofInt kd.bits a &&& BitVec.ofInt kd.bits b).toNat))))
  | .or => k (.c (.v (.int kd (kd.wrap (BitVec.ofInt kd.bits a ||| BitVec.ofInt kd.bits b).toNat))))
  | .xor => k (.c (.v (.int kd (kd.wrap (BitVec.ofInt kd.bits a ^^^ BitVec.ofInt kd.bits b).toNat))))
  | .andNot => k (.c (.v (.int kd (kd.wrap (BitVec.ofInt kd.bits a &&& ~~~ BitVec.ofInt kd.bits b).toNat))))
  | .eql => k (B (a == b))
  | .neq => k (B (a != b))
  | .lss => k (B (decide (a < b)))
  | .leq => k (B (decide (a ≤ b)))
  | .gtr => k (B (decide (a > b)))
  | .geq => k (B (decide (a ≥ b)))
  | _ => none

def binStr {R : Type} (op : BinOp) (a b : ByteArray) (k : V → Option R) : Option R :=
  match op with
  | .add => need (Nat.ble (a.size + b.size) 9223372036854775807) (k (.c (.v (.string (a ++ b)))))
  | .eql => k (B (a.toList == b.toList))
  | .neq => k (B (!(a.toList == b.toList)))
  | .lss => k (B (Op.bytesLess a.toList b.toList))
  | .leq => k (B (Op.bytesLess a.toList b.toList || a.toList == b.toList))
  | .gtr => k (B (!(Op.bytesLess a.toList b.toList || a.toList == b.toList)))
  | .geq => k (B (!(Op.bytesLess a.toList b.toList)))
  | _ => none

def shInt {R : Type} (op : BinOp) (kd : IntKind) (a b : Int) (k : V → Option R) : Option R :=
  match op with
  | .shl => need (!(decide (b < 0))) (k (.c (.v (.int kd (kd.wrap (a * 2 ^ (min b.toNat kd.bits)))))))
  | .shr => need (!(decide (b < 0))) (k (.c (.v (.int kd (a.fdiv (2 ^ (min b.toNat kd.bits)))))))
  | _ => none

/-- '==' between the cells of a type, as the model goes through it. -/
def eqT (P : Program) : Nat → TypeId → List C → List C → Option Bool
  | 0, _, _, _ => none
  | d + 1, t, cs, ds =>
    match P.underlying t with
    | some (.int _) => match cs, ds with
      | .v (.int k a) :: _, .v (.int k' b) :: _ => if k = k' then some (a == b) else none
      | _, _ => none
    | some .bool => match cs, ds with
      | .v (.bool a) :: _, .v (.bool b) :: _ => some (a == b)
      | _, _ => none
    | some .string => match cs, ds with
      | .v (.string a) :: _, .v (.string b) :: _ => some (a.toList == b.toList)
      | _, _ => none
    | some (.struct fs) =>
      bif P.stoodInHeld t then none else
      fs.toList.foldr (fun f acc => bif f.name == "_" then none else match eqT P d f.type ((cs.drop f.offset).take (szOf P f.type)) ((ds.drop f.offset).take (szOf P f.type)), acc with
        | some a, some b => some (a && b)
        | _, _ => none) (some true)
    | _ => none

def binV {R : Type} (P : Program) (op : BinOp) (t : TypeId) (x y : V) (k : V → Option R) : Option R :=
  match x, y with
  | .c (.v (.int kd a)), .c (.v (.int kd' b)) =>
    match op with
    | .shl | .shr => shInt op kd a b k
    | _ => if kd = kd' then binInt op kd a b k else none
  | .c (.v (.string a)), .c (.v (.string b)) => binStr op a b k
  | .c (.v (.bool a)), .c (.v (.bool b)) =>
    match P.underlying t, op with
    | some .bool, .eql => k (B (a == b))
    | some .bool, .neq => k (B (!(a == b)))
    | _, _ => none
  | .agg cs, .agg ds =>
    match aggB P t, P.eqGuardType P.depth t, eqT P 20 t cs ds with
    | true, false, some b =>
      match op with
      | .eql => k (B b)
      | .neq => k (B (!b))
      | _ => none
    | _, _, _ => none
  | _, _ => none

def unV {R : Type} (op : UnOp) (x : V) (k : V → Option R) : Option R :=
  match op, x with
  | .neg, .c (.v (.int kd n)) => k (.c (.v (.int kd (kd.wrap (0 - n)))))
  | .not, .c (.v (.bool b)) => k (B (!b))
  | _, _ => none

def convV {R : Type} (P : Program) (src dst : TypeId) (x : V) (k : V → Option R) : Option R :=
  match P.underlying src, P.underlying dst, x with
  | some _, some (.int kd), .c (.v (.int _ n)) => k (.c (.v (.int kd (kd.wrap n))))
  | some _, some .string, .c (.v (.string s)) => k (.c (.v (.string s)))
  | _, _, _ => none

def pickV (b : Bool) (x y : V) : V :=
  match x, y with
  | .c (.v (.bool p)), .c (.v (.bool q)) => B (bif b then p else q)
  | x, y => bif b then x else y

/-! Objects. -/
/-- The numbers of a callee's objects that its caller handed over. -/
def OUT : Nat := 1000000

def frz (l : Loc) (s n : Nat) : Loc :=
  match l s with
  | .ob t fz cs => l.put s (.ob t (Nat.max fz n) cs)
  | .sb t fz cs => l.put s (.sb t (Nat.max fz n) cs)
  | _ => l
def live : Obj → Bool
  | .dead => false
  | _ => true
def objTC : Obj → Option (TypeId × Nat × List C)
  | .ob t fz cs => some (t, fz, cs)
  | .sb t fz cs => some (t, fz, cs)
  | _ => none

/-- A value's cells without references: an owned slice reads as it is now, and these cells are not written any more. -/
def pur {R : Type} (P : Program) (strict : Bool) (x : V) (l : Loc) (k : List C → Loc → Option R) : Option R :=
  match x with
  | .c c => k [c] l
  | .agg cs => k cs l
  | .own s off n =>
    match strict, objTC (l s) with
    | false, some (t, _, cs) => need (Nat.ble (off + n * szOf P t) cs.length) (k [.sl n ((cs.drop off).take (n * szOf P t))] (frz l s (off + n * szOf P t)))
    | _, _ => none
  | .ptr s off =>
    match strict, objTC (l s) with
    | false, some (_, _, cs) => k [.cp (cs.drop off)] (frz l s cs.length)
    | _, _ => none
  | _ => none

def purL {R : Type} (P : Program) (strict : Bool) : List V → Loc → (List (List C) → Loc → Option R) → Option R
  | [], l, k => k [] l
  | x :: r, l, k => pur P strict x l fun cs l1 => purL P strict r l1 fun ps l2 => k (cs :: ps) l2

/-- Slots and objects that lead to a site are struck. -/
def V.at (s : Nat) : V → Bool
  | .ptr s' _ => Nat.beq s' s
  | .own s' _ _ => Nat.beq s' s
  | .gh s' => Nat.beq s' s
  | .tup _ => true
  | _ => false
def V.kill (s : Nat) (x : V) : V := bif x.at s then .und else x
def Obj.kill (s : Nat) (o : Obj) : Obj :=
  match o with
  | .rf t x => bif x.at s then .dead else .rf t x
  | o => o
def Loc.kill (s : Nat) (l : Loc) : Loc := ⟨fun s' => bif Nat.beq s' s then .dead else (l s').kill s, l.log⟩
def St.kill (σ : St) (s : Nat) : St := ⟨σ.slots.map (V.kill s), σ.loc.kill s⟩
def killAll (ss : List Nat) (sl : Sl) : Sl := ss.foldr (fun s sl => sl.map (V.kill s)) sl

def putAt (cs : List C) (off : Nat) (xs : List C) : List C := cs.take off ++ xs ++ cs.drop (off + xs.length)

def zeroCs (P : Program) (t : TypeId) : Option (List C) :=
  match P.info? t with
  | some i => match i.zero with
    | some z => match constCs z.cells.toList with
      | some cs => bif Nat.beq cs.length i.size then some cs else none
      | none => none
    | none => none
  | none => none
def reps (n : Nat) (zs : List C) : List C := (List.replicate n zs).flatten

def fillK {R : Type} (place : Nat → Option (Nat × Nat)) : List Nat → List (List C) → List C → (List C → Option R) → Option R
  | i :: is, xs :: r, cs, k =>
    match place i with
    | none => none
    | some (off, sz) => need (Nat.beq xs.length sz && Nat.ble (off + xs.length) cs.length) (fillK place is r (putAt cs off xs) k)
  | _, _, cs, k => k cs

/-! What is carried over loops and joins. -/
def Lf.ty : Lf → Type
  | .i _ => Int
  | .b => Bool
  | .s => ByteArray
  | .o => C
def Lf.get {R : Type} (l : Lf) (c : C) (k : l.ty → Option R) : Option R :=
  match l, k with
  | .i kd, k => asI kd c k
  | .b, k => asB c k
  | .s, k => asS c k
  | .o, k => k c
def Lf.put (l : Lf) (x : l.ty) : C :=
  match l, x with
  | .i kd, n => .v (.int kd n)
  | .b, x => .v (.bool x)
  | .s, x => .v (.string x)
  | .o, c => c
def LTys : List Lf → Type
  | [] => Unit
  | l :: r => l.ty × LTys r
def LTys.get {R : Type} : (ls : List Lf) → List C → (LTys ls → Option R) → Option R
  | [], _, k => k ()
  | l :: r, cs, k => unc cs fun c cs' => l.get c fun x => LTys.get r cs' fun y => k (x, y)
def LTys.put : (ls : List Lf) → LTys ls → List C
  | [], _ => []
  | l :: r, (x, y) => l.put x :: LTys.put r y

inductive Keep where
  /-- a slot of one cell -/
  | lf (t : Nat) (l : Lf)
  /-- a slot that holds a small struct -/
  | ag (t : Nat) (ls : List Lf)
  /-- a slot that holds a struct or an array as it is -/
  | ao (t : Nat)
  /-- a slot that holds an owned slice whole: its object becomes site s -/
  | ow (t s : Nat) (ty : TypeId)
  /-- a slot that holds a slice into site s, which was handed over: how long it is, what lies there -/
  | us (t s : Nat) (ty : TypeId)
  /-- an object's leaves, and the slots that point into it -/
  | ob (s : Nat) (ty : TypeId) (ls : List Lf) (ts : List (Nat × Nat))
  /-- an object's cells as they are -/
  | oo (s : Nat) (ty : TypeId) (ts : List (Nat × Nat))
  /-- what has been yielded -/
  | lg

def Keep.ty : Keep → Type
  | .lf _ l => l.ty
  | .ag _ ls => LTys ls
  | .ao _ => List C
  | .ow _ _ _ => List C
  | .us _ _ _ => Nat × List C
  | .ob _ _ ls _ => LTys ls
  | .oo _ _ _ => List C
  | .lg => Log
def Keep.site : Keep → Option Nat
  | .ow _ s _ => some s
  | .us _ s _ => some s
  | .ob s _ _ _ => some s
  | .oo s _ _ => some s
  | _ => none
def KTys : List Keep → Type
  | [] => Unit
  | k :: r => k.ty × KTys r

def ptsAt (σ : St) (s : Nat) (ts : List (Nat × Nat)) : Bool :=
  ts.all fun p => match σ.get p.1 with | .ptr s' off => Nat.beq s' s && Nat.beq off p.2 | _ => false
def putPts (s : Nat) : List (Nat × Nat) → Sl → Sl
  | [], sl => sl
  | p :: r, sl => putPts s r (sl.set p.1 (.ptr s p.2))

/-- 'lv': the objects that are not taken yet. -/
def Keep.get {R : Type} (P : Program) (kp : Keep) (σ : St) (lv : Loc) (k : kp.ty → Loc → Option R) : Option R :=
  match kp, k with
  | .lf t l, k => match σ.get t with | .c c => l.get c fun x => k x lv | _ => none
  | .ag t ls, k => match σ.get t with | .agg cs => need (Nat.beq cs.length ls.length) (LTys.get ls cs fun x => k x lv) | _ => none
  | .ao t, k => match σ.get t with | .agg cs => k cs lv | _ => none
  | .ow t _ ty, k => match σ.get t with
    | .own s' off n => match lv s' with
      | .ob ty' fz cs => need (Nat.beq ty' ty && Nat.beq off 0 && Nat.beq (n * szOf P ty) cs.length && Nat.beq fz 0 && !Nat.beq (szOf P ty) 0) (k cs (lv.put s' .dead))
      | .sb ty' fz cs => need (Nat.beq ty' ty && Nat.beq off 0 && Nat.beq (n * szOf P ty) cs.length && Nat.beq fz 0 && !Nat.beq (szOf P ty) 0) (k cs (lv.put s' .dead))
      | _ => none
    | .c .nl => k [] lv
    | _ => none
  | .us t s ty, k => match σ.get t with
    | .own s' off n => match lv s' with
      | .sb ty' fz cs => need (Nat.beq s' s && Nat.beq ty' ty && Nat.beq off 0 && Nat.beq fz 0) (k (n, cs) (lv.put s' .dead))
      | _ => none
    | _ => none
  | .ob s ty ls ts, k => match lv s with
    | .ob ty' fz cs => need (Nat.beq ty' ty && Nat.beq fz 0 && Nat.beq cs.length ls.length && ptsAt σ s ts) (LTys.get ls cs fun x => k x (lv.put s .dead))
    | _ => none
  | .oo s ty ts, k => match lv s with
    | .ob ty' fz cs => need (Nat.beq ty' ty && Nat.beq fz 0 && ptsAt σ s ts) (k cs (lv.put s .dead))
    | _ => none
  | .lg, k => match lv.log with | some x => k x ⟨lv.fn, none⟩ | none => none

def Keep.put (P : Program) (kp : Keep) (x : kp.ty) (σ : St) : St :=
  match kp, x with
  | .lf t l, x => ⟨σ.slots.set t (.c (l.put x)), σ.loc⟩
  | .ag t ls, x => ⟨σ.slots.set t (.agg (LTys.put ls x)), σ.loc⟩
  | .ao t, x => ⟨σ.slots.set t (.agg x), σ.loc⟩
  | .ow t s ty, x => ⟨σ.slots.set t (.own s 0 (x.length / szOf P ty)), σ.loc.put s (.sb ty 0 x)⟩
  | .us t s ty, x => ⟨σ.slots.set t (.own s 0 x.1), σ.loc.put s (.sb ty 0 x.2)⟩
  | .ob s ty ls ts, x => ⟨putPts s ts σ.slots, σ.loc.put s (.ob ty 0 (LTys.put ls x))⟩
  | .oo s ty ts, x => ⟨putPts s ts σ.slots, σ.loc.put s (.ob ty 0 x)⟩
  | .lg, x => ⟨σ.slots, ⟨σ.loc.fn, some x⟩⟩

def getKs {R : Type} (P : Program) : (ks : List Keep) → St → Loc → (KTys ks → Option R) → Option R
  | [], _, _, k => k ()
  | kp :: r, σ, lv, k => kp.get P σ lv fun x lv' => getKs P r σ lv' fun y => k (x, y)
def putKs (P : Program) : (ks : List Keep) → KTys ks → St → St
  | [], _, σ => σ
  | kp :: r, (x, y), σ => putKs P r y (kp.put P x σ)

inductive Ex where
  | normal
  | exit (id : Nat)
  | ret
  deriving DecidableEq, Inhabited

/-- What a yielded value is known to be. -/
inductive Shp where
  | s (l : Lf)
  | a (ls : List Lf)
  deriving Inhabited

structure Keeps where
  ks : List Keep
  /-- slots whose slices are not written from here on -/
  fz : List Nat := []
  /-- how the piece is left -/
  ex : List Ex
  /-- a loop's variables -/
  sh : List Shp := []
  deriving Inhabited

def nodupB : List Nat → Bool
  | [] => true
  | a :: r => (!(r.any (Nat.beq a))) && nodupB r

def Keep.inner : Keep → Bool
  | .ow _ s _ => Nat.blt s OUT
  | _ => true
def getAll {R : Type} (P : Program) (kp : Keeps) (σ : St) (k : KTys kp.ks → Option R) : Option R :=
  need (nodupB (kp.ks.filterMap Keep.site) && kp.ks.all Keep.inner) (getKs P kp.ks σ σ.loc k)

def frzs {R : Type} (P : Program) : List Nat → St → (St → Option R) → Option R
  | [], σ, k => k σ
  | t :: r, σ, k => match σ.get t with
    | .own s off n => pur P false (.own s off n) σ.loc fun cs l => match cs with
      | [c] => frzs P r ⟨σ.slots.set t (.c c), l⟩ k
      | _ => none
    | .ptr s off => pur P false (.ptr s off) σ.loc fun cs l => match cs with
      | [c] => frzs P r ⟨σ.slots.set t (.c c), l⟩ k
      | _ => none
    | _ => frzs P r σ k

def strike (ws : List Nat) (sl : Sl) : Sl := ⟨fun t => bif ws.any (Nat.beq t) then .und else sl.fn t, sl.length⟩
def V.plain : V → V
  | .c y => .c y
  | .agg cs => .agg cs
  | _ => .und
/-- What is left of a state behind a piece that writes these slots: no object. -/
def St.clean (ws : List Nat) (σ : St) : St := ⟨(strike ws σ.slots).map V.plain, ⟨fun _ => .dead, none⟩⟩

def exIdx : List Ex → Ex → Option Nat
  | [], _ => none
  | e :: r, x => match decide (e = x) with
    | true => some 0
    | false => match exIdx r x with | some n => some (n + 1) | none => none
def exDisp {R : Type} : List Ex → Nat → (Ex → Option R) → Option R
  | [], _, _ => none
  | [e], _, k => k e
  | e :: r, n, k => match n with
    | 0 => k e
    | m + 1 => exDisp r m k

structure Cfg where
  P : Program
  call : FuncId → List V → List Obj → Option Out
  /-- what iterators yield -/
  iter : FuncId → List C → Option (List (List V))
  /-- in a round of a range over a function -/
  rnd : Bool
  fuel : Nat
  /-- the slots whose allocation is owned (written later) -/
  own : Nat → Bool
  /-- loops, by their first region's number -/
  keep : Nat → Keeps
  /-- joins, by the tested slot -/
  join : Nat → Option Keeps
  /-- results that are new objects are handed out as such: of what type -/
  exp : List (Option TypeId)
  /-- which results a callee hands out as new objects -/
  xo : FuncId → List (Option TypeId)
  /-- how a callee's arguments are handed over -/
  hand : FuncId → List Nat

/-! Calls. -/
def siteIdx : List Nat → Nat → Nat → Option Nat
  | [], _, _ => none
  | s' :: r, s, i => bif Nat.beq s' s then some i else siteIdx r s (i + 1)

/-- How an argument is handed over: 1: a slice that is written; 2: a slice, nil as an empty one. -/
def hand1 (strict : Bool) (hd : List Nat) : Bool :=
  match strict, hd with
  | false, n :: _ => Nat.beq n 1
  | _, _ => false
def nrm (c : C) : C :=
  match c with
  | .nl => .sl 0 []
  | c => c
def nrm1 (hd : List Nat) (c : C) : C :=
  match hd with
  | n :: _ => bif Nat.beq n 2 then nrm c else c
  | [] => c

/-- 'hd': the slices that are handed over to be written. -/
def marsh {R : Type} (P : Program) (strict : Bool) : List Nat → List V → Loc → List Nat → (List V → Loc → List Nat → Option R) → Option R
  | _, [], l, ss, k => k [] l ss
  | hd, x :: r, l, ss, k =>
    match x with
    | .c c => marsh P strict hd.tail r l ss fun ys l' ss' => k (.c (nrm1 hd c) :: ys) l' ss'
    | .agg cs => marsh P strict hd.tail r l ss fun ys l' ss' => k (.agg cs :: ys) l' ss'
    | .own s off n => match hand1 strict hd with
      | true => match siteIdx ss s 0 with
        | some i => marsh P strict hd.tail r l ss fun ys l' ss' => k (.own (OUT + i) off n :: ys) l' ss'
        | none => marsh P strict hd.tail r l (ss ++ [s]) fun ys l' ss' => k (.own (OUT + ss.length) off n :: ys) l' ss'
      | false => pur P strict (.own s off n) l fun cs l1 => match cs with
        | [c] => marsh P strict hd.tail r l1 ss fun ys l' ss' => k (.c c :: ys) l' ss'
        | _ => none
    | .ptr s off => match strict with
      | true => none
      | false => match siteIdx ss s 0 with
        | some i => marsh P strict hd.tail r l ss fun ys l' ss' => k (.ptr (OUT + i) off :: ys) l' ss'
        | none => marsh P strict hd.tail r l (ss ++ [s]) fun ys l' ss' => k (.ptr (OUT + ss.length) off :: ys) l' ss'
    | _ => none

def rC {R : Type} (x : V) (k : C → Option R) : Option R := match x with | .c c => k c | _ => none
def rA {R : Type} (x : V) (k : List C → Option R) : Option R := match x with | .agg cs => k cs | _ => none
def rT {R : Type} (x : V) (k : List V → Option R) : Option R := match x with | .tup vs => k vs | _ => none
def rP {R : Type} (x : V) (m : Nat) (k : Option R) : Option R := match x with | .ptr s off => need (Nat.beq s (OUT + m) && Nat.beq off 0) k | _ => none
def uncV {R : Type} (xs : List V) (k : V → List V → Option R) : Option R := match xs with | [] => none | x :: r => k x r
def uncO {R : Type} (xs : List Obj) (k : Obj → List Obj → Option R) : Option R := match xs with | [] => none | x :: r => k x r
def rO {R : Type} (o : Obj) (t fz : Nat) (k : List C → Option R) : Option R := match o with | .ob t' fz' cs => need (Nat.beq t' t && Nat.beq fz' fz) (k cs) | _ => none
def rS {R : Type} (o : Obj) (t fz : Nat) (k : List C → Option R) : Option R := match o with | .sb t' fz' cs => need (Nat.beq t' t && Nat.beq fz' fz) (k cs) | _ => none
def rW {R : Type} (x : V) (m : Nat) (k : Nat → Option R) : Option R := match x with | .own s off n => need (Nat.beq s (OUT + m) && Nat.beq off 0) (k n) | _ => none

/-- One result of type t. -/
def retV {R : Type} (P : Program) (t : TypeId) (x : V) (k : V → Option R) : Option R :=
  match aggB P t with
  | true => rA x fun cs => match leaves P 20 t with
    | some ls => need (Nat.beq cs.length ls.length) (getLfs ls cs fun l => k (.agg l))
    | none => k (.agg cs)
  | false => match leaves P 20 t with
    | some [l] => rC x fun c => getLf l c fun c' => k (.c c')
    | _ => none
def retL {R : Type} (P : Program) : List TypeId → List V → (List V → Option R) → Option R
  | [], xs, k => match xs with
    | [] => k []
    | _ :: _ => none
  | t :: r, xs, k => uncV xs fun x ys => retV P t x fun v => retL P r ys fun vs => k (v :: vs)
/-- What a call gives back, by the operation's type. -/
def retK {R : Type} (P : Program) (t : TypeId) (x : V) (k : V → Option R) : Option R :=
  match P.underlying t with
  | some (.tuple ts) => match ts.toList with
    | [] => k .und
    | ts => rT x fun xs => retL P ts xs fun vs => k (.tup vs)
  | _ => retV P t x k

/-- The objects that were handed over, as they are now. -/
def backK {R : Type} (P : Program) : List Nat → List Obj → Loc → (List Obj → Loc → Option R) → Option R
  | [], os, l, k => k os l
  | s :: r, os, l, k =>
    match l s with
    | .ob t fz cs => uncO os fun o os' => rO o t fz fun cs' =>
      match leaves P 20 t with
      | some ls => need (Nat.beq cs'.length ls.length && Nat.beq cs.length ls.length) (getLfs ls cs' fun cs2 => backK P r os' (l.put s (.ob t fz cs2)) k)
      | none => need (Nat.beq cs'.length cs.length) (backK P r os' (l.put s (.ob t fz cs')) k)
    | .sb t fz cs => uncO os fun o os' => rS o t fz fun cs' => need (Nat.beq cs'.length cs.length) (backK P r os' (l.put s (.sb t fz cs')) k)
    | _ => none

def allOb (l : Loc) : List Nat → Bool
  | [] => true
  | s :: r => match l s with | .ob _ _ _ => allOb l r | .sb _ _ _ => allOb l r | _ => false

/-- No loop's yield is handed on. -/
def noYl : List V → Bool
  | .c (.yl _ _ _) :: _ => false
  | _ => true

/-- Where a call's i-th result lies, if it is a new object. -/
def nsite (d i : Nat) : Nat := 100000 + 64 * d + i

/-- One result: a value, or a new object ('i': how many were before). -/
def take1 {R : Type} (P : Program) (m site i : Nat) (x : Option TypeId) (ty : TypeId) (v : V) (os : List Obj) (l : Loc) (k : V → Nat → List Obj → Loc → List Nat → Option R) : Option R :=
  match x with
  | none => retV P ty v fun y => k y i os l []
  | some te => need (Nat.blt site OUT) <| match P.underlying ty with
    | some (.pointer _) => rP v (m + i) (uncO os fun o os' => rO o te 0 fun cs => match leaves P 20 te with
      | some ls => need (Nat.beq cs.length ls.length) (getLfs ls cs fun cs2 => k (.ptr site 0) (i + 1) os' ((l.kill site).put site (.ob te 0 cs2)) [site])
      | none => k (.ptr site 0) (i + 1) os' ((l.kill site).put site (.ob te 0 cs)) [site])
    | some (.slice _) => rW v (m + i) fun n => uncO os fun o os' => rS o te 0 fun cs => need (Nat.beq (n * szOf P te) cs.length && !Nat.beq (szOf P te) 0) (k (.own site 0 n) (i + 1) os' ((l.kill site).put site (.sb te 0 cs)) [site])
    | _ => none
def takeL {R : Type} (P : Program) (m d : Nat) : Nat → Nat → List (Option TypeId) → List TypeId → List V → List Obj → Loc → (List V → Loc → List Nat → Option R) → Option R
  | _, _, _, [], xs, _, l, k => match xs with
    | [] => k [] l []
    | _ :: _ => none
  | j, i, xo, t :: ts, xs, os, l, k => uncV xs fun x ys => need (!live (l (nsite d j))) <| take1 P m (nsite d j) i (xo.headD none) t x os l fun y i' os' l' ks => takeL P m d (j + 1) i' xo.tail ts ys os' l' fun ys' l2 ks2 => k (y :: ys') l2 (ks ++ ks2)
def takeK {R : Type} (P : Program) (m d : Nat) (xo : List (Option TypeId)) (ty : TypeId) (v : V) (os : List Obj) (l : Loc) (k : V → Loc → List Nat → Option R) : Option R :=
  match P.underlying ty with
  | some (.tuple ts) => rT v fun xs => takeL P m d 0 0 xo ts.toList xs os l fun ys l' ks => k (.tup ys) l' ks
  | _ => take1 P m d 0 (xo.headD none) ty v os l fun y _ _ l' ks => k y l' ks

def Lf.isO : Lf → Bool
  | .o => true
  | _ => false
/-- No references in values of this type. -/
def flatT (P : Program) (t : TypeId) : Bool :=
  match leaves P 20 t with
  | some ls => ls.all fun l => !l.isO
  | none => false
def flatR (P : Program) (t : TypeId) : Bool :=
  match P.underlying t with
  | some (.tuple ts) => ts.toList.all (flatT P)
  | _ => flatT P t

/-- Where no reference comes back, what was handed to be read may be written again. -/
def thaw (ss : List Nat) (b : Bool) (l l2 : Loc) : Loc :=
  match ss, b with
  | [], true => l
  | _, _ => l2

/-- A call. -/
def callK {R : Type} (cf : Cfg) (strict : Bool) (hd : List Nat) (xo : List (Option TypeId)) (f : FuncId) (args : List V) (ty : TypeId) (dst : Option Nat) (l : Loc) (k : V → Loc → List Nat → Option R) : Option R :=
  marsh cf.P strict hd args l [] fun ys l1 ss =>
    need (allOb l1 ss && noYl ys) <| (cf.call f ys (ss.map l1)).bind fun out =>
      backK cf.P ss out.objs l1 fun rest l2 =>
        match xo, strict, dst with
        | _ :: _, false, some d => takeK cf.P ss.length d xo ty out.r rest l2 k
        | _, _, _ => retK cf.P ty out.r fun v => k v (thaw ss (flatR cf.P ty) l l2) []

open Classical in
/-- Are two lists of values the same? -/
noncomputable def eqV (a b : List V) : Bool := decide (a = b)

/-- A call of yield. -/
noncomputable def yieldK {R : Type} (P : Program) (strict : Bool) (n : Nat) (args : List V) (l : Loc) (k : V → Loc → List Nat → Option R) : Option R :=
  match strict with
  | true => none
  | false => marsh P false [] args l [] fun ys l1 ss =>
    match ss, l1.log with
    | [], some lg => need (Nat.beq lg.l n && !lg.st) <|
      match lg.rest with
      | [] => none
      | x :: rest => need (eqV ys x) (k (B (lg.go lg.i)) ⟨l1.fn, some ⟨lg.l, lg.go, Nat.succ lg.i, rest, !(lg.go lg.i)⟩⟩ [])
    | _, _ => none

def foldMax {R : Type} (lt : Bool) : List V → IntKind → Int → (V → Option R) → Option R
  | [], kd, a, k => k (.c (.v (.int kd a)))
  | .c (.v (.int kd' b)) :: r, kd, a, k => bif decide (kd' = kd) then foldMax lt r kd (match lt with | true => if b < a then b else a | false => if b > a then b else a) k else none
  | _, _, _, _ => none

def sameOwn (s n : Nat) (P : Program) (t : TypeId) (o : Obj) : Option (Nat × List C) :=
  match o with
  | .ob t' fz cs => bif Nat.beq t' t && Nat.beq (n * szOf P t) cs.length then some (fz, cs) else none
  | .sb t' fz cs => bif Nat.beq t' t && Nat.beq (n * szOf P t) cs.length then some (fz, cs) else none
  | _ => none

/-- The cells that are appended. -/
def newsK {R : Type} (P : Program) (e : TypeId) (x : V) (l : Loc) (k : Nat → List C → Option R) : Option R :=
  match x with
  | .c c => asSl c fun m cs => need (Nat.beq (m * szOf P e) cs.length) (k m cs)
  | .own s off m => match objTC (l s) with
    | some (t, _, cs) => need (Nat.beq t e && Nat.ble (off + m * szOf P e) cs.length) (k m ((cs.drop off).take (m * szOf P e)))
    | none => none
  | _ => none

def appendK {R : Type} (cf : Cfg) (T : TypeId) (s x : V) (d : Nat) (l : Loc) (k : V → Loc → List Nat → Option R) : Option R :=
  match cf.P.underlying T with
  | some (.slice e) =>
    match cf.P.info? e, zeroCs cf.P e with
    | some i, some _ =>
      newsK cf.P e x l fun m news =>
        match s with
        | .c .nl => need (!Nat.beq i.size 0 && Nat.ble (m * i.bytes) 140737488355328 && Nat.ble m 140737488355328) <|
            k (.own d 0 m) ((l.kill d).put d (.sb e 0 news)) [d]
        | .own s' off n => match l s' with
          | .ob t' fz cs => need (Nat.beq t' e && Nat.beq off 0 && Nat.beq (n * i.size) cs.length && (!Nat.beq i.size 0) && Nat.ble ((n + m) * i.bytes) 140737488355328 && Nat.ble (n + m) 140737488355328) <|
              k (.own d 0 (n + m)) (((l.kill s').kill d).put d (.ob e fz (cs ++ news))) [s', d]
          | .sb t' fz cs => need (Nat.beq t' e && Nat.beq off 0 && Nat.beq (n * i.size) cs.length && (!Nat.beq i.size 0) && Nat.ble ((n + m) * i.bytes) 140737488355328 && Nat.ble (n + m) 140737488355328) <|
              k (.own d 0 (n + m)) (((l.kill s').kill d).put d (.sb e fz (cs ++ news))) [s', d]
          | _ => none
        | _ => none
    | _, _ => none
  | _ => none

def idxI (x : V) : Option Int := match x with | .c (.v (.int _ i)) => some i | _ => none

/-- append(nil, make(..)...) -/
def appMakeK {R : Type} (P : Program) (l : Loc) (k : V → Loc → List Nat → Option R) (T T' : TypeId) (s x : V) (d : Nat) : Option R :=
  match P.underlying T, P.underlying T', s, idxI x with
  | some (.slice e), some (.int _), .c .nl, some n =>
    match P.info? e, zeroCs P e with
    | some i, some zs => need (decide (0 < n) && decide ((i.bytes : Int) * n ≤ 140737488355328) && decide (n ≤ 140737488355328) && !Nat.beq i.size 0)
        (k (.own d 0 n.toNat) ((l.kill d).put d (.sb e 0 (reps n.toNat zs))) [d])
    | _, _ => none
  | _, _, _, _ => none

def fieldOf (P : Program) (T : TypeId) (f : Nat) : Option (Nat × TypeId) :=
  match P.underlying T with
  | some (.struct fs) => match fs.toList[f]? with
    | some fd => some (fd.offset, fd.type)
    | none => none
  | _ => none

/-- Bounds of a slice expression: what is asked, in Go's order. -/
def bound {R : Type} (x : Option V) (dflt : Nat) (y : Nat) (k : Nat → Option R) : Option R :=
  match x with
  | none => k dflt
  | some (.c c) => match c with
    | .v (.int _ i) => need (decide (0 ≤ i) && decide (i ≤ (y : Int))) (k i.toNat)
    | _ => none
  | some _ => none

/-- A part of a slice; of nil: nil. -/
def sliceC {R : Type} (sz : Nat) (lo hi : Option V) (c : C) (k : C → Option R) : Option R :=
  match c with
  | .nl => bound hi 0 0 fun h => bound lo 0 h fun _ => k .nl
  | .sl n cs => bound hi n n fun h => bound lo 0 h fun a => k (.sl (h - a) ((cs.drop (a * sz)).take ((h - a) * sz)))
  | _ => none

def inR (i : Int) (n : Nat) : Bool := decide (0 ≤ i) && decide (i < (n : Int))

def placeS (P : Program) (fs : Array Field) (i : Nat) : Option (Nat × Nat) :=
  match fs.toList[i]? with
  | some f => some (f.offset, szOf P f.type)
  | none => none

def oneV : V → Bool
  | .agg _ => false
  | _ => true

section ops
variable {R : Type} (P : Program) (l : Loc) (k : V → Loc → List Nat → Option R)

def pickK (c a b : V) : Option R :=
  match c with
  | .c (.v (.bool q)) => k (pickV q a b) l []
  | _ => none
def boxK (strict own : Bool) (t : TypeId) (d : Nat) (x : V) : Option R :=
  match own, strict with
  | true, false => pur P false x l fun cs l1 => need (Nat.beq cs.length (szOf P t)) (k (.ptr d 0) ((l1.kill d).put d (.ob t 0 cs)) [d])
  | true, true => none
  | false, _ => pur P strict x l fun cs l1 => k (.c (.cp cs)) l1 []
def buildK (strict : Bool) (t : TypeId) (is : List Nat) (xs : List V) : Option R :=
  match P.underlying t, zeroCs P t with
  | some (.struct fs), some zs => need (fs.toList.all fun f => (P.info? f.type).isSome) <|
    purL P strict xs l fun ps l1 =>
      fillK (placeS P fs) is ps zs fun cs => k (.agg cs) l1 []
  | some (.array _ el), some zs => need (P.info? el).isSome <|
    purL P strict xs l fun ps l1 =>
      fillK (fun i => some (i * szOf P el, szOf P el)) is ps zs fun cs => k (.agg cs) l1 []
  | _, _ => none
def buildSliceK (strict own : Bool) (t : TypeId) (n d : Nat) (is : List Nat) (xs : List V) : Option R :=
  match P.underlying t with
  | some (.slice el) => match zeroCs P el with
    | some zs =>
      purL P strict xs l fun ps l1 =>
        fillK (fun i => some (i * szOf P el, szOf P el)) is ps (reps n zs) fun cs =>
          need (Nat.ble (n * szOf P el) 16777216 && !Nat.beq (szOf P el) 0) <|
          match own, strict with
          | true, false => k (.own d 0 n) ((l1.kill d).put d (.sb el 0 cs)) [d]
          | true, true => none
          | false, _ => k (.c (.sl n cs)) l1 []
    | none => none
  | _ => none
def loadK (t : TypeId) (a : V) : Option R :=
  match a with
  | .c c => asP c fun cs => ldC P t cs fun v => k v l []
  | .ptr s off => match l s with
    | .ob _ _ cs => ldC P t (cs.drop off) fun v => k v l []
    | .sb _ _ cs => ldC P t (cs.drop off) fun v => k v l []
    | .rf _ x => need (Nat.beq off 0 && !aggB P t && (P.underlying t).isSome) (k x l [])
    | .dead => none
  | _ => none
def storeRf (t : TypeId) (s off : Nat) (t' : TypeId) (x : V) : Option R :=
  match x with
  | .own s' o' n' => need (Nat.beq off 0 && Nat.beq (szOf P t) 1 && (P.info? t).isSome && (objTC (l s')).isSome) (k .und (l.put s (.rf t' (.own s' o' n'))) [])
  | .c c => need (Nat.beq off 0 && Nat.beq (szOf P t) 1 && (P.info? t).isSome) (k .und (l.put s (.rf t' (.c c))) [])
  | _ => none
def storeOb (strict : Bool) (t : TypeId) (s off : Nat) (x : V) : Option R :=
  pur P strict x l fun xs l1 => match l1 s with
    | .ob t' fz cs => need (Nat.beq xs.length (szOf P t) && Nat.ble fz off && Nat.ble (off + xs.length) cs.length && (P.info? t).isSome) (k .und (l1.put s (.ob t' fz (putAt cs off xs))) [])
    | .sb t' fz cs => need (Nat.beq xs.length (szOf P t) && Nat.ble fz off && Nat.ble (off + xs.length) cs.length && (P.info? t).isSome) (k .und (l1.put s (.sb t' fz (putAt cs off xs))) [])
    | _ => none
def isOwn : V → Bool
  | .own _ _ _ => true
  | _ => false
def storeK (strict : Bool) (t : TypeId) (a x : V) : Option R :=
  match a with
  | .ptr s off => match l s with
    | .ob t' fz cs => bif isOwn x && Nat.beq cs.length 1 && Nat.beq fz 0 then storeRf P l k t s off t' x else storeOb P l k strict t s off x
    | .sb _ _ _ => storeOb P l k strict t s off x
    | .rf t' _ => storeRf P l k t s off t' x
    | .dead => none
  | _ => none
def nilK (x : V) : Option R :=
  match x with
  | .ptr s off => need (live (l s)) (k (.ptr s off) l [])
  | .c c => match c with
    | .cp cs => k (.c (.cp cs)) l []
    | .fn f cs => k (.c (.fn f cs)) l []
    | _ => none
  | _ => none
def makeSliceK (t : TypeId) (d : Nat) (n c : V) : Option R :=
  match P.underlying t, idxI n, idxI c with
  | some (.slice el), some a, some b => match P.info? el, zeroCs P el with
    | some i, some zs => need (decide (0 ≤ a) && decide (a ≤ b) && decide ((i.bytes : Int) * b ≤ 140737488355328) && decide (b ≤ 140737488355328) && !Nat.beq i.size 0)
        (k (.own d 0 a.toNat) ((l.kill d).put d (.sb el 0 (reps a.toNat zs))) [d])
    | _, _ => none
  | _, _, _ => none
def sliceK (t : TypeId) (x : V) (lo hi : Option V) : Option R :=
  match P.underlying t with
  | some .string => match x with
    | .c c => asS c fun s => bound hi s.size s.size fun h => bound lo 0 h fun a => k (.c (.v (.string (s.extract a h)))) l []
    | _ => none
  | some (.slice el) => match P.info? el with
    | some inf => match x with
      | .c c => sliceC inf.size lo hi c fun c' => k (.c c') l []
      | .own s off n => match objTC (l s) with
        | some (t', _, _) => need (Nat.beq t' el && !Nat.beq inf.size 0) <| bound hi n n fun h => bound lo 0 h fun a => k (.own s (off + a * inf.size) (h - a)) l []
        | none => none
      | _ => none
    | none => none
  | _ => none
def fieldAddrK (T : TypeId) (f : Nat) (x : V) : Option R :=
  match fieldOf P T f with
  | some (fo, ft) => need (!Nat.beq (szOf P ft) 0) <| match x with
    | .ptr s off => need (live (l s)) (k (.ptr s (off + fo)) l [])
    | .c c => asP c fun cs => k (.c (.cp (cs.drop fo))) l []
    | _ => none
  | none => none
def fieldK (T : TypeId) (f : Nat) (x : V) : Option R :=
  match fieldOf P T f, x with
  | some (fo, ft), .agg cs => ldC P ft (cs.drop fo) fun v => k v l []
  | _, _ => none
def indexAddrK (T : TypeId) (x i : V) : Option R :=
  match idxI i, P.underlying T with
  | some a, some (.slice el) => match P.info? el with
    | some inf => match x with
      | .c c => asSl c fun n cs => need (inR a n) (k (.c (.cp (cs.drop (a.toNat * inf.size)))) l [])
      | .own s off n => match objTC (l s) with
        | some _ => need (inR a n) (k (.ptr s (off + a.toNat * inf.size)) l [])
        | none => none
      | _ => none
    | none => none
  | some a, some (.array n el) => match P.info? el with
    | some inf => match x with
      | .ptr s off => need (live (l s) && inR a n) (k (.ptr s (off + a.toNat * inf.size)) l [])
      | .c c => asP c fun cs => need (inR a n) (k (.c (.cp (cs.drop (a.toNat * inf.size)))) l [])
      | _ => none
    | none => none
  | _, _ => none
def indexK (T : TypeId) (x i : V) : Option R :=
  match idxI i, P.underlying T with
  | some a, some (.array n el) => match P.info? el with
    | some inf => match x with
      | .agg cs => need (inR a n) (ldC P el (cs.drop (a.toNat * inf.size)) fun v => k v l [])
      | _ => none
    | none => none
  | some a, some .string => match x with
    | .c c => asS c fun s => need (inR a s.size) (k (.c (.v (.int .u8 ((s.data.getD a.toNat 0).toNat : Int)))) l [])
    | _ => none
  | _, _ => none
def capK (T : TypeId) (x : V) : Option R :=
  match x, P.underlying T with
  | .c .nl, some (.slice _) => k (I 0) l []
  | _, _ => none
def extractK (i : Nat) (x : V) : Option R :=
  match x with
  | .tup vs => match vs[i]? with
    | some v => k v l []
    | none => none
  | _ => none
def lenK (T : TypeId) (x : V) : Option R :=
  match x, P.underlying T with
  | .c c, some (.slice _) => asSl c fun n _ => k (I n) l []
  | .c c, some .string => asS c fun s => k (I s.size) l []
  | .own s _ n, some (.slice _) => match objTC (l s) with
    | some _ => k (I n) l []
    | none => none
  | _, some (.array n _) => k (I n) l []
  | _, _ => none
def makeFuncK (strict : Bool) (f : FuncId) (xs : List V) : Option R :=
  purL P strict xs l fun ps l1 => need (ps.all fun p => Nat.beq p.length 1) (k (.c (.fn f ps.flatten)) l1 [])
def maxK (lt : Bool) (xs : List V) : Option R :=
  match xs with
  | .c (.v (.int kd a)) :: r => foldMax lt r kd a fun v => k v l []
  | _ => none
end ops

/-- One operation: what it leaves in its slot, the objects behind it, and the sites whose slots are struck. -/
noncomputable def opK {R : Type} (cf : Cfg) (strict : Bool) (o : Oper) (e : Operand → V) (l : Loc) (k : V → Loc → List Nat → Option R) : Option R :=
  match o.op with
  | .move x => k (e x) l []
  | .assign x => k (e x) l []
  | .pick c a b => pickK l k (e c) (e a) (e b)
  | .alloc _ => match o.dst with
    | some d => k (.ptr d 0) l []
    | none => none
  | .box t x => match o.dst with
    | some d => boxK cf.P l k strict (cf.own d) t d (e x)
    | none => none
  | .build t parts => buildK cf.P l k strict t (parts.toList.map (·.1)) (parts.toList.map fun p => e p.2)
  | .buildSlice t n parts => match o.dst with
    | some d => buildSliceK cf.P l k strict (cf.own d) t n d (parts.toList.map (·.1)) (parts.toList.map fun p => e p.2)
    | none => none
  | .load t a => loadK cf.P l k t (e a)
  | .store t a x => storeK cf.P l k strict t (e a) (e x)
  | .nilCheck x => nilK l k (e x)
  | .binOp op t x y _ => binV cf.P op t (e x) (e y) fun v => k v l []
  | .unOp op _ x => unV op (e x) fun v => k v l []
  | .convert src dst x => convV cf.P src dst (e x) fun v => k v l []
  | .makeFunc fn first cap => match fn, first.toList with
    | .func f, [] => need ((cap.toList.map e).all oneV) (makeFuncK cf.P l k strict f (cap.toList.map e))
    | _, _ => none
  | .makeSlice t n c => match o.dst, strict with
    | some d, false => makeSliceK cf.P l k t d (e n) (e c)
    | _, _ => none
  | .slice t x lo hi mx => match mx with
    | some _ => none
    | none => sliceK cf.P l k t (e x) (lo.map e) (hi.map e)
  | .fieldAddr T x f => fieldAddrK cf.P l k T f (e x)
  | .field T x f => fieldK cf.P l k T f (e x)
  | .indexAddr T x i => indexAddrK cf.P l k T (e x) (e i)
  | .index T x i => indexK cf.P l k T (e x) (e i)
  | .extract x i => extractK l k i (e x)
  | .call c => match c.callee with
    | .builtin .len => match c.args.toList, c.argTypes.toList with
      | [x], [T] => lenK cf.P l k T (e x)
      | _, _ => none
    | .builtin .append => match strict, o.dst, c.args.toList, c.argTypes.toList with
      | false, some d, [s, x], [T, T'] => bif Nat.beq T T' then appendK cf T (e s) (e x) d l k else appMakeK cf.P l k T T' (e s) (e x) d
      | _, _, _, _ => none
    | .builtin .cap => match c.args.toList, c.argTypes.toList with
      | [x], [T] => capK cf.P l k T (e x)
      | _, _ => none
    | .builtin .max => maxK l k false (c.args.toList.map e)
    | .builtin .min => maxK l k true (c.args.toList.map e)
    | .builtin _ => none
    | .invoke _ _ => none
    | .value f => match f with
      | .func f => callK cf strict (cf.hand f) (cf.xo f) f (c.args.toList.map e) o.type o.dst l k
      | f => match e f with
        | .c c' => asYF c' (fun n => yieldK cf.P strict n (c.args.toList.map e) l k) fun f caps => callK cf strict [] [] f (c.args.toList.map e ++ caps.map .c) o.type o.dst l k
        | _ => none
  | _ => none

def St.after (σ : St) (d : Option Nat) (x : V) (l : Loc) (ks : List Nat) : St :=
  (⟨killAll ks σ.slots, l⟩ : St).put d x l

def okKs (ks : List Nat) : Bool := ks.all fun s => Nat.blt s OUT

/-- A region's operations, one by one; a guard that is not decided parts the way. -/
noncomputable def opsK {R : Type} (cf : Cfg) (strict : Bool) (dsts : Nat → Option Nat) : List Oper → St → (St → Option R) → Option R
  | [], σ, k => k σ
  | o :: r, σ, k =>
    match o.guard with
    | none => opK cf strict o σ.ev σ.loc fun x l ks => need (okKs ks) (opsK cf strict dsts r (σ.after o.dst x l ks) k)
    | some (j, want) =>
      match dsts j with
      | none => none
      | some d =>
        match σ.get d with
        | .c (.v (.bool q)) =>
          match want with
          | true => bif q then opK cf strict o (σ.put (some d) (B true) σ.loc).ev σ.loc fun x l ks => need (okKs ks) (opsK cf strict dsts r ((σ.put (some d) (B true) σ.loc).after o.dst x l ks) k)
              else opsK cf strict dsts r ((σ.put (some d) (B false) σ.loc).after o.dst .un σ.loc []) k
          | false => bif q then opsK cf strict dsts r ((σ.put (some d) (B true) σ.loc).after o.dst .un σ.loc []) k
              else opK cf strict o (σ.put (some d) (B false) σ.loc).ev σ.loc fun x l ks => need (okKs ks) (opsK cf strict dsts r ((σ.put (some d) (B false) σ.loc).after o.dst x l ks) k)
        | .un => opsK cf strict dsts r (σ.after o.dst .un σ.loc []) k
        | _ => none

/-- The objects of the variables that a region makes are there from its start. -/
def allocs (P : Program) : List Oper → St → Option St
  | [], σ => some σ
  | o :: r, σ =>
    match o.op, o.dst, o.guard with
    | .alloc t, some d, none =>
      match zeroCs P t with
      | some zs => need (Nat.blt d OUT) (allocs P r ⟨σ.slots.map (V.kill d), (σ.loc.kill d).put d (.ob t 0 zs)⟩)
      | none => none
    | .alloc _, _, _ => none
    | _, _, _ => allocs P r σ

def isAlloc (o : Oper) : Bool := match o.op with | .alloc _ => true | _ => false
def allocDst (o : Oper) : Option Nat := match isAlloc o with | true => o.dst | false => none
def allocDsts (ops : List Oper) : List Nat := ops.filterMap allocDst
/-- A variable's slot is written by nothing else. -/
def regOk (ops : List Oper) : Bool :=
  nodupB (allocDsts ops) && ops.all fun o => isAlloc o || match o.dst with | some d => !((allocDsts ops).any (Nat.beq d)) | none => true

def isWriter : Op → Bool
  | .store .. => true
  | _ => false
/-- What looks at no object. -/
def isQuiet : Op → Bool
  | .store .. | .load .. | .nilCheck .. | .slice .. | .fieldAddr .. | .indexAddr .. => false
  | .call c => match c.callee with | .builtin .len => false | _ => true
  | _ => true

/-- Whether the order of a region's operations is of no account but for what its edges fix: each operation's forerunners, as bits. -/
def ancOf (acc : List Nat) (o : Oper) : Nat :=
  o.after.toList.foldr (fun e s => bif Region.binds .any e then (2 ^ e.on ||| acc.getD e.on 0) ||| s else s) 0
def ancsGo : List Oper → List Nat → List Nat
  | [], acc => acc
  | o :: r, acc => ancsGo r (acc ++ [ancOf acc o])
def backOk : List Oper → Nat → Bool
  | [], _ => true
  | o :: r, j => o.after.toList.all (fun e => !Region.binds .any e || Nat.blt e.on j) && backOk r (j + 1)
def indep (ops : Array Oper) (a b : Oper) : Bool :=
  a.apart ops b && (isQuiet a.op || isQuiet b.op || (!isWriter a.op && !isWriter b.op))
def orderOk (ops : Array Oper) : Bool :=
  match ancsGo ops.toList [] with
  | an => backOk ops.toList 0 && (List.range ops.size).all fun j => (List.range j).all fun i => (an.getD j 0).testBit i || match ops[i]?, ops[j]? with
    | some a, some b => indep ops a b
    | _, _ => false

def firstRegion : Code → Nat
  | .region id _ _ => id
  | .seq a _ => firstRegion a
  | .block _ b => firstRegion b
  | .loop b => firstRegion b + 100000
  | .rangeFunc _ _ _ b => firstRegion b + 200000
  | .scope b => firstRegion b
  | _ => 0

/-- Rounds: 0: once more; n + 1: left by the exit number n. -/
def iter {A : Type} (body : A → Option (Nat × A)) : Nat → A → Option (Nat × A)
  | 0, _ => none
  | n + 1, x => (body x).bind fun p => match p.1 with
    | 0 => iter body n p.2
    | m + 1 => some (m, p.2)

/-- What a round or a piece hands on. -/
def leave {A : Type} (P : Program) (kp : Keeps) (n : Option Nat) (σ : St) (k : Nat → KTys kp.ks → Option A) : Option A :=
  match n with
  | some n => getAll P kp σ fun z => k n z
  | none => none

/-- The slots that a piece writes. -/
def writes : Code → List Nat
  | .region _ ops _ => ops.toList.filterMap (·.dst)
  | .seq a b => writes a ++ writes b
  | .cond _ a b => writes a ++ writes b
  | .block _ b => writes b
  | .loop b => writes b
  | .rangeFunc _ ps a b => ps.toList ++ (writes a ++ writes b)
  | _ => []

def loopK {R : Type} (P : Program) (fuel : Nat) (kp : Keeps) (ws : List Nat) (body : St → (Ex → St → Option (Nat × KTys kp.ks)) → Option (Nat × KTys kp.ks)) (σ : St) (k : Ex → St → Option R) : Option R :=
  frzs P kp.fz σ fun σ => getAll P kp σ fun x =>
    (iter (fun y => body (putKs P kp.ks y (σ.clean ws)) fun e σ' => leave P kp (exIdx (.normal :: kp.ex) e) σ' fun n z => some (n, z)) fuel x).bind fun p =>
      exDisp kp.ex p.1 fun e => k e (putKs P kp.ks p.2 (σ.clean ws))

def joinK {R : Type} (P : Program) (kp : Keeps) (ws : List Nat) (body : St → (Ex → St → Option (Nat × KTys kp.ks)) → Option (Nat × KTys kp.ks)) (σ : St) (k : Ex → St → Option R) : Option R :=
  frzs P kp.fz σ fun σ =>
    (body σ fun e σ' => leave P kp (exIdx kp.ex e) σ' fun n z => some (n, z)).bind fun p =>
      exDisp kp.ex p.1 fun e => k e (putKs P kp.ks p.2 (σ.clean ws))

/-- The rounds of a range over a function: 0: all items came; n + 1: left by the exit number n. -/
def overK {I A : Type} (body : I → A → Option (Nat × A)) : List I → A → Option (Nat × A)
  | [], x => some (0, x)
  | i :: r, x => (body i x).bind fun p => match p.1 with
    | 0 => overK body r p.2
    | m + 1 => some (m + 1, p.2)

def putPs : List Nat → List V → Sl → Sl
  | t :: ts, v :: vs, sl => putPs ts vs (sl.set t v)
  | _, _, sl => sl

/-- The slots of what is carried. -/
def Keep.slots : Keep → List Nat
  | .lf t _ => [t]
  | .ag t _ => [t]
  | .ao t => [t]
  | .ow t _ _ => [t]
  | .us t _ _ => [t]
  | .ob _ _ _ ts => ts.map (·.1)
  | .oo _ _ ts => ts.map (·.1)
  | .lg => []

def Keep.noLg : Keep → Bool
  | .lg => false
  | _ => true

def shape {R : Type} (s : Shp) (x : V) (k : V → Option R) : Option R :=
  match s with
  | .s l => rC x fun c => getLf l c fun c' => k (.c c')
  | .a ls => rA x fun cs => need (Nat.beq cs.length ls.length) (getLfs ls cs fun cs' => k (.agg cs'))
def shapeL {R : Type} : List Shp → List V → (List V → Option R) → Option R
  | [], xs, k => match xs with
    | [] => k []
    | _ :: _ => none
  | s :: ss, xs, k => uncV xs fun x r => shape s x fun v => shapeL ss r fun vs => k (v :: vs)

def rangeK {R : Type} (P : Program) (kp : Keeps) (ws ps : List Nat) (xs : List (List V)) (body : St → (Ex → St → Option (Nat × KTys kp.ks)) → Option (Nat × KTys kp.ks)) (σ : St) (k : Ex → St → Option R) : Option R :=
  frzs P kp.fz σ fun σ => getAll P kp σ fun x =>
    need (kp.ks.all fun q => q.noLg && q.slots.all fun t => !(ws.any (Nat.beq t))) <|
    (overK (fun it y => shapeL kp.sh it fun it => need (Nat.beq it.length ps.length) (body ⟨putPs ps it (putKs P kp.ks y (σ.clean ws)).slots, (putKs P kp.ks y (σ.clean ws)).loc⟩ fun e σ' => leave P kp (exIdx (.normal :: kp.ex) e) σ' fun n z => some (n, z))) xs x).bind fun p =>
      exDisp (.normal :: kp.ex) p.1 fun e => k e (putKs P kp.ks p.2 (σ.clean ws))

def joinOf (cf : Cfg) : Operand → Option Keeps
  | .tmp t => cf.join t
  | _ => none

/-- The code of a function. -/
noncomputable def codeK (cf : Cfg) : Code → {R : Type} → St → (Ex → St → Option R) → Option R
  | .skip, _, σ, k => k .normal σ
  | .region _ ops draw, _, σ, k =>
    match regOk ops.toList, allocs cf.P ops.toList σ with
    | false, _ => none
    | true, none => none
    | true, some σ1 =>
      match draw with
      | true => bif orderOk ops then opsK cf true (fun j => (ops[j]?).bind (·.dst)) ops.toList σ1 (k .normal) else none
      | false => opsK cf false (fun j => (ops[j]?).bind (·.dst)) ops.toList σ1 (k .normal)
  | .seq a b, _, σ, k => codeK cf a σ fun e σ' => match e with
    | .normal => codeK cf b σ' k
    | e => k e σ'
  | .cond c a b, _, σ, k =>
    match σ.ev c with
    | .c (.v (.bool q)) =>
      match joinOf cf c with
      | none => bif q then codeK cf a σ k else codeK cf b σ k
      | some kp => joinK cf.P kp (writes a ++ writes b) (fun σ k => bif q then codeK cf a σ k else codeK cf b σ k) σ k
    | _ => none
  | .block id b, _, σ, k => codeK cf b σ fun e σ' => match e with
    | .exit id' => match decide (id' = id) with
      | true => k .normal σ'
      | false => k (.exit id') σ'
    | e => k e σ'
  | .loop b, _, σ, k => loopK cf.P cf.fuel (cf.keep (firstRegion b)) (writes b) (fun σ k => codeK cf b σ k) σ k
  | .exit id, _, σ, k => k (.exit id) σ
  | .ret, _, σ, k => k .ret σ
  | .rangeFunc g ps a b, _, σ, k =>
    match cf.rnd, σ.ev g with
    | false, .c c => asFn c fun f caps => (cf.iter f caps).bind fun xs =>
      rangeK cf.P (cf.keep (firstRegion b)) (ps.toList ++ (writes a ++ writes b)) ps.toList xs
        (fun σ k => codeK { cf with rnd := true } a σ fun e σ' => match e with
          | .normal => codeK { cf with rnd := true } b σ' k
          | _ => none) σ k
    | _, _ => none
  | _, _, _, _ => none

/-! Functions. -/
/-- A new object that is handed out: where it lies, of what type, and how much of it, if it is a slice's. -/
abbrev NewO := Option Nat × TypeId × Option Nat
def outObj (l : Loc) : NewO → Obj
  | (none, te, _) => .sb te 0 []
  | (some s, te, some n) => match objTC (l s) with
    | some (_, _, cs) => .sb te 0 (cs.take n)
    | none => .dead
  | (some s, te, none) => match l s with
    | .ob _ _ cs => .ob te 0 cs
    | _ => .dead
def outOk1 (l : Loc) : NewO → Bool
  | (none, _, n) => match n with
    | some 0 => true
    | _ => false
  | (some s, te, some n) => match objTC (l s) with
    | some (t, fz, cs) => Nat.beq t te && Nat.beq fz 0 && Nat.ble n cs.length && Nat.blt s OUT
    | none => false
  | (some s, te, none) => match l s with
    | .ob t fz _ => Nat.beq t te && Nat.beq fz 0 && Nat.blt s OUT
    | _ => false
/-- What is handed out is there still, once each. -/
def outsOk (l : Loc) (os : List NewO) : Bool := nodupB (os.filterMap (·.1)) && os.all (outOk1 l)
/-- A slice that is handed out as a new object. -/
def outOwn {R : Type} (P : Program) (te m : Nat) (x : V) (l : Loc) (k : V → Loc → List NewO → Option R) : Option R :=
  match x with
  | .own s off n => need (Nat.beq off 0) (k (.own (OUT + m) 0 n) l [(some s, te, some (n * szOf P te))])
  | .c .nl => k (.own (OUT + m) 0 0) l [(none, te, some 0)]
  | _ => none
/-- One result; 'ex': a new object is handed out as such. -/
def resV {R : Type} (P : Program) (ex : Option TypeId) (m : Nat) (σ : St) (l : Loc) (r : ResultVar) (k : V → Loc → List NewO → Option R) : Option R :=
  match r with
  | .tmp t => match σ.get t with
    | .c c => match ex with
      | some te => outOwn P te m (.c c) l k
      | none => k (.c c) l []
    | .agg cs => k (.agg cs) l []
    | .own s off n => match ex with
      | some te => outOwn P te m (.own s off n) l k
      | none => pur P false (.own s off n) l fun cs l' => match cs with | [c] => k (.c c) l' [] | _ => none
    | .ptr s off => match ex with
      | some te => need (Nat.beq off 0) (k (.ptr (OUT + m) 0) l [(some s, te, none)])
      | none => pur P false (.ptr s off) l fun cs l' => match cs with | [c] => k (.c c) l' [] | _ => none
    | _ => none
  | .cell a t => match σ.get a with
    | .ptr s off => match l s with
      | .ob _ _ cs => match ex with
        | some _ => none
        | none => ldC P t (cs.drop off) fun v => k v l []
      | .rf _ (.own s' off' n') => need (Nat.beq off 0 && !aggB P t && (P.underlying t).isSome) (match ex with
        | some te => outOwn P te m (.own s' off' n') l k
        | none => pur P false (.own s' off' n') l fun cs l' => match cs with | [c] => k (.c c) l' [] | _ => none)
      | _ => none
    | _ => none
def resL {R : Type} (P : Program) (m : Nat) (σ : St) : List (Option TypeId) → Loc → List ResultVar → (List V → Loc → List NewO → Option R) → Option R
  | _, l, [], k => k [] l []
  | ex, l, r :: rs, k => resV P (ex.headD none) m σ l r fun v l1 os => resL P (m + os.length) σ ex.tail l1 rs fun vs l2 os2 => k (v :: vs) l2 (os ++ os2)

def outer (n : Nat) (l : Loc) : List Obj := (List.range n).map fun k => l (OUT + k)

def finish (cf : Cfg) (fn : Func) (m : Nat) (σ : St) : Option Out :=
  match fn.results.toList with
  | [r] => resV cf.P (cf.exp.headD none) m σ σ.loc r fun v l os => need (allOb l ((List.range m).map (OUT + ·)) && outsOk l os) (some ⟨v, outer m l ++ os.map (outObj l), l.log⟩)
  | rs => resL cf.P m σ cf.exp σ.loc rs fun vs l os => need (allOb l ((List.range m).map (OUT + ·)) && outsOk l os) (some ⟨.tup vs, outer m l ++ os.map (outObj l), l.log⟩)

def locOf (objs : List Obj) (lg : Option Log) : Loc := ⟨fun s => bif Nat.ble OUT s then (objs[s - OUT]?).getD .dead else .dead, lg⟩
/-- Where an iterator begins. -/
def log0 : List V → Option Log
  | .c (.yl l go xs) :: _ => some ⟨l, go, 0, xs, false⟩
  | _ => none

noncomputable def execFn (cf : Cfg) (fn : Func) (args : List V) (objs : List Obj) : Option Out :=
  match fn.body with
  | none => none
  | some c => need (Nat.ble args.length fn.ntmps && allOb (locOf objs (log0 args)) ((List.range objs.length).map (OUT + ·)) && !(fn.name == "runtime.NumGoroutine")) <|
    codeK cf c ⟨⟨fun t => args.getD t .un, fn.ntmps⟩, locOf objs (log0 args)⟩ fun e σ => match e with
      | .exit _ => none
      | _ => finish cf fn objs.length σ

/-- What is laid beside a function: which allocations are owned, what its loops and joins carry. -/
structure Laid where
  own : Nat → Bool := fun _ => false
  keep : Nat → Keeps := fun _ => default
  join : Nat → Option Keeps := fun _ => none
  exp : List (Option TypeId) := []
  hand : List Nat := []

/-- Functions whose contracts are proved by other means, and what iterators yield (at a depth of calls). -/
structure Prims where
  fn : FuncId → Option (List V → List Obj → Option Out)
  iter : Nat → FuncId → List C → Option (List (List V))

/-- A program's functions, to a depth of calls. -/
noncomputable def callN (P : Program) (prim : Prims) (laid : FuncId → Laid) (fu : Nat) : Nat → FuncId → List V → List Obj → Option Out
  | 0, _, _, _ => none
  | d + 1, f, args, objs =>
    match prim.fn f with
    | some g => g args objs
    | none => match P.funcs[f]? with
      | none => none
      | some fn => execFn { P := P, call := callN P prim laid fu d, iter := prim.iter d, rnd := false, fuel := fu, own := (laid f).own, keep := (laid f).keep, join := (laid f).join, exp := (laid f).exp, xo := fun f => (laid f).exp, hand := fun f => (laid f).hand } fn args objs

end Go.PM
