/- The pure machine: what it is for a value of the model, in a world, to read as a pure value; and what is kept when the world goes on. -/
import Derived.Test.YtepjbmlhfhahcaaPMa
import Derived.RangeFuncNested
import Derived.OrdersIn
import Derived.TacticsIn
import Derived.LoopNIn
import Derived.RangeFuncCalls
import Derived.RangeFuncLeaves
set_option linter.unusedVariables false
set_option linter.unusedSimpArgs false
namespace Go.PM
open Go

/-- A cell's value reads so; every cell that is looked at is one of 'Pr'. -/
inductive RC (w : World) (Pr : Nat → Nat → Prop) : C → Value → Prop
  | v {x : Value} (h : scal x = true) : RC w Pr (.v x) x
  | nl : RC w Pr .nl (.slice none 0 0)
  | sl0 {a : Option Addr} {cap : Nat} (hc : cap ≤ maxLen) : RC w Pr (.sl 0 []) (.slice a 0 cap)
  | sl {n : Nat} {cs : List C} {g o cap : Nat} {us : Nat → Value} (hn : n ≤ cap) (hc : cap ≤ maxLen)
      (h1 : ∀ (j : Nat) (c : C), cs[j]? = some c → w.cell? ⟨g, o + j, none⟩ = some (us j) ∧ Pr g (o + j)) (h2 : ∀ (j : Nat) (c : C), cs[j]? = some c → RC w Pr c (us j)) :
      RC w Pr (.sl n cs) (.slice (some ⟨g, o, none⟩) n cap)
  | cp0 {a : Addr} : RC w Pr (.cp []) (.pointer (some a))
  | cp {cs : List C} {g o : Nat} {us : Nat → Value}
      (h1 : ∀ (j : Nat) (c : C), cs[j]? = some c → w.cell? ⟨g, o + j, none⟩ = some (us j) ∧ Pr g (o + j)) (h2 : ∀ (j : Nat) (c : C), cs[j]? = some c → RC w Pr c (us j)) :
      RC w Pr (.cp cs) (.pointer (some ⟨g, o, none⟩))
  | fn {f : FuncId} {caps : List C} {us : List Value} (hs : us.length = caps.length) (h : ∀ (j : Nat) (c : C) (u : Value), caps[j]? = some c → us[j]? = some u → RC w Pr c u) :
      RC w Pr (.fn f caps) (.func (.func f) #[] us.toArray)
  | yl {n : Nat} {go : Nat → Bool} {xs : List (List V)} : RC w Pr (.yl n go xs) (.func (.yield n) #[] #[])

/-- Cells, one by one. -/
def RCs (w : World) (Pr : Nat → Nat → Prop) (cs : List C) (us : List Value) : Prop :=
  us.length = cs.length ∧ ∀ (j : Nat) (c : C) (u : Value), cs[j]? = some c → us[j]? = some u → RC w Pr c u

theorem scal_one {x : Value} (h : scal x = true) : x.oneCell' = true := by cases x <;> simp_all [scal, Value.oneCell']

theorem RC.one {w : World} {Pr : Nat → Nat → Prop} {c : C} {u : Value} (h : RC w Pr c u) : u.oneCell' = true := by
  cases h with
  | v h => exact scal_one h
  | _ => rfl

theorem cells_one {u : Value} (h : u.oneCell' = true) : u.cells = #[u] := by cases u <;> simp_all [Value.cells, Value.oneCell']

/-- The world goes on, the cells of 'Pr' as they were. -/
def Held (w : World) (Pr : Nat → Nat → Prop) (w' : World) (Pr' : Nat → Nat → Prop) : Prop :=
  ∀ b k, Pr b k → Pr' b k ∧ w'.cell? ⟨b, k, none⟩ = w.cell? ⟨b, k, none⟩

theorem Held.refl (w : World) (Pr : Nat → Nat → Prop) : Held w Pr w Pr := fun _ _ h => ⟨h, rfl⟩
theorem Held.trans {w w1 w2 : World} {Pr Pr1 Pr2 : Nat → Nat → Prop} (h : Held w Pr w1 Pr1) (h' : Held w1 Pr1 w2 Pr2) : Held w Pr w2 Pr2 :=
  fun b k hp => ⟨(h' b k (h b k hp).1).1, (h' b k (h b k hp).1).2.trans (h b k hp).2⟩

theorem RC.held {w w' : World} {Pr Pr' : Nat → Nat → Prop} (hx : Held w Pr w' Pr') {c : C} {u : Value} (h : RC w Pr c u) : RC w' Pr' c u := by
  induction h with
  | v h => exact .v h
  | nl => exact .nl
  | sl0 hc => exact .sl0 hc
  | sl hn hc h1 _ ih => exact .sl hn hc (fun j c hj => ⟨(hx _ _ (h1 j c hj).2).2.trans (h1 j c hj).1, (hx _ _ (h1 j c hj).2).1⟩) ih
  | cp0 => exact .cp0
  | cp h1 _ ih => exact .cp (fun j c hj => ⟨(hx _ _ (h1 j c hj).2).2.trans (h1 j c hj).1, (hx _ _ (h1 j c hj).2).1⟩) ih
  | yl => exact .yl
  | fn hs _ ih => exact .fn hs ih

theorem RCs.held {w w' : World} {Pr Pr' : Nat → Nat → Prop} (hx : Held w Pr w' Pr') {cs : List C} {us : List Value} (h : RCs w Pr cs us) : RCs w' Pr' cs us :=
  ⟨h.1, fun j c u hc hu => (h.2 j c u hc hu).held hx⟩

section lists
variable {w : World} {Pr : Nat → Nat → Prop}

theorem RCs.nil : RCs w Pr [] [] := ⟨rfl, by simp⟩
theorem RCs.cons {c : C} {u : Value} {cs : List C} {us : List Value} (h : RC w Pr c u) (hs : RCs w Pr cs us) : RCs w Pr (c :: cs) (u :: us) :=
  ⟨by simp [hs.1], fun j c' u' hc hu => by
    cases j with
    | zero => simp at hc hu; subst hc hu; exact h
    | succ j => simp at hc hu; exact hs.2 j _ _ hc hu⟩
theorem RCs.uncons {c : C} {cs : List C} {us : List Value} (h : RCs w Pr (c :: cs) us) : ∃ u us', us = u :: us' ∧ RC w Pr c u ∧ RCs w Pr cs us' := by
  cases us with
  | nil => have := h.1; simp at this
  | cons u us =>
    exact ⟨u, us, rfl, h.2 0 c u rfl rfl, by have := h.1; simpa using this, fun j c' u' hc hu => h.2 (j + 1) c' u' (by simpa using hc) (by simpa using hu)⟩
theorem RCs.one {c : C} {u : Value} (h : RC w Pr c u) : RCs w Pr [c] [u] := .cons h .nil
theorem RCs.append {a b : List C} {x y : List Value} (h : RCs w Pr a x) (h' : RCs w Pr b y) : RCs w Pr (a ++ b) (x ++ y) := by
  induction a generalizing x with
  | nil => have := h.1; cases x <;> simp_all
  | cons c cs ih =>
    obtain ⟨u, us, rfl, h1, h2⟩ := h.uncons
    exact .cons h1 (ih h2)
theorem RCs.take {cs : List C} {us : List Value} (h : RCs w Pr cs us) (n : Nat) : RCs w Pr (cs.take n) (us.take n) :=
  ⟨by simp [h.1], fun j c u hc hu => by
    rw [List.getElem?_take] at hc hu
    split at hc <;> simp_all
    exact h.2 j c u hc hu⟩
theorem RCs.drop {cs : List C} {us : List Value} (h : RCs w Pr cs us) (n : Nat) : RCs w Pr (cs.drop n) (us.drop n) :=
  ⟨by simp [h.1], fun j c u hc hu => by
    rw [List.getElem?_drop] at hc hu
    exact h.2 _ c u hc hu⟩
theorem RCs.ones {cs : List C} {us : List Value} (h : RCs w Pr cs us) : ∀ u ∈ us, u.oneCell' = true := by
  intro u hu
  obtain ⟨j, hj, rfl⟩ := List.mem_iff_getElem.1 hu
  have hj' : j < cs.length := by rw [← h.1]; exact hj
  exact (h.2 j cs[j] us[j] (List.getElem?_eq_getElem hj') (List.getElem?_eq_getElem hj)).one
theorem RCs.putAt {cs xs : List C} {us ys : List Value} (h : RCs w Pr cs us) (h' : RCs w Pr xs ys) (off : Nat) :
    RCs w Pr (PM.putAt cs off xs) (us.take off ++ ys ++ us.drop (off + ys.length)) := by
  unfold PM.putAt
  rw [h'.1]
  exact ((h.take off).append h').append (h.drop _)
end lists

/-- The world, where each site's block lies, how large it is, and what may no longer be written. -/
structure Env where
  w : World
  rho : Nat → Option Nat
  bs : Nat → Nat
  Pr : Nat → Nat → Prop
  /-- blocks of others: they change in a yield alone -/
  Y : Nat → Prop
  /-- the blocks for the rounds' deferred calls -/
  D : List Nat

variable (P : Program)

/-- A block and its size. -/
def ghv (g n : Nat) : Value := .tuple #[.int .i64 g, .int .i64 n]

inductive RV (E : Env) (l : Loc) : V → Value → Prop
  | c {c : C} {u : Value} (h : RC E.w E.Pr c u) : RV E l (.c c) u
  | agg {cs : List C} {us : List Value} (h : RCs E.w E.Pr cs us) : RV E l (.agg cs) (.agg us.toArray)
  | tup {vs : List V} {us : List Value} (hs : us.length = vs.length) (h : ∀ (j : Nat) (x : V) (u : Value), vs[j]? = some x → us[j]? = some u → RV E l x u) : RV E l (.tup vs) (.tuple us.toArray)
  | ptrDead {s off : Nat} {u : Value} (h : l s = .dead) : RV E l (.ptr s off) u
  | ptr {s off g : Nat} (h : E.rho s = some g) : RV E l (.ptr s off) (.pointer (some ⟨g, off, none⟩))
  | ownDead {s off n : Nat} {u : Value} (h : l s = .dead) : RV E l (.own s off n) u
  | ownNil {s : Nat} {t : TypeId} {fz : Nat} (h : E.rho s = none) (hl : l s = .sb t fz []) : RV E l (.own s 0 0) (.slice none 0 0)
  | own {s off n g cap : Nat} {t : TypeId} {fz : Nat} {cs : List C} (h : E.rho s = some g) (hl : objTC (l s) = some (t, fz, cs)) (hn : n ≤ cap) (hc : cap ≤ maxLen)
      (hs : off + cap * szOf P t = E.bs s) : RV E l (.own s off n) (.slice (some ⟨g, off, none⟩) n cap)
  | own0 {s off g o' : Nat} {t : TypeId} {fz : Nat} {cs : List C} (h : E.rho s = some g) (hl : objTC (l s) = some (t, fz, cs)) (ho : off ≠ 0) : RV E l (.own s off 0) (.slice (some ⟨g, o', none⟩) 0 0)
  | ownRf {s off n : Nat} {u : Value} {t : TypeId} {y : V} (h : l s = .rf t y) : RV E l (.own s off n) u
  | ghDead {s : Nat} {u : Value} (h : l s = .dead) : RV E l (.gh s) u
  | gh {s g n : Nat} (h : E.rho s = some g) (hb : E.bs s = n) : RV E l (.gh s) (ghv g n)
  | un : RV E l .un undef
  | und {u : Value} : RV E l .und u

/-- A block whose first cells read so. -/
def Blk (E : Env) (s g : Nat) (t : TypeId) (cs : List C) : Prop :=
  ∃ cur : Array Value, E.w.heap[g]? = some (.cells cur t (0, 0)) ∧ cur.size = E.bs s ∧ cs.length ≤ cur.size ∧ RCs E.w E.Pr cs (cur.toList.take cs.length)

inductive ObjOk (E : Env) (l : Loc) (s : Nat) : Obj → Prop
  | dead (h : E.rho s = none) : ObjOk E l s .dead
  | ob {t : TypeId} {fz : Nat} {cs : List C} {g : Nat} (h : E.rho s = some g) (hb : Blk E s g t cs) (hf : fz ≤ cs.length) : ObjOk E l s (.ob t fz cs)
  | sbNil {t : TypeId} (h : E.rho s = none) : ObjOk E l s (.sb t 0 [])
  | sb {t : TypeId} {fz : Nat} {cs : List C} {g : Nat} (h : E.rho s = some g) (hb : Blk E s g t cs) (hf : fz ≤ cs.length) : ObjOk E l s (.sb t fz cs)
  | rf {t : TypeId} {x : V} {g : Nat} {cur : Array Value} {u : Value} (h : E.rho s = some g) (hg : E.w.heap[g]? = some (.cells cur t (0, 0))) (h0 : cur[0]? = some u) (hx : RV P E l x u) (h1 : u.oneCell' = true) (hb : E.bs s = cur.size) :
      ObjOk E l s (.rf t x)

def Obj.fz : Obj → Nat
  | .ob _ fz _ => fz
  | .sb _ fz _ => fz
  | _ => 0

/-- A yielded value. -/
inductive RI (w : World) (Pr : Nat → Nat → Prop) : V → Value → Prop
  | c {c : C} {u : Value} (h : RC w Pr c u) : RI w Pr (.c c) u
  | agg {cs : List C} {us : List Value} (h : RCs w Pr cs us) : RI w Pr (.agg cs) (.agg us.toArray)

/-- What the surroundings hold, beside what has been yielded. -/
structure JT where
  J : (Nat → Prop) → (Nat → Nat → Prop) → Option Log → World → Prop
  stab : ∀ {Y : Nat → Prop} {Pr Pr' : Nat → Nat → Prop} {lg : Option Log} {w w' : World}, J Y Pr lg w → (∀ b, Y b → w'.heap[b]? = w.heap[b]?) → Held w Pr w' Pr' → (∀ b k, Pr' b k → Pr b k ∨ ¬ Y b) →
    w.heap.size ≤ w'.heap.size → w'.os = w.os → w'.tape = w.tape → w'.output = w.output → J Y Pr' lg w'
  weak : ∀ {Y : Nat → Prop} {Pr : Nat → Nat → Prop} {lg : Option Log} {w : World}, J Y Pr lg w → J Y Pr none w

/-- What a yield does. -/
def YPost (j : JT) (Y : Nat → Prop) (Pr : Nat → Nat → Prop) (lg : Log) (rest : List (List V)) (w : World) (e : Ending) (w' : World) : Prop :=
  e = .returned (.bool (lg.go lg.i)) ∧ ∃ Y' : Nat → Prop, (∀ b, Y b → Y' b) ∧ (∀ b, Y' b → Y b ∨ w.heap.size ≤ b) ∧ (∀ b, Y' b → b < w'.heap.size) ∧ Held w Pr w' Pr ∧
    j.J Y' Pr (some ⟨lg.l, lg.go, Nat.succ lg.i, rest, !(lg.go lg.i)⟩) w' ∧ (∀ b, b < w.heap.size → ¬ Y b → w'.heap[b]? = w.heap[b]?) ∧ w.heap.size ≤ w'.heap.size ∧ w'.os = w.os ∧ w'.tape = w.tape ∧ w'.output = w.output

def YOk (P : Program) (j : JT) : Prop :=
  ∀ (Y : Nat → Prop) (Pr : Nat → Nat → Prop) (lg : Log) (w : World) (it : List V) (rest : List (List V)) (us : List Value), j.J Y Pr (some lg) w → lg.st = false → lg.rest = it :: rest → us.length = it.length →
    (∀ (i : Nat) (x : V) (u : Value), it[i]? = some x → us[i]? = some u → RI w Pr x u) → (∀ b k, Pr b k → b < w.heap.size) → (∀ b, Y b → b < w.heap.size) →
    YieldAt Fence.wide 0 P lg.l us.toArray w (YPost j Y Pr lg rest w)

/-- Where a call began: its world, what was not to be written, the blocks that were handed over. -/
structure Fr where
  /-- of which type the variables are that a region is yet to make -/
  pt : Nat → TypeId
  w0 : World
  Pr0 : Nat → Nat → Prop
  M : Nat → Prop
  /-- slots that stay as they are -/
  tm : Nat → Option Value
  /-- how many slots there are -/
  n : Nat
  /-- the blocks that were handed over -/
  outs : Nat → Option (Nat × Nat)
  jt : JT
  /-- no range over a function here -/
  dfix : Bool

def markOf (r : Nat) : Deferred := { target := .collected r, args := #[] }

structure Good (A : Fr) (E : Env) (l : Loc) (pend : Nat → Prop) : Prop where
  obj : ∀ s, ¬ pend s → ObjOk P E l s (l s)
  pnd : ∀ s, pend s → E.rho s = none ∧ ∃ cs, zeroCs P (A.pt s) = some cs ∧ l s = .ob (A.pt s) 0 cs
  inj : ∀ s s' g, E.rho s = some g → E.rho s' = some g → s = s'
  base : ∀ s g, E.rho s = some g → A.w0.heap.size ≤ g ∨ A.M g
  prot : ∀ b k, E.Pr b k → b < E.w.heap.size ∧ ∀ s, E.rho s = some b → k < (l s).fz
  jf : A.jt.J E.Y E.Pr l.log E.w
  pr0 : Held A.w0 A.Pr0 E.w E.Pr
  prN : ∀ b k, E.Pr b k → A.Pr0 b k ∨ A.w0.heap.size ≤ b ∨ A.M b
  size : A.w0.heap.size ≤ E.w.heap.size
  os : E.w.os = A.w0.os
  tape : E.w.tape = A.w0.tape
  output : E.w.output = A.w0.output
  yok : YOk P A.jt
  yown : ∀ s g, E.rho s = some g → ¬ E.Y g
  ylt : ∀ b, E.Y b → b < E.w.heap.size
  dm : ∀ r, r ∈ E.D → E.w.heap[r]? = some (.deferred (some [])) ∧ ¬ E.Y r

variable {P} in
/-- A block for deferred calls is no site's. -/
theorem Good.dmno {A : Fr} {E : Env} {l : Loc} {pend : Nat → Prop} (h : Good P A E l pend) {r : Nat} (hr : r ∈ E.D) (s : Nat) : E.rho s ≠ some r := by
  intro e
  have h1 := (h.dm r hr).1
  by_cases hp : pend s
  · rw [(h.pnd s hp).1] at e; cases e
  · have h0 := h.obj s hp
    generalize l s = o at h0
    cases h0 with
    | dead h => rw [h] at e; cases e
    | ob h hb _ => rw [h] at e; cases e; obtain ⟨cur, h2, _⟩ := hb; rw [h1] at h2; cases h2
    | sbNil h => rw [h] at e; cases e
    | sb h hb _ => rw [h] at e; cases e; obtain ⟨cur, h2, _⟩ := hb; rw [h1] at h2; cases h2
    | rf h hg _ _ _ _ => rw [h] at e; cases e; rw [h1] at hg; cases hg

variable {P} in
theorem Good.jstep {A : Fr} {E E' : Env} {l l' : Loc} {pend : Nat → Prop} (h : Good P A E l pend) (hY : E'.Y = E.Y) (hlog : l'.log = l.log) (hx : Held E.w E.Pr E'.w E'.Pr) (hpr : ∀ b k, E'.Pr b k → E.Pr b k ∨ ¬ E.Y b)
    (hb : ∀ b, E.Y b → E'.w.heap[b]? = E.w.heap[b]?) (hs : E.w.heap.size ≤ E'.w.heap.size) (ho : E'.w.os = E.w.os) (ht : E'.w.tape = E.w.tape) (hu : E'.w.output = E.w.output) : A.jt.J E'.Y E'.Pr l'.log E'.w := by
  rw [hY, hlog]; exact A.jt.stab h.jf hb hx hpr hs ho ht hu

structure Rel (A : Fr) (E : Env) (σ : St) (pend : Nat → Prop) (a : Act) : Prop where
  good : Good P A E σ.loc pend
  slots : ∀ t, t < σ.slots.length → RV P E σ.loc (σ.get t) (a.tmps.getD t undef)
  size : a.tmps.size = σ.slots.length
  defers : a.defers = E.D.map markOf ∧ (A.dfix = true → E.D = []) ∧ E.D.Nodup
  tm : ∀ t u, A.tm t = some u → a.tmps.getD t undef = u
  len : σ.slots.length = A.n
  outs : ∀ k g n, A.outs k = some (g, n) → RV P E σ.loc (.gh (OUT + k)) (ghv g n)

theorem Loc.eq {l l' : Loc} (h : ∀ s, l s = l' s) (hl : l.log = l'.log) : l = l' := by
  cases l; cases l'
  simp only [Loc.mk.injEq]
  exact ⟨funext h, hl⟩
theorem Sl.get_eq (l : Sl) (t : Nat) : l.get t = if t < l.length then l.fn t else .und := by
  unfold Sl.get
  cases h : Nat.blt t l.length
  · rw [if_neg (fun e => by have h2 : Nat.blt t l.length = true := Nat.blt_eq.mpr e; rw [h] at h2; cases h2)]; rfl
  · rw [if_pos (Nat.blt_eq.mp h)]; rfl
theorem Sl.get_lt {l : Sl} {t : Nat} (h : t < l.length) : l.get t = l.fn t := by rw [Sl.get_eq, if_pos h]
theorem Sl.get_ge {l : Sl} {t : Nat} (h : ¬ t < l.length) : l.get t = .und := by rw [Sl.get_eq, if_neg h]
@[simp] theorem Sl.set_length (l : Sl) (t : Nat) (x : V) : (l.set t x).length = l.length := rfl
@[simp] theorem Sl.map_length (l : Sl) (g : V → V) : (l.map g).length = l.length := rfl
theorem Sl.set_self {l : Sl} {t : Nat} {x : V} (h : t < l.length) : (l.set t x).get t = x := by
  rw [Sl.get_lt (by simpa using h)]; simp [Sl.set]
theorem Sl.set_ne {l : Sl} {t t' : Nat} {x : V} (h : t ≠ t') : (l.set t x).get t' = l.get t' := by
  have e : Nat.beq t' t = false := by
    cases e : Nat.beq t' t
    · rfl
    · exact absurd (Nat.eq_of_beq_eq_true e).symm h
  rw [Sl.get_eq, Sl.get_eq]; simp [Sl.set, e]
theorem Sl.map_lt {l : Sl} {t : Nat} {g : V → V} (h : t < l.length) : (l.map g).get t = g (l.get t) := by
  rw [Sl.get_lt (by simpa using h), Sl.get_lt h]; rfl
theorem Sl.set_cases {l : Sl} {t t' : Nat} {x y : V} (hl : t' < l.length) (h : (l.set t x).get t' = y) : y = x ∨ l.get t' = y := by
  by_cases e : t = t'
  · subst e; rw [Sl.set_self hl] at h; exact .inl h.symm
  · rw [Sl.set_ne e] at h; exact .inr h
theorem Sl.set_comm (l : Sl) {d e : Nat} (x y : V) (h : d ≠ e) : (l.set d x).set e y = (l.set e y).set d x := by
  simp only [Sl.set]
  congr 1
  funext t
  cases h1 : Nat.beq t e
  · rfl
  · cases h2 : Nat.beq t d
    · rfl
    · exact absurd ((Nat.eq_of_beq_eq_true h2).symm.trans (Nat.eq_of_beq_eq_true h1)) h

end Go.PM
