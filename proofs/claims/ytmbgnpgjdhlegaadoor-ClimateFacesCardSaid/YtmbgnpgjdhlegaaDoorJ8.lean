/- Parts put together: W, Ga, Gb, Gc, Gd, Ya, Yb, Yc, H, Yd, Ye, Mg, Yf, Yg, Yh, Yi, Yj, Yk, Yr. -/
import Derived.Test.YtmbgnpgjdhlegaaDoorJ6
import Derived.Test.YtmbgnpgjdhlegaaDoorEq
import Derived.Test.YtmbgnpgjdhlegaaDoorPrim
set_option linter.defProp false
set_option linter.unusedSimpArgs false
set_option linter.unusedVariables false
/- Rules whose conditions simp can have shown by omega; lists of records as cells. -/
namespace Go.PM
open Go
theorem wrap_in {x : Int} (h1 : -9223372036854775808 <= x) (h2 : x <= 9223372036854775807) : IntKind.i64.wrap x = x := IntWalk.i64_in x ⟨by omega, by omega⟩
theorem dlt_t {a b : Int} (h : a < b) : decide (a < b) = true := decide_eq_true h
theorem dlt_f {a b : Int} (h : b <= a) : decide (a < b) = false := decide_eq_false (by omega)
theorem dle_t {a b : Int} (h : a <= b) : decide (a <= b) = true := decide_eq_true h
theorem dle_f {a b : Int} (h : b < a) : decide (a <= b) = false := decide_eq_false (by omega)
theorem dgt_t {a b : Int} (h : b < a) : decide (a > b) = true := decide_eq_true h
theorem dgt_f {a b : Int} (h : a <= b) : decide (a > b) = false := decide_eq_false (by omega)
theorem dge_t {a b : Int} (h : b <= a) : decide (a ≥ b) = true := decide_eq_true h
theorem dge_f {a b : Int} (h : a < b) : decide (a ≥ b) = false := decide_eq_false (by omega)
theorem ibeq_t {a b : Int} (h : a = b) : (a == b) = true := beq_iff_eq.2 h
theorem ibeq_f {a b : Int} (h : a ≠ b) : (a == b) = false := beq_eq_false_iff_ne.2 h
theorem ibne_t {a b : Int} (h : a ≠ b) : (a != b) = true := bne_iff_ne.2 h
theorem ibne_f {a b : Int} (h : a = b) : (a != b) = false := by subst h; simp
def fl {A : Type} (e : A -> List C) (l : List A) : List C := l.flatMap e
section
variable {A : Type} {e : A -> List C} {m : Nat}
@[simp] theorem fl_nil : fl e [] = [] := rfl
theorem fl_cons (x : A) (l : List A) : fl e (x :: l) = e x ++ fl e l := by simp [fl]
theorem fl_append (l l' : List A) : fl e (l ++ l') = fl e l ++ fl e l' := by simp [fl]
theorem fl_snoc (l : List A) (x : A) : fl e l ++ e x = fl e (l ++ [x]) := by simp [fl]
theorem fl_length (h : ∀ x, (e x).length = m) : ∀ l : List A, (fl e l).length = l.length * m
 | [] => by simp [fl]
 | x :: l => by rw [fl_cons, List.length_append, h, fl_length h l, List.length_cons, Nat.succ_mul]; omega
theorem fl_drop (h : ∀ x, (e x).length = m) : ∀ (k : Nat) (l : List A), (fl e l).drop (k * m) = fl e (l.drop k)
 | 0, l => by simp
 | k + 1, [] => by simp [fl]
 | k + 1, x :: l => by
  rw [fl_cons, Nat.succ_mul, Nat.add_comm, List.drop_append]
  rw [show (e x).drop (m + k * m) = [] from List.drop_eq_nil_of_le (by rw [h]; omega), h, Nat.add_sub_cancel_left, List.nil_append, fl_drop h k l]
  rfl
theorem fl_at (h : ∀ x, (e x).length = m) {k : Nat} {l : List A} (hk : k < l.length) : (fl e l).drop (k * m) = e l[k] ++ fl e (l.drop (k + 1)) := by
 rw [fl_drop h, List.drop_eq_getElem_cons hk, fl_cons]
end
theorem first_or_none (P : Nat -> Prop) [DecidablePred P] (n : Nat) : (∀ j, j < n -> ¬ P j) \/ ∃ k, k < n /\ P k /\ ∀ j, j < k -> ¬ P j := by
 induction n with
 | zero => left; intro j hj; omega
 | succ n ih =>
  rcases ih with ih | ⟨k, h1, h2, h3⟩
  ·by_cases h : P n
   ·exact .inr ⟨n, by omega, h, ih⟩
   ·left; intro j hj; by_cases e : j = n
    ·subst e; exact h
    ·exact ih j (by omega)
  ·exact .inr ⟨k, by omega, h2, h3⟩
theorem iter_runx {A : Type} {body : A -> Option (Nat × A)} {x : A} {fu : Nat} (f : Nat -> A) (e : Nat) (z : A) (k : Nat) (hx : x = f 0) (h : ∀ j, j < k -> body (f j) = some (0, f (j + 1))) (he : body (f k) = some (e + 1, z)) (hf : k < fu) : iter body fu x = some (e, z) := by
 rw [hx]; exact iter_run f e z k 0 fu (fun j _ hj => h j (by omega)) (by rw [Nat.zero_add]; exact he) hf
theorem iter_measx {A : Type} {body : A -> Option (Nat × A)} {x : A} {fu : Nat} (J : A -> Prop) (m : A -> Nat) (e : Nat) (z : A) (hx : J x) (hm : m x < fu) (h : ∀ y, J y -> (∃ y', body y = some (0, y') /\ J y' /\ m y' < m y) \/ body y = some (e + 1, z)) : iter body fu x = some (e, z) := by
 obtain ⟨e', z', h1, h2, h3⟩ := iter_meas (body := body) J m (fun e' z' => e' = e /\ z' = z) (fun y hy => (h y hy).imp id fun hh => ⟨e, z, hh, rfl, rfl⟩) fu x hx hm
 rw [h1, h2, h3]
theorem iter_s {A : Type} (body : A -> Option (Nat × A)) (n : Nat) (x : A) : iter body (n + 1) x = (body x).bind fun p => natD p.1 (iter body n p.2) fun m => some (m, p.2) := by
 simp only [iter]
 congr 1
def QM := And.intro @obs (And.intro @rC_c (And.intro @rA_agg (And.intro @rT_tup (And.intro @rP_ptr (And.intro @rW_own (And.intro @rS_sb (And.intro @rF_sb (And.intro @uncV_cons (And.intro @uncO_cons (And.intro @nilV_nil (And.intro @rO_ob (And.intro @rN_ob (And.intro @unc_cons (And.intro @asI_int (And.intro @asB_bool (And.intro @asS_string (And.intro @asSl_sl (And.intro @asSl_nl (And.intro @asFn_fn (And.intro @asP_cp (And.intro @nrm_sl (And.intro @nrm_nl (And.intro @need_true (And.intro @ct (And.intro @cf (And.intro @bd_eq (And.intro @natD_zero (And.intro @natD_succ (And.intro @natD_one (And.intro @noYl_v (And.intro @noYl_sl (And.intro @noYl_nl (And.intro @noYl_cp (And.intro @noYl_fn (And.intro @Bool.and_true (And.intro @Bool.true_and (And.intro @Bool.and_self (And.intro @beqN_self (And.intro @Bool.not_true (And.intro @Bool.not_false (And.intro @Bool.and_false (And.intro @Bool.false_and (And.intro @Bool.or_false (And.intro @Bool.false_or (And.intro @Bool.or_true @Bool.true_or)))))))))))))))))))))))))))))))))))))))))))))
def QD := And.intro @wrap_in (And.intro @dlt_t (And.intro @dlt_f (And.intro @dle_t (And.intro @dle_f (And.intro @dgt_t (And.intro @dgt_f (And.intro @dge_t (And.intro @dge_f (And.intro @ibeq_t (And.intro @ibeq_f (And.intro @ibne_t (And.intro @ibne_f (And.intro @inR_int (And.intro @beqN_eq @bleN_le))))))))))))))
end Go.PM
/- Places on the icosahedron and the nodes of its grids: plain laws, no program in sight. -/
namespace Go.Grid
structure Pl where
 f : Nat
 a : Nat
 b : Nat
 c : Nat
 deriving DecidableEq, Inhabited
def crnL : List (Nat × Nat × Nat) := [(0, 1, 2), (0, 2, 3), (0, 3, 4), (0, 4, 5), (0, 5, 1), (1, 6, 2), (2, 7, 3), (3, 8, 4), (4, 9, 5), (5, 10, 1),
 (6, 7, 2), (7, 8, 3), (8, 9, 4), (9, 10, 5), (10, 6, 1), (11, 7, 6), (11, 8, 7), (11, 9, 8), (11, 10, 9), (11, 6, 10)]
def crn (f : Nat) : Nat × Nat × Nat := crnL.getD f (0, 1, 2)
def Pl.ok (p : Pl) : Prop := p.f < 20 /\ p.a + p.b + p.c = 840
instance (p : Pl) : Decidable p.ok := inferInstanceAs (Decidable (_ /\ _))
def wt3 (k : Nat × Nat × Nat) (a b c v : Nat) : Nat := if v = k.1 then a else if v = k.2.1 then b else if v = k.2.2 then c else 0
def wt (p : Pl) (v : Nat) : Nat := wt3 (crn p.f) p.a p.b p.c v
def onW (w : Nat -> Nat) (f : Nat) : Pl := ⟨f, w (crn f).1, w (crn f).2.1, w (crn f).2.2⟩
def Pl.full (p : Pl) : Bool := p.a + p.b + p.c == 840
def addrsW (w : Nat -> Nat) : List Pl := ((List.range 20).map (onW w)).filter Pl.full
def addrs (p : Pl) : List Pl := addrsW (wt p)
def norm (p : Pl) : Pl := (addrs p).headD p
def Apart (k : Nat × Nat × Nat) : Prop := k.1 ≠ k.2.1 /\ k.1 ≠ k.2.2 /\ k.2.1 ≠ k.2.2
instance (k : Nat × Nat × Nat) : Decidable (Apart k) := inferInstanceAs (Decidable (_ /\ _ /\ _))
theorem crn_apart (f : Nat) : Apart (crn f) := by
 by_cases h : f < 20
 ·exact (by decide : ∀ f : Fin 20, Apart (crn f)) ⟨f, h⟩
 ·have : crn f = (0, 1, 2) := by unfold crn; rw [List.getD_eq_getElem?_getD, List.getElem?_eq_none (by simp [crnL]; omega)]; rfl
  rw [this]; decide
theorem wt3_1 (k : Nat × Nat × Nat) (a b c : Nat) : wt3 k a b c k.1 = a := by simp [wt3]
theorem wt3_2 {k : Nat × Nat × Nat} (h : Apart k) (a b c : Nat) : wt3 k a b c k.2.1 = b := by simp [wt3, Ne.symm h.1]
theorem wt3_3 {k : Nat × Nat × Nat} (h : Apart k) (a b c : Nat) : wt3 k a b c k.2.2 = c := by simp [wt3, Ne.symm h.2.1, Ne.symm h.2.2]
theorem onW_self (p : Pl) : onW (wt p) p.f = p := by
 cases p with
 | mk f a b c =>
  have h := crn_apart f
  simp only [onW, wt, wt3_1, wt3_2 h, wt3_3 h]
theorem wt3_sum {k : Nat × Nat × Nat} (h : Apart k) (a b c v : Nat) : wt3 k a b c v = (if v = k.1 then a else 0) + (if v = k.2.1 then b else 0) + (if v = k.2.2 then c else 0) := by
 obtain ⟨h1, h2, h3⟩ := h
 unfold wt3
 by_cases e1 : v = k.1
 ·have e2 : ¬ v = k.2.1 := fun e => h1 (e1.symm.trans e)
  have e3 : ¬ v = k.2.2 := fun e => h2 (e1.symm.trans e)
  simp only [if_pos e1, if_neg e2, if_neg e3, Nat.add_zero]
 ·by_cases e2 : v = k.2.1
  ·have e3 : ¬ v = k.2.2 := fun e => h3 (e2.symm.trans e)
   simp only [if_neg e1, if_pos e2, if_neg e3, Nat.add_zero, Nat.zero_add]
  ·by_cases e3 : v = k.2.2
   ·simp only [if_neg e1, if_neg e2, if_pos e3, Nat.zero_add]
   ·simp only [if_neg e1, if_neg e2, if_neg e3]
def part3 (l : Nat × Nat × Nat) (k a : Nat) : Nat := (if l.1 = k then a else 0) + (if l.2.1 = k then a else 0) + (if l.2.2 = k then a else 0)
theorem part3_le {l : Nat × Nat × Nat} (h : Apart l) (k a : Nat) : part3 l k a <= a := by
 obtain ⟨h1, h2, h3⟩ := h
 unfold part3
 (repeat' split) <;> omega
theorem part3_none {l : Nat × Nat × Nat} {k : Nat} (h1 : ¬ l.1 = k) (h2 : ¬ l.2.1 = k) (h3 : ¬ l.2.2 = k) (a : Nat) : part3 l k a = 0 := by
 unfold part3; rw [if_neg h1, if_neg h2, if_neg h3]
theorem wt3_full {k k' : Nat × Nat × Nat} (h : Apart k) (h' : Apart k') {a b c : Nat} (hs : wt3 k a b c k'.1 + wt3 k a b c k'.2.1 + wt3 k a b c k'.2.2 = a + b + c) (v : Nat) :
  wt3 k' (wt3 k a b c k'.1) (wt3 k a b c k'.2.1) (wt3 k a b c k'.2.2) v = wt3 k a b c v := by
 have hp : part3 k' k.1 a + part3 k' k.2.1 b + part3 k' k.2.2 c = a + b + c := by
  rw [wt3_sum h, wt3_sum h, wt3_sum h] at hs
  unfold part3; omega
 have l1 := part3_le h' k.1 a
 have l2 := part3_le h' k.2.1 b
 have l3 := part3_le h' k.2.2 c
 by_cases e1 : v = k'.1
 ·rw [e1, wt3_1]
 ·by_cases e2 : v = k'.2.1
  ·rw [e2, wt3_2 h']
  ·by_cases e3 : v = k'.2.2
   ·rw [e3, wt3_3 h']
   ·have hz : ∀ x y z, wt3 k' x y z v = 0 := fun x y z => by simp only [wt3, e1, e2, e3, if_false]
    rw [hz]
    have q1 : ∀ {j : Nat}, v = j -> ¬ k'.1 = j := fun e e' => e1 (e.trans e'.symm)
    have q2 : ∀ {j : Nat}, v = j -> ¬ k'.2.1 = j := fun e e' => e2 (e.trans e'.symm)
    have q3 : ∀ {j : Nat}, v = j -> ¬ k'.2.2 = j := fun e e' => e3 (e.trans e'.symm)
    rw [wt3_sum h]
    have r1 : (if v = k.1 then a else 0) = 0 := by
     split
     ·rename_i e; have := part3_none (q1 e) (q2 e) (q3 e) a; omega
     ·rfl
    have r2 : (if v = k.2.1 then b else 0) = 0 := by
     split
     ·rename_i e; have := part3_none (q1 e) (q2 e) (q3 e) b; omega
     ·rfl
    have r3 : (if v = k.2.2 then c else 0) = 0 := by
     split
     ·rename_i e; have := part3_none (q1 e) (q2 e) (q3 e) c; omega
     ·rfl
    rw [r1, r2, r3]
theorem full_iff {p : Pl} : p.full = true ↔ p.a + p.b + p.c = 840 := by simp [Pl.full]
theorem mem_addrs {p q : Pl} : q ∈ addrs p ↔ ∃ f, f < 20 /\ onW (wt p) f = q /\ q.a + q.b + q.c = 840 := by
 simp only [addrs, addrsW, List.mem_filter, List.mem_map, List.mem_range, full_iff]
 constructor
 ·rintro ⟨⟨f, h1, h2⟩, h3⟩; exact ⟨f, h1, h2, h3⟩
 ·rintro ⟨f, h1, h2, h3⟩; exact ⟨⟨f, h1, h2⟩, h3⟩
theorem self_addrs {p : Pl} (h : p.ok) : p ∈ addrs p := mem_addrs.2 ⟨p.f, h.1, onW_self p, h.2⟩
theorem addrs_wt {p q : Pl} (h : p.ok) (hq : q ∈ addrs p) : q.ok /\ wt q = wt p := by
 obtain ⟨f, h1, rfl, h3⟩ := mem_addrs.1 hq
 refine ⟨⟨h1, h3⟩, funext fun v => ?_⟩
 have hs : wt p (crn f).1 + wt p (crn f).2.1 + wt p (crn f).2.2 = p.a + p.b + p.c := by rw [h.2]; exact h3
 exact wt3_full (crn_apart p.f) (crn_apart f) hs v
theorem norm_mem {p : Pl} (h : p.ok) : norm p ∈ addrs p := by
 unfold norm
 have := self_addrs h
 cases e : addrs p with
 | nil => rw [e] at this; cases this
 | cons x r => simp
theorem norm_ok {p : Pl} (h : p.ok) : (norm p).ok := (addrs_wt h (norm_mem h)).1
theorem norm_wt {p : Pl} (h : p.ok) : wt (norm p) = wt p := (addrs_wt h (norm_mem h)).2
theorem norm_head {p : Pl} (h : p.ok) : ∃ r, addrs p = norm p :: r := by
 unfold norm
 have := self_addrs h
 cases e : addrs p with
 | nil => rw [e] at this; cases this
 | cons x r => exact ⟨r, rfl⟩
theorem norm_of_wt {p q : Pl} (h : p.ok) (hq : q.ok) (e : wt p = wt q) : norm p = norm q := by
 obtain ⟨r, h1⟩ := norm_head h
 obtain ⟨r', h2⟩ := norm_head hq
 have : addrs p = addrs q := by unfold addrs; rw [e]
 rw [h1, h2] at this
 exact (List.cons.inj this).1
theorem norm_norm {p : Pl} (h : p.ok) : norm (norm p) = norm p := norm_of_wt (norm_ok h) h (norm_wt h)
theorem eq_of_wt {p q : Pl} (hf : p.f = q.f) (e : wt p = wt q) : p = q := by
 rw [<- onW_self p, <- onW_self q, e, hf]
theorem faces_apart : ∀ f g : Fin 20, ((crn f).1 = (crn g).1 \/ (crn f).1 = (crn g).2.1 \/ (crn f).1 = (crn g).2.2) -> ((crn f).2.1 = (crn g).1 \/ (crn f).2.1 = (crn g).2.1 \/ (crn f).2.1 = (crn g).2.2) ->
  ((crn f).2.2 = (crn g).1 \/ (crn f).2.2 = (crn g).2.1 \/ (crn f).2.2 = (crn g).2.2) -> f = g := by decide
theorem norm_inner {p : Pl} (h : p.ok) (ha : 0 < p.a) (hb : 0 < p.b) (hc : 0 < p.c) : norm p = p := by
 have hw := norm_wt h
 have hn := norm_ok h
 refine eq_of_wt ?_ hw
 have pos : ∀ v, 0 < wt (norm p) v -> v = (crn (norm p).f).1 \/ v = (crn (norm p).f).2.1 \/ v = (crn (norm p).f).2.2 := by
  intro v hv
  simp only [wt, wt3] at hv
  split at hv
  ·left; assumption
  ·split at hv
   ·right; left; assumption
   ·split at hv
    ·right; right; assumption
    ·omega
 have h1 := pos (crn p.f).1 (by rw [hw]; simp only [wt, wt3_1]; exact ha)
 have h2 := pos (crn p.f).2.1 (by rw [hw]; simp only [wt, wt3_2 (crn_apart p.f)]; exact hb)
 have h3 := pos (crn p.f).2.2 (by rw [hw]; simp only [wt, wt3_3 (crn_apart p.f)]; exact hc)
 have := faces_apart ⟨p.f, h.1⟩ ⟨(norm p).f, hn.1⟩ h1 h2 h3
 exact (congrArg Fin.val this).symm
end Go.Grid
/- The nodes of the grids: plain laws, no program in sight. -/
namespace Go.Grid
def pt (n f i j : Nat) : Pl := ⟨f, i * (840 / n), j * (840 / n), (n - i - j) * (840 / n)⟩
def row (n f i : Nat) : List Pl := (List.range (n + 1 - i)).map (pt n f i)
def face (n f : Nat) : List Pl := (List.range (n + 1)).flatMap (row n f)
def pts (n : Nat) : List Pl := (List.range 20).flatMap (face n)
def plt (p q : Pl) : Prop := p.f < q.f \/ p.f = q.f /\ (p.a < q.a \/ p.a = q.a /\ p.b < q.b)
instance (p q : Pl) : Decidable (plt p q) := inferInstanceAs (Decidable (_ \/ _ /\ (_ \/ _ /\ _)))
end Go.Grid
/- Places: what the functions of the program and of the reference come to. -/
namespace Go.Proofs.YtmbgnpgjdhlegaaDoor
open Go Go.PM Go.Grid
def plc (p : Pl) : List C := [.v (.int .i64 p.f), .v (.int .i64 p.a), .v (.int .i64 p.b), .v (.int .i64 p.c)]
theorem plc_length (p : Pl) : (plc p).length = 4 := rfl
def wcs (w : Nat -> Nat) : List C := (List.range 12).map fun v => .v (.int .i64 (w v))
abbrev OK (r : V) : Option Out := some ⟨r, [], none⟩
def validI (f a b c : Int) : Bool := decide (0 <= f /\ f < 20 /\ 0 <= a /\ a <= 840 /\ 0 <= b /\ b <= 840 /\ 0 <= c /\ c <= 840 /\ a + b + c = 840)
theorem validI_pl {f a b c : Int} (h : validI f a b c = true) : ∃ p : Pl, p.ok /\ f = p.f /\ a = p.a /\ b = p.b /\ c = p.c := by
 have h := of_decide_eq_true h
 exact ⟨⟨f.toNat, a.toNat, b.toNat, c.toNat⟩, ⟨by show f.toNat < 20; omega, by show a.toNat + b.toNat + c.toNat = 840; omega⟩, by simp; omega, by simp; omega, by simp; omega, by simp; omega⟩
theorem validI_of {p : Pl} (h : p.ok) : validI p.f p.a p.b p.c = true := by
 obtain ⟨h1, h2⟩ := h
 exact decide_eq_true (by omega)
theorem sp_ref_Valid (fu d : Nat) (f a b c : Int) : cl fu (d + 1) fn_synopticref02_Valid [V.agg [.v (.int .i64 f), .v (.int .i64 a), .v (.int .i64 b), .v (.int .i64 c)]] [] = OK (B (validI f a b c)) := by
 rw [eq_synopticref02_Valid]
 by_cases h1 : 0 <= f
 case neg => rw [show validI f a b c = false from decide_eq_false (by omega)]; simp (disch := omega) only [QM, QD]
 by_cases h2 : f < 20
 case neg => rw [show validI f a b c = false from decide_eq_false (by omega)]; simp (disch := omega) only [QM, QD]
 by_cases h3 : 0 <= a
 case neg => rw [show validI f a b c = false from decide_eq_false (by omega)]; simp (disch := omega) only [QM, QD]
 by_cases h4 : a <= 840
 case neg => rw [show validI f a b c = false from decide_eq_false (by omega)]; simp (disch := omega) only [QM, QD]
 by_cases h5 : 0 <= b
 case neg => rw [show validI f a b c = false from decide_eq_false (by omega)]; simp (disch := omega) only [QM, QD]
 by_cases h6 : b <= 840
 case neg => rw [show validI f a b c = false from decide_eq_false (by omega)]; simp (disch := omega) only [QM, QD]
 by_cases h7 : 0 <= c
 case neg => rw [show validI f a b c = false from decide_eq_false (by omega)]; simp (disch := omega) only [QM, QD]
 by_cases h8 : c <= 840
 case neg => rw [show validI f a b c = false from decide_eq_false (by omega)]; simp (disch := omega) only [QM, QD]
 by_cases h9 : a + b + c = 840
 ·rw [show validI f a b c = true from decide_eq_true (by omega)]; simp (disch := omega) only [QM, QD]
 ·rw [show validI f a b c = false from decide_eq_false (by omega)]; simp (disch := omega) only [QM, QD]
theorem twenty {f : Nat} (h : f < 20) : f = 0 \/ f = 1 \/ f = 2 \/ f = 3 \/ f = 4 \/ f = 5 \/ f = 6 \/ f = 7 \/ f = 8 \/ f = 9 \/ f = 10 \/ f = 11 \/ f = 12 \/ f = 13 \/ f = 14 \/ f = 15 \/ f = 16 \/ f = 17 \/ f = 18 \/ f = 19 := by omega
theorem sp_ref_Corners (fu d f : Nat) (h : f < 20) : cl fu (d + 1) fn_synopticref02_Corners [I f] [] = OK (V.tup [V.agg [.v (.int .i64 (crn f).1), .v (.int .i64 (crn f).2.1), .v (.int .i64 (crn f).2.2)], I 0]) := by
 rw [eq_synopticref02_Corners]
 rcases twenty h with rfl | rfl | rfl | rfl | rfl | rfl | rfl | rfl | rfl | rfl | rfl | rfl | rfl | rfl | rfl | rfl | rfl | rfl | rfl | rfl <;> (show @Eq (Option Out) _ _; kernel_rfl)
theorem sp_ref_Weights (fu d : Nat) (p : Pl) (h : p.ok) : cl fu (d + 2) fn_synopticref02_Weights [V.agg (plc p)] [] = OK (V.agg (wcs (wt p))) := by
 obtain ⟨f, a, b, c⟩ := p
 unfold plc
 rw [eq_synopticref02_Weights]
 simp only
 rw [sp_ref_Corners fu d f h.1]
 have hf : f < 20 := h.1
 rcases twenty hf with rfl | rfl | rfl | rfl | rfl | rfl | rfl | rfl | rfl | rfl | rfl | rfl | rfl | rfl | rfl | rfl | rfl | rfl | rfl | rfl <;> (show @Eq (Option Out) _ _; kernel_rfl)
theorem sp_ref_On (fu d : Nat) (w : Nat -> Nat) (hw : ∀ v, w v <= 840) (f : Nat) (h : f < 20) : cl fu (d + 2) fn_synopticref02_On [I f, V.agg (wcs w)] [] = OK (V.tup [V.agg (plc (onW w f)), B (onW w f).full]) := by
 have e : cl fu (d + 2) fn_synopticref02_On [I f, V.agg (wcs w)] [] = OK (V.tup [V.agg (plc (onW w f)), B (IntKind.i64.wrap (IntKind.i64.wrap ((w (crn f).1 : Int) + (w (crn f).2.1 : Int)) + (w (crn f).2.2 : Int)) == 840)]) := by
  rw [eq_synopticref02_On, sp_ref_Corners fu d f h]
  rcases twenty h with rfl | rfl | rfl | rfl | rfl | rfl | rfl | rfl | rfl | rfl | rfl | rfl | rfl | rfl | rfl | rfl | rfl | rfl | rfl | rfl <;> (show @Eq (Option Out) _ _; kernel_rfl)
 rw [e]
 have h1 := hw (crn f).1
 have h2 := hw (crn f).2.1
 have h3 := hw (crn f).2.2
 simp (disch := omega) only [wrap_in]
 have e2 : ((w (crn f).1 : Int) + (w (crn f).2.1 : Int) + (w (crn f).2.2 : Int) == 840) = (onW w f).full := by
  rw [Bool.eq_iff_iff, full_iff, beq_iff_eq]
  show _ ↔ w (crn f).1 + w (crn f).2.1 + w (crn f).2.2 = 840
  omega
 rw [e2]
def addrsTo (w : Nat -> Nat) (j : Nat) : List Pl := ((List.range j).map (onW w)).filter Pl.full
theorem addrsTo_succ (w : Nat -> Nat) (j : Nat) : addrsTo w (j + 1) = if (onW w j).full then addrsTo w j ++ [onW w j] else addrsTo w j := by
 unfold addrsTo
 rw [List.range_succ, List.map_append, List.filter_append]
 simp only [List.map_cons, List.map_nil, List.filter_cons, List.filter_nil]
 split <;> simp
theorem addrsTo_length (w : Nat -> Nat) (j : Nat) : (addrsTo w j).length <= j := by
 unfold addrsTo
 refine Nat.le_trans (List.length_filter_le _ _) ?_
 simp
theorem wt_le {p : Pl} (h : p.ok) (v : Nat) : wt p v <= 840 := by
 have h2 := h.2
 unfold wt wt3
 (repeat' split) <;> omega
theorem pl_snoc (l : List Pl) (q : Pl) : fl plc l ++ [.v (.int .i64 q.f), .v (.int .i64 q.a), .v (.int .i64 q.b), .v (.int .i64 q.c)] = fl plc (l ++ [q]) := fl_snoc l q
theorem pl_div (l : List Pl) : l.length * 4 / 4 = l.length := Nat.mul_div_cancel _ (by omega)
theorem wcs_put (w : Nat -> Nat) : putAt [C.v (.int .i64 0), C.v (.int .i64 0), C.v (.int .i64 0), C.v (.int .i64 0), C.v (.int .i64 0), C.v (.int .i64 0), C.v (.int .i64 0), C.v (.int .i64 0), C.v (.int .i64 0), C.v (.int .i64 0), C.v (.int .i64 0), C.v (.int .i64 0)] 0 (wcs w) = wcs w := id rfl
theorem wcs_take (w : Nat -> Nat) : List.take 12 (wcs w) = wcs w := id rfl
theorem wcs_length (w : Nat -> Nat) : (wcs w).length = 12 := id rfl
theorem sp_ref_Addresses (fu d : Nat) (hf : 18446744073709551616 <= fu) (p : Pl) (h : p.ok) :
  cl fu (d + 3) fn_synopticref02_Addresses [V.agg (plc p)] [] = OK (V.tup [V.c (C.sl (addrs p).length (fl plc (addrs p))), I 0]) := by
 have e1 := sp_ref_Weights fu d p h
 have hv := validI_of h
 unfold plc at e1 ⊢
 rw [eq_synopticref02_Addresses, sp_ref_Valid, hv, e1]
 simp only [QM, wcs_put, wcs_take, wcs_length, Nat.zero_add, show Nat.ble 12 12 = true from rfl]
 rw [show (([] : List C), (0 : Int), ()) = (fun j : Nat => (fl plc (addrsTo (wt p) j), (j : Int), ())) 0 from rfl, iter_run (fun j : Nat => (fl plc (addrsTo (wt p) j), (j : Int), ())) 0 (fl plc (addrsTo (wt p) 20), (20 : Int), ()) 20 0 fu ?_ ?_ (by omega)]
 ·simp (disch := omega) only [QM, QD, fl_length plc_length, pl_div, Nat.zero_add]
  rw [List.take_of_length_le (by rw [fl_length plc_length]; omega)]
  rfl
 ·intro j _ hj
  have hl := addrsTo_length (wt p) j
  rw [addrsTo_succ]
  have e2 := sp_ref_On fu d (wt p) (wt_le h) j (by omega)
  unfold plc at e2
  simp (disch := omega) only [QM, QD, e2, fl_length plc_length, pl_div, List.length_cons, List.length_nil, Nat.zero_add, Nat.reduceAdd]
  cases hfull : (onW (wt p) j).full with
  | true =>
   simp (disch := omega) only [QM, QD, pl_snoc, fl_length plc_length, List.length_append, List.length_cons, List.length_nil, Nat.zero_add, if_true, Int.natCast_add, Int.natCast_one]
  | false =>
   simp (disch := omega) only [QM, QD, Bool.false_eq_true, if_false, Int.natCast_add, Int.natCast_one]
 ·simp (disch := omega) only [QM, QD, fl_length plc_length, pl_div, Nat.zero_add]
  rfl
end Go.Proofs.YtmbgnpgjdhlegaaDoor
/- Places, continued: the normal place; the program's functions. -/
namespace Go.Proofs.YtmbgnpgjdhlegaaDoor
open Go Go.PM Go.Grid
theorem sp_ref_Normal (fu d : Nat) (hf : 18446744073709551616 <= fu) (p : Pl) (h : p.ok) : cl fu (d + 4) fn_synopticref02_Normal [V.agg (plc p)] [] = OK (V.tup [V.agg (plc (norm p)), I 0]) := by
 have e1 := sp_ref_Addresses fu d hf p h
 obtain ⟨r, hr⟩ := norm_head h
 rw [hr] at e1
 unfold plc at e1 ⊢
 rw [eq_synopticref02_Normal, e1]
 simp (disch := omega) only [QM, QD, fl_cons, plc, List.cons_append, List.nil_append, List.length_cons]
theorem sp_face (fu d : Nat) (f : Int) : cl fu (d + 1) fn_place_face [I f] [] = OK (B (decide (0 <= f /\ f < 20))) := by
 rw [eq_place_face]
 by_cases h1 : 0 <= f
 ·simp (disch := omega) only [QM, QD]
  by_cases h2 : f < 20
  ·rw [dlt_t h2, decide_eq_true ⟨h1, h2⟩]
  ·rw [dlt_f (by omega), decide_eq_false (by omega)]
 ·rw [decide_eq_false (by omega : ¬ (0 <= f /\ f < 20))]
  simp (disch := omega) only [QM, QD]
theorem sp_Valid (fu d : Nat) (hf : 18446744073709551616 <= fu) (f a b c : Int) : cl fu (d + 2) fn_place_Valid [V.agg [.v (.int .i64 f), .v (.int .i64 a), .v (.int .i64 b), .v (.int .i64 c)]] [] = OK (B (validI f a b c)) := by
 rw [eq_place_Valid, sp_face]
 obtain ⟨fu', rfl⟩ : ∃ n, fu = n + 4 := ⟨fu - 4, by omega⟩
 by_cases h3 : 0 <= a
 case neg => rw [show validI f a b c = false from decide_eq_false (by omega)]; rw [iter_s]; simp (disch := omega) only [QM, QD, Int.toNat_zero, Nat.zero_mul, List.drop_zero]
 by_cases h4 : a <= 840
 case neg => rw [show validI f a b c = false from decide_eq_false (by omega)]; rw [iter_s]; simp (disch := omega) only [QM, QD, Int.toNat_zero, Nat.zero_mul, List.drop_zero]
 by_cases h5 : 0 <= b
 case neg => rw [show validI f a b c = false from decide_eq_false (by omega)]; rw [iter_s]; simp (disch := omega) only [QM, QD, Int.toNat_zero, Nat.zero_mul, List.drop_zero, Int.zero_add, iter_s, Int.toNat_one, Nat.one_mul, List.drop_succ_cons]
 by_cases h6 : b <= 840
 case neg => rw [show validI f a b c = false from decide_eq_false (by omega)]; rw [iter_s]; simp (disch := omega) only [QM, QD, Int.toNat_zero, Nat.zero_mul, List.drop_zero, Int.zero_add, iter_s, Int.toNat_one, Nat.one_mul, List.drop_succ_cons]
 by_cases h7 : 0 <= c
 case neg => rw [show validI f a b c = false from decide_eq_false (by omega)]; rw [iter_s]; simp (disch := omega) only [QM, QD, Int.toNat_zero, Nat.zero_mul, List.drop_zero, Int.zero_add, iter_s, Int.toNat_one, Nat.one_mul, List.drop_succ_cons, Int.reduceAdd, Int.reduceToNat]
 by_cases h8 : c <= 840
 case neg => rw [show validI f a b c = false from decide_eq_false (by omega)]; rw [iter_s]; simp (disch := omega) only [QM, QD, Int.toNat_zero, Nat.zero_mul, List.drop_zero, Int.zero_add, iter_s, Int.toNat_one, Nat.one_mul, List.drop_succ_cons, Int.reduceAdd, Int.reduceToNat]
 simp (disch := omega) only [QM, QD, Int.toNat_zero, Nat.zero_mul, List.drop_zero, Int.zero_add, iter_s, Int.toNat_one, Nat.one_mul, List.drop_succ_cons, Int.reduceAdd, Int.reduceToNat]
 by_cases h1 : 0 <= f /\ f < 20
 ·rw [decide_eq_true h1]
  by_cases h9 : a + b + c = 840
  ·rw [show validI f a b c = true from decide_eq_true (by omega)]; simp (disch := omega) only [QM, QD]
  ·rw [show validI f a b c = false from decide_eq_false (by omega)]; simp (disch := omega) only [QM, QD]
 ·rw [decide_eq_false h1, show validI f a b c = false from decide_eq_false (by omega)]; simp (disch := omega) only [QM, QD]
theorem sp_of (fu d : Nat) (p : Pl) (h : p.ok) : cl fu (d + 1) fn_place_of [V.agg (plc p)] [] = OK (V.agg (wcs (wt p))) := by
 obtain ⟨f, a, b, c⟩ := p
 unfold plc
 rw [eq_place_of]
 have hf : f < 20 := h.1
 rcases twenty hf with rfl | rfl | rfl | rfl | rfl | rfl | rfl | rfl | rfl | rfl | rfl | rfl | rfl | rfl | rfl | rfl | rfl | rfl | rfl | rfl <;> (show @Eq (Option Out) _ _; kernel_rfl)
theorem validI_onW {w : Nat -> Nat} (hw : ∀ v, w v <= 840) {f : Nat} (h : f < 20) : validI (onW w f).f (onW w f).a (onW w f).b (onW w f).c = (onW w f).full := by
 have h1 := hw (crn f).1
 have h2 := hw (crn f).2.1
 have h3 := hw (crn f).2.2
 rw [Bool.eq_iff_iff, full_iff]
 unfold validI
 rw [decide_eq_true_eq]
 show (0 : Int) <= (f : Nat) /\ ((f : Nat) : Int) < 20 /\ (0 : Int) <= ((w (crn f).1 : Nat) : Int) /\ ((w (crn f).1 : Nat) : Int) <= 840 /\ (0 : Int) <= ((w (crn f).2.1 : Nat) : Int) /\ ((w (crn f).2.1 : Nat) : Int) <= 840 /\ (0 : Int) <= ((w (crn f).2.2 : Nat) : Int) /\ ((w (crn f).2.2 : Nat) : Int) <= 840 /\ ((w (crn f).1 : Nat) : Int) + ((w (crn f).2.1 : Nat) : Int) + ((w (crn f).2.2 : Nat) : Int) = 840 ↔ w (crn f).1 + w (crn f).2.1 + w (crn f).2.2 = 840
 omega
theorem sp_on (fu d : Nat) (hf : 18446744073709551616 <= fu) (w : Nat -> Nat) (hw : ∀ v, w v <= 840) (f : Nat) (h : f < 20) : cl fu (d + 3) fn_place_on [I f, V.agg (wcs w)] [] = OK (V.tup [V.agg (plc (onW w f)), B (onW w f).full]) := by
 have e : cl fu (d + 3) fn_place_on [I f, V.agg (wcs w)] [] = ((cl fu (d + 2) fn_place_Valid [V.agg (plc (onW w f))] []).bind fun out => rC out.r fun c6 => asB c6 fun b => OK (V.tup [V.agg (plc (onW w f)), B b])) := by
  rw [eq_place_on]
  rcases twenty h with rfl | rfl | rfl | rfl | rfl | rfl | rfl | rfl | rfl | rfl | rfl | rfl | rfl | rfl | rfl | rfl | rfl | rfl | rfl | rfl <;> (show @Eq (Option Out) _ _; kernel_rfl)
 rw [e]
 unfold plc
 rw [sp_Valid fu d hf, validI_onW hw h]
 simp only [QM]
theorem addrsTo_none {w : Nat -> Nat} : ∀ {k : Nat}, (∀ j, j < k -> (onW w j).full = false) -> addrsTo w k = []
 | 0, _ => rfl
 | k + 1, h => by rw [addrsTo_succ, h k (by omega), addrsTo_none (fun j hj => h j (by omega))]; rfl
theorem addrsTo_first {w : Nat -> Nat} {k : Nat} (hk : (onW w k).full = true) (h : ∀ j, j < k -> (onW w j).full = false) : ∀ n, k < n -> ∃ r, addrsTo w n = onW w k :: r
 | 0, hn => by omega
 | n + 1, hn => by
  by_cases e : k = n
  ·subst e; exact ⟨[], by rw [addrsTo_succ, hk, addrsTo_none h]; rfl⟩
  ·obtain ⟨r, hr⟩ := addrsTo_first hk h n (by omega)
   rw [addrsTo_succ, hr]
   split
   ·exact ⟨r ++ [onW w n], rfl⟩
   ·exact ⟨r, rfl⟩
theorem sp_Normal (fu d : Nat) (hf : 18446744073709551616 <= fu) (p : Pl) (h : p.ok) : cl fu (d + 4) fn_place_Normal [V.agg (plc p)] [] = OK (V.tup [V.agg (plc (norm p)), I 0]) := by
 have e1 := sp_of fu (d + 2) p h
 have hv := validI_of h
 unfold plc at e1 ⊢
 rw [eq_place_Normal, sp_Valid fu (d + 1) hf, hv, e1]
 simp only [QM, wcs_put, wcs_take, wcs_length, Nat.zero_add, show Nat.ble 12 12 = true from rfl]
 obtain ⟨r, hr⟩ := norm_head h
 have hm := norm_mem h
 obtain ⟨k, hk, hke, hkl⟩ : ∃ k, k < 20 /\ onW (wt p) k = norm p /\ ∀ j, j < k -> (onW (wt p) j).full = false := by
  rcases first_or_none (fun j => (onW (wt p) j).full = true) 20 with h0 | ⟨k, h1, h2, h3⟩
  ·exfalso
   obtain ⟨g, g1, g2, g3⟩ := mem_addrs.1 hm
   exact h0 g g1 (by rw [g2]; exact full_iff.2 g3)
  ·refine ⟨k, h1, ?_, fun j hj => by simpa using h3 j hj⟩
   obtain ⟨r', this⟩ := addrsTo_first h2 (fun j hj => by simpa using h3 j hj) 20 h1
   have this : addrs p = onW (wt p) k :: r' := this
   rw [hr] at this
   exact (List.cons.inj this).1.symm
 rw [show ((0 : Int), (0 : Int), ((0 : Int), (0 : Int), (0 : Int), (0 : Int), ()), ()) = (fun j : Nat => ((0 : Int), (j : Int), ((0 : Int), (0 : Int), (0 : Int), (0 : Int), ()), ())) 0 from rfl, iter_run (fun j : Nat => ((0 : Int), (j : Int), ((0 : Int), (0 : Int), (0 : Int), (0 : Int), ()), ())) 1 (0, (k : Int), ((norm p).f, (norm p).a, (norm p).b, (norm p).c, ()), ()) k 0 fu ?_ ?_ (by omega)]
 ·simp only [QM]
 ·intro j _ hj
  have e2 := sp_on fu d hf (wt p) (wt_le h) j (by omega)
  rw [hkl j (by omega)] at e2
  unfold plc at e2
  simp (disch := omega) only [QM, QD, e2, List.length_cons, List.length_nil, Nat.zero_add, Nat.reduceAdd, Int.natCast_add, Int.natCast_one]
 ·have e2 := sp_on fu d hf (wt p) (wt_le h) k hk
  rw [hke, full_iff.2 (norm_ok h).2] at e2
  unfold plc at e2
  simp (disch := omega) only [QM, QD, e2, List.length_cons, List.length_nil, Nat.zero_add, Nat.reduceAdd]
end Go.Proofs.YtmbgnpgjdhlegaaDoor
/- Numbers that are read from a list (chapter 13). -/
namespace Go.Proofs.YtmbgnpgjdhlegaaDoor
open Go Go.PM
def srcC (l : List Int) (i : Nat) : List C := [C.sl l.length (ints l), C.v (.int .i64 (i : Nat))]
abbrev srcO (l : List Int) (i : Nat) : PM.Obj := .ob ty_synoptickeep_Src 0 (srcC l i)
theorem sp_Mod (fu d : Nat) (a n : Int) (hn : 1 <= n /\ n <= 4611686018427387904) : ∃ v, cl fu (d + 1) fn_synoptickeep_Mod [I a, I n] [] = some ⟨I v, [], none⟩ /\ 0 <= v /\ v < n := by
 rw [eq_synoptickeep_Mod]
 have h1 : -n < Int.tmod a n := by have := Int.lt_tmod_of_pos a (show 0 < n by omega); omega
 have h2 : Int.tmod a n < n := Int.tmod_lt_of_pos a (by omega)
 simp only [show decide (n < 1) = false from decide_eq_false (by omega), cf, show (n == 0) = false by rw [beq_eq_false_iff_ne]; omega, Bool.not_false, need_true]
 by_cases h : Int.tmod a n < 0
 ·rw [decide_eq_true h, IntWalk.i64_in _ ⟨by omega, by omega⟩]
  exact ⟨_, rfl, by omega, by omega⟩
 ·rw [decide_eq_false h]
  exact ⟨_, rfl, by omega, h2⟩
theorem sp_New (fu d : Nat) (l : List Int) : cl fu (d + 1) fn_synoptickeep_New [V.c (C.sl l.length (ints l))] [] = some ⟨V.ptr 1000000 0, [srcO (l.take 2000) 0], none⟩ := by
 rw [eq_synoptickeep_New]
 unfold srcO srcC
 by_cases h : 2000 < l.length
 ·simp only [if_pos (show (2000 : Int) < (l.length : Int) by omega), decide_eq_true (show (0 : Int) <= 2000 by omega), decide_eq_true (show (2000 : Int) <= (l.length : Int) by omega), Bool.and_self, need_true, show (2000 : Int).toNat = 2000 from rfl, Nat.mul_one, ik_take, List.length_take, Nat.min_eq_left (Nat.le_of_lt h)]
  rfl
 ·simp only [if_neg (show ¬ (2000 : Int) < (l.length : Int) by omega), decide_eq_true (show (0 : Int) <= (l.length : Int) by omega), decide_eq_true (Int.le_refl (l.length : Int)), Bool.and_self, need_true, Int.toNat_natCast, Nat.mul_one, ik_take, List.take_length, List.take_of_length_le (show l.length <= 2000 by omega)]
  rfl
theorem sp_Raw (fu d : Nat) (l : List Int) (i : Nat) (hl : l.length <= 2000) : ∃ (v : Int) (j : Nat), cl fu (d + 1) fn_synoptickeep_Src_Raw [V.ptr 1000000 0] [srcO l i] = some ⟨I v, [srcO l j], none⟩ := by
 unfold srcO srcC
 rw [eq_synoptickeep_Src_Raw]
 simp only [asSl_sl]
 by_cases h : i < l.length
 ·rw [decide_eq_false (show ¬ (i : Int) ≥ (l.length : Int) by omega)]
  simp only [cf]
  rw [IntWalk.i64_in ((i : Int) + 1) ⟨by omega, by omega⟩, show (i : Int) + 1 - 1 = i by omega, IntWalk.i64_in (i : Int) ⟨by omega, by omega⟩]
  simp only [inR_nat h, need_true, Int.toNat_natCast, Nat.mul_one, unc_ik h, asI_int]
  exact ⟨l[i], i + 1, by simp⟩
 ·rw [decide_eq_true (show (i : Int) ≥ (l.length : Int) by omega)]
  exact ⟨0, i, rfl⟩
theorem sp_N (fu d : Nat) (l : List Int) (i : Nat) (hl : l.length <= 2000) (n : Int) (hn : 1 <= n /\ n <= 4611686018427387904) :
  ∃ (v : Int) (j : Nat), cl fu (d + 2) fn_synoptickeep_Src_N [V.ptr 1000000 0, I n] [srcO l i] = some ⟨I v, [srcO l j], none⟩ /\ 0 <= v /\ v < n := by
 obtain ⟨w, j, h1⟩ := sp_Raw fu d l i hl
 obtain ⟨v, h2, h3, h4⟩ := sp_Mod fu d w n hn
 refine ⟨v, j, ?_, h3, h4⟩
 unfold srcO srcC at h1 ⊢
 rw [eq_synoptickeep_Src_N, h1]
 simp only [obs, uncO_cons, rO_ob, beqN_self, Bool.and_self, need_true, List.length_cons, List.length_nil, Nat.zero_add, Nat.reduceAdd, unc_cons, asI_int, rC_c, h2]
theorem sp_Range (fu d : Nat) (l : List Int) (i : Nat) (hl : l.length <= 2000) (lo hi : Int) (h : lo <= hi) (hb : -2305843009213693952 <= lo /\ hi <= 2305843009213693951) :
  ∃ (v : Int) (j : Nat), cl fu (d + 3) fn_synoptickeep_Src_Range [V.ptr 1000000 0, I lo, I hi] [srcO l i] = some ⟨I v, [srcO l j], none⟩ /\ lo <= v /\ v <= hi := by
 obtain ⟨v, j, h1, h2, h3⟩ := sp_N fu d l i hl (hi - lo + 1) ⟨by omega, by omega⟩
 refine ⟨lo + v, j, ?_, by omega, by omega⟩
 unfold srcO srcC at h1 ⊢
 rw [eq_synoptickeep_Src_Range, IntWalk.i64_in (hi - lo) ⟨by omega, by omega⟩, IntWalk.i64_in (hi - lo + 1) ⟨by omega, by omega⟩, h1]
 simp only [obs, uncO_cons, rO_ob, beqN_self, Bool.and_self, need_true, List.length_cons, List.length_nil, Nat.zero_add, Nat.reduceAdd, unc_cons, asI_int, rC_c]
 rw [IntWalk.i64_in (lo + v) ⟨by omega, by omega⟩]
theorem sp_Pick (fu d : Nat) (l : List Int) (i : Nat) (hl : l.length <= 2000) (q : List Int) (hq : 1 <= q.length /\ q.length <= 1000000) :
  ∃ (v : Int) (j : Nat), cl fu (d + 3) fn_synoptickeep_Src_Pick [V.ptr 1000000 0, V.c (C.sl q.length (ints q))] [srcO l i] = some ⟨I v, [srcO l j], none⟩ /\ v ∈ q := by
 obtain ⟨v, j, h1, h2, h3⟩ := sp_N fu d l i hl (q.length : Int) ⟨by omega, by omega⟩
 obtain ⟨k, rfl⟩ : ∃ k : Nat, v = k := ⟨v.toNat, by omega⟩
 have hk : k < q.length := by omega
 refine ⟨q[k], j, ?_, List.getElem_mem hk⟩
 unfold srcO srcC at h1 ⊢
 rw [eq_synoptickeep_Src_Pick, h1]
 simp only [obs, uncO_cons, rO_ob, beqN_self, Bool.and_self, need_true, List.length_cons, List.length_nil, Nat.zero_add, Nat.reduceAdd, unc_cons, asI_int, rC_c, inR_nat hk, Int.toNat_natCast, Nat.mul_one, unc_ik hk]
def rng (c : Int) : Int × Int := [(8000, 11000), (1800, 3300), (1800, 3300), (-1000, 1000), (-1000, 1000), (900, 1700), (2000, 3200), (2400, 3400), (2000, 3000), (4400, 6200), (2000, 2900)].getD (c - 1).toNat (0, 0)
theorem cases11 {p : Int -> Prop} (h : p 1 /\ p 2 /\ p 3 /\ p 4 /\ p 5 /\ p 6 /\ p 7 /\ p 8 /\ p 9 /\ p 10 /\ p 11) (c : Int) (hc : 1 <= c /\ c <= 11) : p c := by
 obtain ⟨h1, h2, h3, h4, h5, h6, h7, h8, h9, h10, h11⟩ := h
 have : c = 1 \/ c = 2 \/ c = 3 \/ c = 4 \/ c = 5 \/ c = 6 \/ c = 7 \/ c = 8 \/ c = 9 \/ c = 10 \/ c = 11 := by omega
 rcases this with rfl | rfl | rfl | rfl | rfl | rfl | rfl | rfl | rfl | rfl | rfl <;> assumption
theorem rng_bounds (c : Int) (hc : 1 <= c /\ c <= 11) : -1000 <= (rng c).1 /\ (rng c).1 + 400 <= (rng c).2 /\ (rng c).2 <= 11000 :=
 cases11 (p := fun c => -1000 <= (rng c).1 /\ (rng c).1 + 400 <= (rng c).2 /\ (rng c).2 <= 11000) (by decide) c hc
theorem sp_Describe (fu d : Nat) (c : Int) (hc : 1 <= c /\ c <= 11) : ∃ s g, cl fu (d + 1) fn_synopticref04_Describe [I c] [] = some ⟨V.tup [V.agg [C.v (.string s), C.v (.int .i64 (rng c).1), C.v (.int .i64 (rng c).2), C.v (.int .i64 g)], I 0], [], none⟩ := by
 refine cases11 (p := fun c => ∃ s g, cl fu (d + 1) fn_synopticref04_Describe [I c] [] = some ⟨V.tup [V.agg [C.v (.string s), C.v (.int .i64 (rng c).1), C.v (.int .i64 (rng c).2), C.v (.int .i64 g)], I 0], [], none⟩) ?_ c hc
 refine ⟨?_, ?_, ?_, ?_, ?_, ?_, ?_, ?_, ?_, ?_, ?_⟩ <;> (rw [eq_synopticref04_Describe]; exact ⟨_, _, rfl⟩)
theorem sp_Some (fu d : Nat) (l : List Int) (i : Nat) (hl : l.length <= 2000) (c : Int) (hc : 1 <= c /\ c <= 11) :
  ∃ (v : Int) (j : Nat), cl fu (d + 4) fn_synopticref04_Some [V.ptr 1000000 0, I c] [srcO l i] = some ⟨V.agg [C.v (.int .i64 c), C.v (.int .i64 v)], [srcO l j], none⟩ /\ (rng c).1 <= v /\ v <= (rng c).2 := by
 obtain ⟨s, g, hd⟩ := sp_Describe fu (d + 2) c hc
 have hr := rng_bounds c hc
 obtain ⟨v1, j1, a1, a2, a3⟩ := sp_Range fu d l i hl (rng c).1 (rng c).2 (by omega) ⟨by omega, by omega⟩
 obtain ⟨v2, j2, b1, b2, b3⟩ := sp_N fu (d + 1) l j1 hl 5 (by omega)
 obtain ⟨v3, j3, c1, c2⟩ := sp_Pick fu d l j2 hl [(rng c).1, (rng c).2] (by simp)
 obtain ⟨v4, j4, d1, d2, d3⟩ := sp_Range fu d l j2 hl (-40) 40 (by omega) ⟨by omega, by omega⟩
 have c1' : cl fu (d + 3) fn_synoptickeep_Src_Pick [V.ptr 1000000 0, V.c (C.sl 2 [C.v (.int .i64 (rng c).1), C.v (.int .i64 (rng c).2)])] [srcO l j2] = some ⟨I v3, [srcO l j3], none⟩ := c1
 unfold srcO srcC at a1 b1 c1' d1 ⊢
 rw [eq_synopticref04_Some, hd]
 simp only [obs, rT_tup, uncV_cons, rA_agg, List.length_cons, List.length_nil, Nat.zero_add, Nat.reduceAdd, beqN_self, need_true, unc_cons, asS_string, asI_int, rC_c, nilV_nil, a1, uncO_cons, rO_ob, Bool.and_self, b1]
 by_cases h0 : v2 = 0
 ·subst h0
  simp only [show ((0 : Int) == 0) = true from rfl, ct, c1', obs, uncO_cons, rO_ob, beqN_self, Bool.and_self, need_true, List.length_cons, List.length_nil, Nat.zero_add, Nat.reduceAdd, unc_cons, asI_int, rC_c]
  refine ⟨v3, j3, rfl, ?_⟩
  rcases List.mem_cons.1 c2 with e | e
  ·omega
  ·simp at e; omega
 ·rw [show (v2 == 0) = false by simpa using h0]
  have hm : IntKind.i64.wrap ((rng c).1 + (rng c).2) = (rng c).1 + (rng c).2 := IntWalk.i64_in _ ⟨by omega, by omega⟩
  have ht : (rng c).1 + 40 <= Int.tdiv ((rng c).1 + (rng c).2) 2 /\ Int.tdiv ((rng c).1 + (rng c).2) 2 <= (rng c).2 - 40 := by
   have h1 := Int.mul_tdiv_add_tmod ((rng c).1 + (rng c).2) 2
   have h2 : -2 < Int.tmod ((rng c).1 + (rng c).2) 2 := Int.lt_tmod_of_pos _ (by omega)
   have h3 : Int.tmod ((rng c).1 + (rng c).2) 2 < 2 := Int.tmod_lt_of_pos _ (by omega)
   omega
  have hm2 : IntKind.i64.wrap (Int.tdiv ((rng c).1 + (rng c).2) 2) = Int.tdiv ((rng c).1 + (rng c).2) 2 := IntWalk.i64_in _ ⟨by omega, by omega⟩
  have hm3 : IntKind.i64.wrap (Int.tdiv ((rng c).1 + (rng c).2) 2 + v4) = Int.tdiv ((rng c).1 + (rng c).2) 2 + v4 := IntWalk.i64_in _ ⟨by omega, by omega⟩
  have hpick : (bif v2 == 1 then some ((0 : Nat), (v2 == 1, ((0 : Int), (0 : Int), ()), (s, (rng c).1, (rng c).2, g, ()), (c, v1, ()), (C.sl l.length (ints l), (j2 : Int), ()), ())) else some (0, (v2 == 2, (0, 0, ()), (s, (rng c).1, (rng c).2, g, ()), (c, v1, ()), (C.sl l.length (ints l), (j2 : Int), ()), ()))) = some (0, ((v2 == 1 || v2 == 2), (0, 0, ()), (s, (rng c).1, (rng c).2, g, ()), (c, v1, ()), (C.sl l.length (ints l), (j2 : Int), ()), ())) := by
   cases h1 : v2 == 1 <;> rfl
  simp only [cf, hpick, obs]
  cases h1 : (v2 == 1 || v2 == 2) with
  | true =>
   simp only [ct, d1, obs, uncO_cons, rO_ob, beqN_self, Bool.and_self, need_true, List.length_cons, List.length_nil, Nat.zero_add, Nat.reduceAdd, unc_cons, asI_int, rC_c, hm, hm2, hm3]
   exact ⟨_, j4, rfl, by omega, by omega⟩
  | false =>
   simp only [cf, obs]
   exact ⟨v1, j2, rfl, by omega, by omega⟩
end Go.Proofs.YtmbgnpgjdhlegaaDoor
/- Places that are made of numbers: normal ones. -/
namespace Go.Proofs.YtmbgnpgjdhlegaaDoor
open Go Go.PM Go.Grid
def NP (p : Pl) : Prop := p.ok /\ norm p = p
theorem sp_ref_Normal_int (fu d : Nat) (hf : 18446744073709551616 <= fu) (f a b c : Int) (h : validI f a b c = true) : ∃ p : Pl, NP p /\ cl fu (d + 4) fn_synopticref02_Normal [V.agg [.v (.int .i64 f), .v (.int .i64 a), .v (.int .i64 b), .v (.int .i64 c)]] [] = OK (V.tup [V.agg (plc p), I 0]) := by
 obtain ⟨p, hp, rfl, rfl, rfl, rfl⟩ := validI_pl h
 exact ⟨norm p, ⟨norm_ok hp, norm_norm hp⟩, sp_ref_Normal fu d hf p hp⟩
set_option maxHeartbeats 2000000 in
theorem sp_Place (fu d : Nat) (hf : 18446744073709551616 <= fu) (l : List Int) (i : Nat) (hl : l.length <= 2000) : ∃ (p : Pl) (j : Nat), NP p /\ cl fu (d + 5) fn_synopticdata_Place [V.ptr 1000000 0] [srcO l i] = some ⟨V.agg (plc p), [srcO l j], none⟩ := by
 obtain ⟨v1, j1, a1, b1, c1⟩ := sp_N fu (d + 2) l i hl 20 (by omega)
 obtain ⟨v2, j2, a2, b2, c2⟩ := sp_N fu (d + 2) l j1 hl 841 (by omega)
 obtain ⟨v3, j3, a3, b3, c3⟩ := sp_N fu (d + 2) l j2 hl 4 (by omega)
 obtain ⟨v4, j4, a4, b4, c4⟩ := sp_N fu (d + 2) l j3 hl 9 (by omega)
 obtain ⟨v5, j5, a5, b5, c5⟩ := sp_N fu (d + 2) l j3 hl 5 (by omega)
 have fin : ∀ (A : Int) (j : Nat), 0 <= A -> A <= 840 -> ∃ (B' : Int) (j' j'' : Nat) (v : Int) (p : Pl), NP p /\ cl fu (d + 4) fn_synoptickeep_Src_N [V.ptr 1000000 0, I (840 - A + 1)] [srcO l j] = some ⟨I B', [srcO l j'], none⟩ /\ 0 <= B' /\ B' <= 840 - A /\
   cl fu (d + 4) fn_synoptickeep_Src_N [V.ptr 1000000 0, I 3] [srcO l j'] = some ⟨I v, [srcO l j''], none⟩ /\ 0 <= v /\ (v = 0 -> cl fu (d + 4) fn_synopticref02_Normal [V.agg [.v (.int .i64 v1), .v (.int .i64 A), .v (.int .i64 (B' - Int.tmod B' 105)), .v (.int .i64 (840 - A - (B' - Int.tmod B' 105)))]] [] = OK (V.tup [V.agg (plc p), I 0])) /\
   (v ≠ 0 -> cl fu (d + 4) fn_synopticref02_Normal [V.agg [.v (.int .i64 v1), .v (.int .i64 A), .v (.int .i64 B'), .v (.int .i64 (840 - A - B'))]] [] = OK (V.tup [V.agg (plc p), I 0])) := by
  intro A j hA1 hA2
  obtain ⟨v6, j6, a6, b6, c6⟩ := sp_N fu (d + 2) l j hl (840 - A + 1) (by omega)
  obtain ⟨v7, j7, a7, b7, c7⟩ := sp_N fu (d + 2) l j6 hl 3 (by omega)
  have ht : 0 <= Int.tmod v6 105 /\ Int.tmod v6 105 <= v6 := by
   refine ⟨Int.tmod_nonneg _ b6, ?_⟩
   have h1 := Int.mul_tdiv_add_tmod v6 105
   have h2 := Int.tdiv_nonneg b6 (show (0 : Int) <= 105 by omega)
   omega
  by_cases h0 : v7 = 0
  ·obtain ⟨p, hp, hN⟩ := sp_ref_Normal_int fu d hf v1 A (v6 - Int.tmod v6 105) (840 - A - (v6 - Int.tmod v6 105)) (decide_eq_true (by omega))
   exact ⟨v6, j6, j7, v7, p, hp, a6, b6, by omega, a7, b7, fun _ => hN, fun h => absurd h0 h⟩
  ·obtain ⟨p, hp, hN⟩ := sp_ref_Normal_int fu d hf v1 A v6 (840 - A - v6) (decide_eq_true (by omega))
   exact ⟨v6, j6, j7, v7, p, hp, a6, b6, by omega, a7, b7, fun h => absurd h h0, fun _ => hN⟩
 have ht2 : ∀ B' : Int, 0 <= B' -> 0 <= Int.tmod B' 105 /\ Int.tmod B' 105 <= B' := fun B' hB => by
  refine ⟨Int.tmod_nonneg _ hB, ?_⟩
  have h1 := Int.mul_tdiv_add_tmod B' 105
  have h2 := Int.tdiv_nonneg hB (show (0 : Int) <= 105 by omega)
  omega
 unfold srcO srcC at a1 a2 a3 a4 a5 ⊢
 rw [eq_synopticdata_Place]
 simp only [QM, a1, a2, a3, List.length_cons, List.length_nil, Nat.zero_add, Nat.reduceAdd]
 by_cases h0 : v3 = 0
 ·obtain ⟨B', j6, j7, v7, p, hp, a6, b6, c6, a7, b7, n0, n1⟩ := fin (105 * v4) j4 (by omega) (by omega)
  have := ht2 B' b6
  unfold srcO srcC at a6 a7
  by_cases h7 : v7 = 0
  ·have n0 := n0 h7
   simp (disch := omega) only [QM, QD, a4, a6, a7, n0, List.length_cons, List.length_nil, Nat.zero_add, Nat.reduceAdd]
   exact ⟨p, j7, hp, by simp (disch := omega) only [QM, QD, plc, List.length_cons, List.length_nil, Nat.zero_add, Nat.reduceAdd]⟩
  ·have n1 := n1 h7
   simp (disch := omega) only [QM, QD, a4, a6, a7, n1, List.length_cons, List.length_nil, Nat.zero_add, Nat.reduceAdd]
   exact ⟨p, j7, hp, by simp (disch := omega) only [QM, QD, plc, List.length_cons, List.length_nil, Nat.zero_add, Nat.reduceAdd]⟩
 ·by_cases h1 : v3 = 1
  ·obtain ⟨B', j6, j7, v7, p, hp, a6, b6, c6, a7, b7, n0, n1⟩ := fin (210 * v5) j5 (by omega) (by omega)
   have := ht2 B' b6
   unfold srcO srcC at a6 a7
   by_cases h7 : v7 = 0
   ·have n0 := n0 h7
    simp (disch := omega) only [QM, QD, a5, a6, a7, n0, List.length_cons, List.length_nil, Nat.zero_add, Nat.reduceAdd]
    exact ⟨p, j7, hp, by simp (disch := omega) only [QM, QD, plc, List.length_cons, List.length_nil, Nat.zero_add, Nat.reduceAdd]⟩
   ·have n1 := n1 h7
    simp (disch := omega) only [QM, QD, a5, a6, a7, n1, List.length_cons, List.length_nil, Nat.zero_add, Nat.reduceAdd]
    exact ⟨p, j7, hp, by simp (disch := omega) only [QM, QD, plc, List.length_cons, List.length_nil, Nat.zero_add, Nat.reduceAdd]⟩
  ·obtain ⟨B', j6, j7, v7, p, hp, a6, b6, c6, a7, b7, n0, n1⟩ := fin v2 j3 (by omega) (by omega)
   have := ht2 B' b6
   unfold srcO srcC at a6 a7
   by_cases h7 : v7 = 0
   ·have n0 := n0 h7
    simp (disch := omega) only [QM, QD, a6, a7, n0, List.length_cons, List.length_nil, Nat.zero_add, Nat.reduceAdd]
    exact ⟨p, j7, hp, by simp (disch := omega) only [QM, QD, plc, List.length_cons, List.length_nil, Nat.zero_add, Nat.reduceAdd]⟩
   ·have n1 := n1 h7
    simp (disch := omega) only [QM, QD, a6, a7, n1, List.length_cons, List.length_nil, Nat.zero_add, Nat.reduceAdd]
    exact ⟨p, j7, hp, by simp (disch := omega) only [QM, QD, plc, List.length_cons, List.length_nil, Nat.zero_add, Nat.reduceAdd]⟩
end Go.Proofs.YtmbgnpgjdhlegaaDoor
/- Lists of readings, validated (chapter 13). -/
namespace Go.Proofs.YtmbgnpgjdhlegaaDoor
open Go Go.PM Go.Grid
theorem iter_bind_ex {A B : Type} {body : A -> Option (Nat × A)} {fu : Nat} {x : A} {K : Nat × A -> Option B} (R : Option B -> Prop) (J : Nat -> A -> Prop) (Q : A -> Prop) (e k : Nat) (hx : J 0 x)
  (h : ∀ j y, j < k -> J j y -> ∃ y', body y = some (0, y') /\ J (j + 1) y') (he : ∀ y, J k y -> ∃ z, body y = some (e + 1, z) /\ Q z) (hf : k < fu) (hK : ∀ z, Q z -> R (K (e, z))) : R ((iter body fu x).bind K) := by
 have key : ∀ (n fu : Nat) (y : A), n <= k -> J (k - n) y -> n < fu -> ∃ z, iter body fu y = some (e, z) /\ Q z := by
  intro n
  induction n with
  | zero =>
   intro fu y _ hy hfu
   obtain ⟨z, h1, h2⟩ := he y hy
   obtain ⟨m, rfl⟩ : ∃ m, fu = m + 1 := ⟨fu - 1, by omega⟩
   exact ⟨z, by simp [iter, h1], h2⟩
  | succ n ih =>
   intro fu y hn hy hfu
   obtain ⟨y', h1, h2⟩ := h (k - (n + 1)) y (by omega) hy
   rw [show k - (n + 1) + 1 = k - n by omega] at h2
   obtain ⟨m, rfl⟩ : ∃ m, fu = m + 1 := ⟨fu - 1, by omega⟩
   obtain ⟨z, h3, h4⟩ := ih m y' (by omega) h2 (by omega)
   exact ⟨z, by simp [iter, h1, h3], h4⟩
 obtain ⟨z, h1, h2⟩ := key k fu x (Nat.le_refl _) (by rw [Nat.sub_self]; exact hx) hf
 rw [h1]
 exact hK z h2
def rdc (x : Int × Int) : List C := [.v (.int .i64 x.1), .v (.int .i64 x.2)]
theorem rdc_length (x : Int × Int) : (rdc x).length = 2 := rfl
def okRd (x : Int × Int) : Prop := (1 <= x.1 /\ x.1 <= 11) /\ (rng x.1).1 <= x.2 /\ x.2 <= (rng x.1).2
def okRs (l : List (Int × Int)) : Prop := l.length <= 11 /\ (∀ x ∈ l, okRd x) /\ l.Pairwise fun a b => a.1 < b.1
def fd : List (Int × Int) -> Option Int
 | [] => none
 | x :: l => if x.1 = 1 then some x.2 else fd l
section
variable (fu d : Nat)
theorem sp_eDescribe (c : Int) (hc : 1 <= c /\ c <= 11) : ∃ s g, cl fu (d + 1) fn_element_Describe [I c] [] = some ⟨V.tup [V.agg [C.v (.string s), C.v (.int .i64 (rng c).1), C.v (.int .i64 (rng c).2), C.v (.int .i64 g)], I 0], [], none⟩ := by
 refine cases11 (p := fun c => ∃ s g, cl fu (d + 1) fn_element_Describe [I c] [] = some ⟨V.tup [V.agg [C.v (.string s), C.v (.int .i64 (rng c).1), C.v (.int .i64 (rng c).2), C.v (.int .i64 g)], I 0], [], none⟩) ?_ c hc
 refine ⟨?_, ?_, ?_, ?_, ?_, ?_, ?_, ?_, ?_, ?_, ?_⟩ <;> (rw [eq_element_Describe]; exact ⟨_, _, rfl⟩)
theorem sp_check {x : Int × Int} (h : okRd x) : cl fu (d + 2) fn_element_check [V.agg (rdc x)] [] = OK (I 0) := by
 obtain ⟨s, g, hd⟩ := sp_eDescribe fu d x.1 h.1
 obtain ⟨_, h1, h2⟩ := h
 unfold rdc
 rw [eq_element_check, hd]
 simp (disch := omega) only [QM, QD, List.length_cons, List.length_nil, Nat.zero_add, Nat.reduceAdd]
variable (hf : 18446744073709551616 <= fu)
include hf
theorem sp_index_none (k : Nat) (c : C) (l : List (Int × Int)) (hl : l.length <= 1000) (hp : ∀ x ∈ l, cl fu d k [V.agg (rdc x), V.c c] [] = OK (B false)) :
  cl fu (d + 1) fn_slices_IndexFunc_sapi_Reading_api_Reading [V.c (.sl l.length (fl rdc l)), V.c (C.fn k [c])] [] = OK (I (-1)) := by
 rw [eq1_slices_IndexFunc_sapi_Reading_api_Reading]
 rw [iter_runx (fun j : Nat => ((0 : Int), ((j : Nat) : Int), ())) 0 ((0 : Int), (l.length : Int), ()) l.length ?_ ?_ ?_ (by omega)]
 ·simp only [QM]
 ·rfl
 ·intro j hj
  have h := hp _ (List.getElem_mem hj)
  have hat := fl_at rdc_length hj
  unfold rdc at h
  simp (disch := omega) only [QM, QD, Int.toNat_natCast, hat, rdc, List.cons_append, List.nil_append, h, Int.natCast_add, Int.natCast_one]
 ·simp (disch := omega) only [QM, QD]
theorem sp_has (l : List (Int × Int)) (h : okRs l) (c : Int) (hc : c ≠ 0) : cl fu (d + 6) fn_element_Validate_1 [I c, V.c (C.cp [C.sl l.length (fl rdc l)])] [] = OK (B false) := by
 have hix := sp_index_none fu (d + 3) hf fn_element_Validate_1_1 (C.cp [C.v (.int .i64 c)]) l (by have := h.1; omega) (fun x hx => by
  have hk := sp_check fu d (h.2.1 x hx)
  unfold rdc at hk ⊢
  rw [eq_element_Validate_1_1, hk]
  simp (disch := omega) only [QM, QD])
 rw [eq_element_Validate_1]
 simp only [QM]
 rw [eq1_slices_ContainsFunc_sapi_Reading_api_Reading, hix]
 simp (disch := omega) only [QM, QD]
theorem sp_eValidate (l : List (Int × Int)) (h : okRs l) : cl fu (d + 7) fn_element_Validate [V.c (C.sl l.length (fl rdc l))] [] = OK (I 0) := by
 have h4 := sp_has fu d hf l h 4 (by omega)
 have h1 := sp_has fu d hf l h 1 (by omega)
 have hle := h.1
 rw [eq_element_Validate, h4]
 simp only [QM]
 rw [h1]
 simp only [QM]
 rw [iter_runx (fun j : Nat => ((0 : Int), (((j + 1 : Nat)) : Int), ())) 0 ((0 : Int), ((l.length - 1 + 1 : Nat) : Int), ()) (l.length - 1) ?_ ?_ ?_ (by omega)]
 ·simp only [QM]
 ·rfl
 ·intro j hj
  have hat := fl_at rdc_length (show j < l.length by omega)
  have hat1 := fl_at rdc_length (show j + 1 < l.length by omega)
  have hlt := List.pairwise_iff_getElem.1 h.2.2 j (j + 1) (by omega) (by omega) (by omega)
  have hs : ((j + 1 : Nat) : Int) - 1 = j := by omega
  simp (disch := omega) only [QM, QD, hs, Int.toNat_natCast, hat, hat1, rdc, List.cons_append, List.nil_append]
  rfl
 ·simp (disch := omega) only [QM, QD]
end
end Go.Proofs.YtmbgnpgjdhlegaaDoor
/- Rules that keep simp at what comes first: nothing behind it is looked at (attribute [local congr] in the texts that use them). -/
namespace Go.PM
open Go
def hdt {A : Type} (x : A) : A := x
theorem hdt_eq {A : Type} (x : A) : hdt x = x := id rfl
theorem out1 : Nat.beq 1000001 (OUT + 1) = true := id rfl
theorem out2 : Nat.beq 1000002 (OUT + 2) = true := id rfl
section
variable {R A B' : Type}
theorem hd_bind {x x' : Option A} {k : A -> Option B'} (h : hdt x = x') : x.bind k = x'.bind k := by rw [<- h]; rfl
theorem hd_need {b b' : Bool} {k : Option R} (h : hdt b = b') : need b k = need b' k := by rw [<- h]; rfl
theorem hd_cond {b b' : Bool} {x y : R} (h : hdt b = b') : (bif b then x else y) = (bif b' then x else y) := by rw [<- h]; rfl
theorem hd_unc {c c' : List C} {k : C -> List C -> Option R} (h : hdt c = c') : unc c k = unc c' k := by rw [<- h]; rfl
theorem hd_uncV {c c' : List V} {k : V -> List V -> Option R} (h : hdt c = c') : uncV c k = uncV c' k := by rw [<- h]; rfl
theorem hd_uncO {c c' : List PM.Obj} {k : PM.Obj -> List PM.Obj -> Option R} (h : hdt c = c') : uncO c k = uncO c' k := by rw [<- h]; rfl
theorem hd_unI {c c' : List (List V)} {k : List V -> List (List V) -> Option R} (h : hdt c = c') : unI c k = unI c' k := by rw [<- h]; rfl
theorem hd_asI {kd : IntKind} {c c' : C} {k : Int -> Option R} (h : hdt c = c') : asI kd c k = asI kd c' k := by rw [<- h]; rfl
theorem hd_asB {c c' : C} {k : Bool -> Option R} (h : hdt c = c') : asB c k = asB c' k := by rw [<- h]; rfl
theorem hd_asS {c c' : C} {k : ByteArray -> Option R} (h : hdt c = c') : asS c k = asS c' k := by rw [<- h]; rfl
theorem hd_asSl {c c' : C} {k : Nat -> List C -> Option R} (h : hdt c = c') : asSl c k = asSl c' k := by rw [<- h]; rfl
theorem hd_asFn {c c' : C} {k : FuncId -> List C -> Option R} (h : hdt c = c') : asFn c k = asFn c' k := by rw [<- h]; rfl
theorem hd_asP {c c' : C} {k : List C -> Option R} (h : hdt c = c') : asP c k = asP c' k := by rw [<- h]; rfl
theorem hd_asYF {c c' : C} {ky : Nat -> Option R} {k : FuncId -> List C -> Option R} (h : hdt c = c') : asYF c ky k = asYF c' ky k := by rw [<- h]; rfl
theorem hd_rC {x x' : V} {k : C -> Option R} (h : hdt x = x') : rC x k = rC x' k := by rw [<- h]; rfl
theorem hd_rA {x x' : V} {k : List C -> Option R} (h : hdt x = x') : rA x k = rA x' k := by rw [<- h]; rfl
theorem hd_rT {x x' : V} {k : List V -> Option R} (h : hdt x = x') : rT x k = rT x' k := by rw [<- h]; rfl
theorem hd_rG {x x' : V} {k : List V -> Option R} (h : hdt x = x') : rG x k = rG x' k := by rw [<- h]; rfl
theorem hd_rP {x x' : V} {m : Nat} {k : Option R} (h : hdt x = x') : rP x m k = rP x' m k := by rw [<- h]; rfl
theorem hd_rW {x x' : V} {m : Nat} {k : Nat -> Option R} (h : hdt x = x') : rW x m k = rW x' m k := by rw [<- h]; rfl
theorem hd_rO {o o' : PM.Obj} {t fz : Nat} {k : List C -> Option R} (h : hdt o = o') : rO o t fz k = rO o' t fz k := by rw [<- h]; rfl
theorem hd_rN {o o' : PM.Obj} {t n : Nat} {k : List C -> Option R} (h : hdt o = o') : rN o t n k = rN o' t n k := by rw [<- h]; rfl
theorem hd_rF {o o' : PM.Obj} {t : Nat} {k : Nat -> List C -> Option R} (h : hdt o = o') : rF o t k = rF o' t k := by rw [<- h]; rfl
theorem hd_rS {o o' : PM.Obj} {t fz : Nat} {k : List C -> Option R} (h : hdt o = o') : rS o t fz k = rS o' t fz k := by rw [<- h]; rfl
theorem hd_nilV {x x' : List V} {k : Option R} (h : hdt x = x') : nilV x k = nilV x' k := by rw [<- h]; rfl
theorem hd_natD {n n' : Nat} {a : Option R} {b : Nat -> Option R} (h : hdt n = n') : natD n a b = natD n' a b := by rw [<- h]; rfl
theorem hd_bd {x x' : A} {k : A -> Option R} (h : hdt x = x') : bd x k = bd x' k := by rw [<- h]; rfl
theorem hd_iter {body : A -> Option (Nat × A)} {fu : Nat} {x x' : A} (h : hdt x = x') : iter body fu x = iter body fu x' := by rw [<- h]; rfl
theorem hd_over {I : Type} {body : I -> A -> Option (Nat × A)} {l l' : List I} {x x' : A} (h1 : hdt l = l') (h : hdt x = x') : overK body l x = overK body l' x' := by rw [<- h, <- h1]; rfl
theorem hd_sliceC {sz : Nat} {lo lo' hi hi' : Option V} {c c' : C} {k : C -> Option R} (h1 : hdt lo = lo') (h2 : hdt hi = hi') (h : hdt c = c') : sliceC sz lo hi c k = sliceC sz lo' hi' c' k := by rw [<- h, <- h1, <- h2]; rfl
theorem hd_asMp {c c' : C} {kt et : TypeId} {ka va : Option Nat} {k : List (List C × List C) -> Option R} (h : hdt c = c') : asMp c kt et ka va k = asMp c' kt et ka va k := by rw [<- h]; rfl
end
end Go.PM
/- Reports at places that are made of numbers. -/
namespace Go.Proofs.YtmbgnpgjdhlegaaDoor
open Go Go.PM Go.Grid
attribute [local congr] hd_bind hd_need hd_cond hd_unc hd_uncV hd_uncO hd_unI hd_asI hd_asB hd_asS hd_asSl hd_asFn hd_asP hd_rC hd_rA hd_rT hd_rG hd_rP hd_rO hd_rN hd_rF hd_rS hd_rW hd_nilV hd_natD hd_bd hd_iter hd_over hd_sliceC hd_asMp hd_asYF
structure Rep where
 k : Int
 nm : ByteArray
 tm : Int
 p : Pl
 rs : List (Int × Int)
def repC (x : Rep) : List C := [.v (.int .i64 x.k), .v (.string x.nm), .v (.int .i64 x.tm), .v (.int .i64 x.p.f), .v (.int .i64 x.p.a), .v (.int .i64 x.p.b), .v (.int .i64 x.p.c), C.sl x.rs.length (fl rdc x.rs)]
theorem repC_length (x : Rep) : (repC x).length = 8 := rfl
theorem rep_snoc (l : List Rep) (k : Int) (nm : ByteArray) (tm : Int) (p : Pl) (rs : List (Int × Int)) :
  fl repC l ++ [.v (.int .i64 k), .v (.string nm), .v (.int .i64 tm), .v (.int .i64 p.f), .v (.int .i64 p.a), .v (.int .i64 p.b), .v (.int .i64 p.c), C.sl rs.length (fl rdc rs)] = fl repC (l ++ [⟨k, nm, tm, p, rs⟩]) := fl_snoc l ⟨k, nm, tm, p, rs⟩
theorem rd_snoc (l : List (Int × Int)) (a b : Int) : fl rdc l ++ [.v (.int .i64 a), .v (.int .i64 b)] = fl rdc (l ++ [(a, b)]) := fl_snoc l (a, b)
theorem plc_cells (p : Pl) : plc p = [.v (.int .i64 p.f), .v (.int .i64 p.a), .v (.int .i64 p.b), .v (.int .i64 p.c)] := rfl
def okM (m : Int) : Prop := 0 <= m /\ m <= 52595999
def names6 : List C := [C.v (.string (⟨#[65, 76, 80, 72, 65]⟩)), C.v (.string (⟨#[66, 82, 65, 86, 79]⟩)), C.v (.string (⟨#[48, 49, 50, 51, 52]⟩)), C.v (.string (⟨#[68, 69, 76, 84, 65]⟩)), C.v (.string (⟨#[69, 67, 72, 79, 55]⟩)), C.v (.string (⟨#[55, 55, 55, 55, 55]⟩))]
theorem names_at : ∀ i : Nat, i < 6 -> ∃ s r, List.drop i names6 = C.v (.string s) :: r := by
 intro i hi
 have : i = 0 \/ i = 1 \/ i = 2 \/ i = 3 \/ i = 4 \/ i = 5 := by omega
 rcases this with rfl | rfl | rfl | rfl | rfl | rfl <;> exact ⟨_, _, rfl⟩
section
variable (fu d : Nat) (L : List Int) (hL : L.length <= 2000)
include hL
theorem sp_Name (i : Nat) : ∃ (s : ByteArray) (j : Nat), cl fu (d + 4) fn_synopticdata_Name [V.ptr 1000000 0] [srcO L i] = some ⟨V.c (C.v (.string s)), [srcO L j], none⟩ := by
 obtain ⟨v, j, h1, h2, h3⟩ := sp_N fu d L i hL 6 (by omega)
 obtain ⟨k, rfl⟩ : ∃ k : Nat, v = k := ⟨v.toNat, by omega⟩
 obtain ⟨s, r, hs⟩ := names_at k (by omega)
 refine ⟨s, j, ?_⟩
 have hin : inR (k : Int) 6 = true := by simp [inR]; omega
 have e6 : ((6 : Nat) : Int) = 6 := rfl
 have en : [C.v (.string (⟨#[65, 76, 80, 72, 65]⟩)), C.v (.string (⟨#[66, 82, 65, 86, 79]⟩)), C.v (.string (⟨#[48, 49, 50, 51, 52]⟩)), C.v (.string (⟨#[68, 69, 76, 84, 65]⟩)), C.v (.string (⟨#[69, 67, 72, 79, 55]⟩)), C.v (.string (⟨#[55, 55, 55, 55, 55]⟩))] = names6 := rfl
 unfold srcO srcC at h1 ⊢
 rw [eq_synopticdata_Name, en, eq_synoptickeep_Src_Text]
 simp (disch := omega) only [hdt_eq, QM, QD, e6, h1, List.length_cons, List.length_nil, Nat.zero_add, Nat.reduceAdd, hin, Int.toNat_natCast, Nat.mul_one, hs]
theorem sp_Minute (i : Nat) : ∃ (v : Int) (j : Nat), cl fu (d + 4) fn_synopticdata_Minute [V.ptr 1000000 0] [srcO L i] = some ⟨I v, [srcO L j], none⟩ /\ okM v := by
 obtain ⟨v1, j1, a1, b1, c1⟩ := sp_N fu (d + 1) L i hL 6 (by omega)
 unfold srcO srcC at a1 ⊢
 rw [eq_synopticdata_Minute, a1]
 simp only [hdt_eq, QM, List.length_cons, List.length_nil, Nat.zero_add, Nat.reduceAdd]
 by_cases h0 : v1 = 0
 ·obtain ⟨v2, j2, a2⟩ := sp_Raw fu (d + 2) L j1 hL
  obtain ⟨v3, j3, a3⟩ := sp_Raw fu (d + 2) L j2 hL
  obtain ⟨v4, a4, b4, c4⟩ := sp_Mod fu (d + 2) (IntKind.i64.wrap ((IntKind.i64.wrap (v2 * 7919)) + v3)) 52596000 (by omega)
  unfold srcO srcC at a2 a3
  subst h0
  simp only [hdt_eq, show ((0 : Int) == 0) = true from rfl, ct, a2, a3, a4, QM, List.length_cons, List.length_nil, Nat.zero_add, Nat.reduceAdd]
  exact ⟨v4, j3, rfl, b4, by omega⟩
 ·rw [show (v1 == 0) = false by simpa using h0]
  by_cases h1 : v1 = 1
  ·obtain ⟨v2, j2, a2, b2⟩ := sp_Pick fu d L j1 hL [0, 52595999, 20160, 52575839] (by simp)
   have a2 : cl fu (d + 3) fn_synoptickeep_Src_Pick [V.ptr 1000000 0, V.c (C.sl 4 [C.v (.int .i64 0), C.v (.int .i64 52595999), C.v (.int .i64 20160), C.v (.int .i64 52575839)])] [srcO L j1] = _ := a2
   unfold srcO srcC at a2
   subst h1
   simp only [hdt_eq, show ((1 : Int) == 1) = true from rfl, ct, cf, a2, QM, List.length_cons, List.length_nil, Nat.zero_add, Nat.reduceAdd]
   refine ⟨v2, j2, rfl, ?_⟩
   unfold okM
   simp only [List.mem_cons, List.not_mem_nil, or_false] at b2
   omega
  ·obtain ⟨v2, j2, a2, b2, c2⟩ := sp_N fu (d + 1) L j1 hL 2000 (by omega)
   unfold srcO srcC at a2
   rw [show (v1 == 1) = false by simpa using h1]
   simp (disch := omega) only [hdt_eq, cf, a2, QM, QD, List.length_cons, List.length_nil, Nat.zero_add, Nat.reduceAdd]
   exact ⟨_, j2, rfl, by unfold okM; omega⟩
theorem sp_Near (m : Int) (hm : okM m) (i : Nat) : ∃ (v : Int) (j : Nat), cl fu (d + 4) fn_synopticdata_Near [V.ptr 1000000 0, I m] [srcO L i] = some ⟨I v, [srcO L j], none⟩ /\ okM v := by
 unfold okM at hm
 obtain ⟨v1, j1, a1, b1, c1⟩ := sp_Range fu d L i hL (-600) 600 (by omega) ⟨by omega, by omega⟩
 obtain ⟨v2, j2, a2, b2, c2⟩ := sp_Range fu d L j1 hL (-20159) 20159 (by omega) ⟨by omega, by omega⟩
 obtain ⟨v3, j3, a3, b3⟩ := sp_Pick fu d L j2 hL [0, v1, v2] (by simp)
 have a3 : cl fu (d + 3) fn_synoptickeep_Src_Pick [V.ptr 1000000 0, V.c (C.sl 3 [C.v (.int .i64 0), C.v (.int .i64 v1), C.v (.int .i64 v2)])] [srcO L j2] = _ := a3
 have hv3 : -20159 <= v3 /\ v3 <= 20159 := by
  simp only [List.mem_cons, List.not_mem_nil, or_false] at b3
  omega
 unfold srcO srcC at a1 a2 a3 ⊢
 rw [eq_synopticdata_Near]
 simp (disch := omega) only [hdt_eq, a1, a2, a3, QM, QD, List.length_cons, List.length_nil, Nat.zero_add, Nat.reduceAdd]
 refine ⟨_, j3, rfl, ?_⟩
 unfold okM
 split <;> split <;> omega
variable (hf : 18446744073709551616 <= fu)
include hf
set_option maxHeartbeats 1000000 in
theorem sp_List (i : Nat) : ∃ (rs : List (Int × Int)) (j : Nat), okRs rs /\ cl fu (d + 5) fn_synopticref04_List [V.ptr 1000000 0] [srcO L i] = some ⟨V.c (C.sl rs.length (fl rdc rs)), [srcO L j], none⟩ := by
 unfold srcO srcC
 rw [eq_synopticref04_List]
 refine iter_bind_ex (A := List C × Int × (C × Int × Unit) × Unit) (B := Out) (fu := fu) (fun o => ∃ (rs : List (Int × Int)) (j : Nat), okRs rs /\ o = some ⟨V.c (C.sl rs.length (fl rdc rs)), [.ob ty_synoptickeep_Src 0 [C.sl L.length (ints L), C.v (.int .i64 (j : Nat))]], none⟩)
  (fun n y => ∃ (rs : List (Int × Int)) (q : Nat), (rs.length <= n /\ (∀ x ∈ rs, okRd x /\ x.1 <= n) /\ rs.Pairwise fun a b => a.1 < b.1) /\ y = (fl rdc rs, ((n + 1 : Nat) : Int), (C.sl L.length (ints L), ((q : Nat) : Int), ()), ()))
  (fun z => ∃ (rs : List (Int × Int)) (q : Nat), okRs rs /\ z = (fl rdc rs, (12 : Int), (C.sl L.length (ints L), ((q : Nat) : Int), ()), ())) 0 11 ?_ ?_ ?_ (by omega) ?_
 ·exact ⟨[], i, ⟨by simp, by simp, .nil⟩, rfl⟩
 ·rintro n y hn ⟨rs, q, ⟨r1, r2, r3⟩, rfl⟩
  obtain ⟨w1, q1, x1, z1⟩ := sp_N fu (d + 2) L q hL 3 (by omega)
  unfold srcO srcC at x1
  have hfr := fl_length rdc_length rs
  have hdr : rs.length * 2 / 2 = rs.length := by omega
  by_cases hw : w1 = 0
  ·obtain ⟨w2, q2, x2, z2⟩ := sp_Some fu d L q1 hL ((n + 1 : Nat) : Int) (by omega)
   unfold srcO srcC at x2
   have hsn := rd_snoc rs ((n + 1 : Nat) : Int) w2
   have hlen : (fl rdc (rs ++ [(((n + 1 : Nat) : Int), w2)])).length = (rs.length + 1) * 2 := by rw [fl_length rdc_length]; simp
   refine ⟨_, ?_, rs ++ [(((n + 1 : Nat) : Int), w2)], q2, ⟨by simp; omega, fun x hx => ?_, ?_⟩, rfl⟩
   ·subst hw
    simp (disch := omega) only [hdt_eq, QM, QD, x1, x2, show ((0 : Int) == 0) = true from rfl, List.length_cons, List.length_nil, Nat.zero_add, Nat.reduceAdd, hfr, hdr, hsn, hlen]
    rfl
   ·rcases List.mem_append.1 hx with hx | hx
    ·exact ⟨(r2 x hx).1, by have := (r2 x hx).2; omega⟩
    ·simp at hx; subst hx; exact ⟨⟨by dsimp only; omega, z2⟩, by dsimp only; omega⟩
   ·refine List.pairwise_append.2 ⟨r3, by simp, fun a ha b hb => ?_⟩
    simp at hb; subst hb
    have := (r2 a ha).2
    dsimp only; omega
  ·refine ⟨_, ?_, rs, q1, ⟨by omega, fun x hx => ⟨(r2 x hx).1, by have := (r2 x hx).2; omega⟩, r3⟩, rfl⟩
   simp (disch := omega) only [hdt_eq, QM, QD, x1, show (w1 == 0) = false by simpa using hw, List.length_cons, List.length_nil, Nat.zero_add, Nat.reduceAdd, hfr, hdr]
   rfl
 ·rintro y ⟨rs, q, ⟨r1, r2, r3⟩, rfl⟩
  have hfr := fl_length rdc_length rs
  have hdr : rs.length * 2 / 2 = rs.length := by omega
  refine ⟨_, ?_, rs, q, ⟨r1, fun x hx => (r2 x hx).1, r3⟩, rfl⟩
  simp (disch := omega) only [hdt_eq, QM, QD, hfr, hdr]
  rfl
 ·rintro z ⟨rs, q, hrs, rfl⟩
  have hfr := fl_length rdc_length rs
  have hdr : rs.length * 2 / 2 = rs.length := by omega
  have ht : List.take (rs.length * 2) (fl rdc rs) = fl rdc rs := List.take_of_length_le (by omega)
  refine ⟨rs, q, hrs, ?_⟩
  simp (disch := omega) only [hdt_eq, QM, QD, hfr, hdr, ht, Nat.zero_add]
def zeroPl : Pl := ⟨0, 0, 0, 0⟩
theorem sp_Report (m : Int) (hm : okM m) (i : Nat) : ∃ (x : Rep) (j : Nat), (okRs x.rs /\ okM x.tm) /\ cl fu (d + 6) fn_synopticdata_Report [V.ptr 1000000 0, I m] [srcO L i] = some ⟨V.agg (repC x), [srcO L j], none⟩ := by
 obtain ⟨v1, j1, a1, b1, c1⟩ := sp_Range fu (d + 2) L i hL 1 3 (by omega) ⟨by omega, by omega⟩
 obtain ⟨s2, j2, a2⟩ := sp_Name fu (d + 1) L hL j1
 obtain ⟨v3, j3, a3, b3⟩ := sp_Near fu (d + 1) L hL m hm j2
 obtain ⟨rs, j4, b4, a4⟩ := sp_List fu d L hL hf j3
 obtain ⟨p, j5, b5, a5⟩ := sp_Place fu d hf L j4 hL
 unfold srcO srcC at a1 a2 a3 a4 a5 ⊢
 rw [eq_synopticdata_Report]
 simp (disch := omega) only [hdt_eq, a1, a2, a3, a4, QM, QD, List.length_cons, List.length_nil, Nat.zero_add, Nat.reduceAdd]
 by_cases h : v1 = 1
 ·subst h
  exact ⟨⟨1, s2, v3, zeroPl, rs⟩, j4, ⟨b4, b3⟩, rfl⟩
 ·rw [show (v1 != 1) = true by simpa using h]
  simp (disch := omega) only [hdt_eq, ct, a5, plc_cells, QM, QD, List.length_cons, List.length_nil, Nat.zero_add, Nat.reduceAdd]
  exact ⟨⟨v1, s2, v3, p, rs⟩, j5, ⟨b4, b3⟩, rfl⟩
def okRep (x : Rep) : Prop := NP x.p /\ okRs x.rs /\ okM x.tm
set_option maxHeartbeats 1000000 in
theorem sp_Placed (n : Int) (hn : 0 <= n /\ n <= 100) (m : Int) (hm : okM m) (i : Nat) : ∃ (X : List Rep) (j : Nat), (X.length <= n /\ ∀ x ∈ X, okRep x) /\
  cl fu (d + 7) fn_synopticdata_Placed [V.ptr 1000000 0, I n, I m] [srcO L i] = some ⟨V.own 1000001 0 X.length, [srcO L j, .sb ty_api_Report 0 (fl repC X)], none⟩ := by
 obtain ⟨p0, j1, hp0, c1⟩ := sp_Place fu (d + 1) hf L i hL
 obtain ⟨v1, j2, c2, b1, b2⟩ := sp_N fu (d + 4) L j1 hL (n + 1) (by omega)
 obtain ⟨k, rfl⟩ : ∃ k : Nat, v1 = k := ⟨v1.toNat, by omega⟩
 unfold srcO srcC at c1 c2 ⊢
 rw [eq_synopticdata_Placed]
 simp (disch := omega) only [hdt_eq, QM, QD, plc_cells, c1, c2, List.length_cons, List.length_nil, Nat.zero_add, Nat.reduceAdd]
 refine iter_bind_ex (A := List C × Int × (C × Int × Unit) × Unit) (B := Out) (fu := fu) (fun o => ∃ (X : List Rep) (j : Nat), (X.length <= n /\ ∀ x ∈ X, okRep x) /\ o = some ⟨V.own 1000001 0 X.length, [.ob ty_synoptickeep_Src 0 [C.sl L.length (ints L), C.v (.int .i64 (j : Nat))], .sb ty_api_Report 0 (fl repC X)], none⟩)
  (fun j y => ∃ (X : List Rep) (q : Nat), (X.length = j /\ ∀ x ∈ X, okRep x) /\ y = (fl repC X, ((k - j : Nat) : Int), (C.sl L.length (ints L), ((q : Nat) : Int), ()), ()))
  (fun z => ∃ (X : List Rep) (q : Nat), (X.length <= n /\ ∀ x ∈ X, okRep x) /\ z = (fl repC X, (0 : Int), (C.sl L.length (ints L), ((q : Nat) : Int), ()), ())) 0 k ?_ ?_ ?_ (by omega) ?_
 ·exact ⟨[], j2, ⟨rfl, by simp⟩, rfl⟩
 ·rintro j y hj ⟨X, q, ⟨hX, hok⟩, rfl⟩
  obtain ⟨x, q1, ⟨x1, x2⟩, c3⟩ := sp_Report fu d L hL hf m hm q
  obtain ⟨p, q2, hp, c4⟩ := sp_Place fu (d + 1) hf L q1 hL
  obtain ⟨v5, q3, c5, b5, b5'⟩ := sp_N fu (d + 4) L q2 hL 2 (by omega)
  unfold srcO srcC at c3 c4 c5
  unfold repC at c3
  have hfl := fl_length repC_length X
  have hdv : X.length * 8 / 8 = X.length := by omega
  have hs : ((k - j : Nat) : Int) - 1 = ((k - (j + 1) : Nat) : Int) := by omega
  by_cases h : v5 = 0
  ·have hsn := rep_snoc X x.k x.nm x.tm p0 x.rs
   have hlen : (fl repC (X ++ [⟨x.k, x.nm, x.tm, p0, x.rs⟩])).length = (X.length + 1) * 8 := by rw [fl_length repC_length]; simp
   refine ⟨_, ?_, X ++ [⟨x.k, x.nm, x.tm, p0, x.rs⟩], q3, ⟨by simp; omega, fun y hy => ?_⟩, rfl⟩
   ·subst h
    simp (disch := omega) only [hdt_eq, QM, QD, c3, c4, c5, plc_cells, show ((0 : Int) == 0) = true from rfl, List.length_cons, List.length_nil, Nat.zero_add, Nat.reduceAdd, hfl, hdv, hsn, hlen, hs]
   ·rcases List.mem_append.1 hy with hy | hy
    ·exact hok y hy
    ·simp at hy; subst hy; exact ⟨hp0, x1, x2⟩
  ·have hsn := rep_snoc X x.k x.nm x.tm p x.rs
   have hlen : (fl repC (X ++ [⟨x.k, x.nm, x.tm, p, x.rs⟩])).length = (X.length + 1) * 8 := by rw [fl_length repC_length]; simp
   refine ⟨_, ?_, X ++ [⟨x.k, x.nm, x.tm, p, x.rs⟩], q3, ⟨by simp; omega, fun y hy => ?_⟩, rfl⟩
   ·simp (disch := omega) only [hdt_eq, QM, QD, c3, c4, c5, plc_cells, show (v5 == 0) = false by simpa using h, List.length_cons, List.length_nil, Nat.zero_add, Nat.reduceAdd, hfl, hdv, hsn, hlen, hs]
   ·rcases List.mem_append.1 hy with hy | hy
    ·exact hok y hy
    ·simp at hy; subst hy; exact ⟨hp, x1, x2⟩
 ·rintro y ⟨X, q, ⟨hX, hok⟩, rfl⟩
  have hfl := fl_length repC_length X
  have hdv : X.length * 8 / 8 = X.length := by omega
  refine ⟨_, ?_, X, q, ⟨by omega, hok⟩, rfl⟩
  rw [Nat.sub_self]
  simp (disch := omega) only [hdt_eq, QM, QD, hfl, hdv]
  rfl
 ·rintro z ⟨X, q, ⟨hX, hok⟩, rfl⟩
  have hfl := fl_length repC_length X
  have hdv : X.length * 8 / 8 = X.length := by omega
  have ht : List.take (X.length * 8) (fl repC X) = fl repC X := List.take_of_length_le (by omega)
  refine ⟨X, q, ⟨hX, hok⟩, ?_⟩
  simp (disch := omega) only [hdt_eq, QM, QD, hfl, hdv, ht, Nat.zero_add]
end
end Go.Proofs.YtmbgnpgjdhlegaaDoor
/- The calendar: the program's Date. -/
namespace Go.Proofs.YtmbgnpgjdhlegaaDoor
open Go Go.PM Go.Grid
def fstN (k : Nat) : Nat := 1440 * (365 * k + (k + 3) / 4)
def ln (b : Bool) (m : Nat) : Nat := [31, bif b then 29 else 28, 31, 30, 31, 30, 31, 31, 30, 31, 30, 31].getD m 0
def leap (k : Nat) : Bool := k % 4 == 0
def cum (b : Bool) : Nat -> Nat
 | 0 => 0
 | m + 1 => cum b m + ln b m
def lensC (b : Bool) : List C := [C.v (.int .i64 31), C.v (.int .i64 (bif b then 29 else 28)), C.v (.int .i64 31), C.v (.int .i64 30), C.v (.int .i64 31), C.v (.int .i64 30), C.v (.int .i64 31), C.v (.int .i64 31), C.v (.int .i64 30), C.v (.int .i64 31), C.v (.int .i64 30), C.v (.int .i64 31)]
theorem twelve {p : Nat -> Prop} (h : p 0 /\ p 1 /\ p 2 /\ p 3 /\ p 4 /\ p 5 /\ p 6 /\ p 7 /\ p 8 /\ p 9 /\ p 10 /\ p 11) (m : Nat) (hm : m < 12) : p m := by
 obtain ⟨h0, h1, h2, h3, h4, h5, h6, h7, h8, h9, h10, h11⟩ := h
 have : m = 0 \/ m = 1 \/ m = 2 \/ m = 3 \/ m = 4 \/ m = 5 \/ m = 6 \/ m = 7 \/ m = 8 \/ m = 9 \/ m = 10 \/ m = 11 := by omega
 rcases this with rfl | rfl | rfl | rfl | rfl | rfl | rfl | rfl | rfl | rfl | rfl | rfl <;> assumption
theorem lens_at (b : Bool) (m : Nat) (hm : m < 12) : ∃ r, List.drop m (lensC b) = C.v (.int .i64 (ln b m : Nat)) :: r := by
 refine twelve (p := fun m => ∃ r, List.drop m (lensC b) = C.v (.int .i64 (ln b m : Nat)) :: r) ?_ m hm
 cases b <;> exact ⟨⟨_, rfl⟩, ⟨_, rfl⟩, ⟨_, rfl⟩, ⟨_, rfl⟩, ⟨_, rfl⟩, ⟨_, rfl⟩, ⟨_, rfl⟩, ⟨_, rfl⟩, ⟨_, rfl⟩, ⟨_, rfl⟩, ⟨_, rfl⟩, ⟨_, rfl⟩⟩
theorem ln_bounds (b : Bool) (m : Nat) (hm : m < 12) : 28 <= ln b m /\ ln b m <= 31 := by
 refine twelve (p := fun m => 28 <= ln b m /\ ln b m <= 31) ?_ m hm
 cases b <;> decide
theorem cum12 (b : Bool) : cum b 12 = if b then 366 else 365 := by cases b <;> rfl
theorem cum_le (b : Bool) (m : Nat) (hm : m <= 12) : cum b m <= 366 := by
 have : ∀ m, m <= 12 -> cum b m + (12 - m) * 28 <= cum b 12 := by
  intro m h
  obtain ⟨j, rfl⟩ : ∃ j, m = 12 - j := ⟨12 - m, by omega⟩
  have hj : j <= 12 \/ 12 < j := by omega
  rcases hj with hj | hj
  ·clear h hm
   induction j with
   | zero => simp
   | succ j ih =>
    have ih := ih (by omega)
    have h1 := ln_bounds b (12 - (j + 1)) (by omega)
    have h2 : cum b (12 - (j + 1) + 1) = cum b (12 - (j + 1)) + ln b (12 - (j + 1)) := rfl
    rw [show 12 - (j + 1) + 1 = 12 - j by omega] at h2
    omega
  ·rw [show 12 - j = 12 - 12 by omega]; cases b <;> decide
 have h1 := this m hm
 rw [cum12] at h1
 split at h1 <;> omega
def inMonth (t : Int) (k m : Nat) : Prop := (fstN k + 1440 * cum (leap k) m : Nat) <= t /\ t < (fstN k + 1440 * cum (leap k) (m + 1) : Nat)
theorem fst_succ (k : Nat) : fstN (k + 1) = fstN k + 1440 * cum (leap k) 12 := by
 have : k % 4 = 0 \/ k % 4 = 1 \/ k % 4 = 2 \/ k % 4 = 3 := by omega
 rw [cum12]
 unfold fstN leap
 rcases this with h | h | h | h <;> rw [h] <;> simp <;> omega
theorem fst_mono {k k' : Nat} (h : k <= k') : fstN k <= fstN k' := by
 induction h with
 | refl => exact Nat.le_refl _
 | step _ ih => rw [fst_succ]; omega
theorem cum_mono (b : Bool) {m m' : Nat} (h : m <= m') : cum b m <= cum b m' := by
 induction h with
 | refl => exact Nat.le_refl _
 | step _ ih => exact Nat.le_trans ih (by simp [cum])
theorem inMonth_unique {t : Int} {k m k' m' : Nat} (hm : m < 12) (hm' : m' < 12) (h : inMonth t k m) (h' : inMonth t k' m') : k = k' /\ m = m' := by
 have key : ∀ {k m k' m' : Nat}, m < 12 -> inMonth t k m -> inMonth t k' m' -> k' <= k := by
  intro k m k' m' hm h h'
  refine Decidable.byContradiction fun hlt => ?_
  have h1 := fst_mono (show k + 1 <= k' by omega)
  rw [fst_succ] at h1
  have h2 := cum_mono (leap k) (show m + 1 <= 12 by omega)
  have h3 := h.2
  have h4 := h'.1
  omega
 have hk : k = k' := Nat.le_antisymm (key hm' h' h) (key hm h h')
 subst hk
 refine ⟨rfl, ?_⟩
 have key2 : ∀ {m m' : Nat}, inMonth t k m -> inMonth t k m' -> m' <= m := by
  intro m m' h h'
  refine Decidable.byContradiction fun hlt => ?_
  have h1 := cum_mono (leap k) (show m + 1 <= m' by omega)
  have h3 := h.2
  have h4 := h'.1
  omega
 exact Nat.le_antisymm (key2 h' h) (key2 h h')
section
variable (fu d : Nat)
theorem sp_first (k : Nat) (hk : k <= 1000) : cl fu (d + 1) fn_clock_first [I (2000 + (k : Nat))] [] = OK (I (fstN k : Nat)) := by
 have h1 : Int.tdiv (((k : Nat) : Int) + 3) 4 = (((k + 3) / 4 : Nat) : Int) := by
  rw [Int.tdiv_eq_ediv_of_nonneg (by omega)]; omega
 have h2 : (2000 : Int) + (k : Nat) - 2000 = (k : Nat) := by omega
 have h3 : (0 : Int) <= (((k + 3) / 4 : Nat) : Int) /\ (((k + 3) / 4 : Nat) : Int) <= 1000 := by omega
 have h4 : ((fstN k : Nat) : Int) = 1440 * (365 * ((k : Nat) : Int) + (((k + 3) / 4 : Nat) : Int)) := by unfold fstN; omega
 rw [eq_clock_first, h2, wrap_in (show -9223372036854775808 <= ((k : Nat) : Int) by omega) (by omega), wrap_in (show -9223372036854775808 <= ((k : Nat) : Int) + 3 by omega) (by omega), h1, h4]
 generalize (((k + 3) / 4 : Nat) : Int) = q at h3 ⊢
 simp (disch := omega) only [QM, QD]
theorem sp_in (t : Int) (h : okM t) : cl fu (d + 1) fn_clock_in [I t] [] = OK (B true) := by
 unfold okM at h
 rw [eq_clock_in]
 simp (disch := omega) only [QM, QD]
theorem tmod4 (k : Nat) : (Int.tmod (2000 + ((k : Nat) : Int)) 4 == 0) = leap k := by
 have h1 : Int.tmod (2000 + ((k : Nat) : Int)) 4 = ((k % 4 : Nat) : Int) := by
  rw [Int.tmod_eq_emod_of_nonneg (by omega)]; omega
 rw [h1]
 unfold leap
 cases h : k % 4 == 0
 ·rw [beq_eq_false_iff_ne] at h ⊢; omega
 ·rw [beq_iff_eq] at h ⊢; omega
theorem sp_lengths (k : Nat) : cl fu (d + 1) fn_clock_lengths [I (2000 + (k : Nat))] [] = OK (V.agg (lensC (leap k))) := by
 rw [eq_clock_lengths, tmod4]
 cases leap k <;> rfl
variable (hf : 18446744073709551616 <= fu)
include hf
set_option maxHeartbeats 1000000 in
theorem sp_Date (t : Int) (ht : okM t) : ∃ (k m : Nat) (dd hh mi : Int), (k < 100 /\ m < 12 /\ inMonth t k m) /\
  cl fu (d + 2) fn_clock_Date [I t] [] = OK (V.tup [V.agg [C.v (.int .i64 (2000 + (k : Nat))), C.v (.int .i64 ((m + 1 : Nat) : Int)), C.v (.int .i64 dd), C.v (.int .i64 hh), C.v (.int .i64 mi)], I 0]) := by
 have ht' := ht
 unfold okM at ht'
 obtain ⟨k, hk, hk1, hk2⟩ : ∃ k : Nat, k < 100 /\ (fstN k : Nat) <= t /\ t < (fstN (k + 1) : Nat) := by
  rcases first_or_none (fun k => t < (fstN (k + 1) : Nat)) 100 with h | ⟨k, h1, h2, h3⟩
  ·have := h 99 (by omega)
   have e : fstN 100 = 52596000 := by decide
   rw [show (99 : Nat) + 1 = 100 from rfl, e] at this
   omega
  ·refine ⟨k, h1, ?_, h2⟩
   cases k with
   | zero =>
    have e : fstN 0 = 0 := by decide
    rw [e]; omega
   | succ k => have := h3 k (by omega); omega
 rw [eq_clock_Date, sp_in fu d t ht]
 simp only [QM]
 rw [iter_runx (fun j : Nat => (((0 : Int), (0 : Int), (0 : Int), (0 : Int), (0 : Int), ()), ((2000 + ((j : Nat) : Int)), (1 : Int), (0 : Int), (0 : Int), (0 : Int), ()), ())) 0 (((0 : Int), (0 : Int), (0 : Int), (0 : Int), (0 : Int), ()), ((2000 + ((k : Nat) : Int)), (1 : Int), (0 : Int), (0 : Int), (0 : Int), ()), ()) k ?_ ?_ ?_ (by omega)]
 rotate_left
 ·rfl
 ·intro j hj
  have h1 := fst_mono (show j + 1 <= k by omega)
  have h2 : (2000 : Int) + (j : Nat) + 1 = 2000 + ((j + 1 : Nat) : Int) := by omega
  simp only [h2]
  rw [wrap_in (show -9223372036854775808 <= (2000 : Int) + ((j + 1 : Nat) : Int) by omega) (by omega), sp_first fu (d := d) (j + 1) (by omega)]
  simp (disch := omega) only [QM, QD]
 ·have h2 : (2000 : Int) + (k : Nat) + 1 = 2000 + ((k + 1 : Nat) : Int) := by omega
  simp only [h2]
  rw [wrap_in (show -9223372036854775808 <= (2000 : Int) + ((k + 1 : Nat) : Int) by omega) (by omega), sp_first fu (d := d) (k + 1) (by omega)]
  simp (disch := omega) only [QM, QD]
 simp only [QM, sp_first fu (d := d) k (by omega), sp_lengths]
 have hfs := fst_succ k
 obtain ⟨r, hr⟩ : ∃ r : Nat, t - ((fstN k : Nat) : Int) = ((r : Nat) : Int) := ⟨(t - ((fstN k : Nat) : Int)).toNat, by omega⟩
 have hr2 : r < 1440 * cum (leap k) 12 := by omega
 have hc12 : cum (leap k) 12 <= 366 := cum_le _ 12 (by omega)
 have hdv : Int.tdiv ((r : Nat) : Int) 1440 = ((r / 1440 : Nat) : Int) := by
  rw [Int.tdiv_eq_ediv_of_nonneg (by omega)]; omega
 obtain ⟨m, hm, hm1, hm2⟩ : ∃ m : Nat, m < 12 /\ cum (leap k) m <= r / 1440 /\ r / 1440 < cum (leap k) (m + 1) := by
  rcases first_or_none (fun m => r / 1440 < cum (leap k) (m + 1)) 12 with h | ⟨m, h1, h2, h3⟩
  ·have := h 11 (by omega)
   rw [show (11 : Nat) + 1 = 12 from rfl] at this
   omega
  ·refine ⟨m, h1, ?_, h2⟩
   cases m with
   | zero => simp [cum]
   | succ m => have := h3 m (by omega); omega
 rw [hr, wrap_in (show -9223372036854775808 <= ((r : Nat) : Int) by omega) (by omega), hdv, wrap_in (show -9223372036854775808 <= ((r / 1440 : Nat) : Int) by omega) (by omega)]
 have hstep : ∀ j, j < 12 -> cum (leap k) (j + 1) = cum (leap k) j + ln (leap k) j := fun _ _ => rfl
 rw [iter_runx (fun j : Nat => (((r / 1440 - cum (leap k) j : Nat) : Int), ((j : Nat) : Int), ((0 : Int), (0 : Int), (0 : Int), (0 : Int), (0 : Int), ()), ((2000 + ((k : Nat) : Int)), ((j + 1 : Nat) : Int), (0 : Int), (0 : Int), (0 : Int), ()), ())) 0 (((r / 1440 - cum (leap k) m : Nat) : Int), ((m : Nat) : Int), ((0 : Int), (0 : Int), (0 : Int), (0 : Int), (0 : Int), ()), ((2000 + ((k : Nat) : Int)), ((m + 1 : Nat) : Int), (0 : Int), (0 : Int), (0 : Int), ()), ()) m ?_ ?_ ?_ (by omega)]
 rotate_left
 ·rfl
 ·intro j hj
  obtain ⟨rr, hat⟩ := lens_at (leap k) j (by omega)
  have h1 := hstep j (by omega)
  have h2 := cum_mono (leap k) (show j + 1 <= m by omega)
  have h3 := ln_bounds (leap k) j (by omega)
  simp (disch := omega) only [QM, QD, Int.toNat_natCast, Nat.mul_one, hat]
  congr 3
  ·omega
 ·obtain ⟨rr, hat⟩ := lens_at (leap k) m hm
  have h1 := hstep m hm
  have h3 := ln_bounds (leap k) m hm
  simp (disch := omega) only [QM, QD, Int.toNat_natCast, Nat.mul_one, hat]
 refine ⟨k, m, _, _, _, ⟨hk, hm, ?_, ?_⟩, rfl⟩
 ·have : 1440 * cum (leap k) m <= r := by have := Nat.div_mul_le_self r 1440; have := Nat.mul_le_mul_left 1440 hm1; omega
  omega
 ·have : r < 1440 * cum (leap k) (m + 1) := by have h1 := Nat.div_add_mod r 1440; have h2 := Nat.mod_lt r (show 1440 > 0 by omega); have := Nat.mul_le_mul_left 1440 (show r / 1440 + 1 <= cum (leap k) (m + 1) by omega); omega
  omega
end
end Go.Proofs.YtmbgnpgjdhlegaaDoor
/- Maps whose values are lists that are appended to: plain laws. -/
namespace Go.PM
open Go
section
variable {K W : Type} [DecidableEq K]
def glook : List (K × List W) -> K -> Nat -> Option (Nat × List W)
 | [], _, _ => none
 | e :: r, k, i => if e.1 = k then some (i, e.2) else glook r k (i + 1)
def gval (M : List (K × List W)) (k : K) : List W := match glook M k 0 with | some p => p.2 | none => []
def gadd (M : List (K × List W)) (k : K) (w : W) : List (K × List W) := match glook M k 0 with | some p => M.set p.1 (k, p.2 ++ [w]) | none => M ++ [(k, [w])]
def gent (kC : K -> List C) (vC : W -> List C) (e : K × List W) : List C × List C := (kC e.1, fl vC e.2)
theorem glook_spec (k : K) : ∀ (M : List (K × List W)) (i : Nat), (glook M k i = none /\ k ∉ M.map (·.1)) \/ ∃ j ws, glook M k i = some (i + j, ws) /\ M[j]? = some (k, ws)
 | [], i => .inl ⟨rfl, by simp⟩
 | e :: M, i => by
  by_cases h : e.1 = k
  ·exact .inr ⟨0, e.2, by simp [glook, h], by simp [<- h]⟩
  ·rcases glook_spec k M (i + 1) with ⟨h1, h2⟩ | ⟨j, ws, h1, h2⟩
   ·exact .inl ⟨by simp [glook, h, h1], by simp only [List.map_cons, List.mem_cons, not_or]; exact ⟨fun e => h e.symm, h2⟩⟩
   ·exact .inr ⟨j + 1, ws, by simp [glook, h, h1]; omega, by simpa using h2⟩
section
variable {P : Program} {kt : TypeId} {kC : K -> List C} {vC : W -> List C}
theorem mfind_gent (heq : ∀ a b, eqT P 20 kt (kC a) (kC b) = some (decide (a = b))) (hce : ∀ a, ceqs (kC a) (kC a) = true) (k : K) : ∀ (M : List (K × List W)) (i : Nat),
  mfind P kt (kC k) (M.map (gent kC vC)) i = some ((glook M k i).map fun q => (q.1, fl vC q.2))
 | [], i => rfl
 | e :: M, i => by
  simp only [List.map_cons, mfind, gent, heq]
  by_cases h : k = e.1
  ·rw [decide_eq_true h]
   subst h
   simp [glook, hce, need]
  ·rw [decide_eq_false h]
   simp only [cond_false, glook, if_neg (show ¬ e.1 = k from fun e' => h e'.symm)]
   exact mfind_gent heq hce k M (i + 1)
theorem orZ_gent (M : List (K × List W)) (k : K) : orZ ((glook M k 0).map fun q => (q.1, fl vC q.2)) [] = fl vC (gval M k) := by
 unfold gval
 cases glook M k 0 <;> rfl
theorem mput_gent (M : List (K × List W)) (k : K) (w : W) : mput (M.map (gent kC vC)) ((glook M k 0).map fun q => (q.1, fl vC q.2)) (kC k) (fl vC (gval M k) ++ vC w) = (gadd M k w).map (gent kC vC) := by
 unfold gadd gval
 cases glook M k 0 with
 | none => simp [mput, gent, fl]
 | some p => simp [mput, gent, List.map_set, fl_append, fl]
end
theorem mem_gadd {M : List (K × List W)} (hn : (M.map (·.1)).Nodup) (k : K) (w : W) (e : K × List W) : e ∈ gadd M k w ↔ (e.1 ≠ k /\ e ∈ M) \/ e = (k, gval M k ++ [w]) := by
 unfold gadd gval
 rcases glook_spec k M 0 with ⟨h1, h2⟩ | ⟨j, ws, h1, h2⟩
 ·rw [h1]
  simp only [List.mem_append, List.mem_singleton, List.nil_append]
  constructor
  ·rintro (h | h)
   ·exact .inl ⟨fun e' => h2 (e' ▸ List.mem_map.2 ⟨e, h, rfl⟩), h⟩
   ·exact .inr h
  ·rintro (⟨_, h⟩ | h)
   ·exact .inl h
   ·exact .inr h
 ·rw [h1, Nat.zero_add]
  obtain ⟨hj, hje⟩ := List.getElem?_eq_some_iff.1 h2
  simp only
  rw [List.mem_iff_getElem?]
  constructor
  ·rintro ⟨i, hi⟩
   rw [List.getElem?_set] at hi
   by_cases e' : j = i
   ·rw [if_pos e', if_pos hj] at hi
    exact .inr (Option.some.inj hi).symm
   ·rw [if_neg e'] at hi
    refine .inl ⟨fun ek => e' ?_, List.mem_of_getElem? hi⟩
    have h3 : (M.map (·.1))[i]? = some k := by rw [List.getElem?_map, hi]; exact congrArg some ek
    have h4 : (M.map (·.1))[j]? = some k := by rw [List.getElem?_map, h2]; rfl
    exact (List.getElem?_inj (by simpa using hj) hn).1 (h4.trans h3.symm)
  ·rintro (⟨hk, hm⟩ | rfl)
   ·obtain ⟨i, hi⟩ := List.mem_iff_getElem?.1 hm
    refine ⟨i, ?_⟩
    rw [List.getElem?_set, if_neg, hi]
    intro e'
    subst e'
    rw [h2] at hi
    exact hk (congrArg Prod.fst (Option.some.inj hi)).symm
   ·exact ⟨j, by rw [List.getElem?_set, if_pos rfl, if_pos hj]⟩
theorem keys_gadd {M : List (K × List W)} (hn : (M.map (·.1)).Nodup) (k : K) (w : W) : ((gadd M k w).map (·.1)).Nodup /\ (gadd M k w).length <= M.length + 1 := by
 unfold gadd
 rcases glook_spec k M 0 with ⟨h1, h2⟩ | ⟨j, ws, h1, h2⟩
 ·rw [h1]
  refine ⟨?_, by simp⟩
  simp only [List.map_append, List.map_cons, List.map_nil]
  rw [List.nodup_append]
  exact ⟨hn, by simp, fun a ha b hb => by simp at hb; subst hb; exact fun e => h2 (e ▸ ha)⟩
 ·rw [h1, Nat.zero_add]
  refine ⟨?_, by simp⟩
  obtain ⟨hj, hje⟩ := List.getElem?_eq_some_iff.1 h2
  have : (M.set j (k, ws ++ [w])).map (·.1) = M.map (·.1) := by
   rw [List.map_set]
   apply List.ext_getElem?
   intro i
   rw [List.getElem?_set]
   split
   ·rename_i e
    subst e
    rw [if_pos (by simpa using hj), List.getElem?_map, h2]; rfl
   ·rfl
  simp only [this]
  exact hn
def grp (I : List (K × W)) : List (K × List W) := I.foldl (fun M x => gadd M x.1 x.2) []
theorem grp_snoc (I : List (K × W)) (x : K × W) : grp (I ++ [x]) = gadd (grp I) x.1 x.2 := by simp [grp, List.foldl_append]
def vals (I : List (K × W)) (k : K) : List W := (I.filter fun x => decide (x.1 = k)).map (·.2)
theorem vals_snoc (I : List (K × W)) (x : K × W) (k : K) : vals (I ++ [x]) k = if x.1 = k then vals I k ++ [x.2] else vals I k := by
 unfold vals
 rw [List.filter_append]
 by_cases h : x.1 = k
 ·rw [if_pos h]; simp [List.filter_cons, h]
 ·rw [if_neg h]; simp [List.filter_cons, h]
theorem mem_vals {I : List (K × W)} {k : K} {w : W} : w ∈ vals I k ↔ (k, w) ∈ I := by
 unfold vals
 simp only [List.mem_map, List.mem_filter, decide_eq_true_eq]
 constructor
 ·rintro ⟨x, ⟨h1, h2⟩, rfl⟩; rw [<- h2]; exact h1
 ·intro h; exact ⟨(k, w), ⟨h, rfl⟩, rfl⟩
theorem rev_ind {α : Type} {p : List α -> Prop} (h0 : p []) (hs : ∀ l a, p l -> p (l ++ [a])) (l : List α) : p l := by
 rw [<- List.reverse_reverse l]
 induction l.reverse with
 | nil => exact h0
 | cons a r ih => rw [List.reverse_cons]; exact hs _ _ ih
theorem grp_spec (I : List (K × W)) : ((grp I).map (·.1)).Nodup /\ (∀ e, e ∈ grp I ↔ e.2 = vals I e.1 /\ e.2 ≠ []) /\ (grp I).length <= I.length := by
 refine rev_ind (p := fun I => ((grp I).map (·.1)).Nodup /\ (∀ e, e ∈ grp I ↔ e.2 = vals I e.1 /\ e.2 ≠ []) /\ (grp I).length <= I.length) ?_ (fun I x ih => ?_) I
 ·refine ⟨by simp [grp], fun e => ?_, by simp [grp]⟩
  simp only [grp, List.foldl_nil, List.not_mem_nil, false_iff, vals, List.filter_nil, List.map_nil]
  exact fun h => h.2 h.1
 ·obtain ⟨h1, h2, h3⟩ := ih
  rw [grp_snoc]
  obtain ⟨h4, h5⟩ := keys_gadd h1 x.1 x.2
  refine ⟨h4, fun e => ?_, by simp; omega⟩
  rw [mem_gadd h1]
  have hg : gval (grp I) x.1 = vals I x.1 := by
   unfold gval
   rcases glook_spec x.1 (grp I) 0 with ⟨q1, q2⟩ | ⟨j, ws, q1, q2⟩
   ·rw [q1]
    refine Decidable.byContradiction fun hne => q2 ?_
    exact List.mem_map.2 ⟨(x.1, vals I x.1), (h2 _).2 ⟨rfl, fun e => hne e.symm⟩, rfl⟩
   ·rw [q1]
    exact ((h2 _).1 (List.mem_of_getElem? q2)).1
  rw [hg, vals_snoc]
  constructor
  ·rintro (⟨q1, q2⟩ | rfl)
   ·rw [if_neg (fun e' => q1 e'.symm)]; exact (h2 e).1 q2
   ·simp
  ·intro ⟨q1, q2⟩
   by_cases he : x.1 = e.1
   ·rw [if_pos he] at q1
    right
    cases e
    simp only at he q1 ⊢
    subst he
    rw [q1]
   ·rw [if_neg he] at q1
    exact .inl ⟨fun e' => he e'.symm, (h2 e).2 ⟨q1, q2⟩⟩
end
end Go.PM
/- What a climate is that was learned: plain laws; the normal of some values. -/
namespace Go.Proofs.YtmbgnpgjdhlegaaDoor
open Go Go.PM Go.Grid
noncomputable def mo (t : Int) : Nat := Classical.epsilon fun m => m < 12 /\ ∃ k, inMonth t k m
theorem mo_eq {t : Int} {k m : Nat} (hm : m < 12) (h : inMonth t k m) : mo t = m := by
 have h1 : mo t < 12 /\ ∃ k, inMonth t k (mo t) := Classical.epsilon_spec (p := fun m => m < 12 /\ ∃ k, inMonth t k m) ⟨m, hm, k, h⟩
 obtain ⟨h2, k', h3⟩ := h1
 exact (inMonth_unique h2 hm h3 h).2
theorem sp_Date' (fu d : Nat) (hf : 18446744073709551616 <= fu) (t : Int) (ht : okM t) : mo t < 12 /\ ∃ (yy dd hh mi : Int), cl fu (d + 2) fn_clock_Date [I t] [] = OK (V.tup [V.agg [C.v (.int .i64 yy), C.v (.int .i64 ((mo t + 1 : Nat) : Int)), C.v (.int .i64 dd), C.v (.int .i64 hh), C.v (.int .i64 mi)], I 0]) := by
 obtain ⟨k, m, dd, hh, mi, ⟨h1, h2, h3⟩, h4⟩ := sp_Date fu d hf t ht
 have e := mo_eq h2 h3
 subst e
 exact ⟨h2, _, dd, hh, mi, h4⟩
structure Nm where
 e : Int
 f : Int
 m : Int
 mean : Int
 sp : Int
 deriving DecidableEq
def nmC (n : Nm) : List C := [.v (.int .i64 n.e), .v (.int .i64 n.f), .v (.int .i64 n.m), .v (.int .i64 n.mean), .v (.int .i64 n.sp)]
def nmI (n : Nm) : List Int := [n.e, n.f, n.m, n.mean, n.sp]
theorem nmC_length (n : Nm) : (nmC n).length = 5 := rfl
theorem nmI_length (n : Nm) : (nmI n).length = 5 := rfl
theorem nm_ints (l : List Nm) : fl nmC l = ints (l.flatMap nmI) := by
 induction l with
 | nil => rfl
 | cons a l ih =>
  rw [fl_cons, List.flatMap_cons, ih]
  show _ = ik .i64 (nmI a ++ l.flatMap nmI)
  rw [ik_append]; rfl
abbrev Key := Int × Int × Int
def Nm.key (n : Nm) : Key := (n.e, n.f, n.m)
def klt (a b : Key) : Prop := a.1 < b.1 \/ a.1 = b.1 /\ (a.2.1 < b.2.1 \/ a.2.1 = b.2.1 /\ a.2.2 < b.2.2)
theorem klt_irrefl (a : Key) : ¬ klt a a := by unfold klt; omega
theorem klt_trans {a b c : Key} (h : klt a b) (h' : klt b c) : klt a c := by unfold klt at *; omega
theorem klt_tri (a b : Key) : klt a b \/ a = b \/ klt b a := by
 obtain ⟨a1, a2, a3⟩ := a
 obtain ⟨b1, b2, b3⟩ := b
 simp only [klt, Prod.mk.injEq]; omega
theorem asc_ext' {α : Type} {lt : α -> α -> Prop} (hi : ∀ a, ¬ lt a a) (ht : ∀ a b c, lt a b -> lt b c -> lt a c) : ∀ {a b : List α}, a.Pairwise lt -> b.Pairwise lt -> (∀ x, x ∈ a ↔ x ∈ b) -> a = b
 | [], [], _, _, _ => rfl
 | [], y :: b, _, _, h => by have := (h y).2 (by simp); cases this
 | x :: a, [], _, _, h => by have := (h x).1 (by simp); cases this
 | x :: a, y :: b, ha, hb, h => by
  rw [List.pairwise_cons] at ha hb
  have hxy : x = y := by
   rcases List.mem_cons.1 ((h x).1 (by simp)) with h1 | h1
   ·exact h1
   ·rcases List.mem_cons.1 ((h y).2 (by simp)) with h2 | h2
    ·exact h2.symm
    ·exact absurd (ht _ _ _ (ha.1 y h2) (hb.1 x h1)) (hi _)
  subst hxy
  congr 1
  refine asc_ext' hi ht ha.2 hb.2 fun z => ?_
  constructor
  ·intro hz
   rcases List.mem_cons.1 ((h z).1 (by simp [hz])) with e | e
   ·subst e; exact absurd (ha.1 z hz) (hi _)
   ·exact e
  ·intro hz
   rcases List.mem_cons.1 ((h z).2 (by simp [hz])) with e | e
   ·subst e; exact absurd (hb.1 z hz) (hi _)
   ·exact e
def sumZ : List Int -> Int
 | [] => 0
 | a :: l => a + sumZ l
theorem sumZ_append (a b : List Int) : sumZ (a ++ b) = sumZ a + sumZ b := by
 induction a with
 | nil => simp [sumZ]
 | cons x a ih => simp only [List.cons_append, sumZ, ih]; omega
theorem sumZ_perm {a b : List Int} (h : a.Perm b) : sumZ a = sumZ b := by
 induction h with
 | nil => rfl
 | cons x _ ih => simp only [sumZ, ih]
 | swap x y l => simp only [sumZ]; omega
 | trans _ _ ih1 ih2 => exact ih1.trans ih2
theorem sumZ_take {l : List Int} {j : Nat} (h : j < l.length) : sumZ (l.take (j + 1)) = sumZ (l.take j) + l[j] := by
 rw [List.take_succ_eq_append_getElem h, sumZ_append]; simp [sumZ]
theorem sumZ_bound {l : List Int} {lo hi : Int} (h : ∀ v ∈ l, lo <= v /\ v <= hi) : lo * l.length <= sumZ l /\ sumZ l <= hi * l.length := by
 induction l with
 | nil => simp [sumZ]
 | cons a l ih =>
  have h1 := ih fun v hv => h v (by simp [hv])
  have h2 := h a (by simp)
  have e1 : lo * ((a :: l).length : Int) = lo * l.length + lo := by rw [List.length_cons, Int.natCast_add, Int.mul_add]; simp
  have e2 : hi * ((a :: l).length : Int) = hi * l.length + hi := by rw [List.length_cons, Int.natCast_add, Int.mul_add]; simp
  simp only [sumZ]
  rw [e1, e2]
  omega
structure IsN (k : Key) (vs : List Int) (n : Nm) : Prop where
 key : n.key = k
 mean : n.mean = sumZ vs / (vs.length : Nat)
 all : ∀ v ∈ vs, v - n.mean <= n.sp /\ n.mean - v <= n.sp
 one : ∃ v ∈ vs, v - n.mean = n.sp \/ n.mean - v = n.sp
theorem IsN.unique {k : Key} {vs vs' : List Int} {n n' : Nm} (hp : vs.Perm vs') (h : IsN k vs n) (h' : IsN k vs' n') : n = n' := by
 have h1 : n.key = n'.key := h.key.trans h'.key.symm
 have h2 : n.mean = n'.mean := by rw [h.mean, h'.mean, sumZ_perm hp, hp.length_eq]
 have h3 : n.sp = n'.sp := by
  obtain ⟨v, hv, e⟩ := h.one
  obtain ⟨v', hv', e'⟩ := h'.one
  have a1 := h'.all v (hp.mem_iff.1 hv)
  have a2 := h.all v' (hp.mem_iff.2 hv')
  omega
 obtain ⟨a, b, c, d, e⟩ := n
 obtain ⟨a', b', c', d', e'⟩ := n'
 simp only [Nm.key, Prod.mk.injEq] at h1 h2 h3
 obtain ⟨rfl, rfl, rfl⟩ := h1
 subst h2 h3
 rfl
structure IsL (I : List (Key × Int)) (L : List Nm) : Prop where
 asc : L.Pairwise fun a b => klt a.key b.key
 mem : ∀ n, n ∈ L ↔ vals I n.key ≠ [] /\ IsN n.key (vals I n.key) n
theorem IsL.unique {I I' : List (Key × Int)} {L L' : List Nm} (hp : ∀ k, (vals I k).Perm (vals I' k)) (h : IsL I L) (h' : IsL I' L') : L = L' := by
 have one : ∀ {I I' : List (Key × Int)} {L L' : List Nm}, (∀ k, (vals I k).Perm (vals I' k)) -> IsL I L -> IsL I' L' -> ∀ n, n ∈ L -> n ∈ L' := by
  intro I I' L L' hp h h' n hn
  obtain ⟨h1, h2⟩ := (h.mem n).1 hn
  refine (h'.mem n).2 ⟨fun e => h1 ?_, ?_⟩
  ·have := (hp n.key).length_eq; rw [e] at this; exact List.eq_nil_of_length_eq_zero this
  ·obtain ⟨q1, q2, q3, v, q4, q5⟩ := h2
   exact ⟨q1, by rw [q2, sumZ_perm (hp n.key), (hp n.key).length_eq], fun v hv => q3 v ((hp n.key).mem_iff.2 hv), v, (hp n.key).mem_iff.1 q4, q5⟩
 exact asc_ext' (lt := fun a b : Nm => klt a.key b.key) (fun a => klt_irrefl _) (fun a b c => klt_trans) h.asc h'.asc fun n => ⟨one hp h h' n, one (fun k => (hp k).symm) h' h n⟩
section
variable (fu d : Nat) (hf : 18446744073709551616 <= fu)
theorem floor_eq (s n : Int) (hn : 0 < n) : (Int.tmod s n < 0 -> Int.tdiv s n - 1 = s / n) /\ (¬ Int.tmod s n < 0 -> Int.tdiv s n = s / n) := by
 have h1 := Int.mul_tdiv_add_tmod s n
 have h2 := Int.lt_tmod_of_pos s hn
 have h3 := Int.tmod_lt_of_pos s hn
 constructor
 ·intro h
  refine (((Int.ediv_emod_unique hn).2 ⟨?_, ?_, ?_⟩ : s / n = Int.tdiv s n - 1 /\ s % n = Int.tmod s n + n).1).symm
  ·rw [Int.mul_sub]; omega
  ·omega
  ·omega
 ·intro h
  refine (((Int.ediv_emod_unique hn).2 ⟨?_, ?_, ?_⟩ : s / n = Int.tdiv s n /\ s % n = Int.tmod s n).1).symm
  ·omega
  ·omega
  ·omega
theorem sp_floor (s n : Int) (hn : 0 < n) (hs : -1000000000 <= s /\ s <= 1000000000) : cl fu (d + 1) fn_climate_floor [I s, I n] [] = OK (I (s / n)) := by
 obtain ⟨h1, h2⟩ := floor_eq s n hn
 have hb : -1000000000 <= s / n /\ s / n <= 1000000000 := by
  constructor
  ·exact Int.le_ediv_of_mul_le hn (by
    have := Int.mul_le_mul_of_nonpos_left (show (-1000000000 : Int) <= 0 by omega) (show (1 : Int) <= n by omega)
    omega)
  ·have := Int.ediv_le_self (b := n) (a := 1000000000) (by omega)
   have h3 := Int.ediv_le_ediv hn hs.2
   omega
 rw [eq_climate_floor, show (n == 0) = false by rw [beq_eq_false_iff_ne]; omega]
 simp only [Bool.not_false, need_true]
 generalize s / n = q at h1 h2 hb ⊢
 generalize Int.tdiv s n = z at h1 h2 ⊢
 by_cases h : Int.tmod s n < 0
 ·have e := h1 h
  rw [decide_eq_true h, wrap_in (show -9223372036854775808 <= z by omega) (by omega), e, wrap_in (by omega) (by omega)]
  rfl
 ·have e := h2 h
  rw [decide_eq_false h, e]
  simp only [cf]
  rw [wrap_in (show -9223372036854775808 <= q by omega) (by omega)]
include hf
theorem sp_Max (vs : List Int) (h0 : 1 <= vs.length) (hl : vs.length <= 1000000) : ∃ m, cl fu (d + 1) fn_slices_Max_sint_int [V.c (C.sl vs.length (ints vs))] [] = OK (I m) /\ m ∈ vs /\ ∀ v ∈ vs, v <= m := by
 have hu := unc_ik (kd := .i64) (l := vs) (k := 0) (by omega) (R := Out)
 rw [List.drop_zero] at hu
 rw [eq_slices_Max_sint_int]
 simp (disch := omega) only [QM, QD]
 rw [hu]
 simp only [QM]
 refine iter_bind_ex (A := Int × Int × Unit) (B := Out) (fu := fu) (fun o => ∃ m, o = OK (I m) /\ m ∈ vs /\ ∀ v ∈ vs, v <= m)
  (fun j y => ∃ m, y = (m, ((j + 1 : Nat) : Int), ()) /\ m ∈ vs.take (j + 1) /\ ∀ v ∈ vs.take (j + 1), v <= m) (fun z => ∃ m, z = (m, (vs.length : Int), ()) /\ m ∈ vs /\ ∀ v ∈ vs, v <= m) 0 (vs.length - 1) ?_ ?_ ?_ (by omega) ?_
 ·refine ⟨vs[0], rfl, ?_, ?_⟩
  ·rw [List.take_succ_eq_append_getElem (by omega)]; simp
  ·intro v hv; rw [List.take_succ_eq_append_getElem (by omega)] at hv; simp at hv; omega
 ·rintro j y hj ⟨m, rfl, h1, h2⟩
  have hu := unc_ik (kd := .i64) (l := vs) (k := j + 1) (by omega) (R := Nat × (Int × Int × Unit))
  refine ⟨_, ?_, if vs[j + 1] > m then vs[j + 1] else m, rfl, ?_, ?_⟩
  ·simp (disch := omega) only [QM, QD, Int.toNat_natCast, Nat.mul_one, hu]
   rfl
  ·rw [List.take_succ_eq_append_getElem (show j + 1 < vs.length by omega)]
   split
   ·exact List.mem_append.2 (.inr (List.mem_singleton.2 rfl))
   ·exact List.mem_append.2 (.inl h1)
  ·intro v hv
   rw [List.take_succ_eq_append_getElem (show j + 1 < vs.length by omega)] at hv
   rcases List.mem_append.1 hv with hv | hv
   ·have := h2 v hv; split <;> omega
   ·simp at hv; subst hv; split <;> omega
 ·rintro y ⟨m, rfl, h1, h2⟩
  rw [show vs.length - 1 + 1 = vs.length by omega, List.take_length] at *
  refine ⟨_, ?_, m, rfl, h1, h2⟩
  simp (disch := omega) only [QM, QD]
 ·rintro z ⟨m, rfl, h1, h2⟩
  exact ⟨m, by simp only [QM], h1, h2⟩
theorem sp_Min (vs : List Int) (h0 : 1 <= vs.length) (hl : vs.length <= 1000000) : ∃ m, cl fu (d + 1) fn_slices_Min_sint_int [V.c (C.sl vs.length (ints vs))] [] = OK (I m) /\ m ∈ vs /\ ∀ v ∈ vs, m <= v := by
 have hu := unc_ik (kd := .i64) (l := vs) (k := 0) (by omega) (R := Out)
 rw [List.drop_zero] at hu
 rw [eq_slices_Min_sint_int]
 simp (disch := omega) only [QM, QD]
 rw [hu]
 simp only [QM]
 refine iter_bind_ex (A := Int × Int × Unit) (B := Out) (fu := fu) (fun o => ∃ m, o = OK (I m) /\ m ∈ vs /\ ∀ v ∈ vs, m <= v)
  (fun j y => ∃ m, y = (m, ((j + 1 : Nat) : Int), ()) /\ m ∈ vs.take (j + 1) /\ ∀ v ∈ vs.take (j + 1), m <= v) (fun z => ∃ m, z = (m, (vs.length : Int), ()) /\ m ∈ vs /\ ∀ v ∈ vs, m <= v) 0 (vs.length - 1) ?_ ?_ ?_ (by omega) ?_
 ·refine ⟨vs[0], rfl, ?_, ?_⟩
  ·rw [List.take_succ_eq_append_getElem (by omega)]; simp
  ·intro v hv; rw [List.take_succ_eq_append_getElem (by omega)] at hv; simp at hv; omega
 ·rintro j y hj ⟨m, rfl, h1, h2⟩
  have hu := unc_ik (kd := .i64) (l := vs) (k := j + 1) (by omega) (R := Nat × (Int × Int × Unit))
  refine ⟨_, ?_, if vs[j + 1] < m then vs[j + 1] else m, rfl, ?_, ?_⟩
  ·simp (disch := omega) only [QM, QD, Int.toNat_natCast, Nat.mul_one, hu]
   rfl
  ·rw [List.take_succ_eq_append_getElem (show j + 1 < vs.length by omega)]
   split
   ·exact List.mem_append.2 (.inr (List.mem_singleton.2 rfl))
   ·exact List.mem_append.2 (.inl h1)
  ·intro v hv
   rw [List.take_succ_eq_append_getElem (show j + 1 < vs.length by omega)] at hv
   rcases List.mem_append.1 hv with hv | hv
   ·have := h2 v hv; split <;> omega
   ·simp at hv; subst hv; split <;> omega
 ·rintro y ⟨m, rfl, h1, h2⟩
  rw [show vs.length - 1 + 1 = vs.length by omega, List.take_length] at *
  refine ⟨_, ?_, m, rfl, h1, h2⟩
  simp (disch := omega) only [QM, QD]
 ·rintro z ⟨m, rfl, h1, h2⟩
  exact ⟨m, by simp only [QM], h1, h2⟩
def okVs (vs : List Int) : Prop := (1 <= vs.length /\ vs.length <= 1000) /\ ∀ v ∈ vs, -1000 <= v /\ v <= 11000
omit hf in
theorem mean_bound {vs : List Int} (h : okVs vs) : -1000 <= sumZ vs / (vs.length : Nat) /\ sumZ vs / (vs.length : Nat) <= 11000 := by
 obtain ⟨⟨h1, h2⟩, h3⟩ := h
 have hb := sumZ_bound h3
 constructor
 ·exact Int.le_ediv_of_mul_le (by omega) (by omega)
 ·have := Int.ediv_le_ediv (show (0 : Int) < (vs.length : Nat) by omega) hb.2
  rw [Int.mul_ediv_cancel _ (by omega)] at this
  exact this
theorem sp_learned (k : Key) (vs : List Int) (h : okVs vs) : ∃ n, IsN k vs n /\ (-1000 <= n.mean /\ n.mean <= 11000 /\ 0 <= n.sp /\ n.sp <= 12000) /\
  cl fu (d + 2) fn_climate_learned [V.agg [C.v (.int .i64 k.1), C.v (.int .i64 k.2.1), C.v (.int .i64 k.2.2), C.v (.int .i64 0), C.v (.int .i64 0)], V.c (C.sl vs.length (ints vs))] [] = OK (V.agg (nmC n)) := by
 have hm := mean_bound h
 obtain ⟨⟨h1, h2⟩, h3⟩ := h
 obtain ⟨M, a1, a2, a3⟩ := sp_Max fu d hf vs h1 (by omega)
 obtain ⟨m, b1, b2, b3⟩ := sp_Min fu d hf vs h1 (by omega)
 have hb : ∀ j, j <= vs.length -> -1000000 <= sumZ (vs.take j) /\ sumZ (vs.take j) <= 11000000 := by
  intro j hj
  have := sumZ_bound (l := vs.take j) (lo := -1000) (hi := 11000) fun v hv => h3 v (List.mem_of_mem_take hv)
  rw [List.length_take, Nat.min_eq_left hj] at this
  omega
 have hbl := hb vs.length (Nat.le_refl _)
 rw [List.take_length] at hbl
 have c1 := sp_floor fu d (sumZ vs) (vs.length : Nat) (by omega) (by omega)
 have hM := h3 M a2
 have hm' := h3 m b2
 rw [eq_climate_learned]
 rw [iter_runx (fun j : Nat => (sumZ (vs.take j), ((j : Nat) : Int), (k.1, k.2.1, k.2.2, (0 : Int), (0 : Int), ()), ((0 : Int), (0 : Int), (0 : Int), (0 : Int), (0 : Int), ()), ())) 0 (sumZ vs, ((vs.length : Nat) : Int), (k.1, k.2.1, k.2.2, (0 : Int), (0 : Int), ()), ((0 : Int), (0 : Int), (0 : Int), (0 : Int), (0 : Int), ()), ()) vs.length ?_ ?_ ?_ (by omega)]
 rotate_left
 ·rfl
 ·intro j hj
  have hu := unc_ik (kd := .i64) (l := vs) (k := j) hj (R := Nat × (Int × Int × (Int × Int × Int × Int × Int × Unit) × (Int × Int × Int × Int × Int × Unit) × Unit))
  have q1 := hb j (by omega)
  have q2 := h3 vs[j] (List.getElem_mem hj)
  rw [sumZ_take hj]
  simp (disch := omega) only [QM, QD, Int.toNat_natCast, Nat.mul_one, hu, Int.natCast_add, Int.natCast_one]
 ·rw [List.take_length]
  simp (disch := omega) only [QM, QD]
 simp only [QM, c1, a1, b1]
 generalize hq : sumZ vs / (vs.length : Nat) = q at hm ⊢
 simp (disch := omega) only [QM, QD]
 refine ⟨⟨k.1, k.2.1, k.2.2, q, if q - m > M - q then q - m else M - q⟩, ⟨rfl, hq.symm, fun v hv => ?_, ?_⟩, ?_, rfl⟩
 ·have := a3 v hv
  have := b3 v hv
  dsimp only
  split <;> omega
 ·by_cases hc : q - m > M - q
  ·exact ⟨m, b2, .inr (by dsimp only; rw [if_pos hc])⟩
  ·exact ⟨M, a2, .inl (by dsimp only; rw [if_neg hc])⟩
 ·have e1 := b3 M a2
  dsimp only
  refine ⟨hm.1, hm.2, ?_, ?_⟩ <;> split <;> omega
end
end Go.Proofs.YtmbgnpgjdhlegaaDoor
/- Learning a climate from valid reports. -/
namespace Go.Proofs.YtmbgnpgjdhlegaaDoor
open Go Go.PM Go.Grid
def keyC (k : Key) : List C := [.v (.int .i64 k.1), .v (.int .i64 k.2.1), .v (.int .i64 k.2.2), .v (.int .i64 0), .v (.int .i64 0)]
def v1 (v : Int) : List C := [.v (.int .i64 v)]
theorem fl_v1 (l : List Int) : fl v1 l = ints l := by
 induction l with
 | nil => rfl
 | cons a l ih => rw [fl_cons, ih]; rfl
abbrev kent : Key × List Int -> List C × List C := gent keyC v1
theorem eqT_key (a b : Key) : eqT Tryd.prog 20 ty_api_Normal (keyC a) (keyC b) = some (decide (a = b)) := by
 have : eqT Tryd.prog 20 ty_api_Normal (keyC a) (keyC b) = some (a.1 == b.1 && (a.2.1 == b.2.1 && (a.2.2 == b.2.2 && ((0 : Int) == 0 && ((0 : Int) == 0 && true))))) := by kernel_rfl
 refine this.trans (congrArg some ?_)
 obtain ⟨a1, a2, a3⟩ := a
 obtain ⟨b1, b2, b3⟩ := b
 rw [Bool.eq_iff_iff]
 simp only [Bool.and_eq_true, beq_iff_eq, decide_eq_true_eq, Prod.mk.injEq, Bool.and_true, and_true]
theorem ceqs_key (a : Key) : ceqs (keyC a) (keyC a) = true := by simp [keyC, ceqs, ceq]
theorem mfd_key (M : List (Key × List Int)) (a b c : Int) : mfd ty_api_Normal [C.v (.int .i64 a), C.v (.int .i64 b), C.v (.int .i64 c), C.v (.int .i64 0), C.v (.int .i64 0)] (M.map kent) = some ((glook M (a, b, c) 0).map fun q => (q.1, fl v1 q.2)) :=
 mfind_gent (P := Tryd.prog) (kt := ty_api_Normal) (kC := keyC) (vC := v1) eqT_key ceqs_key (a, b, c) M 0
theorem mput_key (M : List (Key × List Int)) (a b c v : Int) : mput (M.map kent) ((glook M (a, b, c) 0).map fun q => (q.1, fl v1 q.2)) [C.v (.int .i64 a), C.v (.int .i64 b), C.v (.int .i64 c), C.v (.int .i64 0), C.v (.int .i64 0)] (ints (gval M (a, b, c)) ++ [C.v (.int .i64 v)]) = (gadd M (a, b, c) v).map kent := by
 have h := mput_gent (kC := keyC) (vC := v1) M (a, b, c) v
 rw [fl_v1] at h
 exact h
theorem orZ_key (M : List (Key × List Int)) (k : Key) : orZ ((glook M k 0).map fun q => (q.1, fl v1 q.2)) [] = ints (gval M k) := by
 rw [orZ_gent, fl_v1]
noncomputable def itemsR (x : Rep) : List (Key × Int) := x.rs.map fun r => ((r.1, (x.p.f : Int), ((mo x.tm + 1 : Nat) : Int)), r.2)
noncomputable def items (X : List Rep) : List (Key × Int) := X.flatMap itemsR
theorem items_take {X : List Rep} {j : Nat} (h : j < X.length) : items (X.take (j + 1)) = items (X.take j) ++ itemsR X[j] := by
 unfold items
 rw [List.take_succ_eq_append_getElem h, List.flatMap_append]; simp
theorem itemsR_take {x : Rep} {i : Nat} (h : i < x.rs.length) : (itemsR x).take (i + 1) = (itemsR x).take i ++ [((x.rs[i].1, (x.p.f : Int), ((mo x.tm + 1 : Nat) : Int)), x.rs[i].2)] := by
 unfold itemsR
 rw [List.take_succ_eq_append_getElem (by simpa using h)]; simp
theorem itemsR_length (x : Rep) : (itemsR x).length = x.rs.length := by simp [itemsR]
theorem items_length {X : List Rep} (h : ∀ x ∈ X, okRep x) : (items X).length <= 11 * X.length := by
 unfold items
 induction X with
 | nil => simp
 | cons x X ih =>
  have h1 := ih fun y hy => h y (by simp [hy])
  have h2 := (h x (by simp)).2.1.1
  rw [List.flatMap_cons, List.length_append, itemsR_length, List.length_cons]
  omega
theorem items_ok {X : List Rep} (h : ∀ x ∈ X, okRep x) {k : Key} {v : Int} (hm : (k, v) ∈ items X) : (1 <= k.1 /\ k.1 <= 11) /\ (0 <= k.2.1 /\ k.2.1 < 20) /\ (1 <= k.2.2) /\ (-1000 <= v /\ v <= 11000) := by
 unfold items at hm
 obtain ⟨x, hx, hm⟩ := List.mem_flatMap.1 hm
 unfold itemsR at hm
 obtain ⟨r, hr, e⟩ := List.mem_map.1 hm
 cases e
 obtain ⟨q1, q2, q3⟩ := h x hx
 have q4 := (q2.2.1 r hr)
 have q5 := rng_bounds r.1 q4.1
 have q6 := q4.2
 have q7 := q1.1.1
 refine ⟨q4.1, ⟨by first | omega | (dsimp only; omega), by first | omega | (dsimp only; omega)⟩, by first | omega | (dsimp only; omega), by first | omega | (dsimp only; omega), by first | omega | (dsimp only; omega)⟩
theorem gval_length (I : List (Key × Int)) (k : Key) : (gval (grp I) k).length <= I.length := by
 obtain ⟨h1, h2, _⟩ := grp_spec I
 unfold gval
 rcases glook_spec k (grp I) 0 with ⟨q1, _⟩ | ⟨j, ws, q1, q2⟩
 ·rw [q1]; simp
 ·rw [q1]
  have := (h2 _).1 (List.mem_of_getElem? q2)
  simp only at this ⊢
  rw [this.1]
  unfold vals
  rw [List.length_map]
  exact List.length_filter_le _ _
theorem perms_of {α R : Type} {es : List α} {f : List α -> Option R} {r : R} (h : ∀ es', es'.Perm es -> f es' = some r) : perms es f = some r := by
 have h0 := h es (.refl _)
 unfold perms
 rw [if_pos fun es' hp => (h es' hp).trans h0.symm]
 exact h0
section
variable (fu d : Nat) (hf : 18446744073709551616 <= fu)
theorem pr_sort (L : List Nm) (hl : L.length <= 1000000) : cl fu (d + 1) fn_slices_SortFunc_sapi_Normal_api_Normal [V.own 1000000 0 L.length, V.c (C.fn fn_climate_compare [])] [.sb ty_api_Normal 0 (fl nmC L)] =
  some ⟨.tup [], [.sb ty_api_Normal 0 (ints (flatZ 5 (sortR 5 (lexZ [0, 1, 2]) L.length (L.flatMap nmI))))], none⟩ := by
 have e : cl fu (d + 1) fn_slices_SortFunc_sapi_Normal_api_Normal [V.own 1000000 0 L.length, V.c (C.fn fn_climate_compare [])] [.sb ty_api_Normal 0 (fl nmC L)] = (unInts (fl nmC L)).bind fun zs => need (Nat.beq 1000000 OUT && Nat.beq 0 0 && Nat.beq fn_climate_compare fn_climate_compare && Nat.beq ty_api_Normal ty_api_Normal && Nat.beq 0 0 && Nat.beq zs.length (L.length * 5) && Nat.ble L.length 4611686018427387903) (some ⟨.tup [], [.sb ty_api_Normal 0 (ints (flatZ 5 (sortR 5 (lexZ [0, 1, 2]) L.length zs)))], none⟩) := by kernel_rfl
 have hlen : (L.flatMap nmI).length = L.length * 5 := by
  have := fl_length nmC_length L
  rw [nm_ints] at this
  simpa using this
 have e1 : Nat.beq 1000000 OUT = true := rfl
 rw [e, nm_ints, unInts_ints]
 simp (disch := omega) only [QM, QD, hlen, e1]
def sent (e : Key × List Int) : List C × List C := (keyC e.1, [C.sl e.2.length (ints e.2)])
theorem kent_sent (M : List (Key × List Int)) : List.map (fun (q : List C × List C) => (q.1, [C.sl (q.2.length / 1) q.2])) (M.map kent) = M.map sent := by
 rw [List.map_map]
 apply List.map_congr_left
 intro e _
 simp [sent, gent, fl_v1]
include hf
theorem learn_sorted (M : List (Key × List Int)) (hM : M.length <= 200) (hok : ∀ e ∈ M, okVs e.2) : ∃ (nf : Key × List Int -> Nm), (∀ e ∈ M, IsN e.1 e.2 (nf e) /\ (-1000 <= (nf e).mean /\ (nf e).mean <= 11000 /\ 0 <= (nf e).sp /\ (nf e).sp <= 12000)) /\
  ∀ e ∈ M, cl fu (d + 2) fn_climate_learned [V.agg [C.v (.int .i64 e.1.1), C.v (.int .i64 e.1.2.1), C.v (.int .i64 e.1.2.2), C.v (.int .i64 0), C.v (.int .i64 0)], V.c (C.sl e.2.length (ints e.2))] [] = OK (V.agg (nmC (nf e))) := by
 have h := fun (e : {e // e ∈ M}) => sp_learned fu d hf e.1.1 e.1.2 (hok e.1 e.2)
 obtain ⟨g, hg⟩ := Classical.axiomOfChoice h
 refine ⟨fun e => if he : e ∈ M then g ⟨e, he⟩ else ⟨0, 0, 0, 0, 0⟩, fun e he => ?_, fun e he => ?_⟩
 ·dsimp only; rw [dif_pos he]; exact ⟨(hg ⟨e, he⟩).1, (hg ⟨e, he⟩).2.1⟩
 ·dsimp only; rw [dif_pos he]; exact (hg ⟨e, he⟩).2.2
omit hf
theorem nmI_lex (a b : Nm) : lexZ [0, 1, 2] (nmI a) (nmI b) < 0 ↔ klt a.key b.key := by
 rw [lexZ_neg, lexZ_neg, lexZ_neg]
 simp only [nmI, Nm.key, klt, lexZ, List.getD_cons_zero, List.getD_cons_succ]
 omega
theorem nm_snoc (l : List Nm) (a b c e g : Int) : fl nmC l ++ [C.v (.int .i64 a), C.v (.int .i64 b), C.v (.int .i64 c), C.v (.int .i64 e), C.v (.int .i64 g)] = fl nmC (l ++ [⟨a, b, c, e, g⟩]) := fl_snoc l ⟨a, b, c, e, g⟩
end
end Go.Proofs.YtmbgnpgjdhlegaaDoor
/- Learning a climate from valid reports: what Learn answers. -/
namespace Go.Proofs.YtmbgnpgjdhlegaaDoor
open Go Go.PM Go.Grid
attribute [local congr] hd_bind hd_need hd_cond hd_unc hd_uncV hd_uncO hd_unI hd_asI hd_asB hd_asS hd_asSl hd_asFn hd_asP hd_rC hd_rA hd_rT hd_rG hd_rP hd_rO hd_rN hd_rF hd_rS hd_rW hd_nilV hd_natD hd_bd hd_iter hd_over hd_sliceC hd_asMp hd_asYF
theorem overK_runx {I' A : Type} {body : I' -> A -> Option (Nat × A)} {xs : List I'} {x : A} (f : Nat -> A) (z : A) (hx : x = f 0) (hz : f xs.length = z) (h : ∀ j (h : j < xs.length), body xs[j] (f j) = some (0, f (j + 1))) : overK body xs x = some (0, z) := by
 rw [hx, <- hz]; exact overK_run xs f h
theorem strict_of {N L : List Nm} (hn : (N.map Nm.key).Nodup) (hp : L.Perm N) (hs : L.Pairwise fun a b => ¬ lexZ [0, 1, 2] (nmI b) (nmI a) < 0) : L.Pairwise fun a b => klt a.key b.key := by
 have hn' : (L.map Nm.key).Nodup := (hp.map Nm.key).nodup_iff.2 hn
 rw [List.pairwise_iff_getElem] at hs ⊢
 intro i j hi hj hij
 have h1 := hs i j hi hj hij
 rw [nmI_lex] at h1
 rcases klt_tri L[i].key L[j].key with h | h | h
 ·exact h
 ·have h2 := (List.getElem_inj (h₀ := by simpa using hi) (h₁ := by simpa using hj) hn').1 (by simpa using h)
  omega
 ·exact absurd h h1
section
variable (fu d : Nat) (hf : 18446744073709551616 <= fu)
include hf
set_option maxHeartbeats 2000000 in
theorem sp_Learn (X : List Rep) (hX : X.length <= 18) (hok : ∀ x ∈ X, okRep x) : ∃ L, IsL (items X) L /\ L.length <= 200 /\ (∀ n ∈ L, (-1000 <= n.mean /\ n.mean <= 11000 /\ 0 <= n.sp /\ n.sp <= 12000)) /\
  cl fu (d + 9) fn_climate_Learn [V.c (C.sl X.length (fl repC X))] [] = OK (V.tup [V.agg [C.sl L.length (fl nmC L)], I 0]) := by
 obtain ⟨g1, g2, g3⟩ := grp_spec (items X)
 have hlen := items_length hok
 have hvs : ∀ e ∈ grp (items X), okVs e.2 := by
  intro e he
  obtain ⟨q1, q2⟩ := (g2 e).1 he
  have q3 : 0 < e.2.length := List.length_pos_iff.2 q2
  refine ⟨⟨by omega, ?_⟩, fun v hv => ?_⟩
  ·rw [q1]; unfold vals; rw [List.length_map]
   have := List.length_filter_le (fun x : Key × Int => decide (x.1 = e.1)) (items X)
   omega
  ·rw [q1] at hv
   exact (items_ok hok (mem_vals.1 hv)).2.2.2
 obtain ⟨nf, n1, n2⟩ := learn_sorted fu (d + 6) hf (grp (items X)) (by omega) hvs
 have hnk : ∀ M' : List (Key × List Int), M'.Perm (grp (items X)) -> ((M'.map nf).map Nm.key).Nodup := by
  intro M' hM'
  have : (M'.map nf).map Nm.key = M'.map (·.1) := by
   rw [List.map_map]
   exact List.map_congr_left fun e he => (n1 e (hM'.mem_iff.1 he)).1.key
  rw [this]
  exact (hM'.map _).nodup_iff.2 g1
 obtain ⟨L, l1, l2, l3⟩ := sortR_list (g := nmI) nmI_length (lexZ_swo [0, 1, 2]) ((grp (items X)).map nf)
 have hLs := strict_of (hnk _ (.refl _)) l1 l2
 have hmem : ∀ n, n ∈ L ↔ vals (items X) n.key ≠ [] /\ IsN n.key (vals (items X) n.key) n := by
  intro n
  rw [l1.mem_iff, List.mem_map]
  constructor
  ·rintro ⟨e, he, rfl⟩
   obtain ⟨q1, q2⟩ := (g2 e).1 he
   have q3 := (n1 e he).1
   have q4 : (nf e).key = e.1 := q3.key
   rw [q4, <- q1]
   exact ⟨q2, q3⟩
  ·rintro ⟨q1, q2⟩
   have he : (n.key, vals (items X) n.key) ∈ grp (items X) := (g2 _).2 ⟨rfl, q1⟩
   exact ⟨_, he, IsN.unique (.refl _) (n1 _ he).1 q2⟩
 have hLl : L.length <= 198 := by have := l1.length_eq; rw [List.length_map] at this; omega
 refine ⟨L, ⟨hLs, hmem⟩, by omega, fun n hn => ?_, ?_⟩
 ·obtain ⟨e, he, rfl⟩ := List.mem_map.1 (l1.mem_iff.1 hn)
  exact (n1 e he).2
 rw [eq_climate_Learn]
 rw [iter_runx (fun j : Nat => ((0 : Int), ((j : Nat) : Int), (C.nl, ()), (grp (items (X.take j))).map kent, ())) 0 ((0 : Int), (X.length : Int), (C.nl, ()), (grp (items X)).map kent, ()) X.length ?_ ?_ ?_ (by omega)]
 rotate_left
 ·rfl
 ·intro j hj
  have hx := hok _ (List.getElem_mem hj)
  obtain ⟨hp, hr, hm⟩ := hx
  have hat := fl_at repC_length hj
  have hN := sp_Normal fu (d + 4) hf X[j].p hp.1
  rw [hp.2] at hN
  unfold plc at hN
  obtain ⟨m1, yy, dd, hh, mi, hD⟩ := sp_Date' fu (d + 6) hf X[j].tm hm
  have hV := sp_eValidate fu (d + 1) hf X[j].rs hr
  have hrl := hr.1
  have hIl : (items (X.take j)).length <= 198 := by
   have := items_length (X := X.take j) fun x hx => hok x (List.mem_of_mem_take hx)
   rw [List.length_take] at this
   omega
  simp (disch := omega) only [hdt_eq, QM, QD, Int.toNat_natCast, hat, repC, List.cons_append, List.nil_append, hN, hD, hV, List.length_cons, List.length_nil, Nat.zero_add, Nat.reduceAdd, beq_self_eq_true, bne_self_eq_false]
  rw [iter_runx (fun i : Nat => (((i : Nat) : Int), (C.nl, ()), ((X[j].p.f : Int), (X[j].p.a : Int), (X[j].p.b : Int), (X[j].p.c : Int), ()), (yy, ((mo X[j].tm + 1 : Nat) : Int), dd, hh, mi, ()), (grp (items (X.take j) ++ (itemsR X[j]).take i)).map kent, ())) 0
   ((X[j].rs.length : Int), (C.nl, ()), ((X[j].p.f : Int), (X[j].p.a : Int), (X[j].p.b : Int), (X[j].p.c : Int), ()), (yy, ((mo X[j].tm + 1 : Nat) : Int), dd, hh, mi, ()), (grp (items (X.take (j + 1)))).map kent, ()) X[j].rs.length ?_ ?_ ?_ (by omega)]
  ·simp (disch := omega) only [hdt_eq, QM, QD, Int.natCast_add, Int.natCast_one]
  ·rw [List.take_zero, List.append_nil]; rfl
  ·intro i hi
   have hat2 := fl_at rdc_length hi
   have hg := gval_length (items (X.take j) ++ (itemsR X[j]).take i) (X[j].rs[i].1, (X[j].p.f : Int), ((mo X[j].tm + 1 : Nat) : Int))
   rw [List.length_append, List.length_take] at hg
   have hil := itemsR_length X[j]
   have hs : ((i : Nat) : Int) + 1 = ((i + 1 : Nat) : Int) := rfl
   simp (disch := omega) only [hdt_eq, QM, QD, Int.toNat_natCast, hat2, rdc, List.cons_append, List.nil_append, mfd_key, orZ_key, mput_key, ik_length, Nat.div_one, Nat.mul_one, List.length_append, List.length_cons, List.length_nil, Nat.zero_add, decide_true, hs]
   rw [itemsR_take hi, <- List.append_assoc, grp_snoc]
  ·rw [items_take hj, show (itemsR X[j]).take X[j].rs.length = itemsR X[j] by rw [<- itemsR_length]; exact List.take_length]
   simp (disch := omega) only [hdt_eq, QM, QD]
 ·rw [List.take_length]
  simp (disch := omega) only [hdt_eq, QM, QD]
 simp (disch := omega) only [hdt_eq, QM, QD, List.length_map, kent_sent]
 refine perms_of fun es' hp => ?_
 obtain ⟨M', hM', rfl⟩ := perm_map_inv hp _ rfl
 have hMl := hM'.length_eq
 rw [overK_runx (x := ((C.nl, ()), (([] : List C), ()), ())) (fun j => ((C.nl, ()), (fl nmC ((M'.take j).map nf), ()), ())) ((C.nl, ()), (fl nmC (M'.map nf), ()), ()) rfl (by rw [List.length_map, List.take_length]) ?_]
 ·obtain ⟨L', l1', l2', l3'⟩ := sortR_list (g := nmI) nmI_length (lexZ_swo [0, 1, 2]) (M'.map nf)
  have hLs' := strict_of (hnk _ hM') l1' l2'
  have hLL : L' = L := asc_ext' (lt := fun a b : Nm => klt a.key b.key) (fun a => klt_irrefl _) (fun a b c => klt_trans) hLs' hLs fun n => by
   rw [l1'.mem_iff, l1.mem_iff, (hM'.map nf).mem_iff]
  subst hLL
  have hfl := fl_length nmC_length (M'.map nf)
  have hfl' := fl_length nmC_length L'
  have hll := l1'.length_eq
  have hdv : (M'.map nf).length * 5 / 5 = (M'.map nf).length := by omega
  have hS := pr_sort fu (d + 7) (M'.map nf) (by rw [List.length_map]; omega)
  rw [l3', <- nm_ints] at hS
  have hml : (M'.map nf).length = L'.length := hll.symm
  have htk' : List.take ((M'.map nf).length * 5) (fl nmC L') = fl nmC L' := List.take_of_length_le (by omega)
  simp (disch := omega) only [hdt_eq, QM, QD, hfl, hdv, hS, hfl', htk', Nat.zero_add]
  rw [hml]
 ·intro j hj
  have hj' : j < M'.length := by simpa using hj
  have he : M'[j] ∈ grp (items X) := hM'.mem_iff.1 (List.getElem_mem hj')
  have hL := n2 _ he
  have hfl := fl_length nmC_length ((M'.take j).map nf)
  have hml : ((M'.take j).map nf).length = j := by rw [List.length_map, List.length_take]; omega
  rw [hml] at hfl
  have hdv : j * 5 / 5 = j := by omega
  have hsn := nm_snoc ((M'.take j).map nf) (nf M'[j]).e (nf M'[j]).f (nf M'[j]).m (nf M'[j]).mean (nf M'[j]).sp
  have hts : (M'.take j).map nf ++ [nf M'[j]] = (M'.take (j + 1)).map nf := by rw [List.take_succ_eq_append_getElem hj', List.map_append]; rfl
  have hlen2 : (fl nmC ((M'.take (j + 1)).map nf)).length = (j + 1) * 5 := by rw [fl_length nmC_length, List.length_map, List.length_take, Nat.min_eq_left (by omega)]
  have hsn' : fl nmC ((M'.take j).map nf) ++ [C.v (.int .i64 (nf M'[j]).e), C.v (.int .i64 (nf M'[j]).f), C.v (.int .i64 (nf M'[j]).m), C.v (.int .i64 (nf M'[j]).mean), C.v (.int .i64 (nf M'[j]).sp)] = fl nmC ((M'.take (j + 1)).map nf) := by rw [hsn, <- hts]
  rw [List.getElem_map]
  unfold nmC at hL
  simp (disch := omega) only [hdt_eq, QM, QD, sent, keyC, hL, List.length_cons, List.length_nil, Nat.zero_add, Nat.reduceAdd, hfl, hdv, hsn', hlen2]
end
end Go.Proofs.YtmbgnpgjdhlegaaDoor
/- Orders; climates that are looked at: Validate, Lookup, Same. -/
namespace Go.Proofs.YtmbgnpgjdhlegaaDoor
open Go Go.PM Go.Grid
attribute [local congr] hd_bind hd_need hd_cond hd_unc hd_uncV hd_uncO hd_unI hd_asI hd_asB hd_asS hd_asSl hd_asFn hd_asP hd_rC hd_rA hd_rT hd_rG hd_rP hd_rO hd_rN hd_rF hd_rS hd_rW hd_nilV hd_natD hd_bd hd_iter hd_over hd_sliceC hd_asMp hd_asYF
section
variable (fu d : Nat)
theorem sp_isNaN (a : Int) : cl fu (d + 1) fn_cmp_isNaN_int [I a] [] = OK (B false) := by
 have : cl fu (d + 1) fn_cmp_isNaN_int [I a] [] = OK (B (a != a)) := by kernel_rfl
 rw [this, bne_self_eq_false]
theorem sp_Compare (a b : Int) : cl fu (d + 2) fn_cmp_Compare_int [I a, I b] [] = OK (I (cmpZ a b)) := by
 rw [eq_cmp_Compare_int, sp_isNaN, sp_isNaN]
 simp only [hdt_eq, QM]
 unfold cmpZ
 by_cases h : a < b
 ·rw [decide_eq_true h, if_pos h]; rfl
 ·rw [decide_eq_false h, if_neg h]
  by_cases h2 : b < a
  ·rw [show decide (a > b) = true from decide_eq_true h2, if_pos h2]; rfl
  ·rw [show decide (a > b) = false from decide_eq_false h2, if_neg h2]; rfl
theorem ne_t {a : Int} (h : ¬ a = 0) : (a != 0) = true := by simpa using h
theorem sp_Or3 (hf : 4 <= fu) (a b c : Int) : cl fu (d + 1) fn_cmp_Or_int [V.c (C.sl 3 [C.v (.int .i64 a), C.v (.int .i64 b), C.v (.int .i64 c)])] [] = OK (I (if a = 0 then (if b = 0 then c else b) else a)) := by
 obtain ⟨n, rfl⟩ : ∃ n, fu = n + 4 := ⟨fu - 4, by omega⟩
 rw [eq_cmp_Or_int, iter_s]
 by_cases ha : a = 0
 ·rw [if_pos ha]
  subst ha
  simp (disch := omega) only [hdt_eq, QM, QD, Int.reduceToNat, Nat.reduceMul, Nat.zero_mul, List.drop_zero, List.drop_succ_cons, Int.reduceAdd, bne_self_eq_false, ne_t]
  rw [iter_s]
  by_cases hb : b = 0
  ·rw [if_pos hb]
   subst hb
   simp (disch := omega) only [hdt_eq, QM, QD, Int.reduceToNat, Nat.reduceMul, Nat.zero_mul, List.drop_zero, List.drop_succ_cons, Int.reduceAdd, bne_self_eq_false, ne_t]
   rw [iter_s]
   by_cases hc : c = 0
   ·subst hc
    simp (disch := omega) only [hdt_eq, QM, QD, Int.reduceToNat, Nat.reduceMul, Nat.zero_mul, List.drop_zero, List.drop_succ_cons, Int.reduceAdd, bne_self_eq_false, ne_t]
    rw [iter_s]
    simp (disch := omega) only [hdt_eq, QM, QD, Int.reduceToNat, Nat.reduceMul, Nat.zero_mul, List.drop_zero, List.drop_succ_cons, Int.reduceAdd, bne_self_eq_false, ne_t]
   ·have := ne_t hc
    simp (disch := omega) only [hdt_eq, QM, QD, Int.reduceToNat, Nat.reduceMul, Nat.zero_mul, List.drop_zero, List.drop_succ_cons, Int.reduceAdd, bne_self_eq_false, ne_t]
  ·rw [if_neg hb]
   have := ne_t hb
   simp (disch := omega) only [hdt_eq, QM, QD, Int.reduceToNat, Nat.reduceMul, Nat.zero_mul, List.drop_zero, List.drop_succ_cons, Int.reduceAdd, bne_self_eq_false, ne_t]
 ·rw [if_neg ha]
  have := ne_t ha
  simp (disch := omega) only [hdt_eq, QM, QD, Int.reduceToNat, Nat.reduceMul, Nat.zero_mul, List.drop_zero, List.drop_succ_cons, Int.reduceAdd, bne_self_eq_false, ne_t]
theorem sp_compare (hf : 4 <= fu) (a b : Nm) : cl fu (d + 3) fn_climate_compare [V.agg (nmC a), V.agg (nmC b)] [] = OK (I (lexZ [0, 1, 2] (nmI a) (nmI b))) := by
 unfold nmC
 rw [eq_climate_compare]
 simp only [hdt_eq, sp_Compare, QM]
 rw [sp_Or3 fu (d + 1) hf]
 simp only [hdt_eq, QM]
 simp only [lexZ, nmI, List.getD_cons_zero, List.getD_cons_succ]
 congr 4
 repeat' split
 all_goals first | rfl | assumption | omega
variable (hf : 18446744073709551616 <= fu)
include hf
theorem sp_index_noneN (k : Nat) (l : List Nm) (hl : l.length <= 1000) (hp : ∀ x ∈ l, cl fu d k [V.agg (nmC x)] [] = OK (B false)) :
  cl fu (d + 1) fn_slices_IndexFunc_sapi_Normal_api_Normal [V.c (.sl l.length (fl nmC l)), V.c (C.fn k [])] [] = OK (I (-1)) := by
 rw [eq_slices_IndexFunc_sapi_Normal_api_Normal]
 rw [iter_runx (fun j : Nat => ((0 : Int), ((j : Nat) : Int), ())) 0 ((0 : Int), (l.length : Int), ()) l.length ?_ ?_ ?_ (by omega)]
 ·simp only [hdt_eq, QM]
 ·rfl
 ·intro j hj
  have h := hp _ (List.getElem_mem hj)
  have hat := fl_at nmC_length hj
  unfold nmC at h
  simp (disch := omega) only [hdt_eq, QM, QD, Int.toNat_natCast, hat, nmC, List.cons_append, List.nil_append, h, Int.natCast_add, Int.natCast_one]
 ·simp (disch := omega) only [hdt_eq, QM, QD]
structure okL (L : List Nm) : Prop where
 len : L.length <= 200
 asc : L.Pairwise fun a b => klt a.key b.key
 rng : ∀ n ∈ L, (1 <= n.e /\ n.e <= 11) /\ (0 <= n.f /\ n.f < 20) /\ (1 <= n.m /\ n.m <= 12) /\ (-10000 <= n.mean /\ n.mean <= 20000) /\ (0 <= n.sp /\ n.sp <= 20000)
theorem sp_Validate (L : List Nm) (h : okL L) : cl fu (d + 6) fn_climate_Validate [V.agg [C.sl L.length (fl nmC L)]] [] = OK (I 0) := by
 have hl := h.len
 have h1 := sp_index_noneN fu (d + 3) hf fn_climate_Validate_1 L (by omega) (fun x hx => by
  obtain ⟨s, g, hd⟩ := sp_eDescribe fu d x.e (h.rng x hx).1
  unfold nmC
  rw [eq_climate_Validate_1, eq_climate_exists, hd]
  simp (disch := omega) only [hdt_eq, QM, QD, List.length_cons, List.length_nil, Nat.zero_add, Nat.reduceAdd])
 have h2 := sp_index_noneN fu (d + 3) hf fn_climate_Validate_2 L (by omega) (fun x hx => by
  obtain ⟨q1, q2, q3, q4, q5⟩ := h.rng x hx
  unfold nmC
  rw [eq_climate_Validate_2, eq_climate_valid]
  simp (disch := omega) only [hdt_eq, QM, QD])
 rw [eq_climate_Validate]
 simp (disch := omega) only [hdt_eq, QM, QD]
 rw [eq_slices_ContainsFunc_sapi_Normal_api_Normal, h1]
 simp (disch := omega) only [hdt_eq, QM, QD]
 rw [eq_slices_ContainsFunc_sapi_Normal_api_Normal, h2]
 simp (disch := omega) only [hdt_eq, QM, QD]
 rw [iter_runx (fun j : Nat => ((0 : Int), (((j + 1 : Nat)) : Int), ())) 0 ((0 : Int), ((L.length - 1 + 1 : Nat) : Int), ()) (L.length - 1) ?_ ?_ ?_ (by omega)]
 ·simp only [hdt_eq, QM]
 ·rfl
 ·intro j hj
  have hat := fl_at nmC_length (show j < L.length by omega)
  have hat1 := fl_at nmC_length (show j + 1 < L.length by omega)
  have hlt := List.pairwise_iff_getElem.1 h.asc j (j + 1) (by omega) (by omega) (by omega)
  rw [<- nmI_lex] at hlt
  have hs : ((j + 1 : Nat) : Int) - 1 = j := by omega
  have hc := sp_compare fu (d + 2) (by omega) L[j] L[j + 1]
  unfold nmC at hc
  simp (disch := omega) only [hdt_eq, QM, QD, hs, Int.toNat_natCast, hat, hat1, nmC, List.cons_append, List.nil_append, hc]
  rfl
 ·simp (disch := omega) only [hdt_eq, QM, QD]
set_option maxHeartbeats 1000000 in
theorem sp_search (L : List Nm) (h : okL L) (i : Nat) (hi : i < L.length) : cl fu (d + 4) fn_slices_BinarySearchFunc_sapi_Normal_api_Normal_api_Normal [V.c (C.sl L.length (fl nmC L)), V.agg [C.v (.int .i64 L[i].e), C.v (.int .i64 L[i].f), C.v (.int .i64 L[i].m), C.v (.int .i64 0), C.v (.int .i64 0)], V.c (C.fn fn_climate_compare [])] [] = OK (V.tup [I (i : Nat), B true]) := by
 have hl := h.len
 have key : ∀ j (hj : j < L.length), cl fu (d + 3) fn_climate_compare [V.agg (nmC L[j]), V.agg [C.v (.int .i64 L[i].e), C.v (.int .i64 L[i].f), C.v (.int .i64 L[i].m), C.v (.int .i64 0), C.v (.int .i64 0)]] [] = OK (I (lexZ [0, 1, 2] (nmI L[j]) [L[i].e, L[i].f, L[i].m, 0, 0])) := fun j hj =>
  sp_compare fu d (by omega) L[j] ⟨L[i].e, L[i].f, L[i].m, 0, 0⟩
 have neg : ∀ j (hj : j < L.length), lexZ [0, 1, 2] (nmI L[j]) [L[i].e, L[i].f, L[i].m, 0, 0] < 0 ↔ j < i := by
  intro j hj
  have e := nmI_lex L[j] ⟨L[i].e, L[i].f, L[i].m, 0, 0⟩
  unfold nmI at e ⊢
  rw [e]
  show klt L[j].key L[i].key ↔ _
  constructor
  ·intro hk
   refine Decidable.byContradiction fun hn => ?_
   by_cases e' : j = i
   ·subst e'; exact klt_irrefl _ hk
   ·exact klt_irrefl _ (klt_trans hk (List.pairwise_iff_getElem.1 h.asc i j hi hj (by omega)))
  ·intro hlt
   exact List.pairwise_iff_getElem.1 h.asc j i hj hi hlt
 have zero : lexZ [0, 1, 2] (nmI L[i]) [L[i].e, L[i].f, L[i].m, 0, 0] = 0 := by
  simp [lexZ, nmI, cmpZ]
 rw [eq_slices_BinarySearchFunc_sapi_Normal_api_Normal_api_Normal]
 rw [iter_measx (x := ((0 : Int), ((L.length : Nat) : Int), ())) (fun y : Int × Int × Unit => ∃ lo hi : Nat, y = ((lo : Int), (hi : Int), ()) /\ lo <= i /\ i <= hi /\ hi <= L.length) (fun y => (y.2.1 - y.1).toNat) 0 ((i : Int), (i : Int), ()) ⟨0, L.length, rfl, by omega, by omega, by omega⟩ (by dsimp only; omega) ?_]
 ·have hat := fl_at nmC_length hi
  have hk := key i hi
  rw [zero] at hk
  unfold nmC at hk
  simp (disch := omega) only [hdt_eq, QM, QD, Int.toNat_natCast, hat, nmC, List.cons_append, List.nil_append, hk, beq_self_eq_true]
 ·rintro y ⟨lo, hi', rfl, h1, h2, h3⟩
  by_cases hlt : lo < hi'
  ·left
   have hs : IntKind.u64.wrap ((lo : Int) + (hi' : Int)) = ((lo + hi' : Nat) : Int) := by
    have hb : lo + hi' <= 400 := by omega
    simp [IntKind.wrap, IntKind.bits, IntKind.signed]
    omega
   have hd := fdiv_pow (lo + hi') 1
   rw [show (2 ^ 1 : Nat) = 2 from rfl] at hd
   have hm : (lo + hi') / 2 < L.length := by omega
   have hat := fl_at nmC_length hm
   have hk := key _ hm
   unfold nmC at hk
   by_cases hn : (lo + hi') / 2 < i
   ·have hn' := (neg _ hm).2 hn
    refine ⟨((((lo + hi') / 2 + 1 : Nat) : Int), (hi' : Int), ()), ?_, ⟨_, _, rfl, by omega, by omega, by omega⟩, by dsimp only; omega⟩
    simp (disch := omega) only [hdt_eq, QM, QD, hs, hd, Int.toNat_natCast, hat, nmC, List.cons_append, List.nil_append, hk]
    rfl
   ·have hn' : ¬ lexZ [0, 1, 2] (nmI L[(lo + hi') / 2]) [L[i].e, L[i].f, L[i].m, 0, 0] < 0 := fun e => hn ((neg _ hm).1 e)
    refine ⟨((lo : Int), (((lo + hi') / 2 : Nat) : Int), ()), ?_, ⟨_, _, rfl, by omega, by omega, by omega⟩, by dsimp only; omega⟩
    simp (disch := omega) only [hdt_eq, QM, QD, hs, hd, Int.toNat_natCast, hat, nmC, List.cons_append, List.nil_append, hk]
  ·right
   obtain rfl : lo = i := by omega
   obtain rfl : hi' = lo := by omega
   simp (disch := omega) only [hdt_eq, QM, QD]
theorem sp_Lookup (L : List Nm) (h : okL L) (i : Nat) (hi : i < L.length) (p : Pl) (hp : p.ok) (t : Int) (ht : okM t) (h1 : ((norm p).f : Int) = L[i].f) (h2 : ((mo t + 1 : Nat) : Int) = L[i].m) :
  cl fu (d + 7) fn_climate_Lookup [V.agg [C.sl L.length (fl nmC L)], I L[i].e, V.agg (plc p), I t] [] = OK (V.tup [V.agg (nmC L[i]), I 0]) := by
 have hl := h.len
 have hV := sp_Validate fu d hf L h
 have hN := sp_Normal fu (d + 2) hf p hp
 obtain ⟨m1, yy, dd, hh, mi, hD⟩ := sp_Date' fu (d + 4) hf t ht
 have hS := sp_search fu (d + 2) hf L h i hi
 have hat := fl_at nmC_length hi
 rw [h2] at hD
 unfold plc at hN ⊢
 rw [eq_climate_Lookup]
 simp (disch := omega) only [hdt_eq, QM, QD, hV, hN, hD, h1, List.length_cons, List.length_nil, Nat.zero_add, Nat.reduceAdd, hS, Int.toNat_natCast, hat, nmC, List.cons_append, List.nil_append]
end
end Go.Proofs.YtmbgnpgjdhlegaaDoor
/- Orders; the example of the chapter. -/
namespace Go.Proofs.YtmbgnpgjdhlegaaDoor
open Go Go.PM Go.Grid
attribute [local congr] hd_bind hd_need hd_cond hd_unc hd_uncV hd_uncO hd_unI hd_asI hd_asB hd_asS hd_asSl hd_asFn hd_asP hd_rC hd_rA hd_rT hd_rG hd_rP hd_rO hd_rN hd_rF hd_rS hd_rW hd_nilV hd_natD hd_bd hd_iter hd_over hd_sliceC hd_asMp hd_asYF
section
variable (fu d : Nat) (L : List Int) (hL : L.length <= 2000) (hf : 18446744073709551616 <= fu)
include hL hf
end
section
variable (fu d : Nat) (hf : 18446744073709551616 <= fu)
include hf
def ra : Rep := ⟨0, ⟨#[]⟩, 0, ⟨0, 840, 0, 0⟩, [(1, 10130)]⟩
def rb : Rep := ⟨0, ⟨#[]⟩, 60, ⟨0, 840, 0, 0⟩, [(1, 10141)]⟩
omit hf in
theorem ra_ok : ∀ x ∈ [ra, rb], okRep x := by
 have h1 : NP ⟨0, 840, 0, 0⟩ := ⟨⟨by decide, rfl⟩, by decide⟩
 intro x hx
 simp only [List.mem_cons, List.not_mem_nil, or_false] at hx
 rcases hx with rfl | rfl
 ·refine ⟨h1, ⟨by decide, fun y hy => ?_, List.pairwise_singleton _ _⟩, ⟨by decide, by decide⟩⟩
  simp only [ra, List.mem_cons, List.not_mem_nil, or_false] at hy
  subst hy; exact ⟨by decide, by decide⟩
 ·refine ⟨h1, ⟨by decide, fun y hy => ?_, List.pairwise_singleton _ _⟩, ⟨by decide, by decide⟩⟩
  simp only [rb, List.mem_cons, List.not_mem_nil, or_false] at hy
  subst hy; exact ⟨by decide, by decide⟩
omit hf in
theorem mo_small {t : Int} (h0 : 0 <= t) (h1 : t < 44640) : mo t = 0 := by
 have e1 : fstN 0 + 1440 * cum (leap 0) 0 = 0 := by decide
 have e2 : fstN 0 + 1440 * cum (leap 0) (0 + 1) = 44640 := by decide
 refine mo_eq (k := 0) (by omega) ⟨?_, ?_⟩
 ·rw [e1]; exact h0
 ·rw [e2]; exact h1
theorem sp_awake : cl fu (d + 10) fn_synopticlaw13_awake [] [] = OK (B true) := by
 obtain ⟨L, hL, hl, _, hc⟩ := sp_Learn fu d hf [ra, rb] (by decide) ra_ok
 have hI : items [ra, rb] = [((1, 0, 1), 10130), ((1, 0, 1), 10141)] := by
  show [((1, ((0 : Nat) : Int), ((mo 0 + 1 : Nat) : Int)), 10130), ((1, ((0 : Nat) : Int), ((mo 60 + 1 : Nat) : Int)), 10141)] = _
  rw [mo_small (by omega) (by omega), mo_small (by omega) (by omega)]; rfl
 have hv : vals (items [ra, rb]) (1, 0, 1) = [10130, 10141] := by rw [hI]; rfl
 have hn0 : IsN (1, 0, 1) [10130, 10141] ⟨1, 0, 1, 10135, 6⟩ := ⟨rfl, by decide, by decide, ⟨10141, by decide, by decide⟩⟩
 have hLe : L = [⟨1, 0, 1, 10135, 6⟩] := by
  refine asc_ext' (lt := fun a b : Nm => klt a.key b.key) (fun a => klt_irrefl _) (fun a b c => klt_trans) hL.asc (List.pairwise_singleton _ _) fun n => ?_
  rw [hL.mem, List.mem_singleton]
  constructor
  ·rintro ⟨q1, q2⟩
   have hk : n.key = (1, 0, 1) := by
    refine Decidable.byContradiction fun hne => q1 ?_
    rw [hI]
    have : ¬ ((1, 0, 1) : Key) = n.key := fun e => hne e.symm
    simp [vals, List.filter_cons, this]
   rw [hk, hv] at q2
   exact IsN.unique (.refl _) q2 hn0
  ·rintro rfl
   refine ⟨?_, ?_⟩
   ·show vals _ (1, 0, 1) ≠ []
    rw [hv]; simp
   ·show IsN (1, 0, 1) (vals _ (1, 0, 1)) _
    rw [hv]; exact hn0
 subst hLe
 have hok : okL [⟨1, 0, 1, 10135, 6⟩] := ⟨by decide, List.pairwise_singleton _ _, fun n hn => by
  simp only [List.mem_cons, List.not_mem_nil, or_false] at hn
  subst hn; decide⟩
 have hK := sp_Lookup fu (d + 2) hf [⟨1, 0, 1, 10135, 6⟩] hok 0 (by decide) ⟨1, 840, 0, 0⟩ ⟨by decide, rfl⟩ 100 ⟨by omega, by omega⟩ (by decide) (by rw [mo_small (by omega) (by omega)]; rfl)
 have hc' : cl fu (d + 9) fn_climate_Learn [V.c (C.sl 2 ([C.v (.int .i64 0), C.v (.string (⟨#[]⟩)), C.v (.int .i64 0), C.v (.int .i64 0), C.v (.int .i64 840), C.v (.int .i64 0), C.v (.int .i64 0), C.sl 1 ([C.v (.int .i64 1), C.v (.int .i64 10130)]), C.v (.int .i64 0), C.v (.string (⟨#[]⟩)), C.v (.int .i64 60), C.v (.int .i64 0), C.v (.int .i64 840), C.v (.int .i64 0), C.v (.int .i64 0), C.sl 1 ([C.v (.int .i64 1), C.v (.int .i64 10141)])]))] [] = OK (V.tup [V.agg [C.sl 1 [C.v (.int .i64 1), C.v (.int .i64 0), C.v (.int .i64 1), C.v (.int .i64 10135), C.v (.int .i64 6)]], I 0]) := hc
 have hK' : cl fu (d + 9) fn_climate_Lookup [V.agg [C.sl 1 [C.v (.int .i64 1), C.v (.int .i64 0), C.v (.int .i64 1), C.v (.int .i64 10135), C.v (.int .i64 6)]], I 1, V.agg [C.v (.int .i64 1), C.v (.int .i64 840), C.v (.int .i64 0), C.v (.int .i64 0)], I 100] [] = OK (V.tup [V.agg [C.v (.int .i64 1), C.v (.int .i64 0), C.v (.int .i64 1), C.v (.int .i64 10135), C.v (.int .i64 6)], I 0]) := hK
 rw [eq_synopticlaw13_awake, hc']
 simp (disch := omega) only [hdt_eq, QM, QD, hK', List.length_cons, List.length_nil, Nat.zero_add, Nat.reduceAdd]
end
end Go.Proofs.YtmbgnpgjdhlegaaDoor
/- ClimateLearns answers true. -/
namespace Go.Proofs.YtmbgnpgjdhlegaaDoor
open Go Go.PM Go.Grid
attribute [local congr] hd_bind hd_need hd_cond hd_unc hd_uncV hd_uncO hd_unI hd_asI hd_asB hd_asS hd_asSl hd_asFn hd_asP hd_rC hd_rA hd_rT hd_rG hd_rP hd_rO hd_rN hd_rF hd_rS hd_rW hd_nilV hd_natD hd_bd hd_iter hd_over hd_sliceC hd_asMp hd_asYF
def bs (l : List Bool) : List C := l.map fun b => .v (.bool b)
def hit (n : Nm) (x : Key × Int) : Bool := x.1 == n.key && ((if n.mean - x.2 > x.2 - n.mean then n.mean - x.2 else x.2 - n.mean) == n.sp)
def hits (I : List (Key × Int)) (n : Nm) : Bool := I.any (hit n)
def mix (L : List Nm) (I : List (Key × Int)) (x : Key × Int) (i : Nat) : List Bool := (L.take i).map (hits (I ++ [x])) ++ (L.drop i).map (hits I)
theorem nm_eqb (a b : Nm) : ((a.e == b.e) && ((a.f == b.f) && ((a.m == b.m) && ((a.mean == b.mean) && (a.sp == b.sp))))) = decide (a = b) := by
 obtain ⟨a1, a2, a3, a4, a5⟩ := a
 obtain ⟨b1, b2, b3, b4, b5⟩ := b
 rw [Bool.eq_iff_iff]
 simp only [Bool.and_eq_true, beq_iff_eq, decide_eq_true_eq, Nm.mk.injEq]
section
variable (fu d : Nat) (hf : 18446744073709551616 <= fu)
include hf
end
end Go.Proofs.YtmbgnpgjdhlegaaDoor
/- ClimateFaces answers true. -/
namespace Go.Proofs.YtmbgnpgjdhlegaaDoor
open Go Go.PM Go.Grid
attribute [local congr] hd_bind hd_need hd_cond hd_unc hd_uncV hd_uncO hd_unI hd_asI hd_asB hd_asS hd_asSl hd_asFn hd_asP hd_rC hd_rA hd_rT hd_rG hd_rP hd_rO hd_rN hd_rF hd_rS hd_rW hd_nilV hd_natD hd_bd hd_iter hd_over hd_sliceC hd_asMp hd_asYF
theorem vals_app {K W : Type} [DecidableEq K] (a b : List (K × W)) (k : K) : vals (a ++ b) k = vals a k ++ vals b k := by
 unfold vals; rw [List.filter_append, List.map_append]
theorem items_app (X Y : List Rep) : items (X ++ Y) = items X ++ items Y := by simp [items]
theorem face_of {X : List Rep} {k : Key} (h : vals (items X) k ≠ []) : ∃ x ∈ X, k.2.1 = (x.p.f : Int) := by
 obtain ⟨v, hv⟩ := List.exists_mem_of_ne_nil _ h
 have h5 := mem_vals.1 hv
 unfold items at h5
 obtain ⟨x, hx, h6⟩ := List.mem_flatMap.1 h5
 unfold itemsR at h6
 obtain ⟨r, hr, e⟩ := List.mem_map.1 h6
 exact ⟨x, hx, (congrArg (fun z : Key × Int => z.1.2.1) e).symm⟩
theorem faces_join {X Y : List Rep} {A B D : List Nm} (hx : ∀ x ∈ X, x.p.f % 2 = 0) (hy : ∀ y ∈ Y, y.p.f % 2 = 1) (hA : IsL (items X) A) (hB : IsL (items Y) B) (hD : IsL (items (X ++ Y)) D) :
  D.length = A.length + B.length /\ ∀ n ∈ D, n ∈ A ++ B := by
 have par : ∀ k : Key, vals (items X) k = [] \/ vals (items Y) k = [] := fun k => by
  by_cases h : vals (items X) k = []
  ·exact .inl h
  ·refine .inr (Classical.byContradiction fun h' => ?_)
   obtain ⟨x, q1, q2⟩ := face_of h
   obtain ⟨y, q3, q4⟩ := face_of h'
   have := hx x q1
   have := hy y q3
   omega
 have mem : ∀ n, n ∈ D ↔ n ∈ A ++ B := fun n => by
  rw [List.mem_append, hD.mem, hA.mem, hB.mem, items_app, vals_app]
  rcases par n.key with h | h
  ·rw [h, List.nil_append]
   exact ⟨.inr, fun q => q.elim (fun q => absurd rfl q.1) id⟩
  ·rw [h, List.append_nil]
   exact ⟨.inl, fun q => q.elim id fun q => absurd rfl q.1⟩
 have nd : ∀ {I : List (Key × Int)} {L : List Nm}, IsL I L -> L.Nodup := fun {I L} h => by
  unfold List.Nodup
  refine List.Pairwise.imp (fun {a b} (q : klt a.key b.key) (e : a = b) => ?_) h.asc
  subst e
  exact klt_irrefl _ q
 have hn : (A ++ B).Nodup := by
  refine List.nodup_append.2 ⟨nd hA, nd hB, fun a ha b hb e => ?_⟩
  subst e
  rcases par a.key with h | h
  ·exact ((hA.mem a).1 ha).1 h
  ·exact ((hB.mem a).1 hb).1 h
 have hp := (List.perm_ext_iff_of_nodup (nd hD) hn).2 mem
 exact ⟨by rw [hp.length_eq, List.length_append], fun n h => (mem n).1 h⟩
theorem fl_puts {A : Type} {e : A -> List C} {m : Nat} (hm : ∀ x, (e x).length = m) {l : List A} {i k : Nat} (hi : i < l.length) {xs : List C} (hk : k + xs.length <= m) {x : A} (hx : putAt (e l[i]) k xs = e x) : putAt (fl e l) (i * m + k) xs = fl e (l.set i x) := by
 have h1 : l = l.take i ++ l[i] :: l.drop (i + 1) := by rw [<- List.drop_eq_getElem_cons hi, List.take_append_drop]
 have h2 : (fl e (l.take i)).length = i * m := by rw [fl_length hm, List.length_take, Nat.min_eq_left (by omega)]
 have h3 : fl e l = fl e (l.take i) ++ (e l[i] ++ fl e (l.drop (i + 1))) := by
  conv => lhs; rw [h1]
  rw [fl_append, fl_cons]
 have p1 : ∀ (a b xs : List C) (k : Nat), putAt (a ++ b) (a.length + k) xs = a ++ putAt b k xs := fun a b xs k => by
  unfold putAt
  rw [List.take_length_add_append, show a.length + k + xs.length = a.length + (k + xs.length) by omega, List.drop_length_add_append]
  simp [List.append_assoc]
 have p2 : ∀ {a b xs : List C} {k : Nat}, k + xs.length <= a.length -> putAt (a ++ b) k xs = putAt a k xs ++ b := fun {a b xs k} h => by
  unfold putAt
  rw [List.take_append_of_le_length (by omega), List.drop_append_of_le_length h]
  simp [List.append_assoc]
 rw [h3, <- h2, p1, p2 (by rw [hm]; exact hk), hx, List.set_eq_take_append_cons_drop, if_pos hi, fl_append, fl_cons]
def onF (f : Nat) (x : Rep) : Rep := ⟨x.k, x.nm, x.tm, ⟨f, 280, 280, 280⟩, x.rs⟩
theorem onF_ok {f : Nat} {x : Rep} (h : okRep x) (hf : f < 20) : okRep (onF f x) :=
 have hp : Pl.ok ⟨f, 280, 280, 280⟩ := ⟨hf, rfl⟩
 ⟨⟨hp, norm_inner hp (show 0 < 280 by decide) (show 0 < 280 by decide) (show 0 < 280 by decide)⟩, h.2.1, h.2.2⟩
theorem rep_face {X : List Rep} {i : Nat} (h : i < X.length) (f : Nat) : putAt (fl repC X) (i * 8 + 3) [C.v (.int .i64 (f : Nat)), C.v (.int .i64 280), C.v (.int .i64 280), C.v (.int .i64 280)] = fl repC (X.set i (onF f X[i])) :=
 fl_puts repC_length h (Nat.le_of_ble_eq_true rfl) rfl
structure Faced (b n : Nat) (j : Nat) (Z : List Rep) : Prop where
 len : Z.length = n
 ok : ∀ x ∈ Z, okRep x
 par : ∀ k (h : k < Z.length), k < j -> Z[k].p.f % 2 = b
theorem Faced.step {b n j : Nat} {Z : List Rep} (h : Faced b n j Z) (hj : j < Z.length) {f : Nat} (hf : f < 20) (hb : f % 2 = b) : Faced b n (j + 1) (Z.set j (onF f Z[j])) where
 len := by rw [List.length_set, h.len]
 ok := fun x hx => by
  rcases List.mem_or_eq_of_mem_set hx with hx | rfl
  ·exact h.ok x hx
  ·exact onF_ok (h.ok _ (List.getElem_mem hj)) hf
 par := fun k hk hkj => by
  rw [List.getElem_set]
  split
  ·exact hb
  ·exact h.par k (by simpa using hk) (by omega)
theorem Faced.all {b n : Nat} {Z : List Rep} (h : Faced b n n Z) : ∀ x ∈ Z, x.p.f % 2 = b := fun x hx => by
 obtain ⟨k, hk, rfl⟩ := List.mem_iff_getElem.1 hx
 exact h.par k hk (by rw [<- h.len]; exact hk)
section
variable (fu d : Nat) (hf : 18446744073709551616 <= fu)
include hf
set_option maxHeartbeats 8000000 in
set_option maxRecDepth 4000 in
theorem sp_ClimateFaces (l : List Int) : cl fu (d + 11) fn_synopticlaw13_ClimateFaces [V.c (C.sl l.length (ints l))] [] = OK (B true) := by
 have hN := sp_New fu (d + 9) l
 have hL : (l.take 2000).length <= 2000 := by rw [List.length_take]; omega
 generalize hS : l.take 2000 = S at hN hL
 obtain ⟨m, j1, c1, hm⟩ := sp_Minute fu (d + 6) S hL 0
 obtain ⟨X, j2, ⟨hX, hok⟩, c2⟩ := sp_Placed fu (d + 3) S hL hf 4 (by omega) m hm j1
 obtain ⟨Y, j3, ⟨hY, hok'⟩, c3⟩ := sp_Placed fu (d + 3) S hL hf 4 (by omega) m hm j2
 have hflX := fl_length repC_length X
 have hflY := fl_length repC_length Y
 have htX : List.take (X.length * 8) (fl repC X) = fl repC X := List.take_of_length_le (by omega)
 have htY : List.take (Y.length * 8) (fl repC Y) = fl repC Y := List.take_of_length_le (by omega)
 have eO0 : Nat.beq 1000000 (OUT + 0) = true := rfl
 have eO1 : Nat.beq 1000001 (OUT + 1) = true := rfl
 unfold srcO srcC at hN c1 c2 c3
 rw [eq_synopticlaw13_ClimateFaces, hN]
 simp (disch := omega) only [hdt_eq, QM, QD, c1, c2, c3, eO0, eO1, hflX, hflY, htX, htY, List.length_cons, List.length_nil, Nat.zero_add, Nat.reduceAdd]
 refine iter_bind_ex (A := List C × List C × Int × (C × Int × Unit) × Unit) (B := Out) (fu := fu) (fun o => o = OK (B true))
  (fun j y => ∃ (Z : List Rep) (q : Nat), Faced 0 X.length j Z /\ y = (fl repC Z, fl repC Y, ((j : Nat) : Int), (C.sl S.length (ints S), ((q : Nat) : Int), ()), ()))
  (fun z => ∃ (Z : List Rep) (q : Nat), Faced 0 X.length X.length Z /\ z = (fl repC Z, fl repC Y, ((X.length : Nat) : Int), (C.sl S.length (ints S), ((q : Nat) : Int), ()), ())) 0 X.length ?_ ?_ ?_ (by omega) ?_
 ·exact ⟨X, j3, ⟨rfl, hok, fun k _ h => absurd h (Nat.not_lt_zero _)⟩, rfl⟩
 ·rintro j y hj ⟨Z, q, hZ, rfl⟩
  obtain ⟨v, q1, c4, b1, b2⟩ := sp_N fu (d + 8) S q hL 10 (by omega)
  obtain ⟨w, rfl⟩ : ∃ w : Nat, v = w := ⟨v.toNat, by omega⟩
  have hjl : j < Z.length := by rw [hZ.len]; exact hj
  have hfl := fl_length repC_length Z
  have hdv : Z.length * 8 / 8 = Z.length := by omega
  have hdY : Y.length * 8 / 8 = Y.length := by omega
  have hlen := hZ.len
  have hput := rep_face hjl (2 * w)
  have hfl2 : (fl repC (Z.set j (onF (2 * w) Z[j]))).length = Z.length * 8 := by rw [fl_length repC_length, List.length_set]
  have hcast : ((2 * w : Nat) : Int) = 2 * (w : Int) := by omega
  rw [hcast] at hput
  unfold srcO srcC at c4
  refine ⟨_, ?_, Z.set j (onF (2 * w) Z[j]), q1, hZ.step hjl (by omega) (by omega), rfl⟩
  simp (disch := omega) only [hdt_eq, QM, QD, c4, Int.toNat_natCast, List.length_cons, List.length_nil, Nat.zero_add, Nat.reduceAdd, hfl, hdv, hflY, hdY, hput, hfl2]
  rfl
 ·rintro y ⟨Z, q, hZ, rfl⟩
  have hfl := fl_length repC_length Z
  have hdv : Z.length * 8 / 8 = Z.length := by omega
  have hdY : Y.length * 8 / 8 = Y.length := by omega
  refine ⟨_, ?_, Z, q, hZ, rfl⟩
  simp (disch := omega) only [hdt_eq, QM, QD, hfl, hdv, hflY, hdY]
 rintro z ⟨Z, q, hZ, rfl⟩
 have hflZ := fl_length repC_length Z
 have hlZ := hZ.len
 have hdZ : Z.length * 8 / 8 = Z.length := by omega
 have hdY : Y.length * 8 / 8 = Y.length := by omega
 have htZ : List.take (Z.length * 8) (fl repC Z) = fl repC Z := List.take_of_length_le (by omega)
 simp (disch := omega) only [hdt_eq, QM, QD, hflZ, hdZ, htZ, hflY, hdY]
 refine iter_bind_ex (A := List C × Int × (C × Int × Unit) × Unit) (B := Out) (fu := fu) (fun o => o = OK (B true))
  (fun j y => ∃ (T : List Rep) (q : Nat), Faced 1 Y.length j T /\ y = (fl repC T, ((j : Nat) : Int), (C.sl S.length (ints S), ((q : Nat) : Int), ()), ()))
  (fun z => ∃ (T : List Rep) (q : Nat), Faced 1 Y.length Y.length T /\ z = (fl repC T, ((Y.length : Nat) : Int), (C.sl S.length (ints S), ((q : Nat) : Int), ()), ())) 0 Y.length ?_ ?_ ?_ (by omega) ?_
 ·exact ⟨Y, q, ⟨rfl, hok', fun k _ h => absurd h (Nat.not_lt_zero _)⟩, rfl⟩
 ·rintro j y hj ⟨T, q, hT, rfl⟩
  obtain ⟨v, q1, c4, b1, b2⟩ := sp_N fu (d + 8) S q hL 10 (by omega)
  obtain ⟨w, rfl⟩ : ∃ w : Nat, v = w := ⟨v.toNat, by omega⟩
  have hjl : j < T.length := by rw [hT.len]; exact hj
  have hfl := fl_length repC_length T
  have hdv : T.length * 8 / 8 = T.length := by omega
  have hlen := hT.len
  have hput := rep_face hjl (1 + 2 * w)
  have hfl2 : (fl repC (T.set j (onF (1 + 2 * w) T[j]))).length = T.length * 8 := by rw [fl_length repC_length, List.length_set]
  have hcast : ((1 + 2 * w : Nat) : Int) = 1 + 2 * (w : Int) := by omega
  rw [hcast] at hput
  unfold srcO srcC at c4
  refine ⟨_, ?_, T.set j (onF (1 + 2 * w) T[j]), q1, hT.step hjl (by omega) (by omega), rfl⟩
  simp (disch := omega) only [hdt_eq, QM, QD, c4, Int.toNat_natCast, List.length_cons, List.length_nil, Nat.zero_add, Nat.reduceAdd, hfl, hdv, hput, hfl2]
  rfl
 ·rintro y ⟨T, q, hT, rfl⟩
  have hfl := fl_length repC_length T
  have hdv : T.length * 8 / 8 = T.length := by omega
  refine ⟨_, ?_, T, q, hT, rfl⟩
  simp (disch := omega) only [hdt_eq, QM, QD, hfl, hdv]
 rintro z ⟨T, q, hT, rfl⟩
 have hflT := fl_length repC_length T
 have hlT := hT.len
 have hdT : T.length * 8 / 8 = T.length := by omega
 have htT : List.take (T.length * 8) (fl repC T) = fl repC T := List.take_of_length_le (by omega)
 obtain ⟨A, hA, hAl, hAb, c5⟩ := sp_Learn fu (d + 1) hf Z (by omega) hZ.ok
 obtain ⟨Bn, hB, hBl, hBb, c6⟩ := sp_Learn fu (d + 1) hf T (by omega) hT.ok
 obtain ⟨D, hD, hDl, hDb, c7⟩ := sp_Learn fu (d + 1) hf (Z ++ T) (by rw [List.length_append]; omega) fun x hx => (List.mem_append.1 hx).elim (hZ.ok x) (hT.ok x)
 rw [fl_append, List.length_append] at c7
 have htZT : List.take ((Z.length + T.length) * 8) (fl repC Z ++ fl repC T) = fl repC Z ++ fl repC T := List.take_of_length_le (by rw [List.length_append]; omega)
 have hlZT : (fl repC Z ++ fl repC T).length = (Z.length + T.length) * 8 := by rw [List.length_append]; omega
 obtain ⟨hlen, hmem⟩ := faces_join hZ.all hT.all hA hB hD
 have hflA := fl_length nmC_length A
 have hflB := fl_length nmC_length Bn
 have hlast : (((D.length : Nat) : Int) != ((A.length : Nat) : Int) + ((Bn.length : Nat) : Int)) = false := by
  rw [hlen]; simp
 simp (disch := omega) only [hdt_eq, QM, QD, hflT, hdT, htT, hflZ, hdZ, htZ, c5, c6, htZT, hlZT, c7, List.length_cons, List.length_nil, Nat.zero_add, Nat.reduceAdd, bne_self_eq_false, hlast]
 rw [iter_runx (fun j : Nat => (false, ((j : Nat) : Int), ())) 0 (false, ((D.length : Nat) : Int), ()) D.length ?_ ?_ ?_ (by omega)]
 ·have hw := sp_awake fu d hf
  simp only [hdt_eq, QM, hw]
 ·rfl
 ·intro j hj
  have hat := fl_at nmC_length hj
  have hm := hmem D[j] (List.getElem_mem hj)
  have hcs : fl nmC A ++ fl nmC Bn = fl nmC (A ++ Bn) := (fl_append _ _).symm
  have hlAB : (fl nmC (A ++ Bn)).length = (A.length + Bn.length) * 5 := by rw [fl_length nmC_length, List.length_append]
  have hdAB : (A.length + Bn.length) * 5 / 5 = A.length + Bn.length := by omega
  simp (disch := omega) only [hdt_eq, QM, QD, Int.toNat_natCast, hat, nmC, List.cons_append, List.nil_append, hflA, hflB, hcs, hlAB]
  rw [iter_runx (fun t : Nat => (decide (D[j] ∈ (A ++ Bn).take t), fl nmC (A ++ Bn), ((t : Nat) : Int), (D[j].e, D[j].f, D[j].m, D[j].mean, D[j].sp, ()), ())) 0 (true, fl nmC (A ++ Bn), ((A.length + Bn.length : Nat) : Int), (D[j].e, D[j].f, D[j].m, D[j].mean, D[j].sp, ()), ()) (A.length + Bn.length) ?_ ?_ ?_ (by omega)]
  ·simp (disch := omega) only [hdt_eq, QM, QD]
   rfl
  ·simp
  ·intro t ht
   have htl : t < (A ++ Bn).length := by rw [List.length_append]; exact ht
   have hat2 := fl_at nmC_length htl
   have hb := nm_eqb (A ++ Bn)[t] D[j]
   simp (disch := omega) only [hdt_eq, QM, QD, Int.toNat_natCast, Nat.zero_add, hlAB, hdAB, hat2, nmC, List.cons_append, List.nil_append]
   have hstep : decide (D[j] ∈ (A ++ Bn).take (t + 1)) = (decide (D[j] ∈ (A ++ Bn).take t) || decide ((A ++ Bn)[t] = D[j])) := by
    rw [Bool.eq_iff_iff, Bool.or_eq_true, decide_eq_true_iff, decide_eq_true_iff, decide_eq_true_iff, List.take_succ_eq_append_getElem htl, List.mem_append, List.mem_singleton]
    exact or_congr Iff.rfl eq_comm
   cases hq : decide (D[j] ∈ (A ++ Bn).take t) with
   | true =>
    rw [hstep, hq]
    simp (disch := omega) only [hdt_eq, QM, QD, Bool.true_or]
    rfl
   | false =>
    rw [hstep, hq]
    simp (disch := omega) only [hdt_eq, QM, QD, Bool.and_true, hb, Bool.false_or]
    rfl
  ·have htk : (A ++ Bn).take (A.length + Bn.length) = A ++ Bn := by rw [<- List.length_append]; exact List.take_length
   rw [htk, decide_eq_true hm]
   simp (disch := omega) only [hdt_eq, QM, QD, hlAB, hdAB, Nat.zero_add]
 ·simp (disch := omega) only [hdt_eq, QM, QD]
end
end Go.Proofs.YtmbgnpgjdhlegaaDoor
