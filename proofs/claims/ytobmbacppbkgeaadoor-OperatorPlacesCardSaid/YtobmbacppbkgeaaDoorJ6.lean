/- Parts put together: W, Ga, Gb, Gc, Gd, Ge, Gf, Gg, Gh, Gi, Gj, Gk, Gl, Oa, Ob, Oc, Od. -/
import Derived.Test.YtobmbacppbkgeaaDoorJ4
import Derived.Test.YtobmbacppbkgeaaDoorEq
set_option linter.unusedSimpArgs false
set_option linter.unusedVariables false
/- Rules whose conditions simp can have shown by omega; lists of records as cells. -/
namespace Go.PM
open Go

theorem wrap_in {x : Int} (h1 : -9223372036854775808 ≤ x) (h2 : x ≤ 9223372036854775807) : IntKind.i64.wrap x = x := IntWalk.i64_in x ⟨by omega, by omega⟩
theorem dlt_t {a b : Int} (h : a < b) : decide (a < b) = true := decide_eq_true h
theorem dlt_f {a b : Int} (h : b ≤ a) : decide (a < b) = false := decide_eq_false (by omega)
theorem dle_t {a b : Int} (h : a ≤ b) : decide (a ≤ b) = true := decide_eq_true h
theorem dle_f {a b : Int} (h : b < a) : decide (a ≤ b) = false := decide_eq_false (by omega)
theorem dgt_t {a b : Int} (h : b < a) : decide (a > b) = true := decide_eq_true h
theorem dgt_f {a b : Int} (h : a ≤ b) : decide (a > b) = false := decide_eq_false (by omega)
theorem dge_t {a b : Int} (h : b ≤ a) : decide (a ≥ b) = true := decide_eq_true h
theorem dge_f {a b : Int} (h : a < b) : decide (a ≥ b) = false := decide_eq_false (by omega)
theorem ibeq_t {a b : Int} (h : a = b) : (a == b) = true := beq_iff_eq.2 h
theorem ibeq_f {a b : Int} (h : a ≠ b) : (a == b) = false := beq_eq_false_iff_ne.2 h
theorem ibne_t {a b : Int} (h : a ≠ b) : (a != b) = true := bne_iff_ne.2 h
theorem ibne_f {a b : Int} (h : a = b) : (a != b) = false := by subst h; simp

/-- Records as cells. -/
def fl {A : Type} (e : A → List C) (l : List A) : List C := l.flatMap e
section
variable {A : Type} {e : A → List C} {m : Nat}
@[simp] theorem fl_nil : fl e [] = [] := rfl
theorem fl_cons (x : A) (l : List A) : fl e (x :: l) = e x ++ fl e l := by simp [fl]
theorem fl_append (l l' : List A) : fl e (l ++ l') = fl e l ++ fl e l' := by simp [fl]
theorem fl_snoc (l : List A) (x : A) : fl e l ++ e x = fl e (l ++ [x]) := by simp [fl]
theorem fl_length (h : ∀ x, (e x).length = m) : ∀ l : List A, (fl e l).length = l.length * m
  | [] => by simp [fl]
  | x :: l => by rw [fl_cons, List.length_append, h, fl_length h l, List.length_cons, Nat.succ_mul]; omega
theorem fl_drop (h : ∀ x, (e x).length = m) : ∀ (k : Nat) (l : List A), (fl e l).drop (k * m) = fl e (l.drop k)
  | 0, l => by simp
  | k + 1, [] => by simp [fl]
  | k + 1, x :: l => by
    rw [fl_cons, Nat.succ_mul, Nat.add_comm, List.drop_append]
    rw [show (e x).drop (m + k * m) = [] from List.drop_eq_nil_of_le (by rw [h]; omega), h, Nat.add_sub_cancel_left, List.nil_append, fl_drop h k l]
    rfl
theorem fl_take (h : ∀ x, (e x).length = m) : ∀ (k : Nat) (l : List A), (fl e l).take (k * m) = fl e (l.take k)
  | 0, l => by simp
  | k + 1, [] => by simp [fl]
  | k + 1, x :: l => by
    rw [fl_cons, Nat.succ_mul, Nat.add_comm, List.take_append]
    rw [List.take_of_length_le (by rw [h]; omega), h, Nat.add_sub_cancel_left, fl_take h k l, List.take_succ_cons, fl_cons]
theorem fl_at (h : ∀ x, (e x).length = m) {k : Nat} {l : List A} (hk : k < l.length) : (fl e l).drop (k * m) = e l[k] ++ fl e (l.drop (k + 1)) := by
  rw [fl_drop h, List.drop_eq_getElem_cons hk, fl_cons]
theorem fl_div (hm : 0 < m) (h : ∀ x, (e x).length = m) (l : List A) : (fl e l).length / m = l.length := by rw [fl_length h, Nat.mul_div_cancel _ hm]
end

/-- The first that has a property, or none has it. -/
theorem first_or_none (P : Nat → Prop) [DecidablePred P] (n : Nat) : (∀ j, j < n → ¬ P j) ∨ ∃ k, k < n ∧ P k ∧ ∀ j, j < k → ¬ P j := by
  induction n with
  | zero => left; intro j hj; omega
  | succ n ih =>
    rcases ih with ih | ⟨k, h1, h2, h3⟩
    · by_cases h : P n
      · exact .inr ⟨n, by omega, h, ih⟩
      · left; intro j hj; by_cases e : j = n
        · subst e; exact h
        · exact ih j (by omega)
    · exact .inr ⟨k, by omega, h2, h3⟩
theorem iter_runx {A : Type} {body : A → Option (Nat × A)} {x : A} {fu : Nat} (f : Nat → A) (e : Nat) (z : A) (k : Nat) (hx : x = f 0) (h : ∀ j, j < k → body (f j) = some (0, f (j + 1))) (he : body (f k) = some (e + 1, z)) (hf : k < fu) : iter body fu x = some (e, z) := by
  rw [hx]; exact iter_run f e z k 0 fu (fun j _ hj => h j (by omega)) (by rw [Nat.zero_add]; exact he) hf
theorem iter_measx {A : Type} {body : A → Option (Nat × A)} {x : A} {fu : Nat} (J : A → Prop) (m : A → Nat) (e : Nat) (z : A) (hx : J x) (hm : m x < fu) (h : ∀ y, J y → (∃ y', body y = some (0, y') ∧ J y' ∧ m y' < m y) ∨ body y = some (e + 1, z)) : iter body fu x = some (e, z) := by
  obtain ⟨e', z', h1, h2, h3⟩ := iter_meas (body := body) J m (fun e' z' => e' = e ∧ z' = z) (fun y hy => (h y hy).imp id fun hh => ⟨e, z, hh, rfl, rfl⟩) fu x hx hm
  rw [h1, h2, h3]
theorem iter_s {A : Type} (body : A → Option (Nat × A)) (n : Nat) (x : A) : iter body (n + 1) x = (body x).bind fun p => natD p.1 (iter body n p.2) fun m => some (m, p.2) := by
  simp only [iter]
  congr 1
end Go.PM
/- Places on the icosahedron and the nodes of its grids: plain laws, no program in sight. -/
namespace Go.Grid

/-- A place: a face and three weights. -/
structure Pl where
  f : Nat
  a : Nat
  b : Nat
  c : Nat
  deriving DecidableEq, Inhabited

def crnL : List (Nat × Nat × Nat) := [(0, 1, 2), (0, 2, 3), (0, 3, 4), (0, 4, 5), (0, 5, 1), (1, 6, 2), (2, 7, 3), (3, 8, 4), (4, 9, 5), (5, 10, 1),
  (6, 7, 2), (7, 8, 3), (8, 9, 4), (9, 10, 5), (10, 6, 1), (11, 7, 6), (11, 8, 7), (11, 9, 8), (11, 10, 9), (11, 6, 10)]
def crn (f : Nat) : Nat × Nat × Nat := crnL.getD f (0, 1, 2)
def Pl.ok (p : Pl) : Prop := p.f < 20 ∧ p.a + p.b + p.c = 840
instance (p : Pl) : Decidable p.ok := inferInstanceAs (Decidable (_ ∧ _))

/-- The weight of a vertex, by three vertices and their weights. -/
def wt3 (k : Nat × Nat × Nat) (a b c v : Nat) : Nat := if v = k.1 then a else if v = k.2.1 then b else if v = k.2.2 then c else 0
def wt (p : Pl) (v : Nat) : Nat := wt3 (crn p.f) p.a p.b p.c v
/-- The place with some weights on a face. -/
def onW (w : Nat → Nat) (f : Nat) : Pl := ⟨f, w (crn f).1, w (crn f).2.1, w (crn f).2.2⟩
def Pl.full (p : Pl) : Bool := p.a + p.b + p.c == 840
def addrsW (w : Nat → Nat) : List Pl := ((List.range 20).map (onW w)).filter Pl.full
def addrs (p : Pl) : List Pl := addrsW (wt p)
def norm (p : Pl) : Pl := (addrs p).headD p

def Apart (k : Nat × Nat × Nat) : Prop := k.1 ≠ k.2.1 ∧ k.1 ≠ k.2.2 ∧ k.2.1 ≠ k.2.2
instance (k : Nat × Nat × Nat) : Decidable (Apart k) := inferInstanceAs (Decidable (_ ∧ _ ∧ _))
theorem crn_apart (f : Nat) : Apart (crn f) := by
  by_cases h : f < 20
  · exact (by decide : ∀ f : Fin 20, Apart (crn f)) ⟨f, h⟩
  · have : crn f = (0, 1, 2) := by unfold crn; rw [List.getD_eq_getElem?_getD, List.getElem?_eq_none (by simp [crnL]; omega)]; rfl
    rw [this]; decide
theorem crn_lt (f : Nat) : (crn f).1 < 12 ∧ (crn f).2.1 < 12 ∧ (crn f).2.2 < 12 := by
  by_cases h : f < 20
  · exact (by decide : ∀ f : Fin 20, (crn f).1 < 12 ∧ (crn f).2.1 < 12 ∧ (crn f).2.2 < 12) ⟨f, h⟩
  · have : crn f = (0, 1, 2) := by unfold crn; rw [List.getD_eq_getElem?_getD, List.getElem?_eq_none (by simp [crnL]; omega)]; rfl
    rw [this]; decide

theorem wt3_1 (k : Nat × Nat × Nat) (a b c : Nat) : wt3 k a b c k.1 = a := by simp [wt3]
theorem wt3_2 {k : Nat × Nat × Nat} (h : Apart k) (a b c : Nat) : wt3 k a b c k.2.1 = b := by simp [wt3, Ne.symm h.1]
theorem wt3_3 {k : Nat × Nat × Nat} (h : Apart k) (a b c : Nat) : wt3 k a b c k.2.2 = c := by simp [wt3, Ne.symm h.2.1, Ne.symm h.2.2]

theorem onW_self (p : Pl) : onW (wt p) p.f = p := by
  cases p with
  | mk f a b c =>
    have h := crn_apart f
    simp only [onW, wt, wt3_1, wt3_2 h, wt3_3 h]

theorem wt3_sum {k : Nat × Nat × Nat} (h : Apart k) (a b c v : Nat) : wt3 k a b c v = (if v = k.1 then a else 0) + (if v = k.2.1 then b else 0) + (if v = k.2.2 then c else 0) := by
  obtain ⟨h1, h2, h3⟩ := h
  unfold wt3
  by_cases e1 : v = k.1
  · have e2 : ¬ v = k.2.1 := fun e => h1 (e1.symm.trans e)
    have e3 : ¬ v = k.2.2 := fun e => h2 (e1.symm.trans e)
    simp only [if_pos e1, if_neg e2, if_neg e3, Nat.add_zero]
  · by_cases e2 : v = k.2.1
    · have e3 : ¬ v = k.2.2 := fun e => h3 (e2.symm.trans e)
      simp only [if_neg e1, if_pos e2, if_neg e3, Nat.add_zero, Nat.zero_add]
    · by_cases e3 : v = k.2.2
      · simp only [if_neg e1, if_neg e2, if_pos e3, Nat.zero_add]
      · simp only [if_neg e1, if_neg e2, if_neg e3]
/-- How much of a weight three vertices have. -/
def part3 (l : Nat × Nat × Nat) (k a : Nat) : Nat := (if l.1 = k then a else 0) + (if l.2.1 = k then a else 0) + (if l.2.2 = k then a else 0)
theorem part3_le {l : Nat × Nat × Nat} (h : Apart l) (k a : Nat) : part3 l k a ≤ a := by
  obtain ⟨h1, h2, h3⟩ := h
  unfold part3
  (repeat' split) <;> omega
theorem part3_none {l : Nat × Nat × Nat} {k : Nat} (h1 : ¬ l.1 = k) (h2 : ¬ l.2.1 = k) (h3 : ¬ l.2.2 = k) (a : Nat) : part3 l k a = 0 := by
  unfold part3; rw [if_neg h1, if_neg h2, if_neg h3]
/-- Weights that add up on another face are all there. -/
theorem wt3_full {k k' : Nat × Nat × Nat} (h : Apart k) (h' : Apart k') {a b c : Nat} (hs : wt3 k a b c k'.1 + wt3 k a b c k'.2.1 + wt3 k a b c k'.2.2 = a + b + c) (v : Nat) :
    wt3 k' (wt3 k a b c k'.1) (wt3 k a b c k'.2.1) (wt3 k a b c k'.2.2) v = wt3 k a b c v := by
  have hp : part3 k' k.1 a + part3 k' k.2.1 b + part3 k' k.2.2 c = a + b + c := by
    rw [wt3_sum h, wt3_sum h, wt3_sum h] at hs
    unfold part3; omega
  have l1 := part3_le h' k.1 a
  have l2 := part3_le h' k.2.1 b
  have l3 := part3_le h' k.2.2 c
  by_cases e1 : v = k'.1
  · rw [e1, wt3_1]
  · by_cases e2 : v = k'.2.1
    · rw [e2, wt3_2 h']
    · by_cases e3 : v = k'.2.2
      · rw [e3, wt3_3 h']
      · have hz : ∀ x y z, wt3 k' x y z v = 0 := fun x y z => by simp only [wt3, e1, e2, e3, if_false]
        rw [hz]
        have q1 : ∀ {j : Nat}, v = j → ¬ k'.1 = j := fun e e' => e1 (e.trans e'.symm)
        have q2 : ∀ {j : Nat}, v = j → ¬ k'.2.1 = j := fun e e' => e2 (e.trans e'.symm)
        have q3 : ∀ {j : Nat}, v = j → ¬ k'.2.2 = j := fun e e' => e3 (e.trans e'.symm)
        rw [wt3_sum h]
        have r1 : (if v = k.1 then a else 0) = 0 := by
          split
          · rename_i e; have := part3_none (q1 e) (q2 e) (q3 e) a; omega
          · rfl
        have r2 : (if v = k.2.1 then b else 0) = 0 := by
          split
          · rename_i e; have := part3_none (q1 e) (q2 e) (q3 e) b; omega
          · rfl
        have r3 : (if v = k.2.2 then c else 0) = 0 := by
          split
          · rename_i e; have := part3_none (q1 e) (q2 e) (q3 e) c; omega
          · rfl
        rw [r1, r2, r3]

theorem full_iff {p : Pl} : p.full = true ↔ p.a + p.b + p.c = 840 := by simp [Pl.full]
theorem mem_addrs {p q : Pl} : q ∈ addrs p ↔ ∃ f, f < 20 ∧ onW (wt p) f = q ∧ q.a + q.b + q.c = 840 := by
  simp only [addrs, addrsW, List.mem_filter, List.mem_map, List.mem_range, full_iff]
  constructor
  · rintro ⟨⟨f, h1, h2⟩, h3⟩; exact ⟨f, h1, h2, h3⟩
  · rintro ⟨f, h1, h2, h3⟩; exact ⟨⟨f, h1, h2⟩, h3⟩
theorem self_addrs {p : Pl} (h : p.ok) : p ∈ addrs p := mem_addrs.2 ⟨p.f, h.1, onW_self p, h.2⟩
theorem addrs_wt {p q : Pl} (h : p.ok) (hq : q ∈ addrs p) : q.ok ∧ wt q = wt p := by
  obtain ⟨f, h1, rfl, h3⟩ := mem_addrs.1 hq
  refine ⟨⟨h1, h3⟩, funext fun v => ?_⟩
  have hs : wt p (crn f).1 + wt p (crn f).2.1 + wt p (crn f).2.2 = p.a + p.b + p.c := by rw [h.2]; exact h3
  exact wt3_full (crn_apart p.f) (crn_apart f) hs v
theorem norm_mem {p : Pl} (h : p.ok) : norm p ∈ addrs p := by
  unfold norm
  have := self_addrs h
  cases e : addrs p with
  | nil => rw [e] at this; cases this
  | cons x r => simp
theorem norm_ok {p : Pl} (h : p.ok) : (norm p).ok := (addrs_wt h (norm_mem h)).1
theorem norm_wt {p : Pl} (h : p.ok) : wt (norm p) = wt p := (addrs_wt h (norm_mem h)).2
theorem norm_head {p : Pl} (h : p.ok) : ∃ r, addrs p = norm p :: r := by
  unfold norm
  have := self_addrs h
  cases e : addrs p with
  | nil => rw [e] at this; cases this
  | cons x r => exact ⟨r, rfl⟩
theorem norm_of_wt {p q : Pl} (h : p.ok) (hq : q.ok) (e : wt p = wt q) : norm p = norm q := by
  obtain ⟨r, h1⟩ := norm_head h
  obtain ⟨r', h2⟩ := norm_head hq
  have : addrs p = addrs q := by unfold addrs; rw [e]
  rw [h1, h2] at this
  exact (List.cons.inj this).1
theorem norm_norm {p : Pl} (h : p.ok) : norm (norm p) = norm p := norm_of_wt (norm_ok h) h (norm_wt h)
theorem eq_of_wt {p q : Pl} (hf : p.f = q.f) (e : wt p = wt q) : p = q := by
  rw [← onW_self p, ← onW_self q, e, hf]
theorem eq_of_norm {p q : Pl} (h : p.ok) (hq : q.ok) (hf : p.f = q.f) (e : norm p = norm q) : p = q :=
  eq_of_wt hf ((norm_wt h).symm.trans ((congrArg wt e).trans (norm_wt hq)))

/-- A place within a face is normal. -/
theorem faces_apart : ∀ f g : Fin 20, ((crn f).1 = (crn g).1 ∨ (crn f).1 = (crn g).2.1 ∨ (crn f).1 = (crn g).2.2) → ((crn f).2.1 = (crn g).1 ∨ (crn f).2.1 = (crn g).2.1 ∨ (crn f).2.1 = (crn g).2.2) →
    ((crn f).2.2 = (crn g).1 ∨ (crn f).2.2 = (crn g).2.1 ∨ (crn f).2.2 = (crn g).2.2) → f = g := by decide
theorem norm_inner {p : Pl} (h : p.ok) (ha : 0 < p.a) (hb : 0 < p.b) (hc : 0 < p.c) : norm p = p := by
  have hw := norm_wt h
  have hn := norm_ok h
  refine eq_of_wt ?_ hw
  have pos : ∀ v, 0 < wt (norm p) v → v = (crn (norm p).f).1 ∨ v = (crn (norm p).f).2.1 ∨ v = (crn (norm p).f).2.2 := by
    intro v hv
    simp only [wt, wt3] at hv
    split at hv
    · left; assumption
    · split at hv
      · right; left; assumption
      · split at hv
        · right; right; assumption
        · omega
  have h1 := pos (crn p.f).1 (by rw [hw]; simp only [wt, wt3_1]; exact ha)
  have h2 := pos (crn p.f).2.1 (by rw [hw]; simp only [wt, wt3_2 (crn_apart p.f)]; exact hb)
  have h3 := pos (crn p.f).2.2 (by rw [hw]; simp only [wt, wt3_3 (crn_apart p.f)]; exact hc)
  have := faces_apart ⟨p.f, h.1⟩ ⟨(norm p).f, hn.1⟩ h1 h2 h3
  exact (congrArg Fin.val this).symm
end Go.Grid
/- The nodes of the grids: plain laws, no program in sight. -/
namespace Go.Grid

def freq (n : Nat) : Prop := 1 ≤ n ∧ n ≤ 8
theorem freq_cases {n : Nat} (h : freq n) : n = 1 ∨ n = 2 ∨ n = 3 ∨ n = 4 ∨ n = 5 ∨ n = 6 ∨ n = 7 ∨ n = 8 := by unfold freq at h; omega
theorem mul_step {n : Nat} (h : freq n) : n * (840 / n) = 840 := by
  rcases freq_cases h with rfl | rfl | rfl | rfl | rfl | rfl | rfl | rfl <;> rfl
theorem step_pos {n : Nat} (h : freq n) : 105 ≤ 840 / n ∧ 840 / n ≤ 840 := by
  rcases freq_cases h with rfl | rfl | rfl | rfl | rfl | rfl | rfl | rfl <;> decide

/-- The point of a face with two multiples of the step. -/
def pt (n f i j : Nat) : Pl := ⟨f, i * (840 / n), j * (840 / n), (n - i - j) * (840 / n)⟩
def row (n f i : Nat) : List Pl := (List.range (n + 1 - i)).map (pt n f i)
def face (n f : Nat) : List Pl := (List.range (n + 1)).flatMap (row n f)
def pts (n : Nat) : List Pl := (List.range 20).flatMap (face n)
def isN (p : Pl) : Bool := decide (norm p = p)
def nodes (n : Nat) : List Pl := (pts n).filter isN

theorem mem_pts {n : Nat} {p : Pl} : p ∈ pts n ↔ ∃ f i j, f < 20 ∧ i + j ≤ n ∧ pt n f i j = p := by
  simp only [pts, face, row, List.mem_flatMap, List.mem_range, List.mem_map]
  constructor
  · rintro ⟨f, h1, i, h2, j, h3, e⟩; exact ⟨f, i, j, h1, by omega, e⟩
  · rintro ⟨f, i, j, h1, h2, e⟩; exact ⟨f, h1, i, by omega, j, by omega, e⟩
theorem pt_sum {n i j : Nat} (h : freq n) (hij : i + j ≤ n) : i * (840 / n) + j * (840 / n) + (n - i - j) * (840 / n) = 840 := by
  rw [← Nat.add_mul, ← Nat.add_mul, show i + j + (n - i - j) = n by omega]; exact mul_step h
theorem pt_ok {n f i j : Nat} (h : freq n) (hf : f < 20) (hij : i + j ≤ n) : (pt n f i j).ok := ⟨hf, pt_sum h hij⟩
theorem pts_ok {n : Nat} (h : freq n) {p : Pl} (hp : p ∈ pts n) : p.ok := by
  obtain ⟨f, i, j, h1, h2, rfl⟩ := mem_pts.1 hp; exact pt_ok h h1 h2
/-- A place is a point of the grid if its weights are multiples of the step. -/
theorem mem_pts_of {n : Nat} (h : freq n) {p : Pl} (hp : p.ok) (ha : 840 / n ∣ p.a) (hb : 840 / n ∣ p.b) (hc : 840 / n ∣ p.c) : p ∈ pts n := by
  obtain ⟨i, ei⟩ := ha
  obtain ⟨j, ej⟩ := hb
  obtain ⟨k, ek⟩ := hc
  have hs := hp.2
  have hm := mul_step h
  have hst := step_pos h
  have e : i + j + k = n := by
    have h1 : (i + j + k) * (840 / n) = n * (840 / n) := by
      rw [hm, Nat.add_mul, Nat.add_mul, Nat.mul_comm i, Nat.mul_comm j, Nat.mul_comm k, ← ei, ← ej, ← ek]; exact hs
    exact Nat.eq_of_mul_eq_mul_right (by omega) h1
  refine mem_pts.2 ⟨p.f, i, j, hp.1, by omega, ?_⟩
  cases p with
  | mk f a b c =>
    simp only at ei ej ek
    simp only [pt, Pl.mk.injEq, true_and]
    refine ⟨by rw [ei, Nat.mul_comm], by rw [ej, Nat.mul_comm], ?_⟩
    rw [ek, show n - i - j = k by omega, Nat.mul_comm]
theorem norm_coord {p : Pl} (h : p.ok) (P : Nat → Prop) (h0 : P 0) (ha : P p.a) (hb : P p.b) (hc : P p.c) : P (norm p).a ∧ P (norm p).b ∧ P (norm p).c := by
  have hw : ∀ v, P (wt p v) := fun v => by
    unfold wt wt3
    split
    · exact ha
    · split
      · exact hb
      · split
        · exact hc
        · exact h0
  obtain ⟨f, _, e, _⟩ := mem_addrs.1 (norm_mem h)
  rw [← e]
  exact ⟨hw _, hw _, hw _⟩
theorem norm_pts {n : Nat} (h : freq n) {p : Pl} (hp : p ∈ pts n) : norm p ∈ nodes n := by
  have ho := pts_ok h hp
  obtain ⟨f, i, j, h1, h2, e⟩ := mem_pts.1 hp
  obtain ⟨d1, d2, d3⟩ := norm_coord ho (fun x => 840 / n ∣ x) (Nat.dvd_zero _) (by rw [← e]; exact Nat.dvd_mul_left _ _) (by rw [← e]; exact Nat.dvd_mul_left _ _) (by rw [← e]; exact Nat.dvd_mul_left _ _)
  refine List.mem_filter.2 ⟨mem_pts_of h (norm_ok ho) d1 d2 d3, ?_⟩
  exact decide_eq_true (norm_norm ho)

/-- The order of the nodes. -/
def plt (p q : Pl) : Prop := p.f < q.f ∨ p.f = q.f ∧ (p.a < q.a ∨ p.a = q.a ∧ p.b < q.b)
instance (p q : Pl) : Decidable (plt p q) := inferInstanceAs (Decidable (_ ∨ _ ∧ (_ ∨ _ ∧ _)))
theorem plt_irrefl (p : Pl) : ¬ plt p p := by unfold plt; omega
theorem plt_trans {p q r : Pl} (h : plt p q) (h' : plt q r) : plt p r := by unfold plt at *; omega

theorem pairwise_flatMap {A B : Type} {R : B → B → Prop} {g : A → List B} : ∀ {l : List A} {Q : A → A → Prop}, l.Pairwise Q → (∀ x ∈ l, (g x).Pairwise R) → (∀ x ∈ l, ∀ y ∈ l, Q x y → ∀ u ∈ g x, ∀ v ∈ g y, R u v) → (l.flatMap g).Pairwise R
  | [], _, _, _, _ => by simp
  | x :: l, Q, hp, h1, h2 => by
    rw [List.flatMap_cons, List.pairwise_append]
    obtain ⟨p1, p2⟩ := List.pairwise_cons.1 hp
    refine ⟨h1 x (by simp), pairwise_flatMap p2 (fun y hy => h1 y (by simp [hy])) (fun y hy z hz hq => h2 y (by simp [hy]) z (by simp [hz]) hq), fun u hu v hv => ?_⟩
    obtain ⟨y, hy, hv⟩ := List.mem_flatMap.1 hv
    exact h2 x (by simp) y (by simp [hy]) (p1 y hy) u hu v hv
theorem range_pairwise (n : Nat) : (List.range n).Pairwise (fun a b => a < b) := List.pairwise_lt_range
theorem pts_sorted {n : Nat} (h : freq n) : (pts n).Pairwise plt := by
  have hst := step_pos h
  have hmul : ∀ {i j : Nat}, i < j → i * (840 / n) < j * (840 / n) := fun hij => Nat.mul_lt_mul_of_pos_right hij (by omega)
  have hrow : ∀ {f i u}, u ∈ row n f i → u.f = f ∧ u.a = i * (840 / n) := fun hu => by
    obtain ⟨j, _, rfl⟩ := List.mem_map.1 hu; exact ⟨rfl, rfl⟩
  have hface : ∀ {f u}, u ∈ face n f → u.f = f := fun hu => by
    obtain ⟨i, _, hu⟩ := List.mem_flatMap.1 hu; exact (hrow hu).1
  refine pairwise_flatMap (range_pairwise 20) (fun f _ => ?_) fun f _ g _ hfg u hu v hv => .inl (by rw [hface hu, hface hv]; exact hfg)
  refine pairwise_flatMap (range_pairwise _) (fun i _ => ?_) fun i _ j _ hij u hu v hv => .inr ⟨by rw [(hrow hu).1, (hrow hv).1], .inl (by rw [(hrow hu).2, (hrow hv).2]; exact hmul hij)⟩
  refine List.Pairwise.map _ (fun a b hab => ?_) (range_pairwise _)
  exact .inr ⟨rfl, .inr ⟨rfl, hmul hab⟩⟩
theorem nodes_sorted {n : Nat} (h : freq n) : (nodes n).Pairwise plt := (pts_sorted h).filter _

/-- Where a node stands. -/
def idx (n : Nat) (p : Pl) : Nat := (nodes n).idxOf (norm p)
theorem idx_lt {n : Nat} (h : freq n) {p : Pl} (hp : p ∈ pts n) : idx n p < (nodes n).length := List.idxOf_lt_length_of_mem (norm_pts h hp)
theorem idx_at {n : Nat} (h : freq n) {p : Pl} (hp : p ∈ pts n) : (nodes n)[idx n p]'(idx_lt h hp) = norm p := List.getElem_idxOf (idx_lt h hp)
theorem idx_inj {n : Nat} (h : freq n) {p q : Pl} (hp : p ∈ pts n) (hq : q ∈ pts n) (hf : p.f = q.f) (e : idx n p = idx n q) : p = q := by
  refine eq_of_norm (pts_ok h hp) (pts_ok h hq) hf ?_
  rw [← idx_at h hp, ← idx_at h hq]
  congr 1
theorem nodes_length {n : Nat} (h : freq n) : (nodes n).length = 10 * n * n + 2 := by
  rcases freq_cases h with rfl | rfl | rfl | rfl | rfl | rfl | rfl | rfl <;> kernel_rfl
end Go.Grid
/- Places: what the functions of the program and of the reference come to. -/
namespace Go.Proofs.YtobmbacppbkgeaaDoor
open Go Go.PM Go.Grid

def plc (p : Pl) : List C := [.v (.int .i64 p.f), .v (.int .i64 p.a), .v (.int .i64 p.b), .v (.int .i64 p.c)]
theorem plc_length (p : Pl) : (plc p).length = 4 := rfl
def wcs (w : Nat → Nat) : List C := (List.range 12).map fun v => .v (.int .i64 (w v))
abbrev OK (r : V) : Option Out := some ⟨r, [], none⟩
def validI (f a b c : Int) : Bool := decide (0 ≤ f ∧ f < 20 ∧ 0 ≤ a ∧ a ≤ 840 ∧ 0 ≤ b ∧ b ≤ 840 ∧ 0 ≤ c ∧ c ≤ 840 ∧ a + b + c = 840)
theorem validI_pl {f a b c : Int} (h : validI f a b c = true) : ∃ p : Pl, p.ok ∧ f = p.f ∧ a = p.a ∧ b = p.b ∧ c = p.c := by
  have h := of_decide_eq_true h
  exact ⟨⟨f.toNat, a.toNat, b.toNat, c.toNat⟩, ⟨by show f.toNat < 20; omega, by show a.toNat + b.toNat + c.toNat = 840; omega⟩, by simp; omega, by simp; omega, by simp; omega, by simp; omega⟩
theorem validI_of {p : Pl} (h : p.ok) : validI p.f p.a p.b p.c = true := by
  obtain ⟨h1, h2⟩ := h
  exact decide_eq_true (by omega)

theorem sp_ref_Valid (fu d : Nat) (f a b c : Int) : cl fu (d + 1) fn_synopticref02_Valid [V.agg [.v (.int .i64 f), .v (.int .i64 a), .v (.int .i64 b), .v (.int .i64 c)]] [] = OK (B (validI f a b c)) := by
  rw [eq_synopticref02_Valid]
  by_cases h1 : 0 ≤ f
  case neg => rw [show validI f a b c = false from decide_eq_false (by omega)]; simp (disch := omega) only [obs, rC_c, rA_agg, rT_tup, rP_ptr, rW_own, rS_sb, rF_sb, uncV_cons, uncO_cons, nilV_nil, rO_ob, rN_ob, unc_cons, asI_int, asB_bool, asS_string, asSl_sl, asSl_nl, asFn_fn, asP_cp, nrm_sl, nrm_nl, need_true, ct, cf, bd_eq, natD_zero, natD_succ, natD_one, noYl_v, noYl_sl, noYl_nl, noYl_cp, noYl_fn, Bool.and_true, Bool.true_and, Bool.and_self, beqN_self, Bool.not_true, Bool.not_false, Bool.and_false, Bool.false_and, Bool.or_false, Bool.false_or, Bool.or_true, Bool.true_or, wrap_in, dlt_t, dlt_f, dle_t, dle_f, dgt_t, dgt_f, dge_t, dge_f, ibeq_t, ibeq_f, ibne_t, ibne_f, inR_int, beqN_eq, bleN_le]
  by_cases h2 : f < 20
  case neg => rw [show validI f a b c = false from decide_eq_false (by omega)]; simp (disch := omega) only [obs, rC_c, rA_agg, rT_tup, rP_ptr, rW_own, rS_sb, rF_sb, uncV_cons, uncO_cons, nilV_nil, rO_ob, rN_ob, unc_cons, asI_int, asB_bool, asS_string, asSl_sl, asSl_nl, asFn_fn, asP_cp, nrm_sl, nrm_nl, need_true, ct, cf, bd_eq, natD_zero, natD_succ, natD_one, noYl_v, noYl_sl, noYl_nl, noYl_cp, noYl_fn, Bool.and_true, Bool.true_and, Bool.and_self, beqN_self, Bool.not_true, Bool.not_false, Bool.and_false, Bool.false_and, Bool.or_false, Bool.false_or, Bool.or_true, Bool.true_or, wrap_in, dlt_t, dlt_f, dle_t, dle_f, dgt_t, dgt_f, dge_t, dge_f, ibeq_t, ibeq_f, ibne_t, ibne_f, inR_int, beqN_eq, bleN_le]
  by_cases h3 : 0 ≤ a
  case neg => rw [show validI f a b c = false from decide_eq_false (by omega)]; simp (disch := omega) only [obs, rC_c, rA_agg, rT_tup, rP_ptr, rW_own, rS_sb, rF_sb, uncV_cons, uncO_cons, nilV_nil, rO_ob, rN_ob, unc_cons, asI_int, asB_bool, asS_string, asSl_sl, asSl_nl, asFn_fn, asP_cp, nrm_sl, nrm_nl, need_true, ct, cf, bd_eq, natD_zero, natD_succ, natD_one, noYl_v, noYl_sl, noYl_nl, noYl_cp, noYl_fn, Bool.and_true, Bool.true_and, Bool.and_self, beqN_self, Bool.not_true, Bool.not_false, Bool.and_false, Bool.false_and, Bool.or_false, Bool.false_or, Bool.or_true, Bool.true_or, wrap_in, dlt_t, dlt_f, dle_t, dle_f, dgt_t, dgt_f, dge_t, dge_f, ibeq_t, ibeq_f, ibne_t, ibne_f, inR_int, beqN_eq, bleN_le]
  by_cases h4 : a ≤ 840
  case neg => rw [show validI f a b c = false from decide_eq_false (by omega)]; simp (disch := omega) only [obs, rC_c, rA_agg, rT_tup, rP_ptr, rW_own, rS_sb, rF_sb, uncV_cons, uncO_cons, nilV_nil, rO_ob, rN_ob, unc_cons, asI_int, asB_bool, asS_string, asSl_sl, asSl_nl, asFn_fn, asP_cp, nrm_sl, nrm_nl, need_true, ct, cf, bd_eq, natD_zero, natD_succ, natD_one, noYl_v, noYl_sl, noYl_nl, noYl_cp, noYl_fn, Bool.and_true, Bool.true_and, Bool.and_self, beqN_self, Bool.not_true, Bool.not_false, Bool.and_false, Bool.false_and, Bool.or_false, Bool.false_or, Bool.or_true, Bool.true_or, wrap_in, dlt_t, dlt_f, dle_t, dle_f, dgt_t, dgt_f, dge_t, dge_f, ibeq_t, ibeq_f, ibne_t, ibne_f, inR_int, beqN_eq, bleN_le]
  by_cases h5 : 0 ≤ b
  case neg => rw [show validI f a b c = false from decide_eq_false (by omega)]; simp (disch := omega) only [obs, rC_c, rA_agg, rT_tup, rP_ptr, rW_own, rS_sb, rF_sb, uncV_cons, uncO_cons, nilV_nil, rO_ob, rN_ob, unc_cons, asI_int, asB_bool, asS_string, asSl_sl, asSl_nl, asFn_fn, asP_cp, nrm_sl, nrm_nl, need_true, ct, cf, bd_eq, natD_zero, natD_succ, natD_one, noYl_v, noYl_sl, noYl_nl, noYl_cp, noYl_fn, Bool.and_true, Bool.true_and, Bool.and_self, beqN_self, Bool.not_true, Bool.not_false, Bool.and_false, Bool.false_and, Bool.or_false, Bool.false_or, Bool.or_true, Bool.true_or, wrap_in, dlt_t, dlt_f, dle_t, dle_f, dgt_t, dgt_f, dge_t, dge_f, ibeq_t, ibeq_f, ibne_t, ibne_f, inR_int, beqN_eq, bleN_le]
  by_cases h6 : b ≤ 840
  case neg => rw [show validI f a b c = false from decide_eq_false (by omega)]; simp (disch := omega) only [obs, rC_c, rA_agg, rT_tup, rP_ptr, rW_own, rS_sb, rF_sb, uncV_cons, uncO_cons, nilV_nil, rO_ob, rN_ob, unc_cons, asI_int, asB_bool, asS_string, asSl_sl, asSl_nl, asFn_fn, asP_cp, nrm_sl, nrm_nl, need_true, ct, cf, bd_eq, natD_zero, natD_succ, natD_one, noYl_v, noYl_sl, noYl_nl, noYl_cp, noYl_fn, Bool.and_true, Bool.true_and, Bool.and_self, beqN_self, Bool.not_true, Bool.not_false, Bool.and_false, Bool.false_and, Bool.or_false, Bool.false_or, Bool.or_true, Bool.true_or, wrap_in, dlt_t, dlt_f, dle_t, dle_f, dgt_t, dgt_f, dge_t, dge_f, ibeq_t, ibeq_f, ibne_t, ibne_f, inR_int, beqN_eq, bleN_le]
  by_cases h7 : 0 ≤ c
  case neg => rw [show validI f a b c = false from decide_eq_false (by omega)]; simp (disch := omega) only [obs, rC_c, rA_agg, rT_tup, rP_ptr, rW_own, rS_sb, rF_sb, uncV_cons, uncO_cons, nilV_nil, rO_ob, rN_ob, unc_cons, asI_int, asB_bool, asS_string, asSl_sl, asSl_nl, asFn_fn, asP_cp, nrm_sl, nrm_nl, need_true, ct, cf, bd_eq, natD_zero, natD_succ, natD_one, noYl_v, noYl_sl, noYl_nl, noYl_cp, noYl_fn, Bool.and_true, Bool.true_and, Bool.and_self, beqN_self, Bool.not_true, Bool.not_false, Bool.and_false, Bool.false_and, Bool.or_false, Bool.false_or, Bool.or_true, Bool.true_or, wrap_in, dlt_t, dlt_f, dle_t, dle_f, dgt_t, dgt_f, dge_t, dge_f, ibeq_t, ibeq_f, ibne_t, ibne_f, inR_int, beqN_eq, bleN_le]
  by_cases h8 : c ≤ 840
  case neg => rw [show validI f a b c = false from decide_eq_false (by omega)]; simp (disch := omega) only [obs, rC_c, rA_agg, rT_tup, rP_ptr, rW_own, rS_sb, rF_sb, uncV_cons, uncO_cons, nilV_nil, rO_ob, rN_ob, unc_cons, asI_int, asB_bool, asS_string, asSl_sl, asSl_nl, asFn_fn, asP_cp, nrm_sl, nrm_nl, need_true, ct, cf, bd_eq, natD_zero, natD_succ, natD_one, noYl_v, noYl_sl, noYl_nl, noYl_cp, noYl_fn, Bool.and_true, Bool.true_and, Bool.and_self, beqN_self, Bool.not_true, Bool.not_false, Bool.and_false, Bool.false_and, Bool.or_false, Bool.false_or, Bool.or_true, Bool.true_or, wrap_in, dlt_t, dlt_f, dle_t, dle_f, dgt_t, dgt_f, dge_t, dge_f, ibeq_t, ibeq_f, ibne_t, ibne_f, inR_int, beqN_eq, bleN_le]
  by_cases h9 : a + b + c = 840
  · rw [show validI f a b c = true from decide_eq_true (by omega)]; simp (disch := omega) only [obs, rC_c, rA_agg, rT_tup, rP_ptr, rW_own, rS_sb, rF_sb, uncV_cons, uncO_cons, nilV_nil, rO_ob, rN_ob, unc_cons, asI_int, asB_bool, asS_string, asSl_sl, asSl_nl, asFn_fn, asP_cp, nrm_sl, nrm_nl, need_true, ct, cf, bd_eq, natD_zero, natD_succ, natD_one, noYl_v, noYl_sl, noYl_nl, noYl_cp, noYl_fn, Bool.and_true, Bool.true_and, Bool.and_self, beqN_self, Bool.not_true, Bool.not_false, Bool.and_false, Bool.false_and, Bool.or_false, Bool.false_or, Bool.or_true, Bool.true_or, wrap_in, dlt_t, dlt_f, dle_t, dle_f, dgt_t, dgt_f, dge_t, dge_f, ibeq_t, ibeq_f, ibne_t, ibne_f, inR_int, beqN_eq, bleN_le]
  · rw [show validI f a b c = false from decide_eq_false (by omega)]; simp (disch := omega) only [obs, rC_c, rA_agg, rT_tup, rP_ptr, rW_own, rS_sb, rF_sb, uncV_cons, uncO_cons, nilV_nil, rO_ob, rN_ob, unc_cons, asI_int, asB_bool, asS_string, asSl_sl, asSl_nl, asFn_fn, asP_cp, nrm_sl, nrm_nl, need_true, ct, cf, bd_eq, natD_zero, natD_succ, natD_one, noYl_v, noYl_sl, noYl_nl, noYl_cp, noYl_fn, Bool.and_true, Bool.true_and, Bool.and_self, beqN_self, Bool.not_true, Bool.not_false, Bool.and_false, Bool.false_and, Bool.or_false, Bool.false_or, Bool.or_true, Bool.true_or, wrap_in, dlt_t, dlt_f, dle_t, dle_f, dgt_t, dgt_f, dge_t, dge_f, ibeq_t, ibeq_f, ibne_t, ibne_f, inR_int, beqN_eq, bleN_le]

theorem twenty {f : Nat} (h : f < 20) : f = 0 ∨ f = 1 ∨ f = 2 ∨ f = 3 ∨ f = 4 ∨ f = 5 ∨ f = 6 ∨ f = 7 ∨ f = 8 ∨ f = 9 ∨ f = 10 ∨ f = 11 ∨ f = 12 ∨ f = 13 ∨ f = 14 ∨ f = 15 ∨ f = 16 ∨ f = 17 ∨ f = 18 ∨ f = 19 := by omega

theorem sp_ref_Corners (fu d f : Nat) (h : f < 20) : cl fu (d + 1) fn_synopticref02_Corners [I f] [] = OK (V.tup [V.agg [.v (.int .i64 (crn f).1), .v (.int .i64 (crn f).2.1), .v (.int .i64 (crn f).2.2)], I 0]) := by
  rw [eq_synopticref02_Corners]
  rcases twenty h with rfl | rfl | rfl | rfl | rfl | rfl | rfl | rfl | rfl | rfl | rfl | rfl | rfl | rfl | rfl | rfl | rfl | rfl | rfl | rfl <;> (show @Eq (Option Out) _ _; kernel_rfl)

theorem sp_ref_Weights (fu d : Nat) (p : Pl) (h : p.ok) : cl fu (d + 2) fn_synopticref02_Weights [V.agg (plc p)] [] = OK (V.agg (wcs (wt p))) := by
  obtain ⟨f, a, b, c⟩ := p
  unfold plc
  rw [eq_synopticref02_Weights]
  simp only
  rw [sp_ref_Corners fu d f h.1]
  have hf : f < 20 := h.1
  rcases twenty hf with rfl | rfl | rfl | rfl | rfl | rfl | rfl | rfl | rfl | rfl | rfl | rfl | rfl | rfl | rfl | rfl | rfl | rfl | rfl | rfl <;> (show @Eq (Option Out) _ _; kernel_rfl)

theorem sp_ref_On (fu d : Nat) (w : Nat → Nat) (hw : ∀ v, w v ≤ 840) (f : Nat) (h : f < 20) : cl fu (d + 2) fn_synopticref02_On [I f, V.agg (wcs w)] [] = OK (V.tup [V.agg (plc (onW w f)), B (onW w f).full]) := by
  have e : cl fu (d + 2) fn_synopticref02_On [I f, V.agg (wcs w)] [] = OK (V.tup [V.agg (plc (onW w f)), B (IntKind.i64.wrap (IntKind.i64.wrap ((w (crn f).1 : Int) + (w (crn f).2.1 : Int)) + (w (crn f).2.2 : Int)) == 840)]) := by
    rw [eq_synopticref02_On, sp_ref_Corners fu d f h]
    rcases twenty h with rfl | rfl | rfl | rfl | rfl | rfl | rfl | rfl | rfl | rfl | rfl | rfl | rfl | rfl | rfl | rfl | rfl | rfl | rfl | rfl <;> (show @Eq (Option Out) _ _; kernel_rfl)
  rw [e]
  have h1 := hw (crn f).1
  have h2 := hw (crn f).2.1
  have h3 := hw (crn f).2.2
  simp (disch := omega) only [wrap_in]
  have e2 : ((w (crn f).1 : Int) + (w (crn f).2.1 : Int) + (w (crn f).2.2 : Int) == 840) = (onW w f).full := by
    rw [Bool.eq_iff_iff, full_iff, beq_iff_eq]
    show _ ↔ w (crn f).1 + w (crn f).2.1 + w (crn f).2.2 = 840
    omega
  rw [e2]

def addrsTo (w : Nat → Nat) (j : Nat) : List Pl := ((List.range j).map (onW w)).filter Pl.full
theorem addrsTo_succ (w : Nat → Nat) (j : Nat) : addrsTo w (j + 1) = if (onW w j).full then addrsTo w j ++ [onW w j] else addrsTo w j := by
  unfold addrsTo
  rw [List.range_succ, List.map_append, List.filter_append]
  simp only [List.map_cons, List.map_nil, List.filter_cons, List.filter_nil]
  split <;> simp
theorem addrsTo_length (w : Nat → Nat) (j : Nat) : (addrsTo w j).length ≤ j := by
  unfold addrsTo
  refine Nat.le_trans (List.length_filter_le _ _) ?_
  simp
theorem wt_le {p : Pl} (h : p.ok) (v : Nat) : wt p v ≤ 840 := by
  have h2 := h.2
  unfold wt wt3
  (repeat' split) <;> omega
theorem pl_snoc (l : List Pl) (q : Pl) : fl plc l ++ [.v (.int .i64 q.f), .v (.int .i64 q.a), .v (.int .i64 q.b), .v (.int .i64 q.c)] = fl plc (l ++ [q]) := fl_snoc l q
theorem pl_div (l : List Pl) : l.length * 4 / 4 = l.length := Nat.mul_div_cancel _ (by omega)
theorem wcs_put (w : Nat → Nat) : putAt [C.v (.int .i64 0), C.v (.int .i64 0), C.v (.int .i64 0), C.v (.int .i64 0), C.v (.int .i64 0), C.v (.int .i64 0), C.v (.int .i64 0), C.v (.int .i64 0), C.v (.int .i64 0), C.v (.int .i64 0), C.v (.int .i64 0), C.v (.int .i64 0)] 0 (wcs w) = wcs w := id rfl
theorem wcs_take (w : Nat → Nat) : List.take 12 (wcs w) = wcs w := id rfl
theorem wcs_length (w : Nat → Nat) : (wcs w).length = 12 := id rfl

theorem sp_ref_Addresses (fu d : Nat) (hf : 18446744073709551616 ≤ fu) (p : Pl) (h : p.ok) :
    cl fu (d + 3) fn_synopticref02_Addresses [V.agg (plc p)] [] = OK (V.tup [V.c (C.sl (addrs p).length (fl plc (addrs p))), I 0]) := by
  have e1 := sp_ref_Weights fu d p h
  have hv := validI_of h
  unfold plc at e1 ⊢
  rw [eq_synopticref02_Addresses, sp_ref_Valid, hv, e1]
  simp only [obs, rC_c, rA_agg, rT_tup, rP_ptr, rW_own, rS_sb, rF_sb, uncV_cons, uncO_cons, nilV_nil, rO_ob, rN_ob, unc_cons, asI_int, asB_bool, asS_string, asSl_sl, asSl_nl, asFn_fn, asP_cp, nrm_sl, nrm_nl, need_true, ct, cf, bd_eq, natD_zero, natD_succ, natD_one, noYl_v, noYl_sl, noYl_nl, noYl_cp, noYl_fn, Bool.and_true, Bool.true_and, Bool.and_self, beqN_self, Bool.not_true, Bool.not_false, Bool.and_false, Bool.false_and, Bool.or_false, Bool.false_or, Bool.or_true, Bool.true_or, wcs_put, wcs_take, wcs_length, Nat.zero_add, show Nat.ble 12 12 = true from rfl]
  rw [show (([] : List C), (0 : Int), ()) = (fun j : Nat => (fl plc (addrsTo (wt p) j), (j : Int), ())) 0 from rfl, iter_run (fun j : Nat => (fl plc (addrsTo (wt p) j), (j : Int), ())) 0 (fl plc (addrsTo (wt p) 20), (20 : Int), ()) 20 0 fu ?_ ?_ (by omega)]
  · simp (disch := omega) only [obs, rC_c, rA_agg, rT_tup, rP_ptr, rW_own, rS_sb, rF_sb, uncV_cons, uncO_cons, nilV_nil, rO_ob, rN_ob, unc_cons, asI_int, asB_bool, asS_string, asSl_sl, asSl_nl, asFn_fn, asP_cp, nrm_sl, nrm_nl, need_true, ct, cf, bd_eq, natD_zero, natD_succ, natD_one, noYl_v, noYl_sl, noYl_nl, noYl_cp, noYl_fn, Bool.and_true, Bool.true_and, Bool.and_self, beqN_self, Bool.not_true, Bool.not_false, Bool.and_false, Bool.false_and, Bool.or_false, Bool.false_or, Bool.or_true, Bool.true_or, wrap_in, dlt_t, dlt_f, dle_t, dle_f, dgt_t, dgt_f, dge_t, dge_f, ibeq_t, ibeq_f, ibne_t, ibne_f, inR_int, beqN_eq, bleN_le, fl_length plc_length, pl_div, Nat.zero_add]
    rw [List.take_of_length_le (by rw [fl_length plc_length]; omega)]
    rfl
  · intro j _ hj
    have hl := addrsTo_length (wt p) j
    rw [addrsTo_succ]
    have e2 := sp_ref_On fu d (wt p) (wt_le h) j (by omega)
    unfold plc at e2
    simp (disch := omega) only [obs, rC_c, rA_agg, rT_tup, rP_ptr, rW_own, rS_sb, rF_sb, uncV_cons, uncO_cons, nilV_nil, rO_ob, rN_ob, unc_cons, asI_int, asB_bool, asS_string, asSl_sl, asSl_nl, asFn_fn, asP_cp, nrm_sl, nrm_nl, need_true, ct, cf, bd_eq, natD_zero, natD_succ, natD_one, noYl_v, noYl_sl, noYl_nl, noYl_cp, noYl_fn, Bool.and_true, Bool.true_and, Bool.and_self, beqN_self, Bool.not_true, Bool.not_false, Bool.and_false, Bool.false_and, Bool.or_false, Bool.false_or, Bool.or_true, Bool.true_or, wrap_in, dlt_t, dlt_f, dle_t, dle_f, dgt_t, dgt_f, dge_t, dge_f, ibeq_t, ibeq_f, ibne_t, ibne_f, inR_int, beqN_eq, bleN_le, e2, fl_length plc_length, pl_div, List.length_cons, List.length_nil, Nat.zero_add, Nat.reduceAdd]
    cases hfull : (onW (wt p) j).full with
    | true =>
      simp (disch := omega) only [obs, rC_c, rA_agg, rT_tup, rP_ptr, rW_own, rS_sb, rF_sb, uncV_cons, uncO_cons, nilV_nil, rO_ob, rN_ob, unc_cons, asI_int, asB_bool, asS_string, asSl_sl, asSl_nl, asFn_fn, asP_cp, nrm_sl, nrm_nl, need_true, ct, cf, bd_eq, natD_zero, natD_succ, natD_one, noYl_v, noYl_sl, noYl_nl, noYl_cp, noYl_fn, Bool.and_true, Bool.true_and, Bool.and_self, beqN_self, Bool.not_true, Bool.not_false, Bool.and_false, Bool.false_and, Bool.or_false, Bool.false_or, Bool.or_true, Bool.true_or, wrap_in, dlt_t, dlt_f, dle_t, dle_f, dgt_t, dgt_f, dge_t, dge_f, ibeq_t, ibeq_f, ibne_t, ibne_f, inR_int, beqN_eq, bleN_le, pl_snoc, fl_length plc_length, List.length_append, List.length_cons, List.length_nil, Nat.zero_add, if_true, Int.natCast_add, Int.natCast_one]
    | false =>
      simp (disch := omega) only [obs, rC_c, rA_agg, rT_tup, rP_ptr, rW_own, rS_sb, rF_sb, uncV_cons, uncO_cons, nilV_nil, rO_ob, rN_ob, unc_cons, asI_int, asB_bool, asS_string, asSl_sl, asSl_nl, asFn_fn, asP_cp, nrm_sl, nrm_nl, need_true, ct, cf, bd_eq, natD_zero, natD_succ, natD_one, noYl_v, noYl_sl, noYl_nl, noYl_cp, noYl_fn, Bool.and_true, Bool.true_and, Bool.and_self, beqN_self, Bool.not_true, Bool.not_false, Bool.and_false, Bool.false_and, Bool.or_false, Bool.false_or, Bool.or_true, Bool.true_or, wrap_in, dlt_t, dlt_f, dle_t, dle_f, dgt_t, dgt_f, dge_t, dge_f, ibeq_t, ibeq_f, ibne_t, ibne_f, inR_int, beqN_eq, bleN_le, Bool.false_eq_true, if_false, Int.natCast_add, Int.natCast_one]
  · simp (disch := omega) only [obs, rC_c, rA_agg, rT_tup, rP_ptr, rW_own, rS_sb, rF_sb, uncV_cons, uncO_cons, nilV_nil, rO_ob, rN_ob, unc_cons, asI_int, asB_bool, asS_string, asSl_sl, asSl_nl, asFn_fn, asP_cp, nrm_sl, nrm_nl, need_true, ct, cf, bd_eq, natD_zero, natD_succ, natD_one, noYl_v, noYl_sl, noYl_nl, noYl_cp, noYl_fn, Bool.and_true, Bool.true_and, Bool.and_self, beqN_self, Bool.not_true, Bool.not_false, Bool.and_false, Bool.false_and, Bool.or_false, Bool.false_or, Bool.or_true, Bool.true_or, wrap_in, dlt_t, dlt_f, dle_t, dle_f, dgt_t, dgt_f, dge_t, dge_f, ibeq_t, ibeq_f, ibne_t, ibne_f, inR_int, beqN_eq, bleN_le, fl_length plc_length, pl_div, Nat.zero_add]
    rfl
end Go.Proofs.YtobmbacppbkgeaaDoor
/- Places, continued: the normal place; the program's functions. -/
namespace Go.Proofs.YtobmbacppbkgeaaDoor
open Go Go.PM Go.Grid

theorem sp_ref_Normal (fu d : Nat) (hf : 18446744073709551616 ≤ fu) (p : Pl) (h : p.ok) : cl fu (d + 4) fn_synopticref02_Normal [V.agg (plc p)] [] = OK (V.tup [V.agg (plc (norm p)), I 0]) := by
  have e1 := sp_ref_Addresses fu d hf p h
  obtain ⟨r, hr⟩ := norm_head h
  rw [hr] at e1
  unfold plc at e1 ⊢
  rw [eq_synopticref02_Normal, e1]
  simp (disch := omega) only [obs, rC_c, rA_agg, rT_tup, rP_ptr, rW_own, rS_sb, rF_sb, uncV_cons, uncO_cons, nilV_nil, rO_ob, rN_ob, unc_cons, asI_int, asB_bool, asS_string, asSl_sl, asSl_nl, asFn_fn, asP_cp, nrm_sl, nrm_nl, need_true, ct, cf, bd_eq, natD_zero, natD_succ, natD_one, noYl_v, noYl_sl, noYl_nl, noYl_cp, noYl_fn, Bool.and_true, Bool.true_and, Bool.and_self, beqN_self, Bool.not_true, Bool.not_false, Bool.and_false, Bool.false_and, Bool.or_false, Bool.false_or, Bool.or_true, Bool.true_or, wrap_in, dlt_t, dlt_f, dle_t, dle_f, dgt_t, dgt_f, dge_t, dge_f, ibeq_t, ibeq_f, ibne_t, ibne_f, inR_int, beqN_eq, bleN_le, fl_cons, plc, List.cons_append, List.nil_append, List.length_cons]
theorem sp_ref_Normal_bad (fu d : Nat) (f a b c : Int) (h : validI f a b c = false) : cl fu (d + 3) fn_synopticref02_Normal [V.agg [.v (.int .i64 f), .v (.int .i64 a), .v (.int .i64 b), .v (.int .i64 c)]] [] = OK (V.tup [V.agg [.v (.int .i64 0), .v (.int .i64 0), .v (.int .i64 0), .v (.int .i64 0)], I 1]) := by
  rw [eq_synopticref02_Normal, eq_synopticref02_Addresses, sp_ref_Valid, h]
  simp (disch := omega) only [obs, rC_c, rA_agg, rT_tup, rP_ptr, rW_own, rS_sb, rF_sb, uncV_cons, uncO_cons, nilV_nil, rO_ob, rN_ob, unc_cons, asI_int, asB_bool, asS_string, asSl_sl, asSl_nl, asFn_fn, asP_cp, nrm_sl, nrm_nl, need_true, ct, cf, bd_eq, natD_zero, natD_succ, natD_one, noYl_v, noYl_sl, noYl_nl, noYl_cp, noYl_fn, Bool.and_true, Bool.true_and, Bool.and_self, beqN_self, Bool.not_true, Bool.not_false, Bool.and_false, Bool.false_and, Bool.or_false, Bool.false_or, Bool.or_true, Bool.true_or, wrap_in, dlt_t, dlt_f, dle_t, dle_f, dgt_t, dgt_f, dge_t, dge_f, ibeq_t, ibeq_f, ibne_t, ibne_f, inR_int, beqN_eq, bleN_le]
theorem plc_eqb (p q : Pl) : ((p.f : Int) == q.f && ((p.a : Int) == q.a && ((p.b : Int) == q.b && (p.c : Int) == q.c))) = decide (p = q) := by
  obtain ⟨f, a, b, c⟩ := p
  obtain ⟨f', a', b', c'⟩ := q
  rw [Bool.eq_iff_iff]
  simp only [Bool.and_eq_true, beq_iff_eq, decide_eq_true_eq, Pl.mk.injEq]
  omega
theorem sp_ref_IsNormal (fu d : Nat) (hf : 18446744073709551616 ≤ fu) (p : Pl) (h : p.ok) : cl fu (d + 5) fn_synopticref02_IsNormal [V.agg (plc p)] [] = OK (B (isN p)) := by
  have e1 := sp_ref_Normal fu d hf p h
  unfold plc at e1 ⊢
  rw [eq_synopticref02_IsNormal, e1]
  simp (disch := omega) only [obs, rC_c, rA_agg, rT_tup, rP_ptr, rW_own, rS_sb, rF_sb, uncV_cons, uncO_cons, nilV_nil, rO_ob, rN_ob, unc_cons, asI_int, asB_bool, asS_string, asSl_sl, asSl_nl, asFn_fn, asP_cp, nrm_sl, nrm_nl, need_true, ct, cf, bd_eq, natD_zero, natD_succ, natD_one, noYl_v, noYl_sl, noYl_nl, noYl_cp, noYl_fn, Bool.and_true, Bool.true_and, Bool.and_self, beqN_self, Bool.not_true, Bool.not_false, Bool.and_false, Bool.false_and, Bool.or_false, Bool.false_or, Bool.or_true, Bool.true_or, wrap_in, dlt_t, dlt_f, dle_t, dle_f, dgt_t, dgt_f, dge_t, dge_f, ibeq_t, ibeq_f, ibne_t, ibne_f, inR_int, beqN_eq, bleN_le, List.length_cons, List.length_nil, plc_eqb, Nat.reduceAdd]
  unfold isN
  rw [show decide (p = norm p) = decide (norm p = p) from by rw [Bool.eq_iff_iff]; simp [eq_comm]]

/-! The program's. -/
theorem sp_face (fu d : Nat) (f : Int) : cl fu (d + 1) fn_place_face [I f] [] = OK (B (decide (0 ≤ f ∧ f < 20))) := by
  rw [eq_place_face]
  by_cases h1 : 0 ≤ f
  · simp (disch := omega) only [obs, rC_c, rA_agg, rT_tup, rP_ptr, rW_own, rS_sb, rF_sb, uncV_cons, uncO_cons, nilV_nil, rO_ob, rN_ob, unc_cons, asI_int, asB_bool, asS_string, asSl_sl, asSl_nl, asFn_fn, asP_cp, nrm_sl, nrm_nl, need_true, ct, cf, bd_eq, natD_zero, natD_succ, natD_one, noYl_v, noYl_sl, noYl_nl, noYl_cp, noYl_fn, Bool.and_true, Bool.true_and, Bool.and_self, beqN_self, Bool.not_true, Bool.not_false, Bool.and_false, Bool.false_and, Bool.or_false, Bool.false_or, Bool.or_true, Bool.true_or, wrap_in, dlt_t, dlt_f, dle_t, dle_f, dgt_t, dgt_f, dge_t, dge_f, ibeq_t, ibeq_f, ibne_t, ibne_f, inR_int, beqN_eq, bleN_le]
    by_cases h2 : f < 20
    · rw [dlt_t h2, decide_eq_true ⟨h1, h2⟩]
    · rw [dlt_f (by omega), decide_eq_false (by omega)]
  · rw [decide_eq_false (by omega : ¬ (0 ≤ f ∧ f < 20))]
    simp (disch := omega) only [obs, rC_c, rA_agg, rT_tup, rP_ptr, rW_own, rS_sb, rF_sb, uncV_cons, uncO_cons, nilV_nil, rO_ob, rN_ob, unc_cons, asI_int, asB_bool, asS_string, asSl_sl, asSl_nl, asFn_fn, asP_cp, nrm_sl, nrm_nl, need_true, ct, cf, bd_eq, natD_zero, natD_succ, natD_one, noYl_v, noYl_sl, noYl_nl, noYl_cp, noYl_fn, Bool.and_true, Bool.true_and, Bool.and_self, beqN_self, Bool.not_true, Bool.not_false, Bool.and_false, Bool.false_and, Bool.or_false, Bool.false_or, Bool.or_true, Bool.true_or, wrap_in, dlt_t, dlt_f, dle_t, dle_f, dgt_t, dgt_f, dge_t, dge_f, ibeq_t, ibeq_f, ibne_t, ibne_f, inR_int, beqN_eq, bleN_le]
theorem sp_Valid (fu d : Nat) (hf : 18446744073709551616 ≤ fu) (f a b c : Int) : cl fu (d + 2) fn_place_Valid [V.agg [.v (.int .i64 f), .v (.int .i64 a), .v (.int .i64 b), .v (.int .i64 c)]] [] = OK (B (validI f a b c)) := by
  rw [eq_place_Valid, sp_face]
  obtain ⟨fu', rfl⟩ : ∃ n, fu = n + 4 := ⟨fu - 4, by omega⟩
  by_cases h3 : 0 ≤ a
  case neg => rw [show validI f a b c = false from decide_eq_false (by omega)]; rw [iter_s]; simp (disch := omega) only [obs, rC_c, rA_agg, rT_tup, rP_ptr, rW_own, rS_sb, rF_sb, uncV_cons, uncO_cons, nilV_nil, rO_ob, rN_ob, unc_cons, asI_int, asB_bool, asS_string, asSl_sl, asSl_nl, asFn_fn, asP_cp, nrm_sl, nrm_nl, need_true, ct, cf, bd_eq, natD_zero, natD_succ, natD_one, noYl_v, noYl_sl, noYl_nl, noYl_cp, noYl_fn, Bool.and_true, Bool.true_and, Bool.and_self, beqN_self, Bool.not_true, Bool.not_false, Bool.and_false, Bool.false_and, Bool.or_false, Bool.false_or, Bool.or_true, Bool.true_or, wrap_in, dlt_t, dlt_f, dle_t, dle_f, dgt_t, dgt_f, dge_t, dge_f, ibeq_t, ibeq_f, ibne_t, ibne_f, inR_int, beqN_eq, bleN_le, Int.toNat_zero, Nat.zero_mul, List.drop_zero]
  by_cases h4 : a ≤ 840
  case neg => rw [show validI f a b c = false from decide_eq_false (by omega)]; rw [iter_s]; simp (disch := omega) only [obs, rC_c, rA_agg, rT_tup, rP_ptr, rW_own, rS_sb, rF_sb, uncV_cons, uncO_cons, nilV_nil, rO_ob, rN_ob, unc_cons, asI_int, asB_bool, asS_string, asSl_sl, asSl_nl, asFn_fn, asP_cp, nrm_sl, nrm_nl, need_true, ct, cf, bd_eq, natD_zero, natD_succ, natD_one, noYl_v, noYl_sl, noYl_nl, noYl_cp, noYl_fn, Bool.and_true, Bool.true_and, Bool.and_self, beqN_self, Bool.not_true, Bool.not_false, Bool.and_false, Bool.false_and, Bool.or_false, Bool.false_or, Bool.or_true, Bool.true_or, wrap_in, dlt_t, dlt_f, dle_t, dle_f, dgt_t, dgt_f, dge_t, dge_f, ibeq_t, ibeq_f, ibne_t, ibne_f, inR_int, beqN_eq, bleN_le, Int.toNat_zero, Nat.zero_mul, List.drop_zero]
  by_cases h5 : 0 ≤ b
  case neg => rw [show validI f a b c = false from decide_eq_false (by omega)]; rw [iter_s]; simp (disch := omega) only [obs, rC_c, rA_agg, rT_tup, rP_ptr, rW_own, rS_sb, rF_sb, uncV_cons, uncO_cons, nilV_nil, rO_ob, rN_ob, unc_cons, asI_int, asB_bool, asS_string, asSl_sl, asSl_nl, asFn_fn, asP_cp, nrm_sl, nrm_nl, need_true, ct, cf, bd_eq, natD_zero, natD_succ, natD_one, noYl_v, noYl_sl, noYl_nl, noYl_cp, noYl_fn, Bool.and_true, Bool.true_and, Bool.and_self, beqN_self, Bool.not_true, Bool.not_false, Bool.and_false, Bool.false_and, Bool.or_false, Bool.false_or, Bool.or_true, Bool.true_or, wrap_in, dlt_t, dlt_f, dle_t, dle_f, dgt_t, dgt_f, dge_t, dge_f, ibeq_t, ibeq_f, ibne_t, ibne_f, inR_int, beqN_eq, bleN_le, Int.toNat_zero, Nat.zero_mul, List.drop_zero, Int.zero_add, iter_s, Int.toNat_one, Nat.one_mul, List.drop_succ_cons]
  by_cases h6 : b ≤ 840
  case neg => rw [show validI f a b c = false from decide_eq_false (by omega)]; rw [iter_s]; simp (disch := omega) only [obs, rC_c, rA_agg, rT_tup, rP_ptr, rW_own, rS_sb, rF_sb, uncV_cons, uncO_cons, nilV_nil, rO_ob, rN_ob, unc_cons, asI_int, asB_bool, asS_string, asSl_sl, asSl_nl, asFn_fn, asP_cp, nrm_sl, nrm_nl, need_true, ct, cf, bd_eq, natD_zero, natD_succ, natD_one, noYl_v, noYl_sl, noYl_nl, noYl_cp, noYl_fn, Bool.and_true, Bool.true_and, Bool.and_self, beqN_self, Bool.not_true, Bool.not_false, Bool.and_false, Bool.false_and, Bool.or_false, Bool.false_or, Bool.or_true, Bool.true_or, wrap_in, dlt_t, dlt_f, dle_t, dle_f, dgt_t, dgt_f, dge_t, dge_f, ibeq_t, ibeq_f, ibne_t, ibne_f, inR_int, beqN_eq, bleN_le, Int.toNat_zero, Nat.zero_mul, List.drop_zero, Int.zero_add, iter_s, Int.toNat_one, Nat.one_mul, List.drop_succ_cons]
  by_cases h7 : 0 ≤ c
  case neg => rw [show validI f a b c = false from decide_eq_false (by omega)]; rw [iter_s]; simp (disch := omega) only [obs, rC_c, rA_agg, rT_tup, rP_ptr, rW_own, rS_sb, rF_sb, uncV_cons, uncO_cons, nilV_nil, rO_ob, rN_ob, unc_cons, asI_int, asB_bool, asS_string, asSl_sl, asSl_nl, asFn_fn, asP_cp, nrm_sl, nrm_nl, need_true, ct, cf, bd_eq, natD_zero, natD_succ, natD_one, noYl_v, noYl_sl, noYl_nl, noYl_cp, noYl_fn, Bool.and_true, Bool.true_and, Bool.and_self, beqN_self, Bool.not_true, Bool.not_false, Bool.and_false, Bool.false_and, Bool.or_false, Bool.false_or, Bool.or_true, Bool.true_or, wrap_in, dlt_t, dlt_f, dle_t, dle_f, dgt_t, dgt_f, dge_t, dge_f, ibeq_t, ibeq_f, ibne_t, ibne_f, inR_int, beqN_eq, bleN_le, Int.toNat_zero, Nat.zero_mul, List.drop_zero, Int.zero_add, iter_s, Int.toNat_one, Nat.one_mul, List.drop_succ_cons, Int.reduceAdd, Int.reduceToNat]
  by_cases h8 : c ≤ 840
  case neg => rw [show validI f a b c = false from decide_eq_false (by omega)]; rw [iter_s]; simp (disch := omega) only [obs, rC_c, rA_agg, rT_tup, rP_ptr, rW_own, rS_sb, rF_sb, uncV_cons, uncO_cons, nilV_nil, rO_ob, rN_ob, unc_cons, asI_int, asB_bool, asS_string, asSl_sl, asSl_nl, asFn_fn, asP_cp, nrm_sl, nrm_nl, need_true, ct, cf, bd_eq, natD_zero, natD_succ, natD_one, noYl_v, noYl_sl, noYl_nl, noYl_cp, noYl_fn, Bool.and_true, Bool.true_and, Bool.and_self, beqN_self, Bool.not_true, Bool.not_false, Bool.and_false, Bool.false_and, Bool.or_false, Bool.false_or, Bool.or_true, Bool.true_or, wrap_in, dlt_t, dlt_f, dle_t, dle_f, dgt_t, dgt_f, dge_t, dge_f, ibeq_t, ibeq_f, ibne_t, ibne_f, inR_int, beqN_eq, bleN_le, Int.toNat_zero, Nat.zero_mul, List.drop_zero, Int.zero_add, iter_s, Int.toNat_one, Nat.one_mul, List.drop_succ_cons, Int.reduceAdd, Int.reduceToNat]
  simp (disch := omega) only [obs, rC_c, rA_agg, rT_tup, rP_ptr, rW_own, rS_sb, rF_sb, uncV_cons, uncO_cons, nilV_nil, rO_ob, rN_ob, unc_cons, asI_int, asB_bool, asS_string, asSl_sl, asSl_nl, asFn_fn, asP_cp, nrm_sl, nrm_nl, need_true, ct, cf, bd_eq, natD_zero, natD_succ, natD_one, noYl_v, noYl_sl, noYl_nl, noYl_cp, noYl_fn, Bool.and_true, Bool.true_and, Bool.and_self, beqN_self, Bool.not_true, Bool.not_false, Bool.and_false, Bool.false_and, Bool.or_false, Bool.false_or, Bool.or_true, Bool.true_or, wrap_in, dlt_t, dlt_f, dle_t, dle_f, dgt_t, dgt_f, dge_t, dge_f, ibeq_t, ibeq_f, ibne_t, ibne_f, inR_int, beqN_eq, bleN_le, Int.toNat_zero, Nat.zero_mul, List.drop_zero, Int.zero_add, iter_s, Int.toNat_one, Nat.one_mul, List.drop_succ_cons, Int.reduceAdd, Int.reduceToNat]
  by_cases h1 : 0 ≤ f ∧ f < 20
  · rw [decide_eq_true h1]
    by_cases h9 : a + b + c = 840
    · rw [show validI f a b c = true from decide_eq_true (by omega)]; simp (disch := omega) only [obs, rC_c, rA_agg, rT_tup, rP_ptr, rW_own, rS_sb, rF_sb, uncV_cons, uncO_cons, nilV_nil, rO_ob, rN_ob, unc_cons, asI_int, asB_bool, asS_string, asSl_sl, asSl_nl, asFn_fn, asP_cp, nrm_sl, nrm_nl, need_true, ct, cf, bd_eq, natD_zero, natD_succ, natD_one, noYl_v, noYl_sl, noYl_nl, noYl_cp, noYl_fn, Bool.and_true, Bool.true_and, Bool.and_self, beqN_self, Bool.not_true, Bool.not_false, Bool.and_false, Bool.false_and, Bool.or_false, Bool.false_or, Bool.or_true, Bool.true_or, wrap_in, dlt_t, dlt_f, dle_t, dle_f, dgt_t, dgt_f, dge_t, dge_f, ibeq_t, ibeq_f, ibne_t, ibne_f, inR_int, beqN_eq, bleN_le]
    · rw [show validI f a b c = false from decide_eq_false (by omega)]; simp (disch := omega) only [obs, rC_c, rA_agg, rT_tup, rP_ptr, rW_own, rS_sb, rF_sb, uncV_cons, uncO_cons, nilV_nil, rO_ob, rN_ob, unc_cons, asI_int, asB_bool, asS_string, asSl_sl, asSl_nl, asFn_fn, asP_cp, nrm_sl, nrm_nl, need_true, ct, cf, bd_eq, natD_zero, natD_succ, natD_one, noYl_v, noYl_sl, noYl_nl, noYl_cp, noYl_fn, Bool.and_true, Bool.true_and, Bool.and_self, beqN_self, Bool.not_true, Bool.not_false, Bool.and_false, Bool.false_and, Bool.or_false, Bool.false_or, Bool.or_true, Bool.true_or, wrap_in, dlt_t, dlt_f, dle_t, dle_f, dgt_t, dgt_f, dge_t, dge_f, ibeq_t, ibeq_f, ibne_t, ibne_f, inR_int, beqN_eq, bleN_le]
  · rw [decide_eq_false h1, show validI f a b c = false from decide_eq_false (by omega)]; simp (disch := omega) only [obs, rC_c, rA_agg, rT_tup, rP_ptr, rW_own, rS_sb, rF_sb, uncV_cons, uncO_cons, nilV_nil, rO_ob, rN_ob, unc_cons, asI_int, asB_bool, asS_string, asSl_sl, asSl_nl, asFn_fn, asP_cp, nrm_sl, nrm_nl, need_true, ct, cf, bd_eq, natD_zero, natD_succ, natD_one, noYl_v, noYl_sl, noYl_nl, noYl_cp, noYl_fn, Bool.and_true, Bool.true_and, Bool.and_self, beqN_self, Bool.not_true, Bool.not_false, Bool.and_false, Bool.false_and, Bool.or_false, Bool.false_or, Bool.or_true, Bool.true_or, wrap_in, dlt_t, dlt_f, dle_t, dle_f, dgt_t, dgt_f, dge_t, dge_f, ibeq_t, ibeq_f, ibne_t, ibne_f, inR_int, beqN_eq, bleN_le]

theorem sp_of (fu d : Nat) (p : Pl) (h : p.ok) : cl fu (d + 1) fn_place_of [V.agg (plc p)] [] = OK (V.agg (wcs (wt p))) := by
  obtain ⟨f, a, b, c⟩ := p
  unfold plc
  rw [eq_place_of]
  have hf : f < 20 := h.1
  rcases twenty hf with rfl | rfl | rfl | rfl | rfl | rfl | rfl | rfl | rfl | rfl | rfl | rfl | rfl | rfl | rfl | rfl | rfl | rfl | rfl | rfl <;> (show @Eq (Option Out) _ _; kernel_rfl)
theorem validI_onW {w : Nat → Nat} (hw : ∀ v, w v ≤ 840) {f : Nat} (h : f < 20) : validI (onW w f).f (onW w f).a (onW w f).b (onW w f).c = (onW w f).full := by
  have h1 := hw (crn f).1
  have h2 := hw (crn f).2.1
  have h3 := hw (crn f).2.2
  rw [Bool.eq_iff_iff, full_iff]
  unfold validI
  rw [decide_eq_true_eq]
  show (0 : Int) ≤ (f : Nat) ∧ ((f : Nat) : Int) < 20 ∧ (0 : Int) ≤ ((w (crn f).1 : Nat) : Int) ∧ ((w (crn f).1 : Nat) : Int) ≤ 840 ∧ (0 : Int) ≤ ((w (crn f).2.1 : Nat) : Int) ∧ ((w (crn f).2.1 : Nat) : Int) ≤ 840 ∧ (0 : Int) ≤ ((w (crn f).2.2 : Nat) : Int) ∧ ((w (crn f).2.2 : Nat) : Int) ≤ 840 ∧ ((w (crn f).1 : Nat) : Int) + ((w (crn f).2.1 : Nat) : Int) + ((w (crn f).2.2 : Nat) : Int) = 840 ↔ w (crn f).1 + w (crn f).2.1 + w (crn f).2.2 = 840
  omega
theorem sp_on (fu d : Nat) (hf : 18446744073709551616 ≤ fu) (w : Nat → Nat) (hw : ∀ v, w v ≤ 840) (f : Nat) (h : f < 20) : cl fu (d + 3) fn_place_on [I f, V.agg (wcs w)] [] = OK (V.tup [V.agg (plc (onW w f)), B (onW w f).full]) := by
  have e : cl fu (d + 3) fn_place_on [I f, V.agg (wcs w)] [] = ((cl fu (d + 2) fn_place_Valid [V.agg (plc (onW w f))] []).bind fun out => rC out.r fun c6 => asB c6 fun b => OK (V.tup [V.agg (plc (onW w f)), B b])) := by
    rw [eq_place_on]
    rcases twenty h with rfl | rfl | rfl | rfl | rfl | rfl | rfl | rfl | rfl | rfl | rfl | rfl | rfl | rfl | rfl | rfl | rfl | rfl | rfl | rfl <;> (show @Eq (Option Out) _ _; kernel_rfl)
  rw [e]
  unfold plc
  rw [sp_Valid fu d hf, validI_onW hw h]
  simp only [obs, rC_c, rA_agg, rT_tup, rP_ptr, rW_own, rS_sb, rF_sb, uncV_cons, uncO_cons, nilV_nil, rO_ob, rN_ob, unc_cons, asI_int, asB_bool, asS_string, asSl_sl, asSl_nl, asFn_fn, asP_cp, nrm_sl, nrm_nl, need_true, ct, cf, bd_eq, natD_zero, natD_succ, natD_one, noYl_v, noYl_sl, noYl_nl, noYl_cp, noYl_fn, Bool.and_true, Bool.true_and, Bool.and_self, beqN_self, Bool.not_true, Bool.not_false, Bool.and_false, Bool.false_and, Bool.or_false, Bool.false_or, Bool.or_true, Bool.true_or]

theorem addrsTo_none {w : Nat → Nat} : ∀ {k : Nat}, (∀ j, j < k → (onW w j).full = false) → addrsTo w k = []
  | 0, _ => rfl
  | k + 1, h => by rw [addrsTo_succ, h k (by omega), addrsTo_none (fun j hj => h j (by omega))]; rfl
theorem addrsTo_first {w : Nat → Nat} {k : Nat} (hk : (onW w k).full = true) (h : ∀ j, j < k → (onW w j).full = false) : ∀ n, k < n → ∃ r, addrsTo w n = onW w k :: r
  | 0, hn => by omega
  | n + 1, hn => by
    by_cases e : k = n
    · subst e; exact ⟨[], by rw [addrsTo_succ, hk, addrsTo_none h]; rfl⟩
    · obtain ⟨r, hr⟩ := addrsTo_first hk h n (by omega)
      rw [addrsTo_succ, hr]
      split
      · exact ⟨r ++ [onW w n], rfl⟩
      · exact ⟨r, rfl⟩
theorem sp_Normal (fu d : Nat) (hf : 18446744073709551616 ≤ fu) (p : Pl) (h : p.ok) : cl fu (d + 4) fn_place_Normal [V.agg (plc p)] [] = OK (V.tup [V.agg (plc (norm p)), I 0]) := by
  have e1 := sp_of fu (d + 2) p h
  have hv := validI_of h
  unfold plc at e1 ⊢
  rw [eq_place_Normal, sp_Valid fu (d + 1) hf, hv, e1]
  simp only [obs, rC_c, rA_agg, rT_tup, rP_ptr, rW_own, rS_sb, rF_sb, uncV_cons, uncO_cons, nilV_nil, rO_ob, rN_ob, unc_cons, asI_int, asB_bool, asS_string, asSl_sl, asSl_nl, asFn_fn, asP_cp, nrm_sl, nrm_nl, need_true, ct, cf, bd_eq, natD_zero, natD_succ, natD_one, noYl_v, noYl_sl, noYl_nl, noYl_cp, noYl_fn, Bool.and_true, Bool.true_and, Bool.and_self, beqN_self, Bool.not_true, Bool.not_false, Bool.and_false, Bool.false_and, Bool.or_false, Bool.false_or, Bool.or_true, Bool.true_or, wcs_put, wcs_take, wcs_length, Nat.zero_add, show Nat.ble 12 12 = true from rfl]
  obtain ⟨r, hr⟩ := norm_head h
  have hm := norm_mem h
  obtain ⟨k, hk, hke, hkl⟩ : ∃ k, k < 20 ∧ onW (wt p) k = norm p ∧ ∀ j, j < k → (onW (wt p) j).full = false := by
    rcases first_or_none (fun j => (onW (wt p) j).full = true) 20 with h0 | ⟨k, h1, h2, h3⟩
    · exfalso
      obtain ⟨g, g1, g2, g3⟩ := mem_addrs.1 hm
      exact h0 g g1 (by rw [g2]; exact full_iff.2 g3)
    · refine ⟨k, h1, ?_, fun j hj => by simpa using h3 j hj⟩
      obtain ⟨r', this⟩ := addrsTo_first h2 (fun j hj => by simpa using h3 j hj) 20 h1
      have this : addrs p = onW (wt p) k :: r' := this
      rw [hr] at this
      exact (List.cons.inj this).1.symm
  rw [show ((0 : Int), (0 : Int), ((0 : Int), (0 : Int), (0 : Int), (0 : Int), ()), ()) = (fun j : Nat => ((0 : Int), (j : Int), ((0 : Int), (0 : Int), (0 : Int), (0 : Int), ()), ())) 0 from rfl, iter_run (fun j : Nat => ((0 : Int), (j : Int), ((0 : Int), (0 : Int), (0 : Int), (0 : Int), ()), ())) 1 (0, (k : Int), ((norm p).f, (norm p).a, (norm p).b, (norm p).c, ()), ()) k 0 fu ?_ ?_ (by omega)]
  · simp only [obs, rC_c, rA_agg, rT_tup, rP_ptr, rW_own, rS_sb, rF_sb, uncV_cons, uncO_cons, nilV_nil, rO_ob, rN_ob, unc_cons, asI_int, asB_bool, asS_string, asSl_sl, asSl_nl, asFn_fn, asP_cp, nrm_sl, nrm_nl, need_true, ct, cf, bd_eq, natD_zero, natD_succ, natD_one, noYl_v, noYl_sl, noYl_nl, noYl_cp, noYl_fn, Bool.and_true, Bool.true_and, Bool.and_self, beqN_self, Bool.not_true, Bool.not_false, Bool.and_false, Bool.false_and, Bool.or_false, Bool.false_or, Bool.or_true, Bool.true_or]
  · intro j _ hj
    have e2 := sp_on fu d hf (wt p) (wt_le h) j (by omega)
    rw [hkl j (by omega)] at e2
    unfold plc at e2
    simp (disch := omega) only [obs, rC_c, rA_agg, rT_tup, rP_ptr, rW_own, rS_sb, rF_sb, uncV_cons, uncO_cons, nilV_nil, rO_ob, rN_ob, unc_cons, asI_int, asB_bool, asS_string, asSl_sl, asSl_nl, asFn_fn, asP_cp, nrm_sl, nrm_nl, need_true, ct, cf, bd_eq, natD_zero, natD_succ, natD_one, noYl_v, noYl_sl, noYl_nl, noYl_cp, noYl_fn, Bool.and_true, Bool.true_and, Bool.and_self, beqN_self, Bool.not_true, Bool.not_false, Bool.and_false, Bool.false_and, Bool.or_false, Bool.false_or, Bool.or_true, Bool.true_or, wrap_in, dlt_t, dlt_f, dle_t, dle_f, dgt_t, dgt_f, dge_t, dge_f, ibeq_t, ibeq_f, ibne_t, ibne_f, inR_int, beqN_eq, bleN_le, e2, List.length_cons, List.length_nil, Nat.zero_add, Nat.reduceAdd, Int.natCast_add, Int.natCast_one]
  · have e2 := sp_on fu d hf (wt p) (wt_le h) k hk
    rw [hke, full_iff.2 (norm_ok h).2] at e2
    unfold plc at e2
    simp (disch := omega) only [obs, rC_c, rA_agg, rT_tup, rP_ptr, rW_own, rS_sb, rF_sb, uncV_cons, uncO_cons, nilV_nil, rO_ob, rN_ob, unc_cons, asI_int, asB_bool, asS_string, asSl_sl, asSl_nl, asFn_fn, asP_cp, nrm_sl, nrm_nl, need_true, ct, cf, bd_eq, natD_zero, natD_succ, natD_one, noYl_v, noYl_sl, noYl_nl, noYl_cp, noYl_fn, Bool.and_true, Bool.true_and, Bool.and_self, beqN_self, Bool.not_true, Bool.not_false, Bool.and_false, Bool.false_and, Bool.or_false, Bool.false_or, Bool.or_true, Bool.true_or, wrap_in, dlt_t, dlt_f, dle_t, dle_f, dgt_t, dgt_f, dge_t, dge_f, ibeq_t, ibeq_f, ibne_t, ibne_f, inR_int, beqN_eq, bleN_le, e2, List.length_cons, List.length_nil, Nat.zero_add, Nat.reduceAdd]
theorem sp_Normal_bad (fu d : Nat) (hf : 18446744073709551616 ≤ fu) (f a b c : Int) (h : validI f a b c = false) : cl fu (d + 3) fn_place_Normal [V.agg [.v (.int .i64 f), .v (.int .i64 a), .v (.int .i64 b), .v (.int .i64 c)]] [] = OK (V.tup [V.agg [.v (.int .i64 0), .v (.int .i64 0), .v (.int .i64 0), .v (.int .i64 0)], I 1]) := by
  rw [eq_place_Normal, sp_Valid fu d hf, h]
  simp (disch := omega) only [obs, rC_c, rA_agg, rT_tup, rP_ptr, rW_own, rS_sb, rF_sb, uncV_cons, uncO_cons, nilV_nil, rO_ob, rN_ob, unc_cons, asI_int, asB_bool, asS_string, asSl_sl, asSl_nl, asFn_fn, asP_cp, nrm_sl, nrm_nl, need_true, ct, cf, bd_eq, natD_zero, natD_succ, natD_one, noYl_v, noYl_sl, noYl_nl, noYl_cp, noYl_fn, Bool.and_true, Bool.true_and, Bool.and_self, beqN_self, Bool.not_true, Bool.not_false, Bool.and_false, Bool.false_and, Bool.or_false, Bool.false_or, Bool.or_true, Bool.true_or, wrap_in, dlt_t, dlt_f, dle_t, dle_f, dgt_t, dgt_f, dge_t, dge_f, ibeq_t, ibeq_f, ibne_t, ibne_f, inR_int, beqN_eq, bleN_le]
end Go.Proofs.YtobmbacppbkgeaaDoor
/- The nodes of the grids as they are collected; a map from the nodes to their numbers: plain laws. -/
namespace Go.Grid

/-- What comes ahead of a point. -/
def pre (n f i j : Nat) : List Pl := (List.range f).flatMap (face n) ++ ((List.range i).flatMap (row n f) ++ (List.range j).map (pt n f i))
def upTo (n f i j : Nat) : List Pl := (pre n f i j).filter isN
theorem pre_j (n f i j : Nat) : pre n f i (j + 1) = pre n f i j ++ [pt n f i j] := by
  unfold pre; rw [List.range_succ, List.map_append]; simp [List.append_assoc]
theorem pre_i (n f i : Nat) : pre n f i (n + 1 - i) = pre n f (i + 1) 0 := by
  unfold pre; rw [List.range_succ, List.flatMap_append]; simp [row]
theorem pre_f (n f : Nat) : pre n f (n + 1) 0 = pre n (f + 1) 0 0 := by
  unfold pre; rw [List.range_succ (n := f), List.flatMap_append]; simp [face]
theorem pre_end (n : Nat) : pre n 20 0 0 = pts n := by unfold pre pts; simp
theorem upTo_j (n f i j : Nat) : upTo n f i (j + 1) = if norm (pt n f i j) = pt n f i j then upTo n f i j ++ [pt n f i j] else upTo n f i j := by
  unfold upTo
  rw [pre_j, List.filter_append]
  simp only [List.filter_cons, List.filter_nil, isN, decide_eq_true_eq]
  split <;> simp
theorem pre_lt {n f i j : Nat} (h : freq n) {q : Pl} (hq : q ∈ pre n f i j) : plt q (pt n f i j) := by
  have hst := step_pos h
  have hmul : ∀ {i j : Nat}, i < j → i * (840 / n) < j * (840 / n) := fun hij => Nat.mul_lt_mul_of_pos_right hij (by omega)
  simp only [pre, List.mem_append, List.mem_flatMap, List.mem_range, List.mem_map, face, row] at hq
  rcases hq with ⟨f', h1, i', _, j', _, rfl⟩ | ⟨i', h1, j', _, rfl⟩ | ⟨j', h1, rfl⟩
  · exact .inl h1
  · exact .inr ⟨rfl, .inl (hmul h1)⟩
  · exact .inr ⟨rfl, .inr ⟨rfl, hmul h1⟩⟩
theorem upTo_not {n f i j : Nat} (h : freq n) : pt n f i j ∉ upTo n f i j := fun hm => plt_irrefl _ (pre_lt h (List.mem_filter.1 hm).1)
theorem flatMap_le {B : Type} {g : Nat → List B} {m : Nat} (h : ∀ x, (g x).length ≤ m) : ∀ k, ((List.range k).flatMap g).length ≤ k * m
  | 0 => by simp
  | k + 1 => by
    rw [List.range_succ, List.flatMap_append, List.length_append, Nat.succ_mul]
    have := flatMap_le h k
    have := h k
    simp only [List.flatMap_cons, List.flatMap_nil, List.append_nil]
    omega
theorem row_le (n f i : Nat) (h : n ≤ 8) : (row n f i).length ≤ 9 := by unfold row; simp; omega
theorem face_le (n f : Nat) (h : n ≤ 8) : (face n f).length ≤ 81 := by
  unfold face
  have := flatMap_le (g := row n f) (fun i => row_le n f i h) (n + 1)
  omega
theorem upTo_le {n f i j : Nat} (h : freq n) (hf : f ≤ 20) (hi : i ≤ 9) (hj : j ≤ 9) : (upTo n f i j).length ≤ 2000 := by
  refine Nat.le_trans (List.length_filter_le _ _) ?_
  unfold pre
  rw [List.length_append, List.length_append, List.length_map, List.length_range]
  have h1 := flatMap_le (g := face n) (fun f => face_le n f h.2) f
  have h2 := flatMap_le (g := row n f) (fun i => row_le n f i h.2) i
  omega
theorem upTo_end (n : Nat) : upTo n 20 0 0 = nodes n := by unfold upTo; rw [pre_end]; rfl

theorem isN_inner {p : Pl} (h : p.ok) (ha : 0 < p.a) (hb : 0 < p.b) (hc : 0 < p.c) : isN p = true := decide_eq_true (norm_inner h ha hb hc)
end Go.Grid
/- The nodes of a grid: what the functions of the program and of the reference come to. -/
namespace Go.Proofs.YtobmbacppbkgeaaDoor
open Go Go.PM Go.Grid

theorem eqT_place (p q : Pl) : eqT Tryd.prog 20 ty_api_Place (plc p) (plc q) = some (decide (p = q)) := by
  have : eqT Tryd.prog 20 ty_api_Place (plc p) (plc q) = some ((p.f : Int) == q.f && ((p.a : Int) == q.a && ((p.b : Int) == q.b && ((p.c : Int) == q.c && true)))) := by kernel_rfl
  rw [this, Bool.and_true, plc_eqb]
def esn : Nat → List Pl → List (List C × List C)
  | _, [] => []
  | k, p :: r => (plc p, [.v (.int .i64 k)]) :: esn (k + 1) r
theorem esn_snoc (p : Pl) : ∀ (l : List Pl) (k : Nat), esn k l ++ [(plc p, [.v (.int .i64 ((k + l.length : Nat) : Int))])] = esn k (l ++ [p])
  | [], k => by simp [esn]
  | q :: l, k => by
    simp only [esn, List.cons_append, List.length_cons]
    rw [← esn_snoc p l (k + 1), show k + (l.length + 1) = k + 1 + l.length by omega]
theorem ceqs_plc (p : Pl) : ceqs (plc p) (plc p) = true := by simp [plc, ceqs, ceq]
theorem mfd_not {p : Pl} : ∀ (l : List Pl) (k i : Nat), p ∉ l → mfind Tryd.prog ty_api_Place (plc p) (esn k l) i = some none
  | [], k, i, _ => by simp [esn, mfind]
  | q :: l, k, i, h => by
    simp only [esn, mfind, eqT_place]
    rw [decide_eq_false (fun e => h (by simp [e]))]
    simp only [cf]
    exact mfd_not l (k + 1) (i + 1) (fun e => h (by simp [e]))
theorem mfd_mem {p : Pl} : ∀ (l : List Pl) (k i : Nat), p ∈ l → mfind Tryd.prog ty_api_Place (plc p) (esn k l) i = some (some (i + l.idxOf p, [.v (.int .i64 ((k + l.idxOf p : Nat) : Int))]))
  | [], k, i, h => by cases h
  | q :: l, k, i, h => by
    simp only [esn, mfind, eqT_place]
    by_cases e : p = q
    · subst e
      rw [decide_eq_true rfl]
      simp [ceqs_plc, need]
    · rw [decide_eq_false e]
      simp only [cf]
      have hm : p ∈ l := by rcases List.mem_cons.1 h with h | h; exact absurd h e; exact h
      rw [mfd_mem l (k + 1) (i + 1) hm, List.idxOf_cons]
      have : (q == p) = false := by simpa using Ne.symm e
      rw [this]
      simp only [cond_false]
      rw [show i + 1 + l.idxOf p = i + (l.idxOf p + 1) by omega, show k + 1 + l.idxOf p = k + (l.idxOf p + 1) by omega]
theorem mput_none (es : List (List C × List C)) (k v : List C) : mput es none k v = es ++ [(k, v)] := id rfl

abbrev netC (n : Nat) (l : List Pl) : List C := [.v (.int .i64 n), .v (.int .i64 ((840 / n : Nat) : Int)), C.sl l.length (fl plc l), C.mp ty_api_Place ty_int (some 4) none (esn 0 l), C.nl, C.nl, C.nl]
abbrev netS (n : Nat) (l : List Pl) : Int × Int × List C × List (List C × List C) × C × C × C × Unit := ((n : Int), ((840 / n : Nat) : Int), fl plc l, esn 0 l, C.nl, C.nl, C.nl, ())

theorem step_int {n : Nat} (h : freq n) : IntKind.i64.wrap (Int.tdiv 840 n) = ((840 / n : Nat) : Int) := by
  rcases freq_cases h with rfl | rfl | rfl | rfl | rfl | rfl | rfl | rfl <;> rfl
theorem mul_le {n i : Nat} (h : freq n) (hi : i ≤ n) : i * (840 / n) ≤ 840 := by
  have := Nat.mul_le_mul_right (840 / n) hi
  rw [mul_step h] at this; exact this
theorem wrap_mul {n i : Nat} (h : freq n) (hi : i ≤ n) : IntKind.i64.wrap ((i : Int) * ((840 / n : Nat) : Int)) = ((i * (840 / n) : Nat) : Int) := by
  have := mul_le h hi
  rw [show ((i : Int) * ((840 / n : Nat) : Int)) = ((i * (840 / n) : Nat) : Int) from (Int.natCast_mul _ _).symm]
  exact wrap_in (Int.le_trans (by decide) (Int.natCast_nonneg _)) (Int.le_trans (Int.ofNat_le.2 this) (by decide))
theorem pl_snoc' (l : List Pl) (f a b c : Nat) : fl plc l ++ [.v (.int .i64 f), .v (.int .i64 a), .v (.int .i64 b), .v (.int .i64 c)] = fl plc (l ++ [⟨f, a, b, c⟩]) := fl_snoc l ⟨f, a, b, c⟩
theorem esn_snoc' (l : List Pl) (f a b c : Nat) : esn 0 l ++ [([.v (.int .i64 f), .v (.int .i64 a), .v (.int .i64 b), .v (.int .i64 c)], [.v (.int .i64 (l.length : Int))])] = esn 0 (l ++ [⟨f, a, b, c⟩]) := by
  have := esn_snoc ⟨f, a, b, c⟩ l 0
  rw [Nat.zero_add] at this
  exact this

theorem sp_Points (fu d : Nat) (hf : 18446744073709551616 ≤ fu) (n : Nat) (h : freq n) : cl fu (d + 5) fn_mesh_Points [I n] [] = OK (V.c (C.cp (netC n (nodes n)))) := by
  have hn := h
  unfold freq at hn
  rw [eq_mesh_Points, step_int h, show (!((n : Int) == 0)) = true from by rw [ibeq_f (by omega)]; rfl, need_true]
  rw [iter_runx (fun f : Nat => ((f : Int), netS n (upTo n f 0 0), ())) 0 ((20 : Int), netS n (upTo n 20 0 0), ()) 20 ?_ ?_ ?_ (by omega)]
  · rw [upTo_end]
    simp (disch := omega) only [obs, rC_c, rA_agg, rT_tup, rP_ptr, rW_own, rS_sb, rF_sb, uncV_cons, uncO_cons, nilV_nil, rO_ob, rN_ob, unc_cons, asI_int, asB_bool, asS_string, asSl_sl, asSl_nl, asFn_fn, asP_cp, nrm_sl, nrm_nl, need_true, ct, cf, bd_eq, natD_zero, natD_succ, natD_one, noYl_v, noYl_sl, noYl_nl, noYl_cp, noYl_fn, Bool.and_true, Bool.true_and, Bool.and_self, beqN_self, Bool.not_true, Bool.not_false, Bool.and_false, Bool.false_and, Bool.or_false, Bool.false_or, Bool.or_true, Bool.true_or, wrap_in, dlt_t, dlt_f, dle_t, dle_f, dgt_t, dgt_f, dge_t, dge_f, ibeq_t, ibeq_f, ibne_t, ibne_f, inR_int, beqN_eq, bleN_le, fl_length plc_length, pl_div, Nat.zero_add]
    rw [List.take_of_length_le (by rw [fl_length plc_length]; omega)]
  · rfl
  · intro f hf'
    have hl : (upTo n f 0 0).length ≤ 2000 := upTo_le h (by omega) (by omega) (by omega)
    simp (disch := omega) only [obs, rC_c, rA_agg, rT_tup, rP_ptr, rW_own, rS_sb, rF_sb, uncV_cons, uncO_cons, nilV_nil, rO_ob, rN_ob, unc_cons, asI_int, asB_bool, asS_string, asSl_sl, asSl_nl, asFn_fn, asP_cp, nrm_sl, nrm_nl, need_true, ct, cf, bd_eq, natD_zero, natD_succ, natD_one, noYl_v, noYl_sl, noYl_nl, noYl_cp, noYl_fn, Bool.and_true, Bool.true_and, Bool.and_self, beqN_self, Bool.not_true, Bool.not_false, Bool.and_false, Bool.false_and, Bool.or_false, Bool.false_or, Bool.or_true, Bool.true_or, wrap_in, dlt_t, dlt_f, dle_t, dle_f, dgt_t, dgt_f, dge_t, dge_f, ibeq_t, ibeq_f, ibne_t, ibne_f, inR_int, beqN_eq, bleN_le, fl_length plc_length, pl_div]
    rw [iter_runx (fun i : Nat => ((i : Int), netS n (upTo n f i 0), ())) 0 (((n + 1 : Nat) : Int), netS n (upTo n f (n + 1) 0), ()) (n + 1) ?_ ?_ ?_ (by omega)]
    · have hl : (upTo n f (n + 1) 0).length ≤ 2000 := upTo_le h (by omega) (by omega) (by omega)
      simp (disch := omega) only [obs, rC_c, rA_agg, rT_tup, rP_ptr, rW_own, rS_sb, rF_sb, uncV_cons, uncO_cons, nilV_nil, rO_ob, rN_ob, unc_cons, asI_int, asB_bool, asS_string, asSl_sl, asSl_nl, asFn_fn, asP_cp, nrm_sl, nrm_nl, need_true, ct, cf, bd_eq, natD_zero, natD_succ, natD_one, noYl_v, noYl_sl, noYl_nl, noYl_cp, noYl_fn, Bool.and_true, Bool.true_and, Bool.and_self, beqN_self, Bool.not_true, Bool.not_false, Bool.and_false, Bool.false_and, Bool.or_false, Bool.false_or, Bool.or_true, Bool.true_or, wrap_in, dlt_t, dlt_f, dle_t, dle_f, dgt_t, dgt_f, dge_t, dge_f, ibeq_t, ibeq_f, ibne_t, ibne_f, inR_int, beqN_eq, bleN_le, fl_length plc_length, pl_div, Int.natCast_add, Int.natCast_one]
      unfold upTo
      rw [pre_f]
    · rfl
    · intro i hi
      have hl : (upTo n f i 0).length ≤ 2000 := upTo_le h (by omega) (by omega) (by omega)
      simp (disch := omega) only [obs, rC_c, rA_agg, rT_tup, rP_ptr, rW_own, rS_sb, rF_sb, uncV_cons, uncO_cons, nilV_nil, rO_ob, rN_ob, unc_cons, asI_int, asB_bool, asS_string, asSl_sl, asSl_nl, asFn_fn, asP_cp, nrm_sl, nrm_nl, need_true, ct, cf, bd_eq, natD_zero, natD_succ, natD_one, noYl_v, noYl_sl, noYl_nl, noYl_cp, noYl_fn, Bool.and_true, Bool.true_and, Bool.and_self, beqN_self, Bool.not_true, Bool.not_false, Bool.and_false, Bool.false_and, Bool.or_false, Bool.false_or, Bool.or_true, Bool.true_or, wrap_in, dlt_t, dlt_f, dle_t, dle_f, dgt_t, dgt_f, dge_t, dge_f, ibeq_t, ibeq_f, ibne_t, ibne_f, inR_int, beqN_eq, bleN_le, fl_length plc_length, pl_div]
      rw [iter_runx (fun j : Nat => ((j : Int), netS n (upTo n f i j), ())) 0 (((n + 1 - i : Nat) : Int), netS n (upTo n f i (n + 1 - i)), ()) (n + 1 - i) ?_ ?_ ?_ (by omega)]
      · have hl : (upTo n f i (n + 1 - i)).length ≤ 2000 := upTo_le h (by omega) (by omega) (by omega)
        simp (disch := omega) only [obs, rC_c, rA_agg, rT_tup, rP_ptr, rW_own, rS_sb, rF_sb, uncV_cons, uncO_cons, nilV_nil, rO_ob, rN_ob, unc_cons, asI_int, asB_bool, asS_string, asSl_sl, asSl_nl, asFn_fn, asP_cp, nrm_sl, nrm_nl, need_true, ct, cf, bd_eq, natD_zero, natD_succ, natD_one, noYl_v, noYl_sl, noYl_nl, noYl_cp, noYl_fn, Bool.and_true, Bool.true_and, Bool.and_self, beqN_self, Bool.not_true, Bool.not_false, Bool.and_false, Bool.false_and, Bool.or_false, Bool.false_or, Bool.or_true, Bool.true_or, wrap_in, dlt_t, dlt_f, dle_t, dle_f, dgt_t, dgt_f, dge_t, dge_f, ibeq_t, ibeq_f, ibne_t, ibne_f, inR_int, beqN_eq, bleN_le, fl_length plc_length, pl_div, Int.natCast_add, Int.natCast_one]
        unfold upTo
        rw [pre_i]
      · rfl
      · intro j hj
        have hl : (upTo n f i j).length ≤ 2000 := upTo_le h (by omega) (by omega) (by omega)
        have hnot := upTo_not (f := f) (i := i) (j := j) h
        have hc : IntKind.i64.wrap (((n : Int) - (i : Int) - (j : Int)) * ((840 / n : Nat) : Int)) = (((n - i - j) * (840 / n) : Nat) : Int) := by
          rw [show (n : Int) - i - j = ((n - i - j : Nat) : Int) by omega, wrap_mul h (by omega)]
        have e2 := sp_Normal fu d hf (pt n f i j) (pt_ok h hf' (by omega))
        have e3 := mfd_not (upTo n f i j) 0 0 hnot
        have e4 := plc_eqb (norm (pt n f i j)) (pt n f i j)
        have e5 := upTo_j n f i j
        generalize hz : decide (norm (pt n f i j) = pt n f i j) = z at e4
        replace e5 : upTo n f i (j + 1) = bif z then upTo n f i j ++ [pt n f i j] else upTo n f i j := by
          cases z with
          | true => rw [e5, if_pos (of_decide_eq_true hz)]; rfl
          | false => rw [e5, if_neg (of_decide_eq_false hz)]; rfl
        clear hz
        simp only [plc] at e2 e3
        generalize norm (pt n f i j) = q at e2 e4 e5
        simp only [pt] at e2 e3 e4 e5
        simp (disch := omega) only [obs, rC_c, rA_agg, rT_tup, rP_ptr, rW_own, rS_sb, rF_sb, uncV_cons, uncO_cons, nilV_nil, rO_ob, rN_ob, unc_cons, asI_int, asB_bool, asS_string, asSl_sl, asSl_nl, asFn_fn, asP_cp, nrm_sl, nrm_nl, need_true, ct, cf, bd_eq, natD_zero, natD_succ, natD_one, noYl_v, noYl_sl, noYl_nl, noYl_cp, noYl_fn, Bool.and_true, Bool.true_and, Bool.and_self, beqN_self, Bool.not_true, Bool.not_false, Bool.and_false, Bool.false_and, Bool.or_false, Bool.false_or, Bool.or_true, Bool.true_or, wrap_in, dlt_t, dlt_f, dle_t, dle_f, dgt_t, dgt_f, dge_t, dge_f, ibeq_t, ibeq_f, ibne_t, ibne_f, inR_int, beqN_eq, bleN_le, hc, wrap_mul h (show i ≤ n by omega), wrap_mul h (show j ≤ n by omega), e2, e4, List.length_cons, List.length_nil, Nat.zero_add, Nat.reduceAdd, fl_length plc_length, pl_div]
        rw [e5]
        cases z with
        | true =>
          simp (disch := omega) only [obs, rC_c, rA_agg, rT_tup, rP_ptr, rW_own, rS_sb, rF_sb, uncV_cons, uncO_cons, nilV_nil, rO_ob, rN_ob, unc_cons, asI_int, asB_bool, asS_string, asSl_sl, asSl_nl, asFn_fn, asP_cp, nrm_sl, nrm_nl, need_true, ct, cf, bd_eq, natD_zero, natD_succ, natD_one, noYl_v, noYl_sl, noYl_nl, noYl_cp, noYl_fn, Bool.and_true, Bool.true_and, Bool.and_self, beqN_self, Bool.not_true, Bool.not_false, Bool.and_false, Bool.false_and, Bool.or_false, Bool.false_or, Bool.or_true, Bool.true_or, wrap_in, dlt_t, dlt_f, dle_t, dle_f, dgt_t, dgt_f, dge_t, dge_f, ibeq_t, ibeq_f, ibne_t, ibne_f, inR_int, beqN_eq, bleN_le, mfd, e3, mput_none, pl_snoc', esn_snoc', fl_length plc_length, pl_div, List.length_append, List.length_cons, List.length_nil, Nat.zero_add, Int.natCast_add, Int.natCast_one]
        | false =>
          simp (disch := omega) only [obs, rC_c, rA_agg, rT_tup, rP_ptr, rW_own, rS_sb, rF_sb, uncV_cons, uncO_cons, nilV_nil, rO_ob, rN_ob, unc_cons, asI_int, asB_bool, asS_string, asSl_sl, asSl_nl, asFn_fn, asP_cp, nrm_sl, nrm_nl, need_true, ct, cf, bd_eq, natD_zero, natD_succ, natD_one, noYl_v, noYl_sl, noYl_nl, noYl_cp, noYl_fn, Bool.and_true, Bool.true_and, Bool.and_self, beqN_self, Bool.not_true, Bool.not_false, Bool.and_false, Bool.false_and, Bool.or_false, Bool.false_or, Bool.or_true, Bool.true_or, wrap_in, dlt_t, dlt_f, dle_t, dle_f, dgt_t, dgt_f, dge_t, dge_f, ibeq_t, ibeq_f, ibne_t, ibne_f, inR_int, beqN_eq, bleN_le, Int.natCast_add, Int.natCast_one]
      · have hl : (upTo n f i (n + 1 - i)).length ≤ 2000 := upTo_le h (by omega) (by omega) (by omega)
        simp (disch := omega) only [obs, rC_c, rA_agg, rT_tup, rP_ptr, rW_own, rS_sb, rF_sb, uncV_cons, uncO_cons, nilV_nil, rO_ob, rN_ob, unc_cons, asI_int, asB_bool, asS_string, asSl_sl, asSl_nl, asFn_fn, asP_cp, nrm_sl, nrm_nl, need_true, ct, cf, bd_eq, natD_zero, natD_succ, natD_one, noYl_v, noYl_sl, noYl_nl, noYl_cp, noYl_fn, Bool.and_true, Bool.true_and, Bool.and_self, beqN_self, Bool.not_true, Bool.not_false, Bool.and_false, Bool.false_and, Bool.or_false, Bool.false_or, Bool.or_true, Bool.true_or, wrap_in, dlt_t, dlt_f, dle_t, dle_f, dgt_t, dgt_f, dge_t, dge_f, ibeq_t, ibeq_f, ibne_t, ibne_f, inR_int, beqN_eq, bleN_le, fl_length plc_length, pl_div]
    · have hl : (upTo n f (n + 1) 0).length ≤ 2000 := upTo_le h (by omega) (by omega) (by omega)
      simp (disch := omega) only [obs, rC_c, rA_agg, rT_tup, rP_ptr, rW_own, rS_sb, rF_sb, uncV_cons, uncO_cons, nilV_nil, rO_ob, rN_ob, unc_cons, asI_int, asB_bool, asS_string, asSl_sl, asSl_nl, asFn_fn, asP_cp, nrm_sl, nrm_nl, need_true, ct, cf, bd_eq, natD_zero, natD_succ, natD_one, noYl_v, noYl_sl, noYl_nl, noYl_cp, noYl_fn, Bool.and_true, Bool.true_and, Bool.and_self, beqN_self, Bool.not_true, Bool.not_false, Bool.and_false, Bool.false_and, Bool.or_false, Bool.false_or, Bool.or_true, Bool.true_or, wrap_in, dlt_t, dlt_f, dle_t, dle_f, dgt_t, dgt_f, dge_t, dge_f, ibeq_t, ibeq_f, ibne_t, ibne_f, inR_int, beqN_eq, bleN_le, fl_length plc_length, pl_div]
  · have hl : (upTo n 20 0 0).length ≤ 2000 := upTo_le h (by omega) (by omega) (by omega)
    simp (disch := omega) only [obs, rC_c, rA_agg, rT_tup, rP_ptr, rW_own, rS_sb, rF_sb, uncV_cons, uncO_cons, nilV_nil, rO_ob, rN_ob, unc_cons, asI_int, asB_bool, asS_string, asSl_sl, asSl_nl, asFn_fn, asP_cp, nrm_sl, nrm_nl, need_true, ct, cf, bd_eq, natD_zero, natD_succ, natD_one, noYl_v, noYl_sl, noYl_nl, noYl_cp, noYl_fn, Bool.and_true, Bool.true_and, Bool.and_self, beqN_self, Bool.not_true, Bool.not_false, Bool.and_false, Bool.false_and, Bool.or_false, Bool.false_or, Bool.or_true, Bool.true_or, wrap_in, dlt_t, dlt_f, dle_t, dle_f, dgt_t, dgt_f, dge_t, dge_f, ibeq_t, ibeq_f, ibne_t, ibne_f, inR_int, beqN_eq, bleN_le, fl_length plc_length, pl_div]
    rfl
end Go.Proofs.YtobmbacppbkgeaaDoor
/- The nodes of a grid, by the reference. -/
namespace Go.Proofs.YtobmbacppbkgeaaDoor
open Go Go.PM Go.Grid

theorem sp_ref_Count (fu d n : Nat) (h : freq n) : cl fu (d + 1) fn_synopticref03_Count [I n] [] = OK (I ((10 * n * n + 2 : Nat) : Int)) := by
  rw [eq_synopticref03_Count]
  rcases freq_cases h with rfl | rfl | rfl | rfl | rfl | rfl | rfl | rfl <;> (show @Eq (Option Out) _ _; kernel_rfl)
theorem sp_ref_Count_bad (fu d : Nat) (n : Int) (h : n < 1 ∨ 8 < n) : cl fu (d + 1) fn_synopticref03_Count [I n] [] = OK (I 0) := by
  rw [eq_synopticref03_Count]
  by_cases h1 : n < 1
  · simp (disch := omega) only [obs, rC_c, rA_agg, rT_tup, rP_ptr, rW_own, rS_sb, rF_sb, uncV_cons, uncO_cons, nilV_nil, rO_ob, rN_ob, unc_cons, asI_int, asB_bool, asS_string, asSl_sl, asSl_nl, asFn_fn, asP_cp, nrm_sl, nrm_nl, need_true, ct, cf, bd_eq, natD_zero, natD_succ, natD_one, noYl_v, noYl_sl, noYl_nl, noYl_cp, noYl_fn, Bool.and_true, Bool.true_and, Bool.and_self, beqN_self, Bool.not_true, Bool.not_false, Bool.and_false, Bool.false_and, Bool.or_false, Bool.false_or, Bool.or_true, Bool.true_or, wrap_in, dlt_t, dlt_f, dle_t, dle_f, dgt_t, dgt_f, dge_t, dge_f, ibeq_t, ibeq_f, ibne_t, ibne_f, inR_int, beqN_eq, bleN_le]
  · simp (disch := omega) only [obs, rC_c, rA_agg, rT_tup, rP_ptr, rW_own, rS_sb, rF_sb, uncV_cons, uncO_cons, nilV_nil, rO_ob, rN_ob, unc_cons, asI_int, asB_bool, asS_string, asSl_sl, asSl_nl, asFn_fn, asP_cp, nrm_sl, nrm_nl, need_true, ct, cf, bd_eq, natD_zero, natD_succ, natD_one, noYl_v, noYl_sl, noYl_nl, noYl_cp, noYl_fn, Bool.and_true, Bool.true_and, Bool.and_self, beqN_self, Bool.not_true, Bool.not_false, Bool.and_false, Bool.false_and, Bool.or_false, Bool.false_or, Bool.or_true, Bool.true_or, wrap_in, dlt_t, dlt_f, dle_t, dle_f, dgt_t, dgt_f, dge_t, dge_f, ibeq_t, ibeq_f, ibne_t, ibne_f, inR_int, beqN_eq, bleN_le]
theorem upTo_jb (n f i j : Nat) : upTo n f i (j + 1) = bif isN (pt n f i j) then upTo n f i j ++ [pt n f i j] else upTo n f i j := by
  rw [upTo_j]
  unfold isN
  by_cases h : norm (pt n f i j) = pt n f i j
  · rw [if_pos h, decide_eq_true h]; rfl
  · rw [if_neg h, decide_eq_false h]; rfl
theorem count_ne {n : Nat} : ((10 * n * n + 2 : Nat) : Int) ≠ 0 := by omega

theorem sp_ref_Nodes (fu d : Nat) (hf : 18446744073709551616 ≤ fu) (n : Nat) (h : freq n) : cl fu (d + 6) fn_synopticref03_Nodes [I n] [] = OK (V.tup [V.c (C.sl (nodes n).length (fl plc (nodes n))), I 0]) := by
  have hn := h
  unfold freq at hn
  have hst := step_pos h
  rw [eq_synopticref03_Nodes, sp_ref_Count fu (d + 4) n h, step_int h]
  simp only [obs, rC_c, rA_agg, rT_tup, rP_ptr, rW_own, rS_sb, rF_sb, uncV_cons, uncO_cons, nilV_nil, rO_ob, rN_ob, unc_cons, asI_int, asB_bool, asS_string, asSl_sl, asSl_nl, asFn_fn, asP_cp, nrm_sl, nrm_nl, need_true, ct, cf, bd_eq, natD_zero, natD_succ, natD_one, noYl_v, noYl_sl, noYl_nl, noYl_cp, noYl_fn, Bool.and_true, Bool.true_and, Bool.and_self, beqN_self, Bool.not_true, Bool.not_false, Bool.and_false, Bool.false_and, Bool.or_false, Bool.false_or, Bool.or_true, Bool.true_or]
  rw [ibeq_f count_ne, ibeq_f (show (n : Int) ≠ 0 by omega)]
  simp only [obs, rC_c, rA_agg, rT_tup, rP_ptr, rW_own, rS_sb, rF_sb, uncV_cons, uncO_cons, nilV_nil, rO_ob, rN_ob, unc_cons, asI_int, asB_bool, asS_string, asSl_sl, asSl_nl, asFn_fn, asP_cp, nrm_sl, nrm_nl, need_true, ct, cf, bd_eq, natD_zero, natD_succ, natD_one, noYl_v, noYl_sl, noYl_nl, noYl_cp, noYl_fn, Bool.and_true, Bool.true_and, Bool.and_self, beqN_self, Bool.not_true, Bool.not_false, Bool.and_false, Bool.false_and, Bool.or_false, Bool.false_or, Bool.or_true, Bool.true_or]
  rw [iter_runx (fun f : Nat => (fl plc (upTo n f 0 0), (f : Int), ())) 0 (fl plc (upTo n 20 0 0), (20 : Int), ()) 20 ?_ ?_ ?_ (by omega)]
  · rw [upTo_end]
    simp (disch := omega) only [obs, rC_c, rA_agg, rT_tup, rP_ptr, rW_own, rS_sb, rF_sb, uncV_cons, uncO_cons, nilV_nil, rO_ob, rN_ob, unc_cons, asI_int, asB_bool, asS_string, asSl_sl, asSl_nl, asFn_fn, asP_cp, nrm_sl, nrm_nl, need_true, ct, cf, bd_eq, natD_zero, natD_succ, natD_one, noYl_v, noYl_sl, noYl_nl, noYl_cp, noYl_fn, Bool.and_true, Bool.true_and, Bool.and_self, beqN_self, Bool.not_true, Bool.not_false, Bool.and_false, Bool.false_and, Bool.or_false, Bool.false_or, Bool.or_true, Bool.true_or, wrap_in, dlt_t, dlt_f, dle_t, dle_f, dgt_t, dgt_f, dge_t, dge_f, ibeq_t, ibeq_f, ibne_t, ibne_f, inR_int, beqN_eq, bleN_le, fl_length plc_length, pl_div, Nat.zero_add]
    rw [List.take_of_length_le (by rw [fl_length plc_length]; omega)]
  · rfl
  · intro f hf'
    have hl : (upTo n f 0 0).length ≤ 2000 := upTo_le h (by omega) (by omega) (by omega)
    simp (disch := omega) only [obs, rC_c, rA_agg, rT_tup, rP_ptr, rW_own, rS_sb, rF_sb, uncV_cons, uncO_cons, nilV_nil, rO_ob, rN_ob, unc_cons, asI_int, asB_bool, asS_string, asSl_sl, asSl_nl, asFn_fn, asP_cp, nrm_sl, nrm_nl, need_true, ct, cf, bd_eq, natD_zero, natD_succ, natD_one, noYl_v, noYl_sl, noYl_nl, noYl_cp, noYl_fn, Bool.and_true, Bool.true_and, Bool.and_self, beqN_self, Bool.not_true, Bool.not_false, Bool.and_false, Bool.false_and, Bool.or_false, Bool.false_or, Bool.or_true, Bool.true_or, wrap_in, dlt_t, dlt_f, dle_t, dle_f, dgt_t, dgt_f, dge_t, dge_f, ibeq_t, ibeq_f, ibne_t, ibne_f, inR_int, beqN_eq, bleN_le, fl_length plc_length, pl_div]
    rw [iter_runx (fun i : Nat => (fl plc (upTo n f i 0), ((i * (840 / n) : Nat) : Int), ())) 0 (fl plc (upTo n f (n + 1) 0), (((n + 1) * (840 / n) : Nat) : Int), ()) (n + 1) ?_ ?_ ?_ (by omega)]
    · have hl : (upTo n f (n + 1) 0).length ≤ 2000 := upTo_le h (by omega) (by omega) (by omega)
      simp (disch := omega) only [obs, rC_c, rA_agg, rT_tup, rP_ptr, rW_own, rS_sb, rF_sb, uncV_cons, uncO_cons, nilV_nil, rO_ob, rN_ob, unc_cons, asI_int, asB_bool, asS_string, asSl_sl, asSl_nl, asFn_fn, asP_cp, nrm_sl, nrm_nl, need_true, ct, cf, bd_eq, natD_zero, natD_succ, natD_one, noYl_v, noYl_sl, noYl_nl, noYl_cp, noYl_fn, Bool.and_true, Bool.true_and, Bool.and_self, beqN_self, Bool.not_true, Bool.not_false, Bool.and_false, Bool.false_and, Bool.or_false, Bool.false_or, Bool.or_true, Bool.true_or, wrap_in, dlt_t, dlt_f, dle_t, dle_f, dgt_t, dgt_f, dge_t, dge_f, ibeq_t, ibeq_f, ibne_t, ibne_f, inR_int, beqN_eq, bleN_le, fl_length plc_length, pl_div, Int.natCast_add, Int.natCast_one]
      unfold upTo
      rw [pre_f]
    · simp only [Nat.zero_mul]; rfl
    · intro i hi
      have hl : (upTo n f i 0).length ≤ 2000 := upTo_le h (by omega) (by omega) (by omega)
      have hA := mul_le h (show i ≤ n by omega)
      have hA1 : (i + 1) * (840 / n) = i * (840 / n) + 840 / n := Nat.succ_mul _ _
      rw [hA1]
      generalize hAe : i * (840 / n) = A at hA ⊢
      simp (disch := omega) only [obs, rC_c, rA_agg, rT_tup, rP_ptr, rW_own, rS_sb, rF_sb, uncV_cons, uncO_cons, nilV_nil, rO_ob, rN_ob, unc_cons, asI_int, asB_bool, asS_string, asSl_sl, asSl_nl, asFn_fn, asP_cp, nrm_sl, nrm_nl, need_true, ct, cf, bd_eq, natD_zero, natD_succ, natD_one, noYl_v, noYl_sl, noYl_nl, noYl_cp, noYl_fn, Bool.and_true, Bool.true_and, Bool.and_self, beqN_self, Bool.not_true, Bool.not_false, Bool.and_false, Bool.false_and, Bool.or_false, Bool.false_or, Bool.or_true, Bool.true_or, wrap_in, dlt_t, dlt_f, dle_t, dle_f, dgt_t, dgt_f, dge_t, dge_f, ibeq_t, ibeq_f, ibne_t, ibne_f, inR_int, beqN_eq, bleN_le, fl_length plc_length, pl_div]
      rw [iter_runx (fun j : Nat => (fl plc (upTo n f i j), ((j * (840 / n) : Nat) : Int), ())) 0 (fl plc (upTo n f i (n + 1 - i)), (((n + 1 - i) * (840 / n) : Nat) : Int), ()) (n + 1 - i) ?_ ?_ ?_ (by omega)]
      · have hl : (upTo n f i (n + 1 - i)).length ≤ 2000 := upTo_le h (by omega) (by omega) (by omega)
        generalize hst' : 840 / n = s at *
        simp (disch := omega) only [obs, rC_c, rA_agg, rT_tup, rP_ptr, rW_own, rS_sb, rF_sb, uncV_cons, uncO_cons, nilV_nil, rO_ob, rN_ob, unc_cons, asI_int, asB_bool, asS_string, asSl_sl, asSl_nl, asFn_fn, asP_cp, nrm_sl, nrm_nl, need_true, ct, cf, bd_eq, natD_zero, natD_succ, natD_one, noYl_v, noYl_sl, noYl_nl, noYl_cp, noYl_fn, Bool.and_true, Bool.true_and, Bool.and_self, beqN_self, Bool.not_true, Bool.not_false, Bool.and_false, Bool.false_and, Bool.or_false, Bool.false_or, Bool.or_true, Bool.true_or, wrap_in, dlt_t, dlt_f, dle_t, dle_f, dgt_t, dgt_f, dge_t, dge_f, ibeq_t, ibeq_f, ibne_t, ibne_f, inR_int, beqN_eq, bleN_le, fl_length plc_length, pl_div, Int.natCast_add]
        unfold upTo
        rw [pre_i]
      · simp only [Nat.zero_mul]; rfl
      · intro j hj
        have hl : (upTo n f i j).length ≤ 2000 := upTo_le h (by omega) (by omega) (by omega)
        have hs := pt_sum (n := n) (i := i) (j := j) h (by omega)
        have hB1 : (j + 1) * (840 / n) = j * (840 / n) + 840 / n := Nat.succ_mul _ _
        have hok := pt_ok (f := f) h hf' (show i + j ≤ n by omega)
        have hN := sp_ref_IsNormal fu d hf (pt n f i j) hok
        have hin : 0 < A → 0 < j * (840 / n) → 0 < (n - i - j) * (840 / n) → isN (pt n f i j) = true := fun h1 h2 h3 => isN_inner hok (by show 0 < i * (840 / n); omega) h2 h3
        have hup := upTo_jb n f i j
        rw [hB1]
        simp only [plc] at hN
        generalize isN (pt n f i j) = z at hN hin hup
        simp only [pt] at hN hup
        rw [hAe] at hs hN hup
        generalize j * (840 / n) = B at *
        generalize (n - i - j) * (840 / n) = D at *
        generalize 840 / n = s at *
        have hD : (840 : Int) - A - B = (D : Int) := by omega
        rw [hup]
        by_cases c1 : 0 < A
        · by_cases c2 : 0 < B
          · by_cases c3 : 0 < D
            · rw [hin c1 c2 c3]
              simp (disch := omega) only [obs, rC_c, rA_agg, rT_tup, rP_ptr, rW_own, rS_sb, rF_sb, uncV_cons, uncO_cons, nilV_nil, rO_ob, rN_ob, unc_cons, asI_int, asB_bool, asS_string, asSl_sl, asSl_nl, asFn_fn, asP_cp, nrm_sl, nrm_nl, need_true, ct, cf, bd_eq, natD_zero, natD_succ, natD_one, noYl_v, noYl_sl, noYl_nl, noYl_cp, noYl_fn, Bool.and_true, Bool.true_and, Bool.and_self, beqN_self, Bool.not_true, Bool.not_false, Bool.and_false, Bool.false_and, Bool.or_false, Bool.false_or, Bool.or_true, Bool.true_or, wrap_in, dlt_t, dlt_f, dle_t, dle_f, dgt_t, dgt_f, dge_t, dge_f, ibeq_t, ibeq_f, ibne_t, ibne_f, inR_int, beqN_eq, bleN_le, hD, pl_snoc', fl_length plc_length, pl_div, List.length_append, List.length_cons, List.length_nil, Nat.zero_add, Int.natCast_add]
            · cases z <;> simp (disch := omega) only [obs, rC_c, rA_agg, rT_tup, rP_ptr, rW_own, rS_sb, rF_sb, uncV_cons, uncO_cons, nilV_nil, rO_ob, rN_ob, unc_cons, asI_int, asB_bool, asS_string, asSl_sl, asSl_nl, asFn_fn, asP_cp, nrm_sl, nrm_nl, need_true, ct, cf, bd_eq, natD_zero, natD_succ, natD_one, noYl_v, noYl_sl, noYl_nl, noYl_cp, noYl_fn, Bool.and_true, Bool.true_and, Bool.and_self, beqN_self, Bool.not_true, Bool.not_false, Bool.and_false, Bool.false_and, Bool.or_false, Bool.false_or, Bool.or_true, Bool.true_or, wrap_in, dlt_t, dlt_f, dle_t, dle_f, dgt_t, dgt_f, dge_t, dge_f, ibeq_t, ibeq_f, ibne_t, ibne_f, inR_int, beqN_eq, bleN_le, hD, hN, pl_snoc', fl_length plc_length, pl_div, List.length_append, List.length_cons, List.length_nil, Nat.zero_add, Int.natCast_add]
          · cases z <;> simp (disch := omega) only [obs, rC_c, rA_agg, rT_tup, rP_ptr, rW_own, rS_sb, rF_sb, uncV_cons, uncO_cons, nilV_nil, rO_ob, rN_ob, unc_cons, asI_int, asB_bool, asS_string, asSl_sl, asSl_nl, asFn_fn, asP_cp, nrm_sl, nrm_nl, need_true, ct, cf, bd_eq, natD_zero, natD_succ, natD_one, noYl_v, noYl_sl, noYl_nl, noYl_cp, noYl_fn, Bool.and_true, Bool.true_and, Bool.and_self, beqN_self, Bool.not_true, Bool.not_false, Bool.and_false, Bool.false_and, Bool.or_false, Bool.false_or, Bool.or_true, Bool.true_or, wrap_in, dlt_t, dlt_f, dle_t, dle_f, dgt_t, dgt_f, dge_t, dge_f, ibeq_t, ibeq_f, ibne_t, ibne_f, inR_int, beqN_eq, bleN_le, hD, hN, pl_snoc', fl_length plc_length, pl_div, List.length_append, List.length_cons, List.length_nil, Nat.zero_add, Int.natCast_add]
        · cases z <;> simp (disch := omega) only [obs, rC_c, rA_agg, rT_tup, rP_ptr, rW_own, rS_sb, rF_sb, uncV_cons, uncO_cons, nilV_nil, rO_ob, rN_ob, unc_cons, asI_int, asB_bool, asS_string, asSl_sl, asSl_nl, asFn_fn, asP_cp, nrm_sl, nrm_nl, need_true, ct, cf, bd_eq, natD_zero, natD_succ, natD_one, noYl_v, noYl_sl, noYl_nl, noYl_cp, noYl_fn, Bool.and_true, Bool.true_and, Bool.and_self, beqN_self, Bool.not_true, Bool.not_false, Bool.and_false, Bool.false_and, Bool.or_false, Bool.false_or, Bool.or_true, Bool.true_or, wrap_in, dlt_t, dlt_f, dle_t, dle_f, dgt_t, dgt_f, dge_t, dge_f, ibeq_t, ibeq_f, ibne_t, ibne_f, inR_int, beqN_eq, bleN_le, hD, hN, pl_snoc', fl_length plc_length, pl_div, List.length_append, List.length_cons, List.length_nil, Nat.zero_add, Int.natCast_add]
      · have hl : (upTo n f i (n + 1 - i)).length ≤ 2000 := upTo_le h (by omega) (by omega) (by omega)
        have hs := pt_sum (n := n) (i := i) (j := n - i) h (by omega)
        have h1 : (n + 1 - i) * (840 / n) = (n - i) * (840 / n) + 840 / n := by rw [show n + 1 - i = n - i + 1 by omega, Nat.succ_mul]
        rw [hAe, show n - i - (n - i) = 0 by omega] at hs
        rw [h1]
        generalize (n - i) * (840 / n) = B at *
        generalize 840 / n = s at *
        simp (disch := omega) only [obs, rC_c, rA_agg, rT_tup, rP_ptr, rW_own, rS_sb, rF_sb, uncV_cons, uncO_cons, nilV_nil, rO_ob, rN_ob, unc_cons, asI_int, asB_bool, asS_string, asSl_sl, asSl_nl, asFn_fn, asP_cp, nrm_sl, nrm_nl, need_true, ct, cf, bd_eq, natD_zero, natD_succ, natD_one, noYl_v, noYl_sl, noYl_nl, noYl_cp, noYl_fn, Bool.and_true, Bool.true_and, Bool.and_self, beqN_self, Bool.not_true, Bool.not_false, Bool.and_false, Bool.false_and, Bool.or_false, Bool.false_or, Bool.or_true, Bool.true_or, wrap_in, dlt_t, dlt_f, dle_t, dle_f, dgt_t, dgt_f, dge_t, dge_f, ibeq_t, ibeq_f, ibne_t, ibne_f, inR_int, beqN_eq, bleN_le, fl_length plc_length, pl_div, Int.natCast_add]
    · have hl : (upTo n f (n + 1) 0).length ≤ 2000 := upTo_le h (by omega) (by omega) (by omega)
      have h1 : (n + 1) * (840 / n) = 840 + 840 / n := by rw [Nat.succ_mul, mul_step h]
      rw [h1]
      generalize 840 / n = s at *
      simp (disch := omega) only [obs, rC_c, rA_agg, rT_tup, rP_ptr, rW_own, rS_sb, rF_sb, uncV_cons, uncO_cons, nilV_nil, rO_ob, rN_ob, unc_cons, asI_int, asB_bool, asS_string, asSl_sl, asSl_nl, asFn_fn, asP_cp, nrm_sl, nrm_nl, need_true, ct, cf, bd_eq, natD_zero, natD_succ, natD_one, noYl_v, noYl_sl, noYl_nl, noYl_cp, noYl_fn, Bool.and_true, Bool.true_and, Bool.and_self, beqN_self, Bool.not_true, Bool.not_false, Bool.and_false, Bool.false_and, Bool.or_false, Bool.false_or, Bool.or_true, Bool.true_or, wrap_in, dlt_t, dlt_f, dle_t, dle_f, dgt_t, dgt_f, dge_t, dge_f, ibeq_t, ibeq_f, ibne_t, ibne_f, inR_int, beqN_eq, bleN_le, fl_length plc_length, pl_div, Int.natCast_add]
  · have hl : (upTo n 20 0 0).length ≤ 2000 := upTo_le h (by omega) (by omega) (by omega)
    simp (disch := omega) only [obs, rC_c, rA_agg, rT_tup, rP_ptr, rW_own, rS_sb, rF_sb, uncV_cons, uncO_cons, nilV_nil, rO_ob, rN_ob, unc_cons, asI_int, asB_bool, asS_string, asSl_sl, asSl_nl, asFn_fn, asP_cp, nrm_sl, nrm_nl, need_true, ct, cf, bd_eq, natD_zero, natD_succ, natD_one, noYl_v, noYl_sl, noYl_nl, noYl_cp, noYl_fn, Bool.and_true, Bool.true_and, Bool.and_self, beqN_self, Bool.not_true, Bool.not_false, Bool.and_false, Bool.false_and, Bool.or_false, Bool.false_or, Bool.or_true, Bool.true_or, wrap_in, dlt_t, dlt_f, dle_t, dle_f, dgt_t, dgt_f, dge_t, dge_f, ibeq_t, ibeq_f, ibne_t, ibne_f, inR_int, beqN_eq, bleN_le, fl_length plc_length, pl_div]
    rfl
end Go.Proofs.YtobmbacppbkgeaaDoor
/- Where a place lies in a grid: its corners and shares: plain laws. -/
namespace Go.Grid

/-- A share is put into its place. -/
def ins (s : Nat × Nat) : List (Nat × Nat) → List (Nat × Nat)
  | [] => [s]
  | x :: r => if x.1 < s.1 then x :: ins s r else s :: x :: r
theorem ins_at {s : Nat × Nat} : ∀ {l : List (Nat × Nat)} {k : Nat}, k ≤ l.length → (∀ j (h : j < l.length), j < k → l[j].1 < s.1) → (∀ h : k < l.length, ¬ l[k].1 < s.1) → ins s l = l.take k ++ s :: l.drop k
  | [], k, hk, _, _ => by simp at hk; subst hk; rfl
  | x :: r, 0, _, _, h => by
    have := h (by simp)
    simp only [List.getElem_cons_zero] at this
    simp [ins, this]
  | x :: r, k + 1, hk, h1, h2 => by
    have := h1 0 (by simp) (by omega)
    simp only [List.getElem_cons_zero] at this
    simp only [ins, this, if_true, List.take_succ_cons, List.drop_succ_cons, List.cons_append]
    rw [ins_at (k := k) (by simpa using hk) (fun j hj hjk => by have := h1 (j + 1) (by simp; omega) (by omega); simpa using this) (fun hh => by have := h2 (by simp; omega); simpa using this)]
theorem ins_length (s : Nat × Nat) : ∀ l, (ins s l).length = l.length + 1
  | [] => rfl
  | x :: r => by unfold ins; split <;> simp [ins_length s r]
theorem ins_perm (s : Nat × Nat) : ∀ l, (ins s l).Perm (s :: l)
  | [] => .refl _
  | x :: r => by
    unfold ins; split
    · exact ((ins_perm s r).cons x).trans (.swap _ _ _)
    · exact .refl _
def asc (l : List (Nat × Nat)) : Prop := l.Pairwise (fun a b => a.1 < b.1)
theorem ins_asc {s : Nat × Nat} : ∀ {l : List (Nat × Nat)}, asc l → (∀ x ∈ l, x.1 ≠ s.1) → asc (ins s l)
  | [], _, _ => by simp [ins, asc]
  | x :: r, h, hne => by
    obtain ⟨h1, h2⟩ := List.pairwise_cons.1 h
    unfold ins
    split
    · rename_i hlt
      refine List.pairwise_cons.2 ⟨fun y hy => ?_, ins_asc h2 fun y hy => hne y (by simp [hy])⟩
      rcases List.mem_cons.1 ((ins_perm s r).mem_iff.1 hy) with rfl | hy
      · exact hlt
      · exact h1 y hy
    · rename_i hlt
      have := hne x (by simp)
      refine List.pairwise_cons.2 ⟨fun y hy => ?_, h⟩
      rcases List.mem_cons.1 hy with rfl | hy
      · omega
      · have := h1 y hy; omega

/-- The corners of the triangle around a place, with their weights. -/
def rsum (n : Nat) (p : Pl) : Nat := p.a % (840 / n) + p.b % (840 / n) + p.c % (840 / n)
def corners (n : Nat) (p : Pl) : List (Pl × Nat) :=
  if rsum n p = 0 then [(p, 840)] else
  if rsum n p = 840 / n then
    [(⟨p.f, p.a - p.a % (840 / n) + 840 / n, p.b - p.b % (840 / n), p.c - p.c % (840 / n)⟩, p.a % (840 / n) * n),
     (⟨p.f, p.a - p.a % (840 / n), p.b - p.b % (840 / n) + 840 / n, p.c - p.c % (840 / n)⟩, p.b % (840 / n) * n),
     (⟨p.f, p.a - p.a % (840 / n), p.b - p.b % (840 / n), p.c - p.c % (840 / n) + 840 / n⟩, p.c % (840 / n) * n)]
  else
    [(⟨p.f, p.a - p.a % (840 / n), p.b - p.b % (840 / n) + 840 / n, p.c - p.c % (840 / n) + 840 / n⟩, 840 - p.a % (840 / n) * n),
     (⟨p.f, p.a - p.a % (840 / n) + 840 / n, p.b - p.b % (840 / n), p.c - p.c % (840 / n) + 840 / n⟩, 840 - p.b % (840 / n) * n),
     (⟨p.f, p.a - p.a % (840 / n) + 840 / n, p.b - p.b % (840 / n) + 840 / n, p.c - p.c % (840 / n)⟩, 840 - p.c % (840 / n) * n)]
def raw (n : Nat) (p : Pl) : List (Nat × Nat) := ((corners n p).filter fun c => decide (0 < c.2)).map fun c => (idx n c.1, c.2)
def insAll (l : List (Nat × Nat)) : List (Nat × Nat) := l.foldl (fun a s => ins s a) []
def shares (n : Nat) (p : Pl) : List (Nat × Nat) := insAll (raw n p)

theorem rsum_cases {n : Nat} (h : freq n) {p : Pl} (hp : p.ok) : rsum n p = 0 ∨ rsum n p = 840 / n ∨ rsum n p = 2 * (840 / n) := by
  have hst := step_pos h
  have hm := mul_step h
  obtain ⟨_, hs⟩ := hp
  unfold rsum
  generalize 840 / n = s at *
  have e1 := Nat.div_add_mod p.a s
  have e2 := Nat.div_add_mod p.b s
  have e3 := Nat.div_add_mod p.c s
  have l1 := Nat.mod_lt p.a (show 0 < s by omega)
  have l2 := Nat.mod_lt p.b (show 0 < s by omega)
  have l3 := Nat.mod_lt p.c (show 0 < s by omega)
  have hd : s * n = s * (p.a / s + p.b / s + p.c / s) + (p.a % s + p.b % s + p.c % s) := by
    rw [Nat.mul_add, Nat.mul_add, Nat.mul_comm s n, hm, ← hs]
    generalize s * (p.a / s) = u at *
    generalize s * (p.b / s) = v at *
    generalize s * (p.c / s) = w at *
    omega
  have hlt : p.a % s + p.b % s + p.c % s < 3 * s := by omega
  generalize p.a % s + p.b % s + p.c % s = r at *
  generalize p.a / s + p.b / s + p.c / s = q at *
  have hr : r = s * (n - q) := by rw [Nat.mul_sub]; omega
  have : n - q < 3 := by
    rcases Nat.lt_or_ge (n - q) 3 with h | h
    · exact h
    · have := Nat.mul_le_mul_left s h; omega
  rcases (show n - q = 0 ∨ n - q = 1 ∨ n - q = 2 by omega) with e | e | e
  · left; rw [hr, e]; simp
  · right; left; rw [hr, e]; simp
  · right; right; rw [hr, e]; omega

theorem dvd_sub_mod (a s : Nat) : s ∣ a - a % s := Nat.dvd_sub_mod a
theorem corners_pts {n : Nat} (h : freq n) {p : Pl} (hp : p.ok) : ∀ c ∈ corners n p, c.1 ∈ pts n ∧ c.1.f = p.f ∧ c.1.ok := by
  have hst := step_pos h
  have hc := rsum_cases h hp
  obtain ⟨h1, hs⟩ := hp
  have l1 := Nat.mod_le p.a (840 / n)
  have l2 := Nat.mod_le p.b (840 / n)
  have l3 := Nat.mod_le p.c (840 / n)
  have key : ∀ a b c, a + b + c = 840 → 840 / n ∣ a → 840 / n ∣ b → 840 / n ∣ c → (⟨p.f, a, b, c⟩ : Pl) ∈ pts n ∧ (⟨p.f, a, b, c⟩ : Pl).f = p.f ∧ (⟨p.f, a, b, c⟩ : Pl).ok := fun a b c e d1 d2 d3 =>
    ⟨mem_pts_of h ⟨h1, e⟩ d1 d2 d3, rfl, h1, e⟩
  have d1 := dvd_sub_mod p.a (840 / n)
  have d2 := dvd_sub_mod p.b (840 / n)
  have d3 := dvd_sub_mod p.c (840 / n)
  have g1 := Nat.dvd_add d1 (Nat.dvd_refl (840 / n))
  have g2 := Nat.dvd_add d2 (Nat.dvd_refl (840 / n))
  have g3 := Nat.dvd_add d3 (Nat.dvd_refl (840 / n))
  intro c hm
  unfold corners at hm
  unfold rsum at hc hm
  split at hm
  · simp only [List.mem_singleton] at hm
    subst hm
    have := key p.a p.b p.c hs (Nat.dvd_of_mod_eq_zero (by omega)) (Nat.dvd_of_mod_eq_zero (by omega)) (Nat.dvd_of_mod_eq_zero (by omega))
    exact this
  · split at hm
    · simp only [List.mem_cons, List.not_mem_nil, or_false] at hm
      rcases hm with rfl | rfl | rfl
      · exact key _ _ _ (by omega) g1 d2 d3
      · exact key _ _ _ (by omega) d1 g2 d3
      · exact key _ _ _ (by omega) d1 d2 g3
    · simp only [List.mem_cons, List.not_mem_nil, or_false] at hm
      rcases hm with rfl | rfl | rfl
      · exact key _ _ _ (by omega) d1 g2 g3
      · exact key _ _ _ (by omega) g1 d2 g3
      · exact key _ _ _ (by omega) g1 g2 d3
theorem corners_apart {n : Nat} (h : freq n) (p : Pl) : (corners n p).Pairwise fun c d => c.1 ≠ d.1 := by
  have hst := step_pos h
  unfold corners
  split
  · simp
  · split <;> (refine List.pairwise_cons.2 ⟨fun c hc => ?_, List.pairwise_cons.2 ⟨fun c hc => ?_, List.pairwise_cons.2 ⟨fun c hc => (by cases hc), .nil⟩⟩⟩ <;>
      (simp only [List.mem_cons, List.not_mem_nil, or_false] at hc; intro e
       first
       | (rcases hc with rfl | rfl <;> (simp only [Pl.mk.injEq] at e; omega))
       | (subst hc; simp only [Pl.mk.injEq] at e; omega)))
theorem corners_sum {n : Nat} (h : freq n) {p : Pl} (hp : p.ok) : ((corners n p).map (·.2)).sum = 840 := by
  have hm := mul_step h
  have hst := step_pos h
  have hc := rsum_cases h hp
  have l1 := Nat.mod_lt p.a (show 0 < 840 / n by omega)
  have l2 := Nat.mod_lt p.b (show 0 < 840 / n by omega)
  have l3 := Nat.mod_lt p.c (show 0 < 840 / n by omega)
  have m1 := Nat.mul_le_mul_right n (Nat.le_of_lt l1)
  have m2 := Nat.mul_le_mul_right n (Nat.le_of_lt l2)
  have m3 := Nat.mul_le_mul_right n (Nat.le_of_lt l3)
  have hadd : (p.a % (840 / n) + p.b % (840 / n) + p.c % (840 / n)) * n = p.a % (840 / n) * n + p.b % (840 / n) * n + p.c % (840 / n) * n := by rw [Nat.add_mul, Nat.add_mul]
  unfold corners
  unfold rsum at *
  rw [Nat.mul_comm] at hm
  split
  · rfl
  · split
    · rename_i e
      rw [e, hm] at hadd
      simp only [List.map_cons, List.map_nil, List.sum_cons, List.sum_nil]
      omega
    · have e : p.a % (840 / n) + p.b % (840 / n) + p.c % (840 / n) = 2 * (840 / n) := by omega
      rw [e, Nat.mul_assoc, hm] at hadd
      simp only [List.map_cons, List.map_nil, List.sum_cons, List.sum_nil]
      omega
theorem sum_filter_pos (l : List (Pl × Nat)) : ((l.filter fun c => decide (0 < c.2)).map (·.2)).sum = (l.map (·.2)).sum := by
  induction l with
  | nil => rfl
  | cons c r ih =>
    rw [List.filter_cons]
    split
    · simp [ih]
    · rename_i h
      simp only [decide_eq_true_eq] at h
      simp [ih]; omega
theorem raw_ok {n : Nat} (h : freq n) {p : Pl} (hp : p.ok) : (raw n p).Pairwise (fun a b => a.1 ≠ b.1) ∧ ((raw n p).map (·.2)).sum = 840 ∧ (∀ s ∈ raw n p, s.1 < 10 * n * n + 2 ∧ 0 < s.2) ∧ (raw n p).length ≤ 3 ∧ raw n p ≠ [] := by
  have hsum : ((raw n p).map (·.2)).sum = 840 := by
    unfold raw; rw [List.map_map]; exact (sum_filter_pos _).trans (corners_sum h hp)
  refine ⟨?_, hsum, fun s hs => ?_, ?_, fun e => by rw [e] at hsum; simp at hsum⟩
  · unfold raw
    refine List.Pairwise.map _ (fun a b hab => hab) ?_
    have h1 := (corners_apart h p).filter (fun c => decide (0 < c.2))
    refine List.Pairwise.imp_of_mem (fun {a b} ha hb hab e => hab ?_) h1
    obtain ⟨p1, f1, _⟩ := corners_pts h hp a (List.mem_filter.1 ha).1
    obtain ⟨p2, f2, _⟩ := corners_pts h hp b (List.mem_filter.1 hb).1
    exact idx_inj h p1 p2 (f1.trans f2.symm) e
  · obtain ⟨c, hc, rfl⟩ := List.mem_map.1 hs
    obtain ⟨h1, h2⟩ := List.mem_filter.1 hc
    refine ⟨?_, of_decide_eq_true h2⟩
    rw [← nodes_length h]; exact idx_lt h (corners_pts h hp c h1).1
  · unfold raw
    rw [List.length_map]
    refine Nat.le_trans (List.length_filter_le _ _) ?_
    unfold corners
    (repeat' split) <;> simp
theorem insAll_aux : ∀ (l a : List (Nat × Nat)), asc a → (a ++ l).Pairwise (fun x y => x.1 ≠ y.1) → asc (l.foldl (fun a s => ins s a) a) ∧ (l.foldl (fun a s => ins s a) a).Perm (a ++ l)
  | [], a, h, _ => by simp [h]
  | s :: l, a, h, hp => by
    have hp' : (s :: a ++ l).Pairwise (fun x y => x.1 ≠ y.1) := (List.perm_middle.pairwise_iff (fun {x y} hxy => Ne.symm hxy)).1 hp
    obtain ⟨q1, q2⟩ := List.pairwise_cons.1 hp'
    have h1 : asc (ins s a) := ins_asc h fun x hx => Ne.symm (q1 x (by simp [hx]))
    have h2 : (ins s a ++ l).Perm (s :: a ++ l) := (ins_perm s a).append_right l
    obtain ⟨r1, r2⟩ := insAll_aux l (ins s a) h1 ((h2.pairwise_iff (fun {x y} hxy => Ne.symm hxy)).2 hp')
    exact ⟨r1, r2.trans (h2.trans List.perm_middle.symm)⟩
theorem shares_ok {n : Nat} (h : freq n) {p : Pl} (hp : p.ok) : asc (shares n p) ∧ (shares n p).Perm (raw n p) := by
  have := insAll_aux (raw n p) [] (by simp [asc]) (by simpa using (raw_ok h hp).1)
  exact ⟨this.1, this.2.trans (by rw [List.nil_append])⟩
theorem sum_perm {l l' : List (Nat × Nat)} (h : l.Perm l') : (l.map (·.2)).sum = (l'.map (·.2)).sum := (h.map _).sum_nat
end Go.Grid
/- Nodes by their places, and shares: what the functions come to. -/
namespace Go.Proofs.YtobmbacppbkgeaaDoor
open Go Go.PM Go.Grid

theorem sp_less (fu d : Nat) (p q : Pl) : cl fu (d + 1) fn_synopticref03_less [V.agg (plc p), V.agg (plc q)] [] = OK (B (decide (plt p q))) := by
  unfold plc
  rw [eq_synopticref03_less]
  by_cases h1 : p.f = q.f
  · by_cases h2 : p.a = q.a
    · by_cases h3 : p.b < q.b
      · rw [decide_eq_true (show plt p q from .inr ⟨h1, .inr ⟨h2, h3⟩⟩)]; simp (disch := omega) only [obs, rC_c, rA_agg, rT_tup, rP_ptr, rW_own, rS_sb, rF_sb, uncV_cons, uncO_cons, nilV_nil, rO_ob, rN_ob, unc_cons, asI_int, asB_bool, asS_string, asSl_sl, asSl_nl, asFn_fn, asP_cp, nrm_sl, nrm_nl, need_true, ct, cf, bd_eq, natD_zero, natD_succ, natD_one, noYl_v, noYl_sl, noYl_nl, noYl_cp, noYl_fn, Bool.and_true, Bool.true_and, Bool.and_self, beqN_self, Bool.not_true, Bool.not_false, Bool.and_false, Bool.false_and, Bool.or_false, Bool.false_or, Bool.or_true, Bool.true_or, wrap_in, dlt_t, dlt_f, dle_t, dle_f, dgt_t, dgt_f, dge_t, dge_f, ibeq_t, ibeq_f, ibne_t, ibne_f, inR_int, beqN_eq, bleN_le]
      · rw [decide_eq_false (show ¬ plt p q from by unfold plt; omega)]; simp (disch := omega) only [obs, rC_c, rA_agg, rT_tup, rP_ptr, rW_own, rS_sb, rF_sb, uncV_cons, uncO_cons, nilV_nil, rO_ob, rN_ob, unc_cons, asI_int, asB_bool, asS_string, asSl_sl, asSl_nl, asFn_fn, asP_cp, nrm_sl, nrm_nl, need_true, ct, cf, bd_eq, natD_zero, natD_succ, natD_one, noYl_v, noYl_sl, noYl_nl, noYl_cp, noYl_fn, Bool.and_true, Bool.true_and, Bool.and_self, beqN_self, Bool.not_true, Bool.not_false, Bool.and_false, Bool.false_and, Bool.or_false, Bool.false_or, Bool.or_true, Bool.true_or, wrap_in, dlt_t, dlt_f, dle_t, dle_f, dgt_t, dgt_f, dge_t, dge_f, ibeq_t, ibeq_f, ibne_t, ibne_f, inR_int, beqN_eq, bleN_le]
    · by_cases h3 : p.a < q.a
      · rw [decide_eq_true (show plt p q from .inr ⟨h1, .inl h3⟩)]; simp (disch := omega) only [obs, rC_c, rA_agg, rT_tup, rP_ptr, rW_own, rS_sb, rF_sb, uncV_cons, uncO_cons, nilV_nil, rO_ob, rN_ob, unc_cons, asI_int, asB_bool, asS_string, asSl_sl, asSl_nl, asFn_fn, asP_cp, nrm_sl, nrm_nl, need_true, ct, cf, bd_eq, natD_zero, natD_succ, natD_one, noYl_v, noYl_sl, noYl_nl, noYl_cp, noYl_fn, Bool.and_true, Bool.true_and, Bool.and_self, beqN_self, Bool.not_true, Bool.not_false, Bool.and_false, Bool.false_and, Bool.or_false, Bool.false_or, Bool.or_true, Bool.true_or, wrap_in, dlt_t, dlt_f, dle_t, dle_f, dgt_t, dgt_f, dge_t, dge_f, ibeq_t, ibeq_f, ibne_t, ibne_f, inR_int, beqN_eq, bleN_le]
      · rw [decide_eq_false (show ¬ plt p q from by unfold plt; omega)]; simp (disch := omega) only [obs, rC_c, rA_agg, rT_tup, rP_ptr, rW_own, rS_sb, rF_sb, uncV_cons, uncO_cons, nilV_nil, rO_ob, rN_ob, unc_cons, asI_int, asB_bool, asS_string, asSl_sl, asSl_nl, asFn_fn, asP_cp, nrm_sl, nrm_nl, need_true, ct, cf, bd_eq, natD_zero, natD_succ, natD_one, noYl_v, noYl_sl, noYl_nl, noYl_cp, noYl_fn, Bool.and_true, Bool.true_and, Bool.and_self, beqN_self, Bool.not_true, Bool.not_false, Bool.and_false, Bool.false_and, Bool.or_false, Bool.false_or, Bool.or_true, Bool.true_or, wrap_in, dlt_t, dlt_f, dle_t, dle_f, dgt_t, dgt_f, dge_t, dge_f, ibeq_t, ibeq_f, ibne_t, ibne_f, inR_int, beqN_eq, bleN_le]
  · by_cases h3 : p.f < q.f
    · rw [decide_eq_true (show plt p q from .inl h3)]; simp (disch := omega) only [obs, rC_c, rA_agg, rT_tup, rP_ptr, rW_own, rS_sb, rF_sb, uncV_cons, uncO_cons, nilV_nil, rO_ob, rN_ob, unc_cons, asI_int, asB_bool, asS_string, asSl_sl, asSl_nl, asFn_fn, asP_cp, nrm_sl, nrm_nl, need_true, ct, cf, bd_eq, natD_zero, natD_succ, natD_one, noYl_v, noYl_sl, noYl_nl, noYl_cp, noYl_fn, Bool.and_true, Bool.true_and, Bool.and_self, beqN_self, Bool.not_true, Bool.not_false, Bool.and_false, Bool.false_and, Bool.or_false, Bool.false_or, Bool.or_true, Bool.true_or, wrap_in, dlt_t, dlt_f, dle_t, dle_f, dgt_t, dgt_f, dge_t, dge_f, ibeq_t, ibeq_f, ibne_t, ibne_f, inR_int, beqN_eq, bleN_le]
    · rw [decide_eq_false (show ¬ plt p q from by unfold plt; omega)]; simp (disch := omega) only [obs, rC_c, rA_agg, rT_tup, rP_ptr, rW_own, rS_sb, rF_sb, uncV_cons, uncO_cons, nilV_nil, rO_ob, rN_ob, unc_cons, asI_int, asB_bool, asS_string, asSl_sl, asSl_nl, asFn_fn, asP_cp, nrm_sl, nrm_nl, need_true, ct, cf, bd_eq, natD_zero, natD_succ, natD_one, noYl_v, noYl_sl, noYl_nl, noYl_cp, noYl_fn, Bool.and_true, Bool.true_and, Bool.and_self, beqN_self, Bool.not_true, Bool.not_false, Bool.and_false, Bool.false_and, Bool.or_false, Bool.false_or, Bool.or_true, Bool.true_or, wrap_in, dlt_t, dlt_f, dle_t, dle_f, dgt_t, dgt_f, dge_t, dge_f, ibeq_t, ibeq_f, ibne_t, ibne_f, inR_int, beqN_eq, bleN_le]

theorem pairwise_get {l : List Pl} (h : l.Pairwise plt) {i j : Nat} (hi : i < l.length) (hj : j < l.length) (hij : i < j) : plt l[i] l[j] := List.pairwise_iff_getElem.1 h i j hi hj hij

theorem sp_find (fu d : Nat) (hf : 18446744073709551616 ≤ fu) (l : List Pl) (hl : l.length ≤ 1000000) (hs : l.Pairwise plt) (k : Nat) (hk : k < l.length) :
    cl fu (d + 2) fn_synopticref03_find [V.c (C.sl l.length (fl plc l)), V.agg (plc l[k])] [] = OK (I k) := by
  have hq : plc l[k] = [.v (.int .i64 l[k].f), .v (.int .i64 l[k].a), .v (.int .i64 l[k].b), .v (.int .i64 l[k].c)] := rfl
  rw [hq, eq_synopticref03_find]
  rw [iter_measx (fun y : Int × Int × Unit => ∃ lo hi : Nat, y = ((lo : Int), (hi : Int), ()) ∧ lo ≤ k ∧ k ≤ hi ∧ hi ≤ l.length) (fun y => (y.2.1 - y.1).toNat) 0 ((k : Int), (k : Int), ()) ?_ ?_ ?_]
  · have hd := fl_at plc_length hk
    simp (disch := omega) only [obs, rC_c, rA_agg, rT_tup, rP_ptr, rW_own, rS_sb, rF_sb, uncV_cons, uncO_cons, nilV_nil, rO_ob, rN_ob, unc_cons, asI_int, asB_bool, asS_string, asSl_sl, asSl_nl, asFn_fn, asP_cp, nrm_sl, nrm_nl, need_true, ct, cf, bd_eq, natD_zero, natD_succ, natD_one, noYl_v, noYl_sl, noYl_nl, noYl_cp, noYl_fn, Bool.and_true, Bool.true_and, Bool.and_self, beqN_self, Bool.not_true, Bool.not_false, Bool.and_false, Bool.false_and, Bool.or_false, Bool.false_or, Bool.or_true, Bool.true_or, wrap_in, dlt_t, dlt_f, dle_t, dle_f, dgt_t, dgt_f, dge_t, dge_f, ibeq_t, ibeq_f, ibne_t, ibne_f, inR_int, beqN_eq, bleN_le, Int.toNat_natCast, hd, plc, List.cons_append, List.nil_append, ibeq_t]
  · exact ⟨0, l.length, rfl, Nat.zero_le _, by omega, Nat.le_refl _⟩
  · simp only []; omega
  · rintro _ ⟨lo, hi, rfl, g1, g2, g3⟩
    by_cases hlt : lo < hi
    · left
      have hm : Int.tdiv ((lo : Int) + (hi : Int)) 2 = (((lo + hi) / 2 : Nat) : Int) := by
        rw [show ((lo : Int) + (hi : Int)) = ((lo + hi : Nat) : Int) from by omega]; rfl
      have hml : (lo + hi) / 2 < l.length := by omega
      have hd := fl_at plc_length hml
      have hless := sp_less fu d l[(lo + hi) / 2] l[k]
      simp only [plc] at hless
      by_cases hmk : (lo + hi) / 2 < k
      · rw [decide_eq_true (pairwise_get hs hml hk hmk)] at hless
        refine ⟨((((lo + hi) / 2 + 1 : Nat) : Int), (hi : Int), ()), ?_, ⟨(lo + hi) / 2 + 1, hi, rfl, by omega, g2, g3⟩, ?_⟩
        · simp (disch := omega) only [obs, rC_c, rA_agg, rT_tup, rP_ptr, rW_own, rS_sb, rF_sb, uncV_cons, uncO_cons, nilV_nil, rO_ob, rN_ob, unc_cons, asI_int, asB_bool, asS_string, asSl_sl, asSl_nl, asFn_fn, asP_cp, nrm_sl, nrm_nl, need_true, ct, cf, bd_eq, natD_zero, natD_succ, natD_one, noYl_v, noYl_sl, noYl_nl, noYl_cp, noYl_fn, Bool.and_true, Bool.true_and, Bool.and_self, beqN_self, Bool.not_true, Bool.not_false, Bool.and_false, Bool.false_and, Bool.or_false, Bool.false_or, Bool.or_true, Bool.true_or, wrap_in, dlt_t, dlt_f, dle_t, dle_f, dgt_t, dgt_f, dge_t, dge_f, ibeq_t, ibeq_f, ibne_t, ibne_f, inR_int, beqN_eq, bleN_le, hm, Int.toNat_natCast, hd, plc, List.cons_append, List.nil_append, hless, Int.natCast_add, Int.natCast_one]
        · simp only []; omega
      · have hn : ¬ plt l[(lo + hi) / 2] l[k] := by
          rcases Nat.lt_or_ge k ((lo + hi) / 2) with h | h
          · exact fun h' => plt_irrefl _ (plt_trans h' (pairwise_get hs hk hml h))
          · have : (lo + hi) / 2 = k := by omega
            simp only [this]; exact plt_irrefl _
        rw [decide_eq_false hn] at hless
        refine ⟨((lo : Int), (((lo + hi) / 2 : Nat) : Int), ()), ?_, ⟨lo, (lo + hi) / 2, rfl, g1, by omega, by omega⟩, ?_⟩
        · simp (disch := omega) only [obs, rC_c, rA_agg, rT_tup, rP_ptr, rW_own, rS_sb, rF_sb, uncV_cons, uncO_cons, nilV_nil, rO_ob, rN_ob, unc_cons, asI_int, asB_bool, asS_string, asSl_sl, asSl_nl, asFn_fn, asP_cp, nrm_sl, nrm_nl, need_true, ct, cf, bd_eq, natD_zero, natD_succ, natD_one, noYl_v, noYl_sl, noYl_nl, noYl_cp, noYl_fn, Bool.and_true, Bool.true_and, Bool.and_self, beqN_self, Bool.not_true, Bool.not_false, Bool.and_false, Bool.false_and, Bool.or_false, Bool.false_or, Bool.or_true, Bool.true_or, wrap_in, dlt_t, dlt_f, dle_t, dle_f, dgt_t, dgt_f, dge_t, dge_f, ibeq_t, ibeq_f, ibne_t, ibne_f, inR_int, beqN_eq, bleN_le, hm, Int.toNat_natCast, hd, plc, List.cons_append, List.nil_append, hless]
        · simp only []; omega
    · right
      have e1 : lo = k := by omega
      have e2 : hi = k := by omega
      subst e1 e2
      simp (disch := omega) only [obs, rC_c, rA_agg, rT_tup, rP_ptr, rW_own, rS_sb, rF_sb, uncV_cons, uncO_cons, nilV_nil, rO_ob, rN_ob, unc_cons, asI_int, asB_bool, asS_string, asSl_sl, asSl_nl, asFn_fn, asP_cp, nrm_sl, nrm_nl, need_true, ct, cf, bd_eq, natD_zero, natD_succ, natD_one, noYl_v, noYl_sl, noYl_nl, noYl_cp, noYl_fn, Bool.and_true, Bool.true_and, Bool.and_self, beqN_self, Bool.not_true, Bool.not_false, Bool.and_false, Bool.false_and, Bool.or_false, Bool.false_or, Bool.or_true, Bool.true_or, wrap_in, dlt_t, dlt_f, dle_t, dle_f, dgt_t, dgt_f, dge_t, dge_f, ibeq_t, ibeq_f, ibne_t, ibne_f, inR_int, beqN_eq, bleN_le]

theorem nodes_le {n : Nat} (h : freq n) : (nodes n).length ≤ 700 := by
  rw [nodes_length h]
  rcases freq_cases h with rfl | rfl | rfl | rfl | rfl | rfl | rfl | rfl <;> decide
theorem sp_ref_at (fu d : Nat) (hf : 18446744073709551616 ≤ fu) (n : Nat) (h : freq n) (p : Pl) (hp : p ∈ pts n) :
    cl fu (d + 5) fn_synopticref03_at [V.c (C.sl (nodes n).length (fl plc (nodes n))), I p.f, I p.a, I p.b] [] = OK (I (idx n p)) := by
  have hok := pts_ok h hp
  have hs := hok.2
  have e1 := sp_ref_Normal fu d hf p hok
  have e2 := sp_find fu (d + 2) hf (nodes n) (by have := nodes_le h; omega) (nodes_sorted h) (idx n p) (idx_lt h hp)
  rw [idx_at h hp] at e2
  have hc : (840 : Int) - p.a - p.b = p.c := by omega
  simp only [plc] at e1 e2
  rw [eq_synopticref03_at]
  simp (disch := omega) only [obs, rC_c, rA_agg, rT_tup, rP_ptr, rW_own, rS_sb, rF_sb, uncV_cons, uncO_cons, nilV_nil, rO_ob, rN_ob, unc_cons, asI_int, asB_bool, asS_string, asSl_sl, asSl_nl, asFn_fn, asP_cp, nrm_sl, nrm_nl, need_true, ct, cf, bd_eq, natD_zero, natD_succ, natD_one, noYl_v, noYl_sl, noYl_nl, noYl_cp, noYl_fn, Bool.and_true, Bool.true_and, Bool.and_self, beqN_self, Bool.not_true, Bool.not_false, Bool.and_false, Bool.false_and, Bool.or_false, Bool.false_or, Bool.or_true, Bool.true_or, wrap_in, dlt_t, dlt_f, dle_t, dle_f, dgt_t, dgt_f, dge_t, dge_f, ibeq_t, ibeq_f, ibne_t, ibne_f, inR_int, beqN_eq, bleN_le, hc, e1, e2, List.length_cons, List.length_nil, Nat.zero_add, Nat.reduceAdd]
theorem sp_at (fu d : Nat) (hf : 18446744073709551616 ≤ fu) (n : Nat) (h : freq n) (p : Pl) (hp : p ∈ pts n) :
    cl fu (d + 5) fn_mesh_Net_at [V.c (C.cp (netC n (nodes n))), V.agg (plc p)] [] = OK (I (idx n p)) := by
  have hok := pts_ok h hp
  have e1 := sp_Normal fu d hf p hok
  have e2 := mfd_mem (nodes n) 0 0 (norm_pts h hp)
  simp only [plc] at e1 e2 ⊢
  rw [eq_mesh_Net_at]
  simp (disch := omega) only [obs, rC_c, rA_agg, rT_tup, rP_ptr, rW_own, rS_sb, rF_sb, uncV_cons, uncO_cons, nilV_nil, rO_ob, rN_ob, unc_cons, asI_int, asB_bool, asS_string, asSl_sl, asSl_nl, asFn_fn, asP_cp, nrm_sl, nrm_nl, need_true, ct, cf, bd_eq, natD_zero, natD_succ, natD_one, noYl_v, noYl_sl, noYl_nl, noYl_cp, noYl_fn, Bool.and_true, Bool.true_and, Bool.and_self, beqN_self, Bool.not_true, Bool.not_false, Bool.and_false, Bool.false_and, Bool.or_false, Bool.false_or, Bool.or_true, Bool.true_or, wrap_in, dlt_t, dlt_f, dle_t, dle_f, dgt_t, dgt_f, dge_t, dge_f, ibeq_t, ibeq_f, ibne_t, ibne_f, inR_int, beqN_eq, bleN_le, e1, mfd, e2, orZ, List.length_cons, List.length_nil, Nat.zero_add, Nat.reduceAdd]
  rfl

def shc (s : Nat × Nat) : List C := [.v (.int .i64 s.1), .v (.int .i64 s.2)]
theorem shc_length (s : Nat × Nat) : (shc s).length = 2 := rfl
theorem sh_div (l : List (Nat × Nat)) : l.length * 2 / 2 = l.length := Nat.mul_div_cancel _ (by omega)
def lcC (l : List (Nat × Nat)) : C := match l with | [] => C.nl | _ => C.sl l.length (fl shc l)
theorem lcC_ne {l : List (Nat × Nat)} (h : l ≠ []) : lcC l = C.sl l.length (fl shc l) := by cases l with | nil => exact absurd rfl h | cons x r => rfl
theorem ins_ne (s : Nat × Nat) (l : List (Nat × Nat)) : ins s l ≠ [] := fun e => by have := ins_length s l; rw [e] at this; simp at this

theorem sp_share (fu d : Nat) (hf : 18446744073709551616 ≤ fu) (l : List (Nat × Nat)) (hl : l.length ≤ 1000) (s : Nat × Nat) :
    cl fu (d + 1) fn_synopticref03_share [V.c (lcC l), I s.1, I s.2] [] = OK (V.c (lcC (if s.2 = 0 then l else ins s l))) := by
  obtain ⟨a, w⟩ := s
  simp only
  by_cases hw : w = 0
  · rw [if_pos hw]
    subst hw
    cases l with
    | nil =>
      show cl fu (d + 1) fn_synopticref03_share [V.c C.nl, I (a : Int), I ((0 : Nat) : Int)] [] = _
      rw [eqn0_synopticref03_share]; rfl
    | cons x r =>
      show cl fu (d + 1) fn_synopticref03_share [V.c (C.sl (x :: r).length (fl shc (x :: r))), I (a : Int), I ((0 : Nat) : Int)] [] = _
      rw [eq_synopticref03_share]; rfl
  · rw [if_neg hw]
    cases l with
    | nil =>
      show cl fu (d + 1) fn_synopticref03_share [V.c C.nl, I (a : Int), I (w : Int)] [] = _
      rw [eqn0_synopticref03_share, ibeq_f (show (w : Int) ≠ 0 by omega)]
      obtain ⟨fu', rfl⟩ : ∃ m, fu = m + 1 := ⟨fu - 1, by omega⟩
      simp (disch := omega) only [obs, rC_c, rA_agg, rT_tup, rP_ptr, rW_own, rS_sb, rF_sb, uncV_cons, uncO_cons, nilV_nil, rO_ob, rN_ob, unc_cons, asI_int, asB_bool, asS_string, asSl_sl, asSl_nl, asFn_fn, asP_cp, nrm_sl, nrm_nl, need_true, ct, cf, bd_eq, natD_zero, natD_succ, natD_one, noYl_v, noYl_sl, noYl_nl, noYl_cp, noYl_fn, Bool.and_true, Bool.true_and, Bool.and_self, beqN_self, Bool.not_true, Bool.not_false, Bool.and_false, Bool.false_and, Bool.or_false, Bool.false_or, Bool.or_true, Bool.true_or, wrap_in, dlt_t, dlt_f, dle_t, dle_f, dgt_t, dgt_f, dge_t, dge_f, ibeq_t, ibeq_f, ibne_t, ibne_f, inR_int, beqN_eq, bleN_le, iter_s]
      rfl
    | cons x r =>
      rw [lcC_ne (List.cons_ne_nil x r), eq_synopticref03_share, ibeq_f (show (w : Int) ≠ 0 by omega)]
      generalize hL : x :: r = L at hl ⊢
      obtain ⟨k, k1, k2, k3⟩ : ∃ k, k ≤ L.length ∧ (∀ j (h : j < L.length), j < k → L[j].1 < a) ∧ (∀ h : k < L.length, ¬ L[k].1 < a) := by
        rcases first_or_none (fun j => ∃ h : j < L.length, ¬ L[j].1 < a) L.length with h0 | ⟨k, h1, ⟨h2, h3⟩, h4⟩
        · exact ⟨L.length, Nat.le_refl _, fun j h _ => Classical.byContradiction fun e => h0 j h ⟨h, e⟩, fun h => absurd h (Nat.lt_irrefl _)⟩
        · exact ⟨k, Nat.le_of_lt h1, fun j h hj => Classical.byContradiction fun e => h4 j hj ⟨h, e⟩, fun _ => h3⟩
      rw [ins_at (s := (a, w)) k1 k2 k3]
      simp only [obs, rC_c, rA_agg, rT_tup, rP_ptr, rW_own, rS_sb, rF_sb, uncV_cons, uncO_cons, nilV_nil, rO_ob, rN_ob, unc_cons, asI_int, asB_bool, asS_string, asSl_sl, asSl_nl, asFn_fn, asP_cp, nrm_sl, nrm_nl, need_true, ct, cf, bd_eq, natD_zero, natD_succ, natD_one, noYl_v, noYl_sl, noYl_nl, noYl_cp, noYl_fn, Bool.and_true, Bool.true_and, Bool.and_self, beqN_self, Bool.not_true, Bool.not_false, Bool.and_false, Bool.false_and, Bool.or_false, Bool.false_or, Bool.or_true, Bool.true_or]
      rw [iter_runx (fun j : Nat => ((j : Int), ())) 0 ((k : Int), ()) k ?_ ?_ ?_ (by omega)]
      · have t1 : List.take ((L.length - k) * 2) (List.drop (k * 2) (fl shc L)) = fl shc (L.drop k) := by
          rw [fl_drop shc_length, List.take_of_length_le (by rw [fl_length shc_length]; simp)]
        have t2 : List.take (k * 2) (fl shc L) = fl shc (L.take k) := fl_take shc_length k L
        have t3 : List.take ((1 + (L.length - k)) * 2) ([C.v (.int .i64 (a : Int)), C.v (.int .i64 (w : Int))] ++ fl shc (L.drop k)) = fl shc ((a, w) :: L.drop k) := by
          rw [fl_cons, List.take_of_length_le]; rfl
          rw [List.length_append, fl_length shc_length, List.length_drop]; simp; omega
        have t4 : List.take ((k + (1 + (L.length - k))) * 2) (fl shc (L.take k) ++ fl shc ((a, w) :: L.drop k)) = fl shc (L.take k ++ (a, w) :: L.drop k) := by
          rw [← fl_append, List.take_of_length_le]
          rw [fl_length shc_length, List.length_append, List.length_cons, List.length_take, List.length_drop]; omega
        have l1 : (fl shc (L.drop k)).length = (L.length - k) * 2 := by rw [fl_length shc_length, List.length_drop]
        have l2 : (fl shc (L.take k)).length = k * 2 := by rw [fl_length shc_length, List.length_take, Nat.min_eq_left k1]
        have l3 : (fl shc ((a, w) :: L.drop k)).length = (1 + (L.length - k)) * 2 := by rw [fl_length shc_length, List.length_cons, List.length_drop]; omega
        have hne : L.take k ++ (a, w) :: L.drop k ≠ [] := by simp
        rw [lcC_ne hne, List.length_append, List.length_cons, List.length_take, List.length_drop, Nat.min_eq_left k1, show L.length - k + 1 = 1 + (L.length - k) by omega]
        simp (disch := omega) only [obs, rC_c, rA_agg, rT_tup, rP_ptr, rW_own, rS_sb, rF_sb, uncV_cons, uncO_cons, nilV_nil, rO_ob, rN_ob, unc_cons, asI_int, asB_bool, asS_string, asSl_sl, asSl_nl, asFn_fn, asP_cp, nrm_sl, nrm_nl, need_true, ct, cf, bd_eq, natD_zero, natD_succ, natD_one, noYl_v, noYl_sl, noYl_nl, noYl_cp, noYl_fn, Bool.and_true, Bool.true_and, Bool.and_self, beqN_self, Bool.not_true, Bool.not_false, Bool.and_false, Bool.false_and, Bool.or_false, Bool.false_or, Bool.or_true, Bool.true_or, wrap_in, dlt_t, dlt_f, dle_t, dle_f, dgt_t, dgt_f, dge_t, dge_f, ibeq_t, ibeq_f, ibne_t, ibne_f, inR_int, beqN_eq, bleN_le, Int.toNat_natCast, t1, t2, t3, t4, l1, l2, l3, List.length_append, List.length_cons, List.length_nil, decide_true, Nat.zero_add]
      · rfl
      · intro j hj
        have hj' : j < L.length := by omega
        have hd := fl_at shc_length hj'
        have := k2 j hj' hj
        simp (disch := omega) only [obs, rC_c, rA_agg, rT_tup, rP_ptr, rW_own, rS_sb, rF_sb, uncV_cons, uncO_cons, nilV_nil, rO_ob, rN_ob, unc_cons, asI_int, asB_bool, asS_string, asSl_sl, asSl_nl, asFn_fn, asP_cp, nrm_sl, nrm_nl, need_true, ct, cf, bd_eq, natD_zero, natD_succ, natD_one, noYl_v, noYl_sl, noYl_nl, noYl_cp, noYl_fn, Bool.and_true, Bool.true_and, Bool.and_self, beqN_self, Bool.not_true, Bool.not_false, Bool.and_false, Bool.false_and, Bool.or_false, Bool.false_or, Bool.or_true, Bool.true_or, wrap_in, dlt_t, dlt_f, dle_t, dle_f, dgt_t, dgt_f, dge_t, dge_f, ibeq_t, ibeq_f, ibne_t, ibne_f, inR_int, beqN_eq, bleN_le, Int.toNat_natCast, hd, shc, List.cons_append, List.nil_append, Int.natCast_add, Int.natCast_one]
      · by_cases hk : k < L.length
        · have hd := fl_at shc_length hk
          have := k3 hk
          simp (disch := omega) only [obs, rC_c, rA_agg, rT_tup, rP_ptr, rW_own, rS_sb, rF_sb, uncV_cons, uncO_cons, nilV_nil, rO_ob, rN_ob, unc_cons, asI_int, asB_bool, asS_string, asSl_sl, asSl_nl, asFn_fn, asP_cp, nrm_sl, nrm_nl, need_true, ct, cf, bd_eq, natD_zero, natD_succ, natD_one, noYl_v, noYl_sl, noYl_nl, noYl_cp, noYl_fn, Bool.and_true, Bool.true_and, Bool.and_self, beqN_self, Bool.not_true, Bool.not_false, Bool.and_false, Bool.false_and, Bool.or_false, Bool.false_or, Bool.or_true, Bool.true_or, wrap_in, dlt_t, dlt_f, dle_t, dle_f, dgt_t, dgt_f, dge_t, dge_f, ibeq_t, ibeq_f, ibne_t, ibne_f, inR_int, beqN_eq, bleN_le, Int.toNat_natCast, hd, shc, List.cons_append, List.nil_append]
        · simp (disch := omega) only [obs, rC_c, rA_agg, rT_tup, rP_ptr, rW_own, rS_sb, rF_sb, uncV_cons, uncO_cons, nilV_nil, rO_ob, rN_ob, unc_cons, asI_int, asB_bool, asS_string, asSl_sl, asSl_nl, asFn_fn, asP_cp, nrm_sl, nrm_nl, need_true, ct, cf, bd_eq, natD_zero, natD_succ, natD_one, noYl_v, noYl_sl, noYl_nl, noYl_cp, noYl_fn, Bool.and_true, Bool.true_and, Bool.and_self, beqN_self, Bool.not_true, Bool.not_false, Bool.and_false, Bool.false_and, Bool.or_false, Bool.false_or, Bool.or_true, Bool.true_or, wrap_in, dlt_t, dlt_f, dle_t, dle_f, dgt_t, dgt_f, dge_t, dge_f, ibeq_t, ibeq_f, ibne_t, ibne_f, inR_int, beqN_eq, bleN_le]
end Go.Proofs.YtobmbacppbkgeaaDoor
/- Sorting up to three shares. -/
namespace Go.Proofs.YtobmbacppbkgeaaDoor
open Go Go.PM Go.Grid

set_option maxRecDepth 20000
theorem sp_isort1 (fu d : Nat) (hf : 18446744073709551616 ≤ fu) (a w : Nat) :
    cl fu (d + 2) fn_slices_insertionSortCmpFunc_api_Share [V.own 1000000 0 1, I 0, I 1, V.c (C.fn fn_mesh_Net_Locate_1 [])] [.sb ty_api_Share 0 [.v (.int .i64 a), .v (.int .i64 w)]] = some ⟨V.tup [], [.sb ty_api_Share 0 [.v (.int .i64 a), .v (.int .i64 w)]], none⟩ := by
  obtain ⟨fu', rfl⟩ : ∃ m, fu = m + 9 := ⟨fu - 9, by omega⟩
  rw [eq_slices_insertionSortCmpFunc_api_Share]
  repeat (rw [iter_s]; simp (disch := omega) only [obs, rC_c, rA_agg, rT_tup, rP_ptr, rW_own, rS_sb, rF_sb, uncV_cons, uncO_cons, nilV_nil, rO_ob, rN_ob, unc_cons, asI_int, asB_bool, asS_string, asSl_sl, asSl_nl, asFn_fn, asP_cp, nrm_sl, nrm_nl, need_true, ct, cf, bd_eq, natD_zero, natD_succ, natD_one, noYl_v, noYl_sl, noYl_nl, noYl_cp, noYl_fn, Bool.and_true, Bool.true_and, Bool.and_self, beqN_self, Bool.not_true, Bool.not_false, Bool.and_false, Bool.false_and, Bool.or_false, Bool.false_or, Bool.or_true, Bool.true_or, wrap_in, dlt_t, dlt_f, dle_t, dle_f, dgt_t, dgt_f, dge_t, dge_f, ibeq_t, ibeq_f, ibne_t, ibne_f, inR_int, beqN_eq, bleN_le, Int.toNat_zero, Int.toNat_one, Int.reduceToNat, Nat.zero_mul, Nat.one_mul, Nat.reduceMul, Nat.zero_add, Nat.reduceAdd, List.drop_zero, List.drop_succ_cons, putAt, List.take_succ_cons, List.take_zero, List.cons_append, List.nil_append, List.length_cons, List.length_nil, Int.reduceAdd, Int.reduceSub, Int.reduceNeg, Int.zero_add, Int.natCast_one, Int.cast_ofNat_Int, List.append_nil])
theorem sp_isort2 (fu d : Nat) (hf : 18446744073709551616 ≤ fu) (a w a2 w2 : Nat) (h : a ≠ a2) (ha : a ≤ 1000000) (ha2 : a2 ≤ 1000000) :
    cl fu (d + 2) fn_slices_insertionSortCmpFunc_api_Share [V.own 1000000 0 2, I 0, I 2, V.c (C.fn fn_mesh_Net_Locate_1 [])] [.sb ty_api_Share 0 [.v (.int .i64 a), .v (.int .i64 w), .v (.int .i64 a2), .v (.int .i64 w2)]] = some ⟨V.tup [], [.sb ty_api_Share 0 (fl shc (insAll [(a, w), (a2, w2)]))], none⟩ := by
  obtain ⟨fu', rfl⟩ : ∃ m, fu = m + 9 := ⟨fu - 9, by omega⟩
  rw [eq_slices_insertionSortCmpFunc_api_Share]
  simp only [insAll, List.foldl, ins]
  by_cases h1 : a < a2
  · rw [if_pos h1]
    repeat (rw [iter_s]; simp (disch := omega) only [obs, rC_c, rA_agg, rT_tup, rP_ptr, rW_own, rS_sb, rF_sb, uncV_cons, uncO_cons, nilV_nil, rO_ob, rN_ob, unc_cons, asI_int, asB_bool, asS_string, asSl_sl, asSl_nl, asFn_fn, asP_cp, nrm_sl, nrm_nl, need_true, ct, cf, bd_eq, natD_zero, natD_succ, natD_one, noYl_v, noYl_sl, noYl_nl, noYl_cp, noYl_fn, Bool.and_true, Bool.true_and, Bool.and_self, beqN_self, Bool.not_true, Bool.not_false, Bool.and_false, Bool.false_and, Bool.or_false, Bool.false_or, Bool.or_true, Bool.true_or, wrap_in, dlt_t, dlt_f, dle_t, dle_f, dgt_t, dgt_f, dge_t, dge_f, ibeq_t, ibeq_f, ibne_t, ibne_f, inR_int, beqN_eq, bleN_le, Int.toNat_zero, Int.toNat_one, Int.reduceToNat, Nat.zero_mul, Nat.one_mul, Nat.reduceMul, Nat.zero_add, Nat.reduceAdd, List.drop_zero, List.drop_succ_cons, putAt, List.take_succ_cons, List.take_zero, List.cons_append, List.nil_append, List.length_cons, List.length_nil, Int.reduceAdd, Int.reduceSub, Int.reduceNeg, Int.zero_add, Int.natCast_one, Int.cast_ofNat_Int, List.append_nil, eq_mesh_Net_Locate_1])
    rfl
  · rw [if_neg h1]
    repeat (rw [iter_s]; simp (disch := omega) only [obs, rC_c, rA_agg, rT_tup, rP_ptr, rW_own, rS_sb, rF_sb, uncV_cons, uncO_cons, nilV_nil, rO_ob, rN_ob, unc_cons, asI_int, asB_bool, asS_string, asSl_sl, asSl_nl, asFn_fn, asP_cp, nrm_sl, nrm_nl, need_true, ct, cf, bd_eq, natD_zero, natD_succ, natD_one, noYl_v, noYl_sl, noYl_nl, noYl_cp, noYl_fn, Bool.and_true, Bool.true_and, Bool.and_self, beqN_self, Bool.not_true, Bool.not_false, Bool.and_false, Bool.false_and, Bool.or_false, Bool.false_or, Bool.or_true, Bool.true_or, wrap_in, dlt_t, dlt_f, dle_t, dle_f, dgt_t, dgt_f, dge_t, dge_f, ibeq_t, ibeq_f, ibne_t, ibne_f, inR_int, beqN_eq, bleN_le, Int.toNat_zero, Int.toNat_one, Int.reduceToNat, Nat.zero_mul, Nat.one_mul, Nat.reduceMul, Nat.zero_add, Nat.reduceAdd, List.drop_zero, List.drop_succ_cons, putAt, List.take_succ_cons, List.take_zero, List.cons_append, List.nil_append, List.length_cons, List.length_nil, Int.reduceAdd, Int.reduceSub, Int.reduceNeg, Int.zero_add, Int.natCast_one, Int.cast_ofNat_Int, List.append_nil, eq_mesh_Net_Locate_1])
    rfl
set_option maxHeartbeats 2000000 in
theorem sp_isort3 (fu d : Nat) (hf : 18446744073709551616 ≤ fu) (a w a2 w2 a3 w3 : Nat) (h : a ≠ a2) (h' : a ≠ a3) (h'' : a2 ≠ a3) (ha : a ≤ 1000000) (ha2 : a2 ≤ 1000000) (ha3 : a3 ≤ 1000000) :
    cl fu (d + 2) fn_slices_insertionSortCmpFunc_api_Share [V.own 1000000 0 3, I 0, I 3, V.c (C.fn fn_mesh_Net_Locate_1 [])] [.sb ty_api_Share 0 [.v (.int .i64 a), .v (.int .i64 w), .v (.int .i64 a2), .v (.int .i64 w2), .v (.int .i64 a3), .v (.int .i64 w3)]] = some ⟨V.tup [], [.sb ty_api_Share 0 (fl shc (insAll [(a, w), (a2, w2), (a3, w3)]))], none⟩ := by
  obtain ⟨fu', rfl⟩ : ∃ m, fu = m + 9 := ⟨fu - 9, by omega⟩
  rw [eq_slices_insertionSortCmpFunc_api_Share]
  simp only [insAll, List.foldl, ins]
  by_cases h1 : a < a2
  · rw [if_pos h1]
    simp only [ins]
    by_cases h2 : a2 < a3
    · rw [if_pos (show a < a3 by omega), if_pos h2]
      repeat (rw [iter_s]; simp (disch := omega) only [obs, rC_c, rA_agg, rT_tup, rP_ptr, rW_own, rS_sb, rF_sb, uncV_cons, uncO_cons, nilV_nil, rO_ob, rN_ob, unc_cons, asI_int, asB_bool, asS_string, asSl_sl, asSl_nl, asFn_fn, asP_cp, nrm_sl, nrm_nl, need_true, ct, cf, bd_eq, natD_zero, natD_succ, natD_one, noYl_v, noYl_sl, noYl_nl, noYl_cp, noYl_fn, Bool.and_true, Bool.true_and, Bool.and_self, beqN_self, Bool.not_true, Bool.not_false, Bool.and_false, Bool.false_and, Bool.or_false, Bool.false_or, Bool.or_true, Bool.true_or, wrap_in, dlt_t, dlt_f, dle_t, dle_f, dgt_t, dgt_f, dge_t, dge_f, ibeq_t, ibeq_f, ibne_t, ibne_f, inR_int, beqN_eq, bleN_le, Int.toNat_zero, Int.toNat_one, Int.reduceToNat, Nat.zero_mul, Nat.one_mul, Nat.reduceMul, Nat.zero_add, Nat.reduceAdd, List.drop_zero, List.drop_succ_cons, putAt, List.take_succ_cons, List.take_zero, List.cons_append, List.nil_append, List.length_cons, List.length_nil, Int.reduceAdd, Int.reduceSub, Int.reduceNeg, Int.zero_add, Int.natCast_one, Int.cast_ofNat_Int, List.append_nil, eq_mesh_Net_Locate_1])
      rfl
    · by_cases h3 : a < a3
      · rw [if_pos h3, if_neg h2]
        repeat (rw [iter_s]; simp (disch := omega) only [obs, rC_c, rA_agg, rT_tup, rP_ptr, rW_own, rS_sb, rF_sb, uncV_cons, uncO_cons, nilV_nil, rO_ob, rN_ob, unc_cons, asI_int, asB_bool, asS_string, asSl_sl, asSl_nl, asFn_fn, asP_cp, nrm_sl, nrm_nl, need_true, ct, cf, bd_eq, natD_zero, natD_succ, natD_one, noYl_v, noYl_sl, noYl_nl, noYl_cp, noYl_fn, Bool.and_true, Bool.true_and, Bool.and_self, beqN_self, Bool.not_true, Bool.not_false, Bool.and_false, Bool.false_and, Bool.or_false, Bool.false_or, Bool.or_true, Bool.true_or, wrap_in, dlt_t, dlt_f, dle_t, dle_f, dgt_t, dgt_f, dge_t, dge_f, ibeq_t, ibeq_f, ibne_t, ibne_f, inR_int, beqN_eq, bleN_le, Int.toNat_zero, Int.toNat_one, Int.reduceToNat, Nat.zero_mul, Nat.one_mul, Nat.reduceMul, Nat.zero_add, Nat.reduceAdd, List.drop_zero, List.drop_succ_cons, putAt, List.take_succ_cons, List.take_zero, List.cons_append, List.nil_append, List.length_cons, List.length_nil, Int.reduceAdd, Int.reduceSub, Int.reduceNeg, Int.zero_add, Int.natCast_one, Int.cast_ofNat_Int, List.append_nil, eq_mesh_Net_Locate_1])
        rfl
      · rw [if_neg h3]
        repeat (rw [iter_s]; simp (disch := omega) only [obs, rC_c, rA_agg, rT_tup, rP_ptr, rW_own, rS_sb, rF_sb, uncV_cons, uncO_cons, nilV_nil, rO_ob, rN_ob, unc_cons, asI_int, asB_bool, asS_string, asSl_sl, asSl_nl, asFn_fn, asP_cp, nrm_sl, nrm_nl, need_true, ct, cf, bd_eq, natD_zero, natD_succ, natD_one, noYl_v, noYl_sl, noYl_nl, noYl_cp, noYl_fn, Bool.and_true, Bool.true_and, Bool.and_self, beqN_self, Bool.not_true, Bool.not_false, Bool.and_false, Bool.false_and, Bool.or_false, Bool.false_or, Bool.or_true, Bool.true_or, wrap_in, dlt_t, dlt_f, dle_t, dle_f, dgt_t, dgt_f, dge_t, dge_f, ibeq_t, ibeq_f, ibne_t, ibne_f, inR_int, beqN_eq, bleN_le, Int.toNat_zero, Int.toNat_one, Int.reduceToNat, Nat.zero_mul, Nat.one_mul, Nat.reduceMul, Nat.zero_add, Nat.reduceAdd, List.drop_zero, List.drop_succ_cons, putAt, List.take_succ_cons, List.take_zero, List.cons_append, List.nil_append, List.length_cons, List.length_nil, Int.reduceAdd, Int.reduceSub, Int.reduceNeg, Int.zero_add, Int.natCast_one, Int.cast_ofNat_Int, List.append_nil, eq_mesh_Net_Locate_1])
        rfl
  · rw [if_neg h1]
    simp only [ins]
    by_cases h2 : a < a3
    · rw [if_pos (show a2 < a3 by omega), if_pos h2]
      repeat (rw [iter_s]; simp (disch := omega) only [obs, rC_c, rA_agg, rT_tup, rP_ptr, rW_own, rS_sb, rF_sb, uncV_cons, uncO_cons, nilV_nil, rO_ob, rN_ob, unc_cons, asI_int, asB_bool, asS_string, asSl_sl, asSl_nl, asFn_fn, asP_cp, nrm_sl, nrm_nl, need_true, ct, cf, bd_eq, natD_zero, natD_succ, natD_one, noYl_v, noYl_sl, noYl_nl, noYl_cp, noYl_fn, Bool.and_true, Bool.true_and, Bool.and_self, beqN_self, Bool.not_true, Bool.not_false, Bool.and_false, Bool.false_and, Bool.or_false, Bool.false_or, Bool.or_true, Bool.true_or, wrap_in, dlt_t, dlt_f, dle_t, dle_f, dgt_t, dgt_f, dge_t, dge_f, ibeq_t, ibeq_f, ibne_t, ibne_f, inR_int, beqN_eq, bleN_le, Int.toNat_zero, Int.toNat_one, Int.reduceToNat, Nat.zero_mul, Nat.one_mul, Nat.reduceMul, Nat.zero_add, Nat.reduceAdd, List.drop_zero, List.drop_succ_cons, putAt, List.take_succ_cons, List.take_zero, List.cons_append, List.nil_append, List.length_cons, List.length_nil, Int.reduceAdd, Int.reduceSub, Int.reduceNeg, Int.zero_add, Int.natCast_one, Int.cast_ofNat_Int, List.append_nil, eq_mesh_Net_Locate_1])
      rfl
    · by_cases h3 : a2 < a3
      · rw [if_pos h3, if_neg h2]
        repeat (rw [iter_s]; simp (disch := omega) only [obs, rC_c, rA_agg, rT_tup, rP_ptr, rW_own, rS_sb, rF_sb, uncV_cons, uncO_cons, nilV_nil, rO_ob, rN_ob, unc_cons, asI_int, asB_bool, asS_string, asSl_sl, asSl_nl, asFn_fn, asP_cp, nrm_sl, nrm_nl, need_true, ct, cf, bd_eq, natD_zero, natD_succ, natD_one, noYl_v, noYl_sl, noYl_nl, noYl_cp, noYl_fn, Bool.and_true, Bool.true_and, Bool.and_self, beqN_self, Bool.not_true, Bool.not_false, Bool.and_false, Bool.false_and, Bool.or_false, Bool.false_or, Bool.or_true, Bool.true_or, wrap_in, dlt_t, dlt_f, dle_t, dle_f, dgt_t, dgt_f, dge_t, dge_f, ibeq_t, ibeq_f, ibne_t, ibne_f, inR_int, beqN_eq, bleN_le, Int.toNat_zero, Int.toNat_one, Int.reduceToNat, Nat.zero_mul, Nat.one_mul, Nat.reduceMul, Nat.zero_add, Nat.reduceAdd, List.drop_zero, List.drop_succ_cons, putAt, List.take_succ_cons, List.take_zero, List.cons_append, List.nil_append, List.length_cons, List.length_nil, Int.reduceAdd, Int.reduceSub, Int.reduceNeg, Int.zero_add, Int.natCast_one, Int.cast_ofNat_Int, List.append_nil, eq_mesh_Net_Locate_1])
        rfl
      · rw [if_neg h3]
        repeat (rw [iter_s]; simp (disch := omega) only [obs, rC_c, rA_agg, rT_tup, rP_ptr, rW_own, rS_sb, rF_sb, uncV_cons, uncO_cons, nilV_nil, rO_ob, rN_ob, unc_cons, asI_int, asB_bool, asS_string, asSl_sl, asSl_nl, asFn_fn, asP_cp, nrm_sl, nrm_nl, need_true, ct, cf, bd_eq, natD_zero, natD_succ, natD_one, noYl_v, noYl_sl, noYl_nl, noYl_cp, noYl_fn, Bool.and_true, Bool.true_and, Bool.and_self, beqN_self, Bool.not_true, Bool.not_false, Bool.and_false, Bool.false_and, Bool.or_false, Bool.false_or, Bool.or_true, Bool.true_or, wrap_in, dlt_t, dlt_f, dle_t, dle_f, dgt_t, dgt_f, dge_t, dge_f, ibeq_t, ibeq_f, ibne_t, ibne_f, inR_int, beqN_eq, bleN_le, Int.toNat_zero, Int.toNat_one, Int.reduceToNat, Nat.zero_mul, Nat.one_mul, Nat.reduceMul, Nat.zero_add, Nat.reduceAdd, List.drop_zero, List.drop_succ_cons, putAt, List.take_succ_cons, List.take_zero, List.cons_append, List.nil_append, List.length_cons, List.length_nil, Int.reduceAdd, Int.reduceSub, Int.reduceNeg, Int.zero_add, Int.natCast_one, Int.cast_ofNat_Int, List.append_nil, eq_mesh_Net_Locate_1])
        rfl

theorem sp_Len (fu d : Nat) (m : Nat) (h : m ≤ 3) : ∃ k : Int, cl fu (d + 2) fn_bits_Len [V.c (.v (.int .u64 (IntKind.u64.wrap ((m : Nat) : Int))))] [] = OK (I k) := by
  rw [eq_bits_Len]
  rcases (show m = 0 ∨ m = 1 ∨ m = 2 ∨ m = 3 by omega) with rfl | rfl | rfl | rfl <;> (rw [show (IntKind.u64.wrap ((_ : Nat) : Int)) = ((_ : Nat) : Int) from rfl, eq_bits_Len64]; exact ⟨_, rfl⟩)

theorem insAll_length (l : List (Nat × Nat)) : (insAll l).length = l.length := by
  have : ∀ (l a : List (Nat × Nat)), (l.foldl (fun a s => ins s a) a).length = a.length + l.length := by
    intro l
    induction l with
    | nil => simp
    | cons s l ih => intro a; simp only [List.foldl_cons, ih, ins_length, List.length_cons]; omega
  exact (this l []).trans (Nat.zero_add _)
theorem sp_pdq (fu d : Nat) (hf : 18446744073709551616 ≤ fu) (m : Nat) (hm : m ≤ 12) (lim : Int) (cs cs' : List C) (hl : cs'.length = cs.length)
    (h : cl fu (d + 2) fn_slices_insertionSortCmpFunc_api_Share [V.own 1000000 0 m, I 0, I m, V.c (C.fn fn_mesh_Net_Locate_1 [])] [.sb ty_api_Share 0 cs] = some ⟨V.tup [], [.sb ty_api_Share 0 cs'], none⟩) :
    cl fu (d + 3) fn_slices_pdqsortCmpFunc_api_Share [V.own 1000000 0 m, I 0, I m, I lim, V.c (C.fn fn_mesh_Net_Locate_1 [])] [.sb ty_api_Share 0 cs] = some ⟨V.tup [], [.sb ty_api_Share 0 cs'], none⟩ := by
  rw [eq_slices_pdqsortCmpFunc_api_Share]
  rw [iter_one (e := 0) (z := ((m, cs'), 0, (m : Int), lim, true, true, ())) (by omega) ?_]
  · simp only [obs, rC_c, rA_agg, rT_tup, rP_ptr, rW_own, rS_sb, rF_sb, uncV_cons, uncO_cons, nilV_nil, rO_ob, rN_ob, unc_cons, asI_int, asB_bool, asS_string, asSl_sl, asSl_nl, asFn_fn, asP_cp, nrm_sl, nrm_nl, need_true, ct, cf, bd_eq, natD_zero, natD_succ, natD_one, noYl_v, noYl_sl, noYl_nl, noYl_cp, noYl_fn, Bool.and_true, Bool.true_and, Bool.and_self, beqN_self, Bool.not_true, Bool.not_false, Bool.and_false, Bool.false_and, Bool.or_false, Bool.false_or, Bool.or_true, Bool.true_or]
  · show (bif decide (IntKind.i64.wrap ((m : Int) - 0) ≤ 12) then _ else _) = _
    rw [wrap_in (by omega) (by omega), dle_t (by omega), ct, h]
    simp only [obs, rC_c, rA_agg, rT_tup, rP_ptr, rW_own, rS_sb, rF_sb, uncV_cons, uncO_cons, nilV_nil, rO_ob, rN_ob, unc_cons, asI_int, asB_bool, asS_string, asSl_sl, asSl_nl, asFn_fn, asP_cp, nrm_sl, nrm_nl, need_true, ct, cf, bd_eq, natD_zero, natD_succ, natD_one, noYl_v, noYl_sl, noYl_nl, noYl_cp, noYl_fn, Bool.and_true, Bool.true_and, Bool.and_self, beqN_self, Bool.not_true, Bool.not_false, Bool.and_false, Bool.false_and, Bool.or_false, Bool.false_or, Bool.or_true, Bool.true_or, hl]
theorem sp_SortFunc (fu d : Nat) (hf : 18446744073709551616 ≤ fu) (l : List (Nat × Nat)) (hl : l.length ≤ 3) (hne : l ≠ []) (hd : l.Pairwise fun a b => a.1 ≠ b.1) (hb : ∀ s ∈ l, s.1 ≤ 1000000) :
    cl fu (d + 4) fn_slices_SortFunc_sapi_Share_api_Share [V.own 1000000 0 l.length, V.c (C.fn fn_mesh_Net_Locate_1 [])] [.sb ty_api_Share 0 (fl shc l)] = some ⟨V.tup [], [.sb ty_api_Share 0 (fl shc (insAll l))], none⟩ := by
  obtain ⟨k, hk⟩ := sp_Len fu (d + 1) l.length hl
  have hlen : (fl shc (insAll l)).length = (fl shc l).length := by rw [fl_length shc_length, fl_length shc_length, insAll_length]
  have main : cl fu (d + 2) fn_slices_insertionSortCmpFunc_api_Share [V.own 1000000 0 l.length, I 0, I l.length, V.c (C.fn fn_mesh_Net_Locate_1 [])] [.sb ty_api_Share 0 (fl shc l)] = some ⟨V.tup [], [.sb ty_api_Share 0 (fl shc (insAll l))], none⟩ := by
    match l, hl, hne, hd, hb with
    | [x], _, _, _, _ => exact sp_isort1 fu d hf x.1 x.2
    | [x, y], _, _, hd, hb =>
      simp only [List.pairwise_cons, List.mem_cons, List.not_mem_nil, or_false, forall_eq] at hd
      exact sp_isort2 fu d hf x.1 x.2 y.1 y.2 hd.1 (hb x (by simp)) (hb y (by simp))
    | [x, y, z], _, _, hd, hb =>
      obtain ⟨h1, h2⟩ := List.pairwise_cons.1 hd
      obtain ⟨h3, _⟩ := List.pairwise_cons.1 h2
      exact sp_isort3 fu d hf x.1 x.2 y.1 y.2 z.1 z.2 (h1 y (by simp)) (h1 z (by simp)) (h3 z (by simp)) (hb x (by simp)) (hb y (by simp)) (hb z (by simp))
  have e := sp_pdq fu d hf l.length (by omega) k (fl shc l) (fl shc (insAll l)) hlen main
  rw [eq_slices_SortFunc_sapi_Share_api_Share, hk]
  simp only [obs, rC_c, rA_agg, rT_tup, rP_ptr, rW_own, rS_sb, rF_sb, uncV_cons, uncO_cons, nilV_nil, rO_ob, rN_ob, unc_cons, asI_int, asB_bool, asS_string, asSl_sl, asSl_nl, asFn_fn, asP_cp, nrm_sl, nrm_nl, need_true, ct, cf, bd_eq, natD_zero, natD_succ, natD_one, noYl_v, noYl_sl, noYl_nl, noYl_cp, noYl_fn, Bool.and_true, Bool.true_and, Bool.and_self, beqN_self, Bool.not_true, Bool.not_false, Bool.and_false, Bool.false_and, Bool.or_false, Bool.false_or, Bool.or_true, Bool.true_or, e, hlen]
end Go.Proofs.YtobmbacppbkgeaaDoor
/- The shares of a place: what both functions come to. -/
namespace Go.Proofs.YtobmbacppbkgeaaDoor
open Go Go.PM Go.Grid

theorem noYl_lcC (l : List (Nat × Nat)) (r : List V) : noYl (V.c (lcC l) :: r) = true := by cases l <;> rfl
theorem insAll_filter (n : Nat) : ∀ (cs : List (Pl × Nat)) (a : List (Nat × Nat)), ((cs.filter fun c => decide (0 < c.2)).map fun c => (idx n c.1, c.2)).foldl (fun a s => ins s a) a = cs.foldl (fun a c => if c.2 = 0 then a else ins (idx n c.1, c.2) a) a
  | [], a => rfl
  | c :: cs, a => by
    rw [List.filter_cons]
    by_cases h : 0 < c.2
    · rw [if_pos (by simpa using h), List.map_cons, List.foldl_cons, List.foldl_cons, insAll_filter n cs, if_neg (by omega)]
    · rw [if_neg (by simpa using h), List.foldl_cons, insAll_filter n cs, if_pos (by omega)]
theorem shares_fold (n : Nat) (p : Pl) : shares n p = (corners n p).foldl (fun a c => if c.2 = 0 then a else ins (idx n c.1, c.2) a) [] := insAll_filter n (corners n p) []
theorem shares_ne {n : Nat} (h : freq n) {p : Pl} (hp : p.ok) : shares n p ≠ [] := by
  intro e
  have h1 := (raw_ok h hp).2.2.2.2
  have h2 := insAll_length (raw n p)
  unfold shares at e
  rw [e] at h2
  exact h1 (List.eq_nil_of_length_eq_zero h2.symm)

/-- The parts of a weight. -/
theorem part_facts {n : Nat} (h : freq n) {v : Nat} (hv : v ≤ 840) : v % (840 / n) ≤ v ∧ v % (840 / n) < 840 / n ∧ v % (840 / n) * n ≤ 840 ∧
    IntKind.i64.wrap (IntKind.i64.wrap (Int.tdiv (v : Int) ((840 / n : Nat) : Int)) * ((840 / n : Nat) : Int)) = ((v - v % (840 / n) : Nat) : Int) ∧
    IntKind.i64.wrap ((n : Int) * IntKind.i64.wrap ((v : Int) - ((v - v % (840 / n) : Nat) : Int))) = ((v % (840 / n) * n : Nat) : Int) ∧
    IntKind.i64.wrap (Int.tmod (v : Int) ((840 / n : Nat) : Int) * (n : Int)) = ((v % (840 / n) * n : Nat) : Int) ∧ Int.tmod (v : Int) ((840 / n : Nat) : Int) = ((v % (840 / n) : Nat) : Int) := by
  have hst := step_pos h
  have hm := mul_step h
  have h1 := Nat.mod_lt v (show 0 < 840 / n by omega)
  have h2 := Nat.mul_le_mul_right n (Nat.le_of_lt h1)
  rw [Nat.mul_comm (840 / n) n, hm] at h2
  have h3 := Nat.div_add_mod v (840 / n)
  have hd : Int.tdiv (v : Int) ((840 / n : Nat) : Int) = ((v / (840 / n) : Nat) : Int) := rfl
  have hmo : Int.tmod (v : Int) ((840 / n : Nat) : Int) = ((v % (840 / n) : Nat) : Int) := rfl
  have hle := Nat.mod_le v (840 / n)
  refine ⟨hle, h1, h2, ?_, ?_, ?_, hmo⟩
  · have : v / (840 / n) ≤ v := Nat.div_le_self _ _
    rw [hd, wrap_in (x := ((v / (840 / n) : Nat) : Int)) (Int.le_trans (by decide) (Int.natCast_nonneg _)) (Int.le_trans (Int.ofNat_le.2 (Nat.le_trans this hv)) (by decide)), ← Int.natCast_mul, show v / (840 / n) * (840 / n) = v - v % (840 / n) from by rw [Nat.mul_comm]; omega]
    have hq : v - v % (840 / n) ≤ 840 := Nat.le_trans (Nat.sub_le _ _) hv
    exact wrap_in (Int.le_trans (by decide) (Int.natCast_nonneg _)) (Int.le_trans (Int.ofNat_le.2 hq) (by decide))
  · rw [show (v : Int) - ((v - v % (840 / n) : Nat) : Int) = ((v % (840 / n) : Nat) : Int) by omega, wrap_in (x := ((v % (840 / n) : Nat) : Int)) (by omega) (by omega), ← Int.natCast_mul, Nat.mul_comm n]
    generalize v % (840 / n) * n = m at *
    exact wrap_in (by omega) (by omega)
  · rw [hmo, ← Int.natCast_mul]
    generalize v % (840 / n) * n = m at *
    exact wrap_in (by omega) (by omega)

theorem rsum_mul {n : Nat} (h : freq n) {p : Pl} (hp : p.ok) : (rsum n p = 0 ∧ p.a % (840 / n) * n + p.b % (840 / n) * n + p.c % (840 / n) * n = 0) ∨ (rsum n p = 840 / n ∧ p.a % (840 / n) * n + p.b % (840 / n) * n + p.c % (840 / n) * n = 840) ∨ (rsum n p = 2 * (840 / n) ∧ p.a % (840 / n) * n + p.b % (840 / n) * n + p.c % (840 / n) * n = 1680) := by
  have hm := mul_step h
  rw [Nat.mul_comm] at hm
  have : rsum n p * n = p.a % (840 / n) * n + p.b % (840 / n) * n + p.c % (840 / n) * n := by unfold rsum; rw [Nat.add_mul, Nat.add_mul]
  rcases rsum_cases h hp with e | e | e
  · left; rw [e] at this; exact ⟨e, by omega⟩
  · right; left; rw [e, hm] at this; exact ⟨e, by omega⟩
  · right; right; rw [e, Nat.mul_assoc, hm] at this; exact ⟨e, by omega⟩

theorem sp_ref_Locate (fu d : Nat) (hf : 18446744073709551616 ≤ fu) (n : Nat) (h : freq n) (p : Pl) (hp : p.ok) :
    cl fu (d + 7) fn_synopticref03_Locate [I n, V.agg (plc p)] [] = OK (V.tup [V.c (C.sl (shares n p).length (fl shc (shares n p))), I 0]) := by
  have hst := step_pos h
  have hs := hp.2
  have hn := h
  unfold freq at hn
  obtain ⟨a1, a2, a3, a4, a5, _, _⟩ := part_facts h (show p.a ≤ 840 by omega)
  obtain ⟨b1, b2, b3, b4, b5, _, _⟩ := part_facts h (show p.b ≤ 840 by omega)
  obtain ⟨c1, c2, c3, c4, c5, _, _⟩ := part_facts h (show p.c ≤ 840 by omega)
  have hv := validI_of hp
  have hcp := corners_pts h hp
  have hfin := lcC_ne (shares_ne h hp)
  have hN := sp_ref_Nodes fu d hf n h
  rw [← hfin, shares_fold]
  simp only [plc]
  rw [eq_synopticref03_Locate, sp_ref_Count fu (d + 5) n h, sp_ref_Valid, hv, hN]
  simp only [obs, rC_c, rA_agg, rT_tup, rP_ptr, rW_own, rS_sb, rF_sb, uncV_cons, uncO_cons, nilV_nil, rO_ob, rN_ob, unc_cons, asI_int, asB_bool, asS_string, asSl_sl, asSl_nl, asFn_fn, asP_cp, nrm_sl, nrm_nl, need_true, ct, cf, bd_eq, natD_zero, natD_succ, natD_one, noYl_v, noYl_sl, noYl_nl, noYl_cp, noYl_fn, Bool.and_true, Bool.true_and, Bool.and_self, beqN_self, Bool.not_true, Bool.not_false, Bool.and_false, Bool.false_and, Bool.or_false, Bool.false_or, Bool.or_true, Bool.true_or]
  rw [ibeq_f count_ne, ibeq_f (show (n : Int) ≠ 0 by omega), step_int h, ibeq_f (show ((840 / n : Nat) : Int) ≠ 0 by omega)]
  simp only [obs, rC_c, rA_agg, rT_tup, rP_ptr, rW_own, rS_sb, rF_sb, uncV_cons, uncO_cons, nilV_nil, rO_ob, rN_ob, unc_cons, asI_int, asB_bool, asS_string, asSl_sl, asSl_nl, asFn_fn, asP_cp, nrm_sl, nrm_nl, need_true, ct, cf, bd_eq, natD_zero, natD_succ, natD_one, noYl_v, noYl_sl, noYl_nl, noYl_cp, noYl_fn, Bool.and_true, Bool.true_and, Bool.and_self, beqN_self, Bool.not_true, Bool.not_false, Bool.and_false, Bool.false_and, Bool.or_false, Bool.false_or, Bool.or_true, Bool.true_or, a4, b4, c4, a5, b5, c5]
  have sh := fun (l : List (Nat × Nat)) (hl : l.length ≤ 1000) (a w : Nat) => sp_share fu (d + 5) hf l hl (a, w)
  simp only at sh
  have at' := fun q (hq : q ∈ pts n) => sp_ref_at fu (d + 1) hf n h q hq
  unfold corners at hcp ⊢
  have insl : ∀ (l : List (Nat × Nat)) (w : Nat) (s : Nat × Nat), (if w = 0 then l else ins s l).length ≤ l.length + 1 := fun l w s => by split <;> simp [ins_length]
  have hnil : C.nl = lcC [] := rfl
  rcases rsum_mul h hp with ⟨e, e'⟩ | ⟨e, e'⟩ | ⟨e, e'⟩
  · rw [if_pos e] at hcp ⊢
    have q1 := at' p (hcp (p, 840) (by simp)).1
    have s1 := sh [] (by simp) (idx n p) 840
    generalize p.a % (840 / n) * n = xa at *
    generalize p.b % (840 / n) * n = xb at *
    generalize p.c % (840 / n) * n = xc at *
    simp (disch := omega) only [obs, rC_c, rA_agg, rT_tup, rP_ptr, rW_own, rS_sb, rF_sb, uncV_cons, uncO_cons, nilV_nil, rO_ob, rN_ob, unc_cons, asI_int, asB_bool, asS_string, asSl_sl, asSl_nl, asFn_fn, asP_cp, nrm_sl, nrm_nl, need_true, ct, cf, bd_eq, natD_zero, natD_succ, natD_one, noYl_v, noYl_sl, noYl_nl, noYl_cp, noYl_fn, Bool.and_true, Bool.true_and, Bool.and_self, beqN_self, Bool.not_true, Bool.not_false, Bool.and_false, Bool.false_and, Bool.or_false, Bool.false_or, Bool.or_true, Bool.true_or, wrap_in, dlt_t, dlt_f, dle_t, dle_f, dgt_t, dgt_f, dge_t, dge_f, ibeq_t, ibeq_f, ibne_t, ibne_f, inR_int, beqN_eq, bleN_le, q1]
    rw [hnil, show ((840 : Int)) = ((840 : Nat) : Int) from rfl, s1]
    simp only [obs, rC_c, rA_agg, rT_tup, rP_ptr, rW_own, rS_sb, rF_sb, uncV_cons, uncO_cons, nilV_nil, rO_ob, rN_ob, unc_cons, asI_int, asB_bool, asS_string, asSl_sl, asSl_nl, asFn_fn, asP_cp, nrm_sl, nrm_nl, need_true, ct, cf, bd_eq, natD_zero, natD_succ, natD_one, noYl_v, noYl_sl, noYl_nl, noYl_cp, noYl_fn, Bool.and_true, Bool.true_and, Bool.and_self, beqN_self, Bool.not_true, Bool.not_false, Bool.and_false, Bool.false_and, Bool.or_false, Bool.false_or, Bool.or_true, Bool.true_or, List.foldl]
  · rw [if_neg (by omega), if_pos e] at hcp ⊢
    have q1 := at' _ (hcp _ (.head _)).1
    have q2 := at' _ (hcp _ (.tail _ (.head _))).1
    have q3 := at' _ (hcp _ (.tail _ (.tail _ (.head _)))).1
    simp only [List.foldl]
    generalize idx n (⟨p.f, p.a - p.a % (840 / n) + 840 / n, p.b - p.b % (840 / n), p.c - p.c % (840 / n)⟩ : Pl) = i1 at *
    generalize idx n (⟨p.f, p.a - p.a % (840 / n), p.b - p.b % (840 / n) + 840 / n, p.c - p.c % (840 / n)⟩ : Pl) = i2 at *
    generalize idx n (⟨p.f, p.a - p.a % (840 / n), p.b - p.b % (840 / n), p.c - p.c % (840 / n) + 840 / n⟩ : Pl) = i3 at *
    simp only at q1 q2 q3
    generalize p.a % (840 / n) * n = xa at *
    generalize p.b % (840 / n) * n = xb at *
    generalize p.c % (840 / n) * n = xc at *
    generalize hr1 : p.a - p.a % (840 / n) = ra at *
    generalize hr2 : p.b - p.b % (840 / n) = rb at *
    generalize hr3 : p.c - p.c % (840 / n) = rc at *
    generalize 840 / n = st at *
    simp only [Int.natCast_add] at q1 q2 q3
    have s1 := sh [] (by simp) i1 xa
    have s2 := sh (if xa = 0 then [] else ins (i1, xa) []) (by have := insl [] xa (i1, xa); simp at this ⊢; omega) i2 xb
    have s3 := sh (if xb = 0 then (if xa = 0 then [] else ins (i1, xa) []) else ins (i2, xb) (if xa = 0 then [] else ins (i1, xa) [])) (by have h1 := insl [] xa (i1, xa); have h2 := insl (if xa = 0 then [] else ins (i1, xa) []) xb (i2, xb); simp at h1 h2 ⊢; omega) i3 xc
    simp (disch := omega) only [obs, rC_c, rA_agg, rT_tup, rP_ptr, rW_own, rS_sb, rF_sb, uncV_cons, uncO_cons, nilV_nil, rO_ob, rN_ob, unc_cons, asI_int, asB_bool, asS_string, asSl_sl, asSl_nl, asFn_fn, asP_cp, nrm_sl, nrm_nl, need_true, ct, cf, bd_eq, natD_zero, natD_succ, natD_one, noYl_v, noYl_sl, noYl_nl, noYl_cp, noYl_fn, Bool.and_true, Bool.true_and, Bool.and_self, beqN_self, Bool.not_true, Bool.not_false, Bool.and_false, Bool.false_and, Bool.or_false, Bool.false_or, Bool.or_true, Bool.true_or, wrap_in, dlt_t, dlt_f, dle_t, dle_f, dgt_t, dgt_f, dge_t, dge_f, ibeq_t, ibeq_f, ibne_t, ibne_f, inR_int, beqN_eq, bleN_le, q1, q2, q3, hnil, s1, s2, s3, noYl_lcC]
  · rw [if_neg (by omega), if_neg (by omega)] at hcp ⊢
    have q1 := at' _ (hcp _ (.head _)).1
    have q2 := at' _ (hcp _ (.tail _ (.head _))).1
    have q3 := at' _ (hcp _ (.tail _ (.tail _ (.head _)))).1
    simp only [List.foldl]
    generalize idx n (⟨p.f, p.a - p.a % (840 / n), p.b - p.b % (840 / n) + 840 / n, p.c - p.c % (840 / n) + 840 / n⟩ : Pl) = i1 at *
    generalize idx n (⟨p.f, p.a - p.a % (840 / n) + 840 / n, p.b - p.b % (840 / n), p.c - p.c % (840 / n) + 840 / n⟩ : Pl) = i2 at *
    generalize idx n (⟨p.f, p.a - p.a % (840 / n) + 840 / n, p.b - p.b % (840 / n) + 840 / n, p.c - p.c % (840 / n)⟩ : Pl) = i3 at *
    simp only at q1 q2 q3
    generalize p.a % (840 / n) * n = xa at *
    generalize p.b % (840 / n) * n = xb at *
    generalize p.c % (840 / n) * n = xc at *
    generalize hr1 : p.a - p.a % (840 / n) = ra at *
    generalize hr2 : p.b - p.b % (840 / n) = rb at *
    generalize hr3 : p.c - p.c % (840 / n) = rc at *
    generalize 840 / n = st at *
    simp only [Int.natCast_add] at q1 q2 q3
    have k1 : (840 : Int) - (xa : Int) = ((840 - xa : Nat) : Int) := by omega
    have k2 : (840 : Int) - (xb : Int) = ((840 - xb : Nat) : Int) := by omega
    have k3 : (840 : Int) - (xc : Int) = ((840 - xc : Nat) : Int) := by omega
    generalize hy1 : 840 - xa = ya at *
    generalize hy2 : 840 - xb = yb at *
    generalize hy3 : 840 - xc = yc at *
    have s1 := sh [] (by simp) i1 ya
    have s2 := sh (if ya = 0 then [] else ins (i1, ya) []) (by have := insl [] ya (i1, ya); simp at this ⊢; omega) i2 yb
    have s3 := sh (if yb = 0 then (if ya = 0 then [] else ins (i1, ya) []) else ins (i2, yb) (if ya = 0 then [] else ins (i1, ya) [])) (by have h1 := insl [] ya (i1, ya); have h2 := insl (if ya = 0 then [] else ins (i1, ya) []) yb (i2, yb); simp at h1 h2 ⊢; omega) i3 yc
    simp (disch := omega) only [obs, rC_c, rA_agg, rT_tup, rP_ptr, rW_own, rS_sb, rF_sb, uncV_cons, uncO_cons, nilV_nil, rO_ob, rN_ob, unc_cons, asI_int, asB_bool, asS_string, asSl_sl, asSl_nl, asFn_fn, asP_cp, nrm_sl, nrm_nl, need_true, ct, cf, bd_eq, natD_zero, natD_succ, natD_one, noYl_v, noYl_sl, noYl_nl, noYl_cp, noYl_fn, Bool.and_true, Bool.true_and, Bool.and_self, beqN_self, Bool.not_true, Bool.not_false, Bool.and_false, Bool.false_and, Bool.or_false, Bool.false_or, Bool.or_true, Bool.true_or, wrap_in, dlt_t, dlt_f, dle_t, dle_f, dgt_t, dgt_f, dge_t, dge_f, ibeq_t, ibeq_f, ibne_t, ibne_f, inR_int, beqN_eq, bleN_le, k1, k2, k3, q1, q2, q3, hnil, s1, s2, s3, noYl_lcC]
end Go.Proofs.YtobmbacppbkgeaaDoor
/- The shares of a place, by the program. -/
namespace Go.Proofs.YtobmbacppbkgeaaDoor
open Go Go.PM Go.Grid

def wc1 (w : Nat) : List C := [.v (.int .i64 w)]
theorem wc1_length (w : Nat) : (wc1 w).length = 1 := rfl
def rawTo (n : Nat) (cs : List (Pl × Nat)) (j : Nat) : List (Nat × Nat) := ((cs.take j).filter fun c => decide (0 < c.2)).map fun c => (idx n c.1, c.2)
theorem rawTo_succ (n : Nat) (cs : List (Pl × Nat)) (j : Nat) (h : j < cs.length) : rawTo n cs (j + 1) = if 0 < cs[j].2 then rawTo n cs j ++ [(idx n cs[j].1, cs[j].2)] else rawTo n cs j := by
  unfold rawTo
  rw [List.take_succ_eq_append_getElem h, List.filter_append, List.map_append]
  simp only [List.filter_cons, List.filter_nil, decide_eq_true_eq]
  split <;> simp
theorem sh_snoc (l : List (Nat × Nat)) (a w : Nat) : fl shc l ++ [.v (.int .i64 a), .v (.int .i64 w)] = fl shc (l ++ [(a, w)]) := fl_snoc l (a, w)
theorem rawTo_le (n : Nat) (cs : List (Pl × Nat)) (j : Nat) : (rawTo n cs j).length ≤ j := by
  unfold rawTo
  rw [List.length_map]
  refine Nat.le_trans (List.length_filter_le _ _) ?_
  rw [List.length_take]; omega

theorem sp_moved (fu d : Nat) (f a b c x y z : Int) : cl fu (d + 1) fn_mesh_moved [V.agg [.v (.int .i64 f), .v (.int .i64 a), .v (.int .i64 b), .v (.int .i64 c)], I x, I y, I z] [] = OK (V.agg [.v (.int .i64 f), .v (.int .i64 (IntKind.i64.wrap (a + x))), .v (.int .i64 (IntKind.i64.wrap (b + y))), .v (.int .i64 (IntKind.i64.wrap (c + z)))]) := by rw [eq_mesh_moved]

/-- The shares of the corners that have a weight, in order. -/
theorem sp_tail (fu d : Nat) (hf : 18446744073709551616 ≤ fu) (n : Nat) (h : freq n) (cs : List (Pl × Nat)) (hl : cs.length = 3) (hcp : ∀ c ∈ cs, c.1 ∈ pts n) (hw : ∀ c ∈ cs, c.2 ≤ 840) (hne : rawTo n cs 3 ≠ []) (hd : (rawTo n cs 3).Pairwise fun a b => a.1 ≠ b.1) :
    ((iter (fun (y : List C × Int × Unit) =>
      bif decide (y.2.1 < 3) then
        need (inR y.2.1 3) <|
        unc (List.drop (y.2.1.toNat * 4) (List.take 12 (fl plc (cs.map (·.1))))) fun c5 r4 =>
        asI .i64 c5 fun i5 =>
        unc r4 fun c6 r5 =>
        asI .i64 c6 fun i6 =>
        unc r5 fun c7 r6 =>
        asI .i64 c7 fun i7 =>
        unc r6 fun c8 _ =>
        asI .i64 c8 fun i8 =>
        need (inR y.2.1 3) <|
        unc (List.drop (y.2.1.toNat * 1) (fl wc1 (cs.map (·.2)))) fun c9 _ =>
        asI .i64 c9 fun i9 =>
        bif decide (i9 > 0) then
          (cl fu (d + 5) fn_mesh_Net_at [V.c (C.cp (netC n (nodes n))), V.agg ([C.v (.int .i64 i5), C.v (.int .i64 i6), C.v (.int .i64 i7), C.v (.int .i64 i8)])] []).bind fun out4 =>
          rC out4.r fun c10 =>
          asI .i64 c10 fun i10 =>
          need (inR y.2.1 3) <|
          unc (List.drop (y.2.1.toNat * 1) (fl wc1 (cs.map (·.2)))) fun c11 _ =>
          asI .i64 c11 fun i11 =>
          need ((((Nat.beq ((y.1.length / 2) * 2) y.1.length) && true) && (Nat.ble (((y.1.length / 2) + 1) * 16) 140737488355328)) && (Nat.ble ((y.1.length / 2) + 1) 140737488355328)) <|
          need (((Nat.beq (((y.1.length / 2) + 1) * 2) ((y.1 ++ ([C.v (.int .i64 i10), C.v (.int .i64 i11)])).length)) && true) && true) <|
          some (0, (y.1 ++ ([C.v (.int .i64 i10), C.v (.int .i64 i11)]), IntKind.i64.wrap (y.2.1 + 1), ()))
        else
          need (((Nat.beq ((y.1.length / 2) * 2) y.1.length) && true) && true) <|
          some (0, (y.1, IntKind.i64.wrap (y.2.1 + 1), ()))
      else
        need (((Nat.beq ((y.1.length / 2) * 2) y.1.length) && true) && true) <|
        some (1, (y.1, y.2.1, ()))) fu ([], 0, ())).bind fun p2 =>
    (cl fu (d + 5) fn_slices_SortFunc_sapi_Share_api_Share [V.own 1000000 0 (p2.2.1.length / 2), V.c (C.fn fn_mesh_Net_Locate_1 ([]))] [.sb ty_api_Share 0 p2.2.1]).bind fun out5 =>
    uncO out5.objs fun o os =>
    rS o ty_api_Share 0 fun cs5 =>
    need (Nat.beq cs5.length p2.2.1.length) <|
    need (Nat.ble (0 + ((p2.2.1.length / 2) * 2)) cs5.length) <|
    some ⟨V.c (C.sl (p2.2.1.length / 2) (List.take ((p2.2.1.length / 2) * 2) cs5)), [], none⟩) = OK (V.c (C.sl (insAll (rawTo n cs 3)).length (fl shc (insAll (rawTo n cs 3))))) := by
  have hr := rawTo_le n cs 3
  have hS := sp_SortFunc fu (d + 1) hf (rawTo n cs 3) hr hne hd (fun s hs => by
    unfold rawTo at hs
    obtain ⟨c, hc, rfl⟩ := List.mem_map.1 hs
    have hm := List.mem_of_mem_take (List.mem_filter.1 hc).1
    have h1 := idx_lt h (hcp c hm)
    have h2 := nodes_le h
    show idx n c.1 ≤ 1000000
    omega)
  rw [iter_runx (fun j : Nat => (fl shc (rawTo n cs j), (j : Int), ())) 0 (fl shc (rawTo n cs 3), (3 : Int), ()) 3 ?_ ?_ ?_ (by omega)]
  · simp (disch := omega) only [obs, rC_c, rA_agg, rT_tup, rP_ptr, rW_own, rS_sb, rF_sb, uncV_cons, uncO_cons, nilV_nil, rO_ob, rN_ob, unc_cons, asI_int, asB_bool, asS_string, asSl_sl, asSl_nl, asFn_fn, asP_cp, nrm_sl, nrm_nl, need_true, ct, cf, bd_eq, natD_zero, natD_succ, natD_one, noYl_v, noYl_sl, noYl_nl, noYl_cp, noYl_fn, Bool.and_true, Bool.true_and, Bool.and_self, beqN_self, Bool.not_true, Bool.not_false, Bool.and_false, Bool.false_and, Bool.or_false, Bool.false_or, Bool.or_true, Bool.true_or, wrap_in, dlt_t, dlt_f, dle_t, dle_f, dgt_t, dgt_f, dge_t, dge_f, ibeq_t, ibeq_f, ibne_t, ibne_f, inR_int, beqN_eq, bleN_le, fl_length shc_length, sh_div, hS, insAll_length, Nat.zero_add]
    rw [List.take_of_length_le (by rw [fl_length shc_length, insAll_length]; omega)]
  · rfl
  · intro j hj
    have hjl : j < cs.length := by omega
    have hm : cs[j] ∈ cs := List.getElem_mem hjl
    have hA := sp_at fu d hf n h cs[j].1 (hcp _ hm)
    have hW := hw _ hm
    have hr := rawTo_le n cs j
    have t1 : List.take 12 (fl plc (cs.map (·.1))) = fl plc (cs.map (·.1)) := List.take_of_length_le (by rw [fl_length plc_length, List.length_map, hl]; omega)
    have hd1 := fl_at plc_length (l := cs.map (·.1)) (k := j) (by simpa using hjl)
    have hd2 := fl_at wc1_length (l := cs.map (·.2)) (k := j) (by simpa using hjl)
    rw [List.getElem_map] at hd1 hd2
    rw [rawTo_succ n cs j hjl]
    simp only [plc] at hA
    by_cases hp : 0 < cs[j].2
    · rw [if_pos hp]
      simp (disch := omega) only [obs, rC_c, rA_agg, rT_tup, rP_ptr, rW_own, rS_sb, rF_sb, uncV_cons, uncO_cons, nilV_nil, rO_ob, rN_ob, unc_cons, asI_int, asB_bool, asS_string, asSl_sl, asSl_nl, asFn_fn, asP_cp, nrm_sl, nrm_nl, need_true, ct, cf, bd_eq, natD_zero, natD_succ, natD_one, noYl_v, noYl_sl, noYl_nl, noYl_cp, noYl_fn, Bool.and_true, Bool.true_and, Bool.and_self, beqN_self, Bool.not_true, Bool.not_false, Bool.and_false, Bool.false_and, Bool.or_false, Bool.false_or, Bool.or_true, Bool.true_or, wrap_in, dlt_t, dlt_f, dle_t, dle_f, dgt_t, dgt_f, dge_t, dge_f, ibeq_t, ibeq_f, ibne_t, ibne_f, inR_int, beqN_eq, bleN_le, t1, hd1, hd2, plc, wc1, Int.toNat_natCast, List.cons_append, List.nil_append, hA, fl_length shc_length, sh_div, sh_snoc, List.length_append, List.length_cons, List.length_nil, Nat.zero_add, Int.natCast_add, Int.natCast_one]
    · rw [if_neg hp]
      simp (disch := omega) only [obs, rC_c, rA_agg, rT_tup, rP_ptr, rW_own, rS_sb, rF_sb, uncV_cons, uncO_cons, nilV_nil, rO_ob, rN_ob, unc_cons, asI_int, asB_bool, asS_string, asSl_sl, asSl_nl, asFn_fn, asP_cp, nrm_sl, nrm_nl, need_true, ct, cf, bd_eq, natD_zero, natD_succ, natD_one, noYl_v, noYl_sl, noYl_nl, noYl_cp, noYl_fn, Bool.and_true, Bool.true_and, Bool.and_self, beqN_self, Bool.not_true, Bool.not_false, Bool.and_false, Bool.false_and, Bool.or_false, Bool.false_or, Bool.or_true, Bool.true_or, wrap_in, dlt_t, dlt_f, dle_t, dle_f, dgt_t, dgt_f, dge_t, dge_f, ibeq_t, ibeq_f, ibne_t, ibne_f, inR_int, beqN_eq, bleN_le, t1, hd1, hd2, plc, wc1, Int.toNat_natCast, List.cons_append, List.nil_append, fl_length shc_length, sh_div, Int.natCast_add, Int.natCast_one]
  · simp (disch := omega) only [obs, rC_c, rA_agg, rT_tup, rP_ptr, rW_own, rS_sb, rF_sb, uncV_cons, uncO_cons, nilV_nil, rO_ob, rN_ob, unc_cons, asI_int, asB_bool, asS_string, asSl_sl, asSl_nl, asFn_fn, asP_cp, nrm_sl, nrm_nl, need_true, ct, cf, bd_eq, natD_zero, natD_succ, natD_one, noYl_v, noYl_sl, noYl_nl, noYl_cp, noYl_fn, Bool.and_true, Bool.true_and, Bool.and_self, beqN_self, Bool.not_true, Bool.not_false, Bool.and_false, Bool.false_and, Bool.or_false, Bool.false_or, Bool.or_true, Bool.true_or, wrap_in, dlt_t, dlt_f, dle_t, dle_f, dgt_t, dgt_f, dge_t, dge_f, ibeq_t, ibeq_f, ibne_t, ibne_f, inR_int, beqN_eq, bleN_le, fl_length shc_length, sh_div]
    rfl

theorem sp_upward (fu d : Nat) (n : Nat) (h : freq n) (l : List Pl) (f a b c : Nat) (ha : a ≤ 840) (hb : b ≤ 840) (hc : c ≤ 840) :
    cl fu (d + 2) fn_mesh_Net_upward [V.c (C.cp (netC n l)), V.agg (plc ⟨f, a, b, c⟩)] [] = OK (V.agg (fl plc [⟨f, a + 840 / n, b, c⟩, ⟨f, a, b + 840 / n, c⟩, ⟨f, a, b, c + 840 / n⟩])) := by
  have hst := step_pos h
  simp only [plc]
  rw [eq_mesh_Net_upward]
  generalize 840 / n = s at *
  simp (disch := omega) only [obs, rC_c, rA_agg, rT_tup, rP_ptr, rW_own, rS_sb, rF_sb, uncV_cons, uncO_cons, nilV_nil, rO_ob, rN_ob, unc_cons, asI_int, asB_bool, asS_string, asSl_sl, asSl_nl, asFn_fn, asP_cp, nrm_sl, nrm_nl, need_true, ct, cf, bd_eq, natD_zero, natD_succ, natD_one, noYl_v, noYl_sl, noYl_nl, noYl_cp, noYl_fn, Bool.and_true, Bool.true_and, Bool.and_self, beqN_self, Bool.not_true, Bool.not_false, Bool.and_false, Bool.false_and, Bool.or_false, Bool.false_or, Bool.or_true, Bool.true_or, wrap_in, dlt_t, dlt_f, dle_t, dle_f, dgt_t, dgt_f, dge_t, dge_f, ibeq_t, ibeq_f, ibne_t, ibne_f, inR_int, beqN_eq, bleN_le, sp_moved, List.length_cons, List.length_nil, Nat.zero_add, Nat.reduceAdd, Int.add_zero]
  simp only [fl_cons, fl_nil, plc, List.cons_append, List.nil_append, Int.natCast_add]
theorem sp_downward (fu d : Nat) (n : Nat) (h : freq n) (l : List Pl) (f a b c : Nat) (ha : a ≤ 840) (hb : b ≤ 840) (hc : c ≤ 840) :
    cl fu (d + 2) fn_mesh_Net_downward [V.c (C.cp (netC n l)), V.agg (plc ⟨f, a, b, c⟩)] [] = OK (V.agg (fl plc [⟨f, a, b + 840 / n, c + 840 / n⟩, ⟨f, a + 840 / n, b, c + 840 / n⟩, ⟨f, a + 840 / n, b + 840 / n, c⟩])) := by
  have hst := step_pos h
  simp only [plc]
  rw [eq_mesh_Net_downward]
  generalize 840 / n = s at *
  simp (disch := omega) only [obs, rC_c, rA_agg, rT_tup, rP_ptr, rW_own, rS_sb, rF_sb, uncV_cons, uncO_cons, nilV_nil, rO_ob, rN_ob, unc_cons, asI_int, asB_bool, asS_string, asSl_sl, asSl_nl, asFn_fn, asP_cp, nrm_sl, nrm_nl, need_true, ct, cf, bd_eq, natD_zero, natD_succ, natD_one, noYl_v, noYl_sl, noYl_nl, noYl_cp, noYl_fn, Bool.and_true, Bool.true_and, Bool.and_self, beqN_self, Bool.not_true, Bool.not_false, Bool.and_false, Bool.false_and, Bool.or_false, Bool.false_or, Bool.or_true, Bool.true_or, wrap_in, dlt_t, dlt_f, dle_t, dle_f, dgt_t, dgt_f, dge_t, dge_f, ibeq_t, ibeq_f, ibne_t, ibne_f, inR_int, beqN_eq, bleN_le, sp_moved, List.length_cons, List.length_nil, Nat.zero_add, Nat.reduceAdd, Int.add_zero]
  simp only [fl_cons, fl_nil, plc, List.cons_append, List.nil_append, Int.natCast_add]

theorem put3 (a b c : Pl) : putAt [C.v (.int .i64 0), C.v (.int .i64 0), C.v (.int .i64 0), C.v (.int .i64 0), C.v (.int .i64 0), C.v (.int .i64 0), C.v (.int .i64 0), C.v (.int .i64 0), C.v (.int .i64 0), C.v (.int .i64 0), C.v (.int .i64 0), C.v (.int .i64 0)] 0 (fl plc [a, b, c]) = fl plc [a, b, c] := id rfl
theorem fw3 (x y z : Nat) : fl wc1 [x, y, z] = [.v (.int .i64 x), .v (.int .i64 y), .v (.int .i64 z)] := id rfl
theorem ble1212 : Nat.ble 12 12 = true := id rfl
theorem raw_to (n : Nat) (p : Pl) (hl : (corners n p).length = 3) : rawTo n (corners n p) 3 = raw n p := by
  unfold rawTo raw; rw [List.take_of_length_le (by omega)]

set_option maxHeartbeats 1000000 in
theorem sp_Locate (fu d : Nat) (hf : 18446744073709551616 ≤ fu) (n : Nat) (h : freq n) (p : Pl) (hp : p.ok) :
    cl fu (d + 6) fn_mesh_Net_Locate [V.c (C.cp (netC n (nodes n))), V.agg (plc p)] [] = OK (V.c (C.sl (shares n p).length (fl shc (shares n p)))) := by
  have hst := step_pos h
  have hs := hp.2
  have hn := h
  unfold freq at hn
  obtain ⟨a1, a2, a3, _, _, a6, a7⟩ := part_facts h (show p.a ≤ 840 by omega)
  obtain ⟨b1, b2, b3, _, _, b6, b7⟩ := part_facts h (show p.b ≤ 840 by omega)
  obtain ⟨c1, c2, c3, _, _, c6, c7⟩ := part_facts h (show p.c ≤ 840 by omega)
  have hcp := corners_pts h hp
  have hraw := raw_ok h hp
  rw [show plc p = [.v (.int .i64 p.f), .v (.int .i64 p.a), .v (.int .i64 p.b), .v (.int .i64 p.c)] from rfl, eq_mesh_Net_Locate]
  rw [ibeq_f (show ((840 / n : Nat) : Int) ≠ 0 by omega)]
  have hu := fun f a b c h1 h2 h3 => sp_upward fu (d + 3) n h (nodes n) f a b c h1 h2 h3
  have hdn := fun f a b c h1 h2 h3 => sp_downward fu (d + 3) n h (nodes n) f a b c h1 h2 h3
  simp only [plc] at hu hdn
  have hA := sp_at fu d hf n h p
  simp only [plc] at hA
  rw [sp_moved]
  simp only [a7, b7, c7] at a6 b6 c6 ⊢
  simp only [a6, b6, c6]
  have ea : ((p.a - p.a % (840 / n) : Nat) : Int) = (p.a : Int) + (0 - ((p.a % (840 / n) : Nat) : Int)) := by omega
  have eb : ((p.b - p.b % (840 / n) : Nat) : Int) = (p.b : Int) + (0 - ((p.b % (840 / n) : Nat) : Int)) := by omega
  have ec : ((p.c - p.c % (840 / n) : Nat) : Int) = (p.c : Int) + (0 - ((p.c % (840 / n) : Nat) : Int)) := by omega
  have la : p.a - p.a % (840 / n) ≤ 840 := by omega
  have lb : p.b - p.b % (840 / n) ≤ 840 := by omega
  have lc : p.c - p.c % (840 / n) ≤ 840 := by omega
  have hu := hu p.f _ _ _ la lb lc
  have hdn := hdn p.f _ _ _ la lb lc
  have ht := sp_tail fu d hf n h (corners n p)
  have key : (corners n p).length = 3 → (∀ c ∈ corners n p, c.2 ≤ 840) → _ := fun hl hw => ht hl (fun c hc => (hcp c hc).1) hw (by rw [raw_to n p hl]; exact hraw.2.2.2.2) (by rw [raw_to n p hl]; exact hraw.1)
  rcases rsum_mul h hp with ⟨e, e'⟩ | ⟨e, e'⟩ | ⟨e, e'⟩
  · have hA := hA (by have := (hcp (p, 840) (by unfold corners; rw [if_pos e]; simp)).1; exact this)
    have hsh : shares n p = [(idx n p, 840)] := by unfold shares raw corners; rw [if_pos e]; rfl
    rw [hsh]
    clear key ht hu hdn hcp hraw
    generalize p.a % (840 / n) * n = xa at *
    generalize p.b % (840 / n) * n = xb at *
    generalize p.c % (840 / n) * n = xc at *
    generalize p.a % (840 / n) = ma at *
    generalize p.b % (840 / n) = mb at *
    generalize p.c % (840 / n) = mc at *
    simp (disch := omega) only [obs, rC_c, rA_agg, rT_tup, rP_ptr, rW_own, rS_sb, rF_sb, uncV_cons, uncO_cons, nilV_nil, rO_ob, rN_ob, unc_cons, asI_int, asB_bool, asS_string, asSl_sl, asSl_nl, asFn_fn, asP_cp, nrm_sl, nrm_nl, need_true, ct, cf, bd_eq, natD_zero, natD_succ, natD_one, noYl_v, noYl_sl, noYl_nl, noYl_cp, noYl_fn, Bool.and_true, Bool.true_and, Bool.and_self, beqN_self, Bool.not_true, Bool.not_false, Bool.and_false, Bool.false_and, Bool.or_false, Bool.false_or, Bool.or_true, Bool.true_or, wrap_in, dlt_t, dlt_f, dle_t, dle_f, dgt_t, dgt_f, dge_t, dge_f, ibeq_t, ibeq_f, ibne_t, ibne_f, inR_int, beqN_eq, bleN_le, List.length_cons, List.length_nil, Nat.zero_add, Nat.reduceAdd, hA]
    rfl
  · have hl : (corners n p).length = 3 := by unfold corners; rw [if_neg (by omega), if_pos e]; rfl
    have key := key hl (by unfold corners; rw [if_neg (by omega), if_pos e]; intro c hc; simp only [List.mem_cons, List.not_mem_nil, or_false] at hc; rcases hc with rfl | rfl | rfl <;> assumption)
    rw [raw_to n p hl, show corners n p = _ from by unfold corners; rw [if_neg (by omega), if_pos e]] at key
    simp only [List.map_cons, List.map_nil] at key
    clear ht hdn hcp hraw hA
    generalize hsh : insAll (raw n p) = S at key
    have hsh' : shares n p = S := hsh
    rw [hsh']
    generalize p.a % (840 / n) * n = xa at *
    generalize p.b % (840 / n) * n = xb at *
    generalize p.c % (840 / n) * n = xc at *
    generalize hra : p.a - p.a % (840 / n) = ra at *
    generalize hrb : p.b - p.b % (840 / n) = rb at *
    generalize hrc : p.c - p.c % (840 / n) = rc at *
    generalize p.a % (840 / n) = ma at *
    generalize p.b % (840 / n) = mb at *
    generalize p.c % (840 / n) = mc at *
    simp (disch := omega) only [obs, rC_c, rA_agg, rT_tup, rP_ptr, rW_own, rS_sb, rF_sb, uncV_cons, uncO_cons, nilV_nil, rO_ob, rN_ob, unc_cons, asI_int, asB_bool, asS_string, asSl_sl, asSl_nl, asFn_fn, asP_cp, nrm_sl, nrm_nl, need_true, ct, cf, bd_eq, natD_zero, natD_succ, natD_one, noYl_v, noYl_sl, noYl_nl, noYl_cp, noYl_fn, Bool.and_true, Bool.true_and, Bool.and_self, beqN_self, Bool.not_true, Bool.not_false, Bool.and_false, Bool.false_and, Bool.or_false, Bool.false_or, Bool.or_true, Bool.true_or, wrap_in, dlt_t, dlt_f, dle_t, dle_f, dgt_t, dgt_f, dge_t, dge_f, ibeq_t, ibeq_f, ibne_t, ibne_f, inR_int, beqN_eq, bleN_le, List.length_cons, List.length_nil, Nat.zero_add, Nat.reduceAdd, ← ea, ← eb, ← ec, hu, fl_length plc_length, Nat.reduceMul, put3, fw3, ble1212] at key ⊢
    exact key
  · have hl : (corners n p).length = 3 := by unfold corners; rw [if_neg (by omega), if_neg (by omega)]; rfl
    have key := key hl (by unfold corners; rw [if_neg (by omega), if_neg (by omega)]; intro c hc; simp only [List.mem_cons, List.not_mem_nil, or_false] at hc; rcases hc with rfl | rfl | rfl <;> exact Nat.sub_le _ _)
    rw [raw_to n p hl, show corners n p = _ from by unfold corners; rw [if_neg (by omega), if_neg (by omega)]] at key
    simp only [List.map_cons, List.map_nil] at key
    clear ht hu hcp hraw hA
    generalize hsh : insAll (raw n p) = S at key
    have hsh' : shares n p = S := hsh
    rw [hsh']
    generalize p.a % (840 / n) * n = xa at *
    generalize p.b % (840 / n) * n = xb at *
    generalize p.c % (840 / n) * n = xc at *
    generalize hra : p.a - p.a % (840 / n) = ra at *
    generalize hrb : p.b - p.b % (840 / n) = rb at *
    generalize hrc : p.c - p.c % (840 / n) = rc at *
    generalize p.a % (840 / n) = ma at *
    generalize p.b % (840 / n) = mb at *
    generalize p.c % (840 / n) = mc at *
    have k1 : (840 : Int) - (xa : Int) = ((840 - xa : Nat) : Int) := by omega
    have k2 : (840 : Int) - (xb : Int) = ((840 - xb : Nat) : Int) := by omega
    have k3 : (840 : Int) - (xc : Int) = ((840 - xc : Nat) : Int) := by omega
    simp (disch := omega) only [obs, rC_c, rA_agg, rT_tup, rP_ptr, rW_own, rS_sb, rF_sb, uncV_cons, uncO_cons, nilV_nil, rO_ob, rN_ob, unc_cons, asI_int, asB_bool, asS_string, asSl_sl, asSl_nl, asFn_fn, asP_cp, nrm_sl, nrm_nl, need_true, ct, cf, bd_eq, natD_zero, natD_succ, natD_one, noYl_v, noYl_sl, noYl_nl, noYl_cp, noYl_fn, Bool.and_true, Bool.true_and, Bool.and_self, beqN_self, Bool.not_true, Bool.not_false, Bool.and_false, Bool.false_and, Bool.or_false, Bool.false_or, Bool.or_true, Bool.true_or, wrap_in, dlt_t, dlt_f, dle_t, dle_f, dgt_t, dgt_f, dge_t, dge_f, ibeq_t, ibeq_f, ibne_t, ibne_f, inR_int, beqN_eq, bleN_le, List.length_cons, List.length_nil, Nat.zero_add, Nat.reduceAdd, ← ea, ← eb, ← ec, hdn, k1, k2, k3, fl_length plc_length, Nat.reduceMul, put3, fw3, ble1212] at key ⊢
    exact key
end Go.Proofs.YtobmbacppbkgeaaDoor
/- Numbers that are read from a list; the elements' ranges; readings that are made of numbers. -/
namespace Go.Proofs.YtobmbacppbkgeaaDoor
open Go Go.PM

/-- A reader: what it reads, how many are read. -/
def srcC (l : List Int) (i : Nat) : List C := [C.sl l.length (ints l), C.v (.int .i64 (i : Nat))]
abbrev srcO (l : List Int) (i : Nat) : PM.Obj := .ob ty_synoptickeep_Src 0 (srcC l i)

theorem sp_Mod (fu d : Nat) (a n : Int) (hn : 1 ≤ n ∧ n ≤ 4611686018427387904) : ∃ v, cl fu (d + 1) fn_synoptickeep_Mod [I a, I n] [] = some ⟨I v, [], none⟩ ∧ 0 ≤ v ∧ v < n := by
  rw [eq_synoptickeep_Mod]
  have h1 : -n < Int.tmod a n := by have := Int.lt_tmod_of_pos a (show 0 < n by omega); omega
  have h2 : Int.tmod a n < n := Int.tmod_lt_of_pos a (by omega)
  simp only [show decide (n < 1) = false from decide_eq_false (by omega), cf, show (n == 0) = false by rw [beq_eq_false_iff_ne]; omega, Bool.not_false, need_true]
  by_cases h : Int.tmod a n < 0
  · rw [decide_eq_true h, IntWalk.i64_in _ ⟨by omega, by omega⟩]
    exact ⟨_, rfl, by omega, by omega⟩
  · rw [decide_eq_false h]
    exact ⟨_, rfl, by omega, h2⟩

theorem sp_New (fu d : Nat) (l : List Int) : cl fu (d + 1) fn_synoptickeep_New [V.c (C.sl l.length (ints l))] [] = some ⟨V.ptr 1000000 0, [srcO (l.take 2000) 0], none⟩ := by
  rw [eq_synoptickeep_New]
  unfold srcO srcC
  by_cases h : 2000 < l.length
  · simp only [if_pos (show (2000 : Int) < (l.length : Int) by omega), decide_eq_true (show (0 : Int) ≤ 2000 by omega), decide_eq_true (show (2000 : Int) ≤ (l.length : Int) by omega), Bool.and_self, need_true, show (2000 : Int).toNat = 2000 from rfl, Nat.mul_one, ik_take, List.length_take, Nat.min_eq_left (Nat.le_of_lt h)]
    rfl
  · simp only [if_neg (show ¬ (2000 : Int) < (l.length : Int) by omega), decide_eq_true (show (0 : Int) ≤ (l.length : Int) by omega), decide_eq_true (Int.le_refl (l.length : Int)), Bool.and_self, need_true, Int.toNat_natCast, Nat.mul_one, ik_take, List.take_length, List.take_of_length_le (show l.length ≤ 2000 by omega)]
    rfl

theorem sp_Raw (fu d : Nat) (l : List Int) (i : Nat) (hl : l.length ≤ 2000) : ∃ (v : Int) (j : Nat), cl fu (d + 1) fn_synoptickeep_Src_Raw [V.ptr 1000000 0] [srcO l i] = some ⟨I v, [srcO l j], none⟩ := by
  unfold srcO srcC
  rw [eq_synoptickeep_Src_Raw]
  simp only [asSl_sl]
  by_cases h : i < l.length
  · rw [decide_eq_false (show ¬ (i : Int) ≥ (l.length : Int) by omega)]
    simp only [cf]
    rw [IntWalk.i64_in ((i : Int) + 1) ⟨by omega, by omega⟩, show (i : Int) + 1 - 1 = i by omega, IntWalk.i64_in (i : Int) ⟨by omega, by omega⟩]
    simp only [inR_nat h, need_true, Int.toNat_natCast, Nat.mul_one, unc_ik h, asI_int]
    exact ⟨l[i], i + 1, by simp⟩
  · rw [decide_eq_true (show (i : Int) ≥ (l.length : Int) by omega)]
    exact ⟨0, i, rfl⟩

theorem sp_N (fu d : Nat) (l : List Int) (i : Nat) (hl : l.length ≤ 2000) (n : Int) (hn : 1 ≤ n ∧ n ≤ 4611686018427387904) :
    ∃ (v : Int) (j : Nat), cl fu (d + 2) fn_synoptickeep_Src_N [V.ptr 1000000 0, I n] [srcO l i] = some ⟨I v, [srcO l j], none⟩ ∧ 0 ≤ v ∧ v < n := by
  obtain ⟨w, j, h1⟩ := sp_Raw fu d l i hl
  obtain ⟨v, h2, h3, h4⟩ := sp_Mod fu d w n hn
  refine ⟨v, j, ?_, h3, h4⟩
  unfold srcO srcC at h1 ⊢
  rw [eq_synoptickeep_Src_N, h1]
  simp only [obs, uncO_cons, rO_ob, beqN_self, Bool.and_self, need_true, List.length_cons, List.length_nil, Nat.zero_add, Nat.reduceAdd, unc_cons, asI_int, rC_c, h2]

theorem sp_Range (fu d : Nat) (l : List Int) (i : Nat) (hl : l.length ≤ 2000) (lo hi : Int) (h : lo ≤ hi) (hb : -2305843009213693952 ≤ lo ∧ hi ≤ 2305843009213693951) :
    ∃ (v : Int) (j : Nat), cl fu (d + 3) fn_synoptickeep_Src_Range [V.ptr 1000000 0, I lo, I hi] [srcO l i] = some ⟨I v, [srcO l j], none⟩ ∧ lo ≤ v ∧ v ≤ hi := by
  obtain ⟨v, j, h1, h2, h3⟩ := sp_N fu d l i hl (hi - lo + 1) ⟨by omega, by omega⟩
  refine ⟨lo + v, j, ?_, by omega, by omega⟩
  unfold srcO srcC at h1 ⊢
  rw [eq_synoptickeep_Src_Range, IntWalk.i64_in (hi - lo) ⟨by omega, by omega⟩, IntWalk.i64_in (hi - lo + 1) ⟨by omega, by omega⟩, h1]
  simp only [obs, uncO_cons, rO_ob, beqN_self, Bool.and_self, need_true, List.length_cons, List.length_nil, Nat.zero_add, Nat.reduceAdd, unc_cons, asI_int, rC_c]
  rw [IntWalk.i64_in (lo + v) ⟨by omega, by omega⟩]

theorem sp_Pick (fu d : Nat) (l : List Int) (i : Nat) (hl : l.length ≤ 2000) (q : List Int) (hq : 1 ≤ q.length ∧ q.length ≤ 1000000) :
    ∃ (v : Int) (j : Nat), cl fu (d + 3) fn_synoptickeep_Src_Pick [V.ptr 1000000 0, V.c (C.sl q.length (ints q))] [srcO l i] = some ⟨I v, [srcO l j], none⟩ ∧ v ∈ q := by
  obtain ⟨v, j, h1, h2, h3⟩ := sp_N fu d l i hl (q.length : Int) ⟨by omega, by omega⟩
  obtain ⟨k, rfl⟩ : ∃ k : Nat, v = k := ⟨v.toNat, by omega⟩
  have hk : k < q.length := by omega
  refine ⟨q[k], j, ?_, List.getElem_mem hk⟩
  unfold srcO srcC at h1 ⊢
  rw [eq_synoptickeep_Src_Pick, h1]
  simp only [obs, uncO_cons, rO_ob, beqN_self, Bool.and_self, need_true, List.length_cons, List.length_nil, Nat.zero_add, Nat.reduceAdd, unc_cons, asI_int, rC_c, inR_nat hk, Int.toNat_natCast, Nat.mul_one, unc_ik hk]

/-- Whether a number is on a list. -/
def rng (c : Int) : Int × Int := [(8000, 11000), (1800, 3300), (1800, 3300), (-1000, 1000), (-1000, 1000), (900, 1700), (2000, 3200), (2400, 3400), (2000, 3000), (4400, 6200), (2000, 2900)].getD (c - 1).toNat (0, 0)
theorem cases11 {p : Int → Prop} (h : p 1 ∧ p 2 ∧ p 3 ∧ p 4 ∧ p 5 ∧ p 6 ∧ p 7 ∧ p 8 ∧ p 9 ∧ p 10 ∧ p 11) (c : Int) (hc : 1 ≤ c ∧ c ≤ 11) : p c := by
  obtain ⟨h1, h2, h3, h4, h5, h6, h7, h8, h9, h10, h11⟩ := h
  have : c = 1 ∨ c = 2 ∨ c = 3 ∨ c = 4 ∨ c = 5 ∨ c = 6 ∨ c = 7 ∨ c = 8 ∨ c = 9 ∨ c = 10 ∨ c = 11 := by omega
  rcases this with rfl | rfl | rfl | rfl | rfl | rfl | rfl | rfl | rfl | rfl | rfl <;> assumption

theorem rng_bounds (c : Int) (hc : 1 ≤ c ∧ c ≤ 11) : -1000 ≤ (rng c).1 ∧ (rng c).1 + 400 ≤ (rng c).2 ∧ (rng c).2 ≤ 11000 :=
  cases11 (p := fun c => -1000 ≤ (rng c).1 ∧ (rng c).1 + 400 ≤ (rng c).2 ∧ (rng c).2 ≤ 11000) (by decide) c hc

theorem sp_Describe (fu d : Nat) (c : Int) (hc : 1 ≤ c ∧ c ≤ 11) : ∃ s g, cl fu (d + 1) fn_synopticref04_Describe [I c] [] = some ⟨V.tup [V.agg [C.v (.string s), C.v (.int .i64 (rng c).1), C.v (.int .i64 (rng c).2), C.v (.int .i64 g)], I 0], [], none⟩ := by
  refine cases11 (p := fun c => ∃ s g, cl fu (d + 1) fn_synopticref04_Describe [I c] [] = some ⟨V.tup [V.agg [C.v (.string s), C.v (.int .i64 (rng c).1), C.v (.int .i64 (rng c).2), C.v (.int .i64 g)], I 0], [], none⟩) ?_ c hc
  refine ⟨?_, ?_, ?_, ?_, ?_, ?_, ?_, ?_, ?_, ?_, ?_⟩ <;> (rw [eq_synopticref04_Describe]; exact ⟨_, _, rfl⟩)

theorem sp_Some (fu d : Nat) (l : List Int) (i : Nat) (hl : l.length ≤ 2000) (c : Int) (hc : 1 ≤ c ∧ c ≤ 11) :
    ∃ (v : Int) (j : Nat), cl fu (d + 4) fn_synopticref04_Some [V.ptr 1000000 0, I c] [srcO l i] = some ⟨V.agg [C.v (.int .i64 c), C.v (.int .i64 v)], [srcO l j], none⟩ ∧ (rng c).1 ≤ v ∧ v ≤ (rng c).2 := by
  obtain ⟨s, g, hd⟩ := sp_Describe fu (d + 2) c hc
  have hr := rng_bounds c hc
  obtain ⟨v1, j1, a1, a2, a3⟩ := sp_Range fu d l i hl (rng c).1 (rng c).2 (by omega) ⟨by omega, by omega⟩
  obtain ⟨v2, j2, b1, b2, b3⟩ := sp_N fu (d + 1) l j1 hl 5 (by omega)
  obtain ⟨v3, j3, c1, c2⟩ := sp_Pick fu d l j2 hl [(rng c).1, (rng c).2] (by simp)
  obtain ⟨v4, j4, d1, d2, d3⟩ := sp_Range fu d l j2 hl (-40) 40 (by omega) ⟨by omega, by omega⟩
  have c1' : cl fu (d + 3) fn_synoptickeep_Src_Pick [V.ptr 1000000 0, V.c (C.sl 2 [C.v (.int .i64 (rng c).1), C.v (.int .i64 (rng c).2)])] [srcO l j2] = some ⟨I v3, [srcO l j3], none⟩ := c1
  unfold srcO srcC at a1 b1 c1' d1 ⊢
  rw [eq_synopticref04_Some, hd]
  simp only [obs, rT_tup, uncV_cons, rA_agg, List.length_cons, List.length_nil, Nat.zero_add, Nat.reduceAdd, beqN_self, need_true, unc_cons, asS_string, asI_int, rC_c, nilV_nil, a1, uncO_cons, rO_ob, Bool.and_self, b1]
  by_cases h0 : v2 = 0
  · subst h0
    simp only [show ((0 : Int) == 0) = true from rfl, ct, c1', obs, uncO_cons, rO_ob, beqN_self, Bool.and_self, need_true, List.length_cons, List.length_nil, Nat.zero_add, Nat.reduceAdd, unc_cons, asI_int, rC_c]
    refine ⟨v3, j3, rfl, ?_⟩
    rcases List.mem_cons.1 c2 with e | e
    · omega
    · simp at e; omega
  · rw [show (v2 == 0) = false by simpa using h0]
    have hm : IntKind.i64.wrap ((rng c).1 + (rng c).2) = (rng c).1 + (rng c).2 := IntWalk.i64_in _ ⟨by omega, by omega⟩
    have ht : (rng c).1 + 40 ≤ Int.tdiv ((rng c).1 + (rng c).2) 2 ∧ Int.tdiv ((rng c).1 + (rng c).2) 2 ≤ (rng c).2 - 40 := by
      have h1 := Int.mul_tdiv_add_tmod ((rng c).1 + (rng c).2) 2
      have h2 : -2 < Int.tmod ((rng c).1 + (rng c).2) 2 := Int.lt_tmod_of_pos _ (by omega)
      have h3 : Int.tmod ((rng c).1 + (rng c).2) 2 < 2 := Int.tmod_lt_of_pos _ (by omega)
      omega
    have hm2 : IntKind.i64.wrap (Int.tdiv ((rng c).1 + (rng c).2) 2) = Int.tdiv ((rng c).1 + (rng c).2) 2 := IntWalk.i64_in _ ⟨by omega, by omega⟩
    have hm3 : IntKind.i64.wrap (Int.tdiv ((rng c).1 + (rng c).2) 2 + v4) = Int.tdiv ((rng c).1 + (rng c).2) 2 + v4 := IntWalk.i64_in _ ⟨by omega, by omega⟩
    have hpick : (bif v2 == 1 then some ((0 : Nat), (v2 == 1, ((0 : Int), (0 : Int), ()), (s, (rng c).1, (rng c).2, g, ()), (c, v1, ()), (C.sl l.length (ints l), (j2 : Int), ()), ())) else some (0, (v2 == 2, (0, 0, ()), (s, (rng c).1, (rng c).2, g, ()), (c, v1, ()), (C.sl l.length (ints l), (j2 : Int), ()), ()))) = some (0, ((v2 == 1 || v2 == 2), (0, 0, ()), (s, (rng c).1, (rng c).2, g, ()), (c, v1, ()), (C.sl l.length (ints l), (j2 : Int), ()), ())) := by
      cases h1 : v2 == 1 <;> rfl
    simp only [cf, hpick, obs]
    cases h1 : (v2 == 1 || v2 == 2) with
    | true =>
      simp only [ct, d1, obs, uncO_cons, rO_ob, beqN_self, Bool.and_self, need_true, List.length_cons, List.length_nil, Nat.zero_add, Nat.reduceAdd, unc_cons, asI_int, rC_c, hm, hm2, hm3]
      exact ⟨_, j4, rfl, by omega, by omega⟩
    | false =>
      simp only [cf, obs]
      exact ⟨v1, j2, rfl, by omega, by omega⟩

end Go.Proofs.YtobmbacppbkgeaaDoor
/- Rows that are made of numbers: places, reports, the reference's rows. -/
namespace Go.Proofs.YtobmbacppbkgeaaDoor
open Go Go.PM Go.Grid

theorem sp_ref_Normal_int (fu d : Nat) (hf : 18446744073709551616 ≤ fu) (f a b c : Int) (h : validI f a b c = true) : ∃ p : Pl, p.ok ∧ cl fu (d + 4) fn_synopticref02_Normal [V.agg [.v (.int .i64 f), .v (.int .i64 a), .v (.int .i64 b), .v (.int .i64 c)]] [] = OK (V.tup [V.agg (plc p), I 0]) := by
  obtain ⟨p, hp, rfl, rfl, rfl, rfl⟩ := validI_pl h
  exact ⟨norm p, norm_ok hp, sp_ref_Normal fu d hf p hp⟩

set_option maxHeartbeats 2000000 in
theorem sp_Place (fu d : Nat) (hf : 18446744073709551616 ≤ fu) (l : List Int) (i : Nat) (hl : l.length ≤ 2000) : ∃ (p : Pl) (j : Nat), p.ok ∧ cl fu (d + 5) fn_synopticdata_Place [V.ptr 1000000 0] [srcO l i] = some ⟨V.agg (plc p), [srcO l j], none⟩ := by
  obtain ⟨v1, j1, a1, b1, c1⟩ := sp_N fu (d + 2) l i hl 20 (by omega)
  obtain ⟨v2, j2, a2, b2, c2⟩ := sp_N fu (d + 2) l j1 hl 841 (by omega)
  obtain ⟨v3, j3, a3, b3, c3⟩ := sp_N fu (d + 2) l j2 hl 4 (by omega)
  obtain ⟨v4, j4, a4, b4, c4⟩ := sp_N fu (d + 2) l j3 hl 9 (by omega)
  obtain ⟨v5, j5, a5, b5, c5⟩ := sp_N fu (d + 2) l j3 hl 5 (by omega)
  have fin : ∀ (A : Int) (j : Nat), 0 ≤ A → A ≤ 840 → ∃ (B' : Int) (j' j'' : Nat) (v : Int) (p : Pl), p.ok ∧ cl fu (d + 4) fn_synoptickeep_Src_N [V.ptr 1000000 0, I (840 - A + 1)] [srcO l j] = some ⟨I B', [srcO l j'], none⟩ ∧ 0 ≤ B' ∧ B' ≤ 840 - A ∧
      cl fu (d + 4) fn_synoptickeep_Src_N [V.ptr 1000000 0, I 3] [srcO l j'] = some ⟨I v, [srcO l j''], none⟩ ∧ 0 ≤ v ∧ (v = 0 → cl fu (d + 4) fn_synopticref02_Normal [V.agg [.v (.int .i64 v1), .v (.int .i64 A), .v (.int .i64 (B' - Int.tmod B' 105)), .v (.int .i64 (840 - A - (B' - Int.tmod B' 105)))]] [] = OK (V.tup [V.agg (plc p), I 0])) ∧
      (v ≠ 0 → cl fu (d + 4) fn_synopticref02_Normal [V.agg [.v (.int .i64 v1), .v (.int .i64 A), .v (.int .i64 B'), .v (.int .i64 (840 - A - B'))]] [] = OK (V.tup [V.agg (plc p), I 0])) := by
    intro A j hA1 hA2
    obtain ⟨v6, j6, a6, b6, c6⟩ := sp_N fu (d + 2) l j hl (840 - A + 1) (by omega)
    obtain ⟨v7, j7, a7, b7, c7⟩ := sp_N fu (d + 2) l j6 hl 3 (by omega)
    have ht : 0 ≤ Int.tmod v6 105 ∧ Int.tmod v6 105 ≤ v6 := by
      refine ⟨Int.tmod_nonneg _ b6, ?_⟩
      have h1 := Int.mul_tdiv_add_tmod v6 105
      have h2 := Int.tdiv_nonneg b6 (show (0 : Int) ≤ 105 by omega)
      omega
    by_cases h0 : v7 = 0
    · obtain ⟨p, hp, hN⟩ := sp_ref_Normal_int fu d hf v1 A (v6 - Int.tmod v6 105) (840 - A - (v6 - Int.tmod v6 105)) (decide_eq_true (by omega))
      exact ⟨v6, j6, j7, v7, p, hp, a6, b6, by omega, a7, b7, fun _ => hN, fun h => absurd h0 h⟩
    · obtain ⟨p, hp, hN⟩ := sp_ref_Normal_int fu d hf v1 A v6 (840 - A - v6) (decide_eq_true (by omega))
      exact ⟨v6, j6, j7, v7, p, hp, a6, b6, by omega, a7, b7, fun h => absurd h h0, fun _ => hN⟩
  have ht2 : ∀ B' : Int, 0 ≤ B' → 0 ≤ Int.tmod B' 105 ∧ Int.tmod B' 105 ≤ B' := fun B' hB => by
    refine ⟨Int.tmod_nonneg _ hB, ?_⟩
    have h1 := Int.mul_tdiv_add_tmod B' 105
    have h2 := Int.tdiv_nonneg hB (show (0 : Int) ≤ 105 by omega)
    omega
  unfold srcO srcC at a1 a2 a3 a4 a5 ⊢
  rw [eq_synopticdata_Place]
  simp only [obs, rC_c, rA_agg, rT_tup, rP_ptr, rW_own, rS_sb, rF_sb, uncV_cons, uncO_cons, nilV_nil, rO_ob, rN_ob, unc_cons, asI_int, asB_bool, asS_string, asSl_sl, asSl_nl, asFn_fn, asP_cp, nrm_sl, nrm_nl, need_true, ct, cf, bd_eq, natD_zero, natD_succ, natD_one, noYl_v, noYl_sl, noYl_nl, noYl_cp, noYl_fn, Bool.and_true, Bool.true_and, Bool.and_self, beqN_self, Bool.not_true, Bool.not_false, Bool.and_false, Bool.false_and, Bool.or_false, Bool.false_or, Bool.or_true, Bool.true_or, a1, a2, a3, List.length_cons, List.length_nil, Nat.zero_add, Nat.reduceAdd]
  by_cases h0 : v3 = 0
  · obtain ⟨B', j6, j7, v7, p, hp, a6, b6, c6, a7, b7, n0, n1⟩ := fin (105 * v4) j4 (by omega) (by omega)
    have := ht2 B' b6
    unfold srcO srcC at a6 a7
    by_cases h7 : v7 = 0
    · have n0 := n0 h7
      simp (disch := omega) only [obs, rC_c, rA_agg, rT_tup, rP_ptr, rW_own, rS_sb, rF_sb, uncV_cons, uncO_cons, nilV_nil, rO_ob, rN_ob, unc_cons, asI_int, asB_bool, asS_string, asSl_sl, asSl_nl, asFn_fn, asP_cp, nrm_sl, nrm_nl, need_true, ct, cf, bd_eq, natD_zero, natD_succ, natD_one, noYl_v, noYl_sl, noYl_nl, noYl_cp, noYl_fn, Bool.and_true, Bool.true_and, Bool.and_self, beqN_self, Bool.not_true, Bool.not_false, Bool.and_false, Bool.false_and, Bool.or_false, Bool.false_or, Bool.or_true, Bool.true_or, wrap_in, dlt_t, dlt_f, dle_t, dle_f, dgt_t, dgt_f, dge_t, dge_f, ibeq_t, ibeq_f, ibne_t, ibne_f, inR_int, beqN_eq, bleN_le, a4, a6, a7, n0, List.length_cons, List.length_nil, Nat.zero_add, Nat.reduceAdd]
      exact ⟨p, j7, hp, by simp (disch := omega) only [obs, rC_c, rA_agg, rT_tup, rP_ptr, rW_own, rS_sb, rF_sb, uncV_cons, uncO_cons, nilV_nil, rO_ob, rN_ob, unc_cons, asI_int, asB_bool, asS_string, asSl_sl, asSl_nl, asFn_fn, asP_cp, nrm_sl, nrm_nl, need_true, ct, cf, bd_eq, natD_zero, natD_succ, natD_one, noYl_v, noYl_sl, noYl_nl, noYl_cp, noYl_fn, Bool.and_true, Bool.true_and, Bool.and_self, beqN_self, Bool.not_true, Bool.not_false, Bool.and_false, Bool.false_and, Bool.or_false, Bool.false_or, Bool.or_true, Bool.true_or, wrap_in, dlt_t, dlt_f, dle_t, dle_f, dgt_t, dgt_f, dge_t, dge_f, ibeq_t, ibeq_f, ibne_t, ibne_f, inR_int, beqN_eq, bleN_le, plc, List.length_cons, List.length_nil, Nat.zero_add, Nat.reduceAdd]⟩
    · have n1 := n1 h7
      simp (disch := omega) only [obs, rC_c, rA_agg, rT_tup, rP_ptr, rW_own, rS_sb, rF_sb, uncV_cons, uncO_cons, nilV_nil, rO_ob, rN_ob, unc_cons, asI_int, asB_bool, asS_string, asSl_sl, asSl_nl, asFn_fn, asP_cp, nrm_sl, nrm_nl, need_true, ct, cf, bd_eq, natD_zero, natD_succ, natD_one, noYl_v, noYl_sl, noYl_nl, noYl_cp, noYl_fn, Bool.and_true, Bool.true_and, Bool.and_self, beqN_self, Bool.not_true, Bool.not_false, Bool.and_false, Bool.false_and, Bool.or_false, Bool.false_or, Bool.or_true, Bool.true_or, wrap_in, dlt_t, dlt_f, dle_t, dle_f, dgt_t, dgt_f, dge_t, dge_f, ibeq_t, ibeq_f, ibne_t, ibne_f, inR_int, beqN_eq, bleN_le, a4, a6, a7, n1, List.length_cons, List.length_nil, Nat.zero_add, Nat.reduceAdd]
      exact ⟨p, j7, hp, by simp (disch := omega) only [obs, rC_c, rA_agg, rT_tup, rP_ptr, rW_own, rS_sb, rF_sb, uncV_cons, uncO_cons, nilV_nil, rO_ob, rN_ob, unc_cons, asI_int, asB_bool, asS_string, asSl_sl, asSl_nl, asFn_fn, asP_cp, nrm_sl, nrm_nl, need_true, ct, cf, bd_eq, natD_zero, natD_succ, natD_one, noYl_v, noYl_sl, noYl_nl, noYl_cp, noYl_fn, Bool.and_true, Bool.true_and, Bool.and_self, beqN_self, Bool.not_true, Bool.not_false, Bool.and_false, Bool.false_and, Bool.or_false, Bool.false_or, Bool.or_true, Bool.true_or, wrap_in, dlt_t, dlt_f, dle_t, dle_f, dgt_t, dgt_f, dge_t, dge_f, ibeq_t, ibeq_f, ibne_t, ibne_f, inR_int, beqN_eq, bleN_le, plc, List.length_cons, List.length_nil, Nat.zero_add, Nat.reduceAdd]⟩
  · by_cases h1 : v3 = 1
    · obtain ⟨B', j6, j7, v7, p, hp, a6, b6, c6, a7, b7, n0, n1⟩ := fin (210 * v5) j5 (by omega) (by omega)
      have := ht2 B' b6
      unfold srcO srcC at a6 a7
      by_cases h7 : v7 = 0
      · have n0 := n0 h7
        simp (disch := omega) only [obs, rC_c, rA_agg, rT_tup, rP_ptr, rW_own, rS_sb, rF_sb, uncV_cons, uncO_cons, nilV_nil, rO_ob, rN_ob, unc_cons, asI_int, asB_bool, asS_string, asSl_sl, asSl_nl, asFn_fn, asP_cp, nrm_sl, nrm_nl, need_true, ct, cf, bd_eq, natD_zero, natD_succ, natD_one, noYl_v, noYl_sl, noYl_nl, noYl_cp, noYl_fn, Bool.and_true, Bool.true_and, Bool.and_self, beqN_self, Bool.not_true, Bool.not_false, Bool.and_false, Bool.false_and, Bool.or_false, Bool.false_or, Bool.or_true, Bool.true_or, wrap_in, dlt_t, dlt_f, dle_t, dle_f, dgt_t, dgt_f, dge_t, dge_f, ibeq_t, ibeq_f, ibne_t, ibne_f, inR_int, beqN_eq, bleN_le, a5, a6, a7, n0, List.length_cons, List.length_nil, Nat.zero_add, Nat.reduceAdd]
        exact ⟨p, j7, hp, by simp (disch := omega) only [obs, rC_c, rA_agg, rT_tup, rP_ptr, rW_own, rS_sb, rF_sb, uncV_cons, uncO_cons, nilV_nil, rO_ob, rN_ob, unc_cons, asI_int, asB_bool, asS_string, asSl_sl, asSl_nl, asFn_fn, asP_cp, nrm_sl, nrm_nl, need_true, ct, cf, bd_eq, natD_zero, natD_succ, natD_one, noYl_v, noYl_sl, noYl_nl, noYl_cp, noYl_fn, Bool.and_true, Bool.true_and, Bool.and_self, beqN_self, Bool.not_true, Bool.not_false, Bool.and_false, Bool.false_and, Bool.or_false, Bool.false_or, Bool.or_true, Bool.true_or, wrap_in, dlt_t, dlt_f, dle_t, dle_f, dgt_t, dgt_f, dge_t, dge_f, ibeq_t, ibeq_f, ibne_t, ibne_f, inR_int, beqN_eq, bleN_le, plc, List.length_cons, List.length_nil, Nat.zero_add, Nat.reduceAdd]⟩
      · have n1 := n1 h7
        simp (disch := omega) only [obs, rC_c, rA_agg, rT_tup, rP_ptr, rW_own, rS_sb, rF_sb, uncV_cons, uncO_cons, nilV_nil, rO_ob, rN_ob, unc_cons, asI_int, asB_bool, asS_string, asSl_sl, asSl_nl, asFn_fn, asP_cp, nrm_sl, nrm_nl, need_true, ct, cf, bd_eq, natD_zero, natD_succ, natD_one, noYl_v, noYl_sl, noYl_nl, noYl_cp, noYl_fn, Bool.and_true, Bool.true_and, Bool.and_self, beqN_self, Bool.not_true, Bool.not_false, Bool.and_false, Bool.false_and, Bool.or_false, Bool.false_or, Bool.or_true, Bool.true_or, wrap_in, dlt_t, dlt_f, dle_t, dle_f, dgt_t, dgt_f, dge_t, dge_f, ibeq_t, ibeq_f, ibne_t, ibne_f, inR_int, beqN_eq, bleN_le, a5, a6, a7, n1, List.length_cons, List.length_nil, Nat.zero_add, Nat.reduceAdd]
        exact ⟨p, j7, hp, by simp (disch := omega) only [obs, rC_c, rA_agg, rT_tup, rP_ptr, rW_own, rS_sb, rF_sb, uncV_cons, uncO_cons, nilV_nil, rO_ob, rN_ob, unc_cons, asI_int, asB_bool, asS_string, asSl_sl, asSl_nl, asFn_fn, asP_cp, nrm_sl, nrm_nl, need_true, ct, cf, bd_eq, natD_zero, natD_succ, natD_one, noYl_v, noYl_sl, noYl_nl, noYl_cp, noYl_fn, Bool.and_true, Bool.true_and, Bool.and_self, beqN_self, Bool.not_true, Bool.not_false, Bool.and_false, Bool.false_and, Bool.or_false, Bool.false_or, Bool.or_true, Bool.true_or, wrap_in, dlt_t, dlt_f, dle_t, dle_f, dgt_t, dgt_f, dge_t, dge_f, ibeq_t, ibeq_f, ibne_t, ibne_f, inR_int, beqN_eq, bleN_le, plc, List.length_cons, List.length_nil, Nat.zero_add, Nat.reduceAdd]⟩
    · obtain ⟨B', j6, j7, v7, p, hp, a6, b6, c6, a7, b7, n0, n1⟩ := fin v2 j3 (by omega) (by omega)
      have := ht2 B' b6
      unfold srcO srcC at a6 a7
      by_cases h7 : v7 = 0
      · have n0 := n0 h7
        simp (disch := omega) only [obs, rC_c, rA_agg, rT_tup, rP_ptr, rW_own, rS_sb, rF_sb, uncV_cons, uncO_cons, nilV_nil, rO_ob, rN_ob, unc_cons, asI_int, asB_bool, asS_string, asSl_sl, asSl_nl, asFn_fn, asP_cp, nrm_sl, nrm_nl, need_true, ct, cf, bd_eq, natD_zero, natD_succ, natD_one, noYl_v, noYl_sl, noYl_nl, noYl_cp, noYl_fn, Bool.and_true, Bool.true_and, Bool.and_self, beqN_self, Bool.not_true, Bool.not_false, Bool.and_false, Bool.false_and, Bool.or_false, Bool.false_or, Bool.or_true, Bool.true_or, wrap_in, dlt_t, dlt_f, dle_t, dle_f, dgt_t, dgt_f, dge_t, dge_f, ibeq_t, ibeq_f, ibne_t, ibne_f, inR_int, beqN_eq, bleN_le, a6, a7, n0, List.length_cons, List.length_nil, Nat.zero_add, Nat.reduceAdd]
        exact ⟨p, j7, hp, by simp (disch := omega) only [obs, rC_c, rA_agg, rT_tup, rP_ptr, rW_own, rS_sb, rF_sb, uncV_cons, uncO_cons, nilV_nil, rO_ob, rN_ob, unc_cons, asI_int, asB_bool, asS_string, asSl_sl, asSl_nl, asFn_fn, asP_cp, nrm_sl, nrm_nl, need_true, ct, cf, bd_eq, natD_zero, natD_succ, natD_one, noYl_v, noYl_sl, noYl_nl, noYl_cp, noYl_fn, Bool.and_true, Bool.true_and, Bool.and_self, beqN_self, Bool.not_true, Bool.not_false, Bool.and_false, Bool.false_and, Bool.or_false, Bool.false_or, Bool.or_true, Bool.true_or, wrap_in, dlt_t, dlt_f, dle_t, dle_f, dgt_t, dgt_f, dge_t, dge_f, ibeq_t, ibeq_f, ibne_t, ibne_f, inR_int, beqN_eq, bleN_le, plc, List.length_cons, List.length_nil, Nat.zero_add, Nat.reduceAdd]⟩
      · have n1 := n1 h7
        simp (disch := omega) only [obs, rC_c, rA_agg, rT_tup, rP_ptr, rW_own, rS_sb, rF_sb, uncV_cons, uncO_cons, nilV_nil, rO_ob, rN_ob, unc_cons, asI_int, asB_bool, asS_string, asSl_sl, asSl_nl, asFn_fn, asP_cp, nrm_sl, nrm_nl, need_true, ct, cf, bd_eq, natD_zero, natD_succ, natD_one, noYl_v, noYl_sl, noYl_nl, noYl_cp, noYl_fn, Bool.and_true, Bool.true_and, Bool.and_self, beqN_self, Bool.not_true, Bool.not_false, Bool.and_false, Bool.false_and, Bool.or_false, Bool.false_or, Bool.or_true, Bool.true_or, wrap_in, dlt_t, dlt_f, dle_t, dle_f, dgt_t, dgt_f, dge_t, dge_f, ibeq_t, ibeq_f, ibne_t, ibne_f, inR_int, beqN_eq, bleN_le, a6, a7, n1, List.length_cons, List.length_nil, Nat.zero_add, Nat.reduceAdd]
        exact ⟨p, j7, hp, by simp (disch := omega) only [obs, rC_c, rA_agg, rT_tup, rP_ptr, rW_own, rS_sb, rF_sb, uncV_cons, uncO_cons, nilV_nil, rO_ob, rN_ob, unc_cons, asI_int, asB_bool, asS_string, asSl_sl, asSl_nl, asFn_fn, asP_cp, nrm_sl, nrm_nl, need_true, ct, cf, bd_eq, natD_zero, natD_succ, natD_one, noYl_v, noYl_sl, noYl_nl, noYl_cp, noYl_fn, Bool.and_true, Bool.true_and, Bool.and_self, beqN_self, Bool.not_true, Bool.not_false, Bool.and_false, Bool.false_and, Bool.or_false, Bool.false_or, Bool.or_true, Bool.true_or, wrap_in, dlt_t, dlt_f, dle_t, dle_f, dgt_t, dgt_f, dge_t, dge_f, ibeq_t, ibeq_f, ibne_t, ibne_f, inR_int, beqN_eq, bleN_le, plc, List.length_cons, List.length_nil, Nat.zero_add, Nat.reduceAdd]⟩

/-- A reading of pressure. -/
def prC (v : Int) : List C := [.v (.int .i64 1), .v (.int .i64 v)]
def okV (v : Int) : Prop := 8000 ≤ v ∧ v ≤ 11000
theorem rng1 : rng 1 = (8000, 11000) := rfl
theorem sp_Describe1 (fu d : Nat) : ∃ s g, cl fu (d + 1) fn_synopticref04_Describe [I 1] [] = some ⟨V.tup [V.agg [C.v (.string s), C.v (.int .i64 8000), C.v (.int .i64 11000), C.v (.int .i64 g)], I 0], [], none⟩ := sp_Describe fu d 1 (by omega)
theorem sp_in1 (fu d : Nat) (v : Int) (h : okV v) : cl fu (d + 2) fn_synopticref04_in [V.agg [.v (.int .i64 1), .v (.int .i64 v)]] [] = OK (B true) := by
  obtain ⟨s, g, hd⟩ := sp_Describe1 fu d
  unfold okV at h
  rw [eq_synopticref04_in, hd]
  simp (disch := omega) only [obs, rC_c, rA_agg, rT_tup, rP_ptr, rW_own, rS_sb, rF_sb, uncV_cons, uncO_cons, nilV_nil, rO_ob, rN_ob, unc_cons, asI_int, asB_bool, asS_string, asSl_sl, asSl_nl, asFn_fn, asP_cp, nrm_sl, nrm_nl, need_true, ct, cf, bd_eq, natD_zero, natD_succ, natD_one, noYl_v, noYl_sl, noYl_nl, noYl_cp, noYl_fn, Bool.and_true, Bool.true_and, Bool.and_self, beqN_self, Bool.not_true, Bool.not_false, Bool.and_false, Bool.false_and, Bool.or_false, Bool.false_or, Bool.or_true, Bool.true_or, wrap_in, dlt_t, dlt_f, dle_t, dle_f, dgt_t, dgt_f, dge_t, dge_f, ibeq_t, ibeq_f, ibne_t, ibne_f, inR_int, beqN_eq, bleN_le, List.length_cons, List.length_nil, Nat.zero_add, Nat.reduceAdd]
theorem sp_ref_Validate1 (fu d : Nat) (hf : 18446744073709551616 ≤ fu) (v : Int) (h : okV v) : cl fu (d + 3) fn_synopticref04_Validate [V.c (C.sl 1 (prC v))] [] = OK (I 0) := by
  obtain ⟨s, g, hd⟩ := sp_Describe1 fu (d + 1)
  have hi := sp_in1 fu d v h
  obtain ⟨fu', rfl⟩ : ∃ m, fu = m + 3 := ⟨fu - 3, by omega⟩
  unfold prC
  rw [eq_synopticref04_Validate]
  repeat (rw [iter_s]; simp (disch := omega) only [obs, rC_c, rA_agg, rT_tup, rP_ptr, rW_own, rS_sb, rF_sb, uncV_cons, uncO_cons, nilV_nil, rO_ob, rN_ob, unc_cons, asI_int, asB_bool, asS_string, asSl_sl, asSl_nl, asFn_fn, asP_cp, nrm_sl, nrm_nl, need_true, ct, cf, bd_eq, natD_zero, natD_succ, natD_one, noYl_v, noYl_sl, noYl_nl, noYl_cp, noYl_fn, Bool.and_true, Bool.true_and, Bool.and_self, beqN_self, Bool.not_true, Bool.not_false, Bool.and_false, Bool.false_and, Bool.or_false, Bool.false_or, Bool.or_true, Bool.true_or, wrap_in, dlt_t, dlt_f, dle_t, dle_f, dgt_t, dgt_f, dge_t, dge_f, ibeq_t, ibeq_f, ibne_t, ibne_f, inR_int, beqN_eq, bleN_le, hd, hi, List.length_cons, List.length_nil, Nat.zero_add, Nat.reduceAdd, Int.toNat_zero, Nat.zero_mul, List.drop_zero, Int.zero_add, Int.natCast_one])
theorem sp_ref_Find1 (fu d : Nat) (hf : 18446744073709551616 ≤ fu) (v : Int) : cl fu (d + 1) fn_synopticref04_Find [V.c (C.sl 1 (prC v)), I 1] [] = OK (V.tup [I v, B true]) := by
  obtain ⟨fu', rfl⟩ : ∃ m, fu = m + 3 := ⟨fu - 3, by omega⟩
  unfold prC
  rw [eq_synopticref04_Find]
  repeat (rw [iter_s]; simp (disch := omega) only [obs, rC_c, rA_agg, rT_tup, rP_ptr, rW_own, rS_sb, rF_sb, uncV_cons, uncO_cons, nilV_nil, rO_ob, rN_ob, unc_cons, asI_int, asB_bool, asS_string, asSl_sl, asSl_nl, asFn_fn, asP_cp, nrm_sl, nrm_nl, need_true, ct, cf, bd_eq, natD_zero, natD_succ, natD_one, noYl_v, noYl_sl, noYl_nl, noYl_cp, noYl_fn, Bool.and_true, Bool.true_and, Bool.and_self, beqN_self, Bool.not_true, Bool.not_false, Bool.and_false, Bool.false_and, Bool.or_false, Bool.false_or, Bool.or_true, Bool.true_or, wrap_in, dlt_t, dlt_f, dle_t, dle_f, dgt_t, dgt_f, dge_t, dge_f, ibeq_t, ibeq_f, ibne_t, ibne_f, inR_int, beqN_eq, bleN_le, List.length_cons, List.length_nil, Nat.zero_add, Nat.reduceAdd, Int.toNat_zero, Nat.zero_mul, List.drop_zero, Int.zero_add, Int.natCast_one, List.drop_succ_cons])
end Go.Proofs.YtobmbacppbkgeaaDoor
/- Rows: the reference's, of reports with one reading; those that the statements look at. -/
namespace Go.Proofs.YtobmbacppbkgeaaDoor
open Go Go.PM Go.Grid

structure Rw where
  sh : List (Nat × Nat)
  v : Int
  w : Int
  r : Nat
  deriving DecidableEq
def rwc (x : Rw) : List C := [C.sl x.sh.length (fl shc x.sh), .v (.int .i64 x.v), .v (.int .i64 x.w), .v (.int .i64 x.r)]
theorem rwc_length (x : Rw) : (rwc x).length = 4 := rfl
/-- A report with one reading. -/
def rpc (x : Pl × Int) : List C := [.v (.int .i64 0), .v (.string ⟨#[]⟩), .v (.int .i64 0), .v (.int .i64 x.1.f), .v (.int .i64 x.1.a), .v (.int .i64 x.1.b), .v (.int .i64 x.1.c), C.sl 1 [.v (.int .i64 1), .v (.int .i64 x.2)]]
theorem rpc_length (x : Pl × Int) : (rpc x).length = 8 := rfl
def okP (x : Pl × Int) : Prop := x.1.ok ∧ okV x.2
def rowsF (n : Nat) (w : Int) : Nat → List (Pl × Int) → List Rw
  | _, [] => []
  | k, x :: r => ⟨shares n x.1, x.2, w, k⟩ :: rowsF n w (k + 1) r
theorem rowsF_snoc (n : Nat) (w : Int) (x : Pl × Int) : ∀ (l : List (Pl × Int)) (k : Nat), rowsF n w k (l ++ [x]) = rowsF n w k l ++ [⟨shares n x.1, x.2, w, k + l.length⟩]
  | [], k => by simp [rowsF]
  | y :: l, k => by
    simp only [List.cons_append, rowsF, List.length_cons]
    rw [rowsF_snoc n w x l (k + 1), show k + 1 + l.length = k + (l.length + 1) by omega]
theorem rowsF_length (n : Nat) (w : Int) : ∀ (l : List (Pl × Int)) (k : Nat), (rowsF n w k l).length = l.length
  | [], k => rfl
  | y :: l, k => by simp [rowsF, rowsF_length n w l]
theorem rowsF_take (n : Nat) (w : Int) (l : List (Pl × Int)) (j : Nat) (h : j < l.length) : rowsF n w 0 (l.take (j + 1)) = rowsF n w 0 (l.take j) ++ [⟨shares n l[j].1, l[j].2, w, j⟩] := by
  rw [List.take_succ_eq_append_getElem h, rowsF_snoc, List.length_take, Nat.min_eq_left (by omega), Nat.zero_add]
theorem rw_div (l : List Rw) : l.length * 4 / 4 = l.length := Nat.mul_div_cancel _ (by omega)
theorem div4 (k : Nat) : k * 4 / 4 = k := Nat.mul_div_cancel _ (by omega)
theorem rp_div (l : List (Pl × Int)) : l.length * 8 / 8 = l.length := Nat.mul_div_cancel _ (by omega)
theorem rw_snoc (l : List Rw) (s : List (Nat × Nat)) (v w : Int) (r : Nat) : fl rwc l ++ [C.sl s.length (fl shc s), .v (.int .i64 v), .v (.int .i64 w), .v (.int .i64 r)] = fl rwc (l ++ [⟨s, v, w, r⟩]) := fl_snoc l ⟨s, v, w, r⟩
theorem rp_snoc (l : List (Pl × Int)) (p : Pl) (v : Int) : fl rpc l ++ [.v (.int .i64 0), .v (.string ⟨#[]⟩), .v (.int .i64 0), .v (.int .i64 p.f), .v (.int .i64 p.a), .v (.int .i64 p.b), .v (.int .i64 p.c), C.sl 1 [.v (.int .i64 1), .v (.int .i64 v)]] = fl rpc (l ++ [(p, v)]) := fl_snoc l (p, v)

theorem sp_ref_Rows (fu d : Nat) (hf : 18446744073709551616 ≤ fu) (n : Nat) (h : freq n) (L : List (Pl × Int)) (hL : L.length ≤ 100) (hok : ∀ x ∈ L, okP x) (w : Int) (hw : 1 ≤ w ∧ w ≤ 1000) :
    cl fu (d + 8) fn_synopticref21_Rows [I n, V.c (C.sl L.length (fl rpc L)), I 1, I w] [] = OK (V.tup [V.c (C.sl L.length (fl rwc (rowsF n w 0 L))), I 0]) := by
  have hn := h
  unfold freq at hn
  obtain ⟨s, g, hd⟩ := sp_Describe1 fu (d + 6)
  rw [eq_synopticref21_Rows, hd]
  simp (disch := omega) only [obs, rC_c, rA_agg, rT_tup, rP_ptr, rW_own, rS_sb, rF_sb, uncV_cons, uncO_cons, nilV_nil, rO_ob, rN_ob, unc_cons, asI_int, asB_bool, asS_string, asSl_sl, asSl_nl, asFn_fn, asP_cp, nrm_sl, nrm_nl, need_true, ct, cf, bd_eq, natD_zero, natD_succ, natD_one, noYl_v, noYl_sl, noYl_nl, noYl_cp, noYl_fn, Bool.and_true, Bool.true_and, Bool.and_self, beqN_self, Bool.not_true, Bool.not_false, Bool.and_false, Bool.false_and, Bool.or_false, Bool.false_or, Bool.or_true, Bool.true_or, wrap_in, dlt_t, dlt_f, dle_t, dle_f, dgt_t, dgt_f, dge_t, dge_f, ibeq_t, ibeq_f, ibne_t, ibne_f, inR_int, beqN_eq, bleN_le, List.length_cons, List.length_nil, Nat.zero_add, Nat.reduceAdd]
  rw [iter_runx (fun j : Nat => (([] : List C), (0 : Int), (j : Int), ())) 0 ([], 0, (L.length : Int), ()) L.length ?_ ?_ ?_ (by omega)]
  · simp only [obs, rC_c, rA_agg, rT_tup, rP_ptr, rW_own, rS_sb, rF_sb, uncV_cons, uncO_cons, nilV_nil, rO_ob, rN_ob, unc_cons, asI_int, asB_bool, asS_string, asSl_sl, asSl_nl, asFn_fn, asP_cp, nrm_sl, nrm_nl, need_true, ct, cf, bd_eq, natD_zero, natD_succ, natD_one, noYl_v, noYl_sl, noYl_nl, noYl_cp, noYl_fn, Bool.and_true, Bool.true_and, Bool.and_self, beqN_self, Bool.not_true, Bool.not_false, Bool.and_false, Bool.false_and, Bool.or_false, Bool.false_or, Bool.or_true, Bool.true_or, List.length_nil, Nat.zero_div, Nat.zero_mul]
    rw [iter_runx (fun j : Nat => (([] : List C), (0 : Int), fl rwc (rowsF n w 0 (L.take j)), (j : Int), ())) 0 ([], 0, fl rwc (rowsF n w 0 L), (L.length : Int), ()) L.length ?_ ?_ ?_ (by omega)]
    · simp (disch := omega) only [obs, rC_c, rA_agg, rT_tup, rP_ptr, rW_own, rS_sb, rF_sb, uncV_cons, uncO_cons, nilV_nil, rO_ob, rN_ob, unc_cons, asI_int, asB_bool, asS_string, asSl_sl, asSl_nl, asFn_fn, asP_cp, nrm_sl, nrm_nl, need_true, ct, cf, bd_eq, natD_zero, natD_succ, natD_one, noYl_v, noYl_sl, noYl_nl, noYl_cp, noYl_fn, Bool.and_true, Bool.true_and, Bool.and_self, beqN_self, Bool.not_true, Bool.not_false, Bool.and_false, Bool.false_and, Bool.or_false, Bool.false_or, Bool.or_true, Bool.true_or, wrap_in, dlt_t, dlt_f, dle_t, dle_f, dgt_t, dgt_f, dge_t, dge_f, ibeq_t, ibeq_f, ibne_t, ibne_f, inR_int, beqN_eq, bleN_le, fl_length rwc_length, div4, rowsF_length, Nat.zero_add]
      rw [List.take_of_length_le (by rw [fl_length rwc_length, rowsF_length]; omega)]
    · rfl
    · intro j hj
      have hx := hok _ (List.getElem_mem hj)
      have hat := fl_at rpc_length hj
      have hF := sp_ref_Find1 fu (d + 6) hf L[j].2
      have hLo := sp_ref_Locate fu d hf n h L[j].1 hx.1
      have hv := validI_of hx.1
      simp only [prC] at hF
      simp only [plc] at hLo
      rw [rowsF_take n w L j hj]
      have hl : (rowsF n w 0 (L.take j)).length = j := by rw [rowsF_length, List.length_take]; omega
      simp (disch := omega) only [obs, rC_c, rA_agg, rT_tup, rP_ptr, rW_own, rS_sb, rF_sb, uncV_cons, uncO_cons, nilV_nil, rO_ob, rN_ob, unc_cons, asI_int, asB_bool, asS_string, asSl_sl, asSl_nl, asFn_fn, asP_cp, nrm_sl, nrm_nl, need_true, ct, cf, bd_eq, natD_zero, natD_succ, natD_one, noYl_v, noYl_sl, noYl_nl, noYl_cp, noYl_fn, Bool.and_true, Bool.true_and, Bool.and_self, beqN_self, Bool.not_true, Bool.not_false, Bool.and_false, Bool.false_and, Bool.or_false, Bool.false_or, Bool.or_true, Bool.true_or, wrap_in, dlt_t, dlt_f, dle_t, dle_f, dgt_t, dgt_f, dge_t, dge_f, ibeq_t, ibeq_f, ibne_t, ibne_f, inR_int, beqN_eq, bleN_le, Int.toNat_natCast, hat, rpc, List.cons_append, List.nil_append, hF, sp_ref_Valid, hv, hLo, List.length_nil, Nat.zero_div, Nat.zero_mul, fl_length rwc_length, rw_div, hl, rw_snoc, List.length_append, List.length_cons, Nat.zero_add, Int.natCast_add, Int.natCast_one]
    · have hl : (rowsF n w 0 L).length = L.length := rowsF_length _ _ _ _
      rw [List.take_of_length_le (Nat.le_refl _)]
      simp (disch := omega) only [obs, rC_c, rA_agg, rT_tup, rP_ptr, rW_own, rS_sb, rF_sb, uncV_cons, uncO_cons, nilV_nil, rO_ob, rN_ob, unc_cons, asI_int, asB_bool, asS_string, asSl_sl, asSl_nl, asFn_fn, asP_cp, nrm_sl, nrm_nl, need_true, ct, cf, bd_eq, natD_zero, natD_succ, natD_one, noYl_v, noYl_sl, noYl_nl, noYl_cp, noYl_fn, Bool.and_true, Bool.true_and, Bool.and_self, beqN_self, Bool.not_true, Bool.not_false, Bool.and_false, Bool.false_and, Bool.or_false, Bool.false_or, Bool.or_true, Bool.true_or, wrap_in, dlt_t, dlt_f, dle_t, dle_f, dgt_t, dgt_f, dge_t, dge_f, ibeq_t, ibeq_f, ibne_t, ibne_f, inR_int, beqN_eq, bleN_le, fl_length rwc_length, rw_div, hl, List.length_nil, Nat.zero_div, Nat.zero_mul]
  · rfl
  · intro j hj
    have hx := hok _ (List.getElem_mem hj)
    have hat := fl_at rpc_length hj
    have hV := sp_ref_Validate1 fu (d + 4) hf L[j].2 hx.2
    simp only [prC] at hV
    simp (disch := omega) only [obs, rC_c, rA_agg, rT_tup, rP_ptr, rW_own, rS_sb, rF_sb, uncV_cons, uncO_cons, nilV_nil, rO_ob, rN_ob, unc_cons, asI_int, asB_bool, asS_string, asSl_sl, asSl_nl, asFn_fn, asP_cp, nrm_sl, nrm_nl, need_true, ct, cf, bd_eq, natD_zero, natD_succ, natD_one, noYl_v, noYl_sl, noYl_nl, noYl_cp, noYl_fn, Bool.and_true, Bool.true_and, Bool.and_self, beqN_self, Bool.not_true, Bool.not_false, Bool.and_false, Bool.false_and, Bool.or_false, Bool.false_or, Bool.or_true, Bool.true_or, wrap_in, dlt_t, dlt_f, dle_t, dle_f, dgt_t, dgt_f, dge_t, dge_f, ibeq_t, ibeq_f, ibne_t, ibne_f, inR_int, beqN_eq, bleN_le, Int.toNat_natCast, hat, rpc, List.cons_append, List.nil_append, hV, List.length_nil, Nat.zero_div, Nat.zero_mul, Int.natCast_add, Int.natCast_one]
  · simp (disch := omega) only [obs, rC_c, rA_agg, rT_tup, rP_ptr, rW_own, rS_sb, rF_sb, uncV_cons, uncO_cons, nilV_nil, rO_ob, rN_ob, unc_cons, asI_int, asB_bool, asS_string, asSl_sl, asSl_nl, asFn_fn, asP_cp, nrm_sl, nrm_nl, need_true, ct, cf, bd_eq, natD_zero, natD_succ, natD_one, noYl_v, noYl_sl, noYl_nl, noYl_cp, noYl_fn, Bool.and_true, Bool.true_and, Bool.and_self, beqN_self, Bool.not_true, Bool.not_false, Bool.and_false, Bool.false_and, Bool.or_false, Bool.false_or, Bool.or_true, Bool.true_or, wrap_in, dlt_t, dlt_f, dle_t, dle_f, dgt_t, dgt_f, dge_t, dge_f, ibeq_t, ibeq_f, ibne_t, ibne_f, inR_int, beqN_eq, bleN_le, List.length_nil, Nat.zero_div, Nat.zero_mul]

/-- Rows that are valid for a number of nodes. -/
def okRow (m : Nat) (x : Rw) : Prop := asc x.sh ∧ (∀ s ∈ x.sh, s.1 < m ∧ 0 < s.2 ∧ s.2 ≤ 840) ∧ (x.sh.map (·.2)).sum = 840 ∧ (-100000 ≤ x.v ∧ x.v ≤ 100000) ∧ (1 ≤ x.w ∧ x.w ≤ 1000) ∧ x.sh.length ≤ 1000
theorem le_sum {l : List (Nat × Nat)} {s : Nat × Nat} (h : s ∈ l) : s.2 ≤ (l.map (·.2)).sum := by
  induction l with
  | nil => cases h
  | cons x r ih =>
    simp only [List.map_cons, List.sum_cons]
    rcases List.mem_cons.1 h with rfl | h
    · omega
    · have := ih h; omega
theorem okRow_of {n : Nat} (h : freq n) {x : Pl × Int} (hx : okP x) {w : Int} (hw : 1 ≤ w ∧ w ≤ 1000) (k : Nat) : okRow (10 * n * n + 2) ⟨shares n x.1, x.2, w, k⟩ := by
  obtain ⟨h1, h2⟩ := shares_ok h hx.1
  have hr := raw_ok h hx.1
  have hv := hx.2
  unfold okV at hv
  refine ⟨h1, fun s hs => ?_, (sum_perm h2).trans hr.2.1, ⟨by show -100000 ≤ x.2; omega, by show x.2 ≤ 100000; omega⟩, hw, ?_⟩
  · have hm := h2.mem_iff.1 hs
    have := le_sum hm
    rw [hr.2.1] at this
    exact ⟨(hr.2.2.1 s hm).1, (hr.2.2.1 s hm).2, this⟩
  · have := h2.length_eq; have := hr.2.2.2.1; show (shares n x.1).length ≤ 1000; omega
theorem okRows {n : Nat} (h : freq n) {w : Int} (hw : 1 ≤ w ∧ w ≤ 1000) : ∀ (l : List (Pl × Int)) (k : Nat), (∀ x ∈ l, okP x) → ∀ r ∈ rowsF n w k l, okRow (10 * n * n + 2) r
  | [], _, _, r, hr => by cases hr
  | x :: l, k, hx, r, hr => by
    rcases List.mem_cons.1 hr with rfl | hr
    · exact okRow_of h (hx x (by simp)) hw k
    · exact okRows h hw l (k + 1) (fun y hy => hx y (by simp [hy])) r hr
end Go.Proofs.YtobmbacppbkgeaaDoor
/- The rows and the values that the statements look at. -/
namespace Go.Proofs.YtobmbacppbkgeaaDoor
open Go Go.PM Go.Grid

/-- What is read one after the other. -/
def gather {A : Type} (F : Nat → A × Nat) (i : Nat) : Nat → List A × Nat
  | 0 => ([], i)
  | j + 1 => ((gather F i j).1 ++ [(F (gather F i j).2).1], (F (gather F i j).2).2)
theorem gather_length {A : Type} (F : Nat → A × Nat) (i : Nat) : ∀ j, (gather F i j).1.length = j
  | 0 => rfl
  | j + 1 => by simp [gather, gather_length F i j]
theorem gather_all {A : Type} {P : A → Prop} {F : Nat → A × Nat} (h : ∀ i, P (F i).1) (i : Nat) : ∀ j, ∀ x ∈ (gather F i j).1, P x
  | 0, x, hx => by simp [gather] at hx
  | j + 1, x, hx => by
    simp only [gather, List.mem_append, List.mem_singleton] at hx
    rcases hx with hx | rfl
    · exact gather_all h i j x hx
    · exact h _

theorem sp_rows (fu d : Nat) (hf : 18446744073709551616 ≤ fu) (l : List Int) (i : Nat) (hl : l.length ≤ 2000) :
    ∃ (n : Nat) (L : List (Pl × Int)) (w : Int) (j : Nat), (1 ≤ n ∧ n ≤ 4) ∧ L.length ≤ 8 ∧ (∀ x ∈ L, okP x) ∧ (1 ≤ w ∧ w ≤ 100) ∧
      cl fu (d + 9) fn_synopticlaw21_rows [V.ptr 1000000 0] [srcO l i] = some ⟨V.tup [V.c (C.sl L.length (fl rwc (rowsF n w 0 L))), I ((10 * n * n + 2 : Nat) : Int)], [srcO l j], none⟩ := by
  obtain ⟨v1, j1, a1, b1, c1⟩ := sp_Range fu (d + 5) l i hl 1 4 (by omega) ⟨by omega, by omega⟩
  obtain ⟨v2, j2, a2, b2, c2⟩ := sp_N fu (d + 6) l j1 hl 9 (by omega)
  have hP : ∀ i : Nat, ∃ q : (Pl × Int) × Nat, okP q.1 ∧ ∃ j, cl fu (d + 8) fn_synopticdata_Place [V.ptr 1000000 0] [srcO l i] = some ⟨V.agg (plc q.1.1), [srcO l j], none⟩ ∧ cl fu (d + 8) fn_synopticref04_Some [V.ptr 1000000 0, I 1] [srcO l j] = some ⟨V.agg [C.v (.int .i64 1), C.v (.int .i64 q.1.2)], [srcO l q.2], none⟩ := by
    intro i
    obtain ⟨p, j, hp, e1⟩ := sp_Place fu (d + 3) hf l i hl
    obtain ⟨v, j', e2, e3, e4⟩ := sp_Some fu (d + 4) l j hl 1 (by omega)
    exact ⟨((p, v), j'), ⟨hp, e3, e4⟩, j, e1, e2⟩
  obtain ⟨F, hF⟩ := Classical.axiomOfChoice hP
  obtain ⟨k, hk⟩ : ∃ k : Nat, v2 = k := ⟨v2.toNat, by omega⟩
  obtain ⟨n, hn⟩ : ∃ n : Nat, v1 = n := ⟨v1.toNat, by omega⟩
  subst hk hn
  have hfr : freq n := by unfold freq; omega
  have hgl := gather_length F j2
  have hga := gather_all (P := okP) (F := F) (fun i => (hF i).1) j2
  obtain ⟨v3, j3, a3, b3, c3⟩ := sp_Range fu (d + 5) l (gather F j2 k).2 hl 1 100 (by omega) ⟨by omega, by omega⟩
  have hR := sp_ref_Rows fu d hf n hfr (gather F j2 k).1 (by rw [hgl]; omega) (hga k) v3 (by omega)
  refine ⟨n, (gather F j2 k).1, v3, j3, by omega, by rw [hgl]; omega, hga k, by omega, ?_⟩
  unfold srcO srcC at a1 a2 a3 hF ⊢
  rw [eq_synopticlaw21_rows]
  simp only [obs, rC_c, rA_agg, rT_tup, rP_ptr, rW_own, rS_sb, rF_sb, uncV_cons, uncO_cons, nilV_nil, rO_ob, rN_ob, unc_cons, asI_int, asB_bool, asS_string, asSl_sl, asSl_nl, asFn_fn, asP_cp, nrm_sl, nrm_nl, need_true, ct, cf, bd_eq, natD_zero, natD_succ, natD_one, noYl_v, noYl_sl, noYl_nl, noYl_cp, noYl_fn, Bool.and_true, Bool.true_and, Bool.and_self, beqN_self, Bool.not_true, Bool.not_false, Bool.and_false, Bool.false_and, Bool.or_false, Bool.false_or, Bool.or_true, Bool.true_or, a1, a2, List.length_cons, List.length_nil, Nat.zero_add, Nat.reduceAdd]
  rw [iter_runx (fun j : Nat => (fl rpc (gather F j2 j).1, ((k - j : Nat) : Int), (C.sl l.length (ints l), ((gather F j2 j).2 : Int), ()), ())) 0 (fl rpc (gather F j2 k).1, (0 : Int), (C.sl l.length (ints l), ((gather F j2 k).2 : Int), ()), ()) k ?_ ?_ ?_ (by omega)]
  · have t : List.take ((gather F j2 k).1.length * 8) (fl rpc (gather F j2 k).1) = fl rpc (gather F j2 k).1 := List.take_of_length_le (by rw [fl_length rpc_length]; omega)
    simp (disch := omega) only [obs, rC_c, rA_agg, rT_tup, rP_ptr, rW_own, rS_sb, rF_sb, uncV_cons, uncO_cons, nilV_nil, rO_ob, rN_ob, unc_cons, asI_int, asB_bool, asS_string, asSl_sl, asSl_nl, asFn_fn, asP_cp, nrm_sl, nrm_nl, need_true, ct, cf, bd_eq, natD_zero, natD_succ, natD_one, noYl_v, noYl_sl, noYl_nl, noYl_cp, noYl_fn, Bool.and_true, Bool.true_and, Bool.and_self, beqN_self, Bool.not_true, Bool.not_false, Bool.and_false, Bool.false_and, Bool.or_false, Bool.false_or, Bool.or_true, Bool.true_or, wrap_in, dlt_t, dlt_f, dle_t, dle_f, dgt_t, dgt_f, dge_t, dge_f, ibeq_t, ibeq_f, ibne_t, ibne_f, inR_int, beqN_eq, bleN_le, a3, List.length_cons, List.length_nil, Nat.zero_add, Nat.reduceAdd, fl_length rpc_length, rp_div, t, hR, sp_ref_Count fu (d + 7) n hfr]
  · rfl
  · intro j hj
    obtain ⟨_, j', e1, e2⟩ := hF (gather F j2 j).2
    have hg : (gather F j2 (j + 1)).1 = (gather F j2 j).1 ++ [(F (gather F j2 j).2).1] := rfl
    have hg2 : (gather F j2 (j + 1)).2 = (F (gather F j2 j).2).2 := rfl
    have hlj := hgl j
    simp only [plc] at e1
    rw [hg, hg2]
    generalize F (gather F j2 j).2 = q at *
    obtain ⟨⟨p, v⟩, q2⟩ := q
    simp only at e1 e2 ⊢
    have hs : ((k - j : Nat) : Int) - 1 = ((k - (j + 1) : Nat) : Int) := by omega
    simp (disch := omega) only [obs, rC_c, rA_agg, rT_tup, rP_ptr, rW_own, rS_sb, rF_sb, uncV_cons, uncO_cons, nilV_nil, rO_ob, rN_ob, unc_cons, asI_int, asB_bool, asS_string, asSl_sl, asSl_nl, asFn_fn, asP_cp, nrm_sl, nrm_nl, need_true, ct, cf, bd_eq, natD_zero, natD_succ, natD_one, noYl_v, noYl_sl, noYl_nl, noYl_cp, noYl_fn, Bool.and_true, Bool.true_and, Bool.and_self, beqN_self, Bool.not_true, Bool.not_false, Bool.and_false, Bool.false_and, Bool.or_false, Bool.false_or, Bool.or_true, Bool.true_or, wrap_in, dlt_t, dlt_f, dle_t, dle_f, dgt_t, dgt_f, dge_t, dge_f, ibeq_t, ibeq_f, ibne_t, ibne_f, inR_int, beqN_eq, bleN_le, e1, e2, List.length_cons, List.length_nil, Nat.zero_add, Nat.reduceAdd, fl_length rpc_length, rp_div, hlj, rp_snoc, List.length_append, hs]
  · rw [Nat.sub_self]
    simp (disch := omega) only [obs, rC_c, rA_agg, rT_tup, rP_ptr, rW_own, rS_sb, rF_sb, uncV_cons, uncO_cons, nilV_nil, rO_ob, rN_ob, unc_cons, asI_int, asB_bool, asS_string, asSl_sl, asSl_nl, asFn_fn, asP_cp, nrm_sl, nrm_nl, need_true, ct, cf, bd_eq, natD_zero, natD_succ, natD_one, noYl_v, noYl_sl, noYl_nl, noYl_cp, noYl_fn, Bool.and_true, Bool.true_and, Bool.and_self, beqN_self, Bool.not_true, Bool.not_false, Bool.and_false, Bool.false_and, Bool.or_false, Bool.false_or, Bool.or_true, Bool.true_or, wrap_in, dlt_t, dlt_f, dle_t, dle_f, dgt_t, dgt_f, dge_t, dge_f, ibeq_t, ibeq_f, ibne_t, ibne_f, inR_int, beqN_eq, bleN_le, fl_length rpc_length, rp_div]
    rfl

theorem one_div (k : Nat) : k / 1 = k := Nat.div_one k
theorem sp_values (fu d : Nat) (hf : 18446744073709551616 ≤ fu) (l : List Int) (i : Nat) (hl : l.length ≤ 2000) (m : Nat) (hm : m ≤ 1000) (most : Int) (hmost : 0 ≤ most ∧ most ≤ 1048576) :
    ∃ (x : List Int) (j : Nat), x.length = m ∧ (∀ v ∈ x, -2 * most - 500 ≤ v ∧ v ≤ 2 * most + 500) ∧
      cl fu (d + 4) fn_synopticlaw21_values [V.ptr 1000000 0, I (m : Int), I most] [srcO l i] = some ⟨V.c (C.sl x.length (ints x)), [srcO l j], none⟩ := by
  obtain ⟨base, j1, a1, b1, c1⟩ := sp_Range fu d l i hl (-most) most (by omega) ⟨by omega, by omega⟩
  have hP : ∀ i : Nat, ∃ q : Int × Nat, (-most - 500 ≤ q.1 ∧ q.1 ≤ most + 500) ∧ ∃ v1 j1 v2 j2, cl fu (d + 3) fn_synoptickeep_Src_Range [V.ptr 1000000 0, I (-500), I 500] [srcO l i] = some ⟨I v1, [srcO l j1], none⟩ ∧
      cl fu (d + 3) fn_synoptickeep_Src_Range [V.ptr 1000000 0, I (-most), I most] [srcO l j1] = some ⟨I v2, [srcO l j2], none⟩ ∧ cl fu (d + 3) fn_synoptickeep_Src_Pick [V.ptr 1000000 0, V.c (C.sl 3 [.v (.int .i64 0), .v (.int .i64 v1), .v (.int .i64 v2)])] [srcO l j2] = some ⟨I q.1, [srcO l q.2], none⟩ := by
    intro i
    obtain ⟨v1, j1, a1, b1, c1⟩ := sp_Range fu d l i hl (-500) 500 (by omega) ⟨by omega, by omega⟩
    obtain ⟨v2, j2, a2, b2, c2⟩ := sp_Range fu d l j1 hl (-most) most (by omega) ⟨by omega, by omega⟩
    obtain ⟨v3, j3, a3, b3⟩ := sp_Pick fu d l j2 hl [0, v1, v2] (by simp)
    refine ⟨(v3, j3), ?_, v1, j1, v2, j2, a1, a2, a3⟩
    simp only [List.mem_cons, List.not_mem_nil, or_false] at b3
    rcases b3 with rfl | rfl | rfl
    · simp only; omega
    · simp only; omega
    · simp only; omega
  obtain ⟨F, hF⟩ := Classical.axiomOfChoice hP
  have hgl := gather_length F j1
  have hga := gather_all (P := fun v => -most - 500 ≤ v ∧ v ≤ most + 500) (F := F) (fun i => (hF i).1) j1
  have hx : ∀ v ∈ ((gather F j1 m).1.map fun v => base + v), -2 * most - 500 ≤ v ∧ v ≤ 2 * most + 500 := by
    intro v hv
    obtain ⟨u, hu, rfl⟩ := List.mem_map.1 hv
    have := hga m u hu
    omega
  refine ⟨(gather F j1 m).1.map fun v => base + v, (gather F j1 m).2, by rw [List.length_map, hgl], hx, ?_⟩
  unfold srcO srcC at a1 hF ⊢
  have hneg : (0 : Int) - most = -most := by omega
  have hreps : reps m [C.v (.int .i64 0)] = ints (List.replicate m 0) := by unfold reps ints ik; simp
  rw [eq_synopticlaw21_values]
  simp (disch := omega) only [obs, rC_c, rA_agg, rT_tup, rP_ptr, rW_own, rS_sb, rF_sb, uncV_cons, uncO_cons, nilV_nil, rO_ob, rN_ob, unc_cons, asI_int, asB_bool, asS_string, asSl_sl, asSl_nl, asFn_fn, asP_cp, nrm_sl, nrm_nl, need_true, ct, cf, bd_eq, natD_zero, natD_succ, natD_one, noYl_v, noYl_sl, noYl_nl, noYl_cp, noYl_fn, Bool.and_true, Bool.true_and, Bool.and_self, beqN_self, Bool.not_true, Bool.not_false, Bool.and_false, Bool.false_and, Bool.or_false, Bool.false_or, Bool.or_true, Bool.true_or, wrap_in, dlt_t, dlt_f, dle_t, dle_f, dgt_t, dgt_f, dge_t, dge_f, ibeq_t, ibeq_f, ibne_t, ibne_f, inR_int, beqN_eq, bleN_le, a1, hneg, Int.toNat_natCast, hreps, ik_length, List.length_replicate, Nat.mul_one, List.length_cons, List.length_nil, Nat.zero_add, Nat.reduceAdd, decide_true]
  have st : ∀ j, j ≤ m → ((((gather F j1 j).1.map fun v => base + v) ++ List.replicate (m - j) 0)).length = m := fun j hj => by simp [hgl]; omega
  rw [iter_runx (fun j : Nat => (ints (((gather F j1 j).1.map fun v => base + v) ++ List.replicate (m - j) 0), (j : Int), (C.sl l.length (ints l), ((gather F j1 j).2 : Int), ()), ())) 0 (ints ((gather F j1 m).1.map fun v => base + v), (m : Int), (C.sl l.length (ints l), ((gather F j1 m).2 : Int), ()), ()) m ?_ ?_ ?_ (by omega)]
  · simp (disch := omega) only [obs, rC_c, rA_agg, rT_tup, rP_ptr, rW_own, rS_sb, rF_sb, uncV_cons, uncO_cons, nilV_nil, rO_ob, rN_ob, unc_cons, asI_int, asB_bool, asS_string, asSl_sl, asSl_nl, asFn_fn, asP_cp, nrm_sl, nrm_nl, need_true, ct, cf, bd_eq, natD_zero, natD_succ, natD_one, noYl_v, noYl_sl, noYl_nl, noYl_cp, noYl_fn, Bool.and_true, Bool.true_and, Bool.and_self, beqN_self, Bool.not_true, Bool.not_false, Bool.and_false, Bool.false_and, Bool.or_false, Bool.false_or, Bool.or_true, Bool.true_or, wrap_in, dlt_t, dlt_f, dle_t, dle_f, dgt_t, dgt_f, dge_t, dge_f, ibeq_t, ibeq_f, ibne_t, ibne_f, inR_int, beqN_eq, bleN_le, ik_length, List.length_map, hgl, one_div, Nat.mul_one, Nat.zero_add]
    rw [List.take_of_length_le (by rw [ik_length, List.length_map, hgl]; omega)]
  · simp [gather]
  · intro j hj
    obtain ⟨hq, v1, i1, v2, i2, e1, e2, e3⟩ := hF (gather F j1 j).2
    have hg : (gather F j1 (j + 1)).1 = (gather F j1 j).1 ++ [(F (gather F j1 j).2).1] := rfl
    have hg2 : (gather F j1 (j + 1)).2 = (F (gather F j1 j).2).2 := rfl
    have hlj := hgl j
    have hst := st j (by omega)
    rw [hg, hg2]
    generalize F (gather F j1 j).2 = q at *
    obtain ⟨v, q2⟩ := q
    simp only at e1 e2 e3 hq ⊢
    have hput : putAt (ints (((gather F j1 j).1.map fun v => base + v) ++ List.replicate (m - j) 0)) j [C.v (.int .i64 (base + v))] = ints ((((gather F j1 j).1 ++ [v]).map fun v => base + v) ++ List.replicate (m - (j + 1)) 0) := by
      rw [ik_put (by rw [hst]; exact hj)]
      refine congrArg (ik .i64) ?_
      rw [List.set_append, if_neg (by rw [List.length_map, hlj]; omega), List.length_map, hlj, Nat.sub_self, show m - j = (m - (j + 1)) + 1 by omega, List.replicate_succ]
      simp
    have hst2 := st (j + 1) (by omega)
    rw [hg] at hst2
    simp (disch := omega) only [obs, rC_c, rA_agg, rT_tup, rP_ptr, rW_own, rS_sb, rF_sb, uncV_cons, uncO_cons, nilV_nil, rO_ob, rN_ob, unc_cons, asI_int, asB_bool, asS_string, asSl_sl, asSl_nl, asFn_fn, asP_cp, nrm_sl, nrm_nl, need_true, ct, cf, bd_eq, natD_zero, natD_succ, natD_one, noYl_v, noYl_sl, noYl_nl, noYl_cp, noYl_fn, Bool.and_true, Bool.true_and, Bool.and_self, beqN_self, Bool.not_true, Bool.not_false, Bool.and_false, Bool.false_and, Bool.or_false, Bool.false_or, Bool.or_true, Bool.true_or, wrap_in, dlt_t, dlt_f, dle_t, dle_f, dgt_t, dgt_f, dge_t, dge_f, ibeq_t, ibeq_f, ibne_t, ibne_f, inR_int, beqN_eq, bleN_le, e1, e2, e3, hneg, List.length_cons, List.length_nil, Nat.zero_add, Nat.reduceAdd, ik_length, hst, hst2, one_div, Nat.mul_one, Int.toNat_natCast, hput, Int.natCast_add, Int.natCast_one]
  · have hst := st m (Nat.le_refl _)
    rw [Nat.sub_self, List.replicate_zero, List.append_nil] at hst ⊢
    simp (disch := omega) only [obs, rC_c, rA_agg, rT_tup, rP_ptr, rW_own, rS_sb, rF_sb, uncV_cons, uncO_cons, nilV_nil, rO_ob, rN_ob, unc_cons, asI_int, asB_bool, asS_string, asSl_sl, asSl_nl, asFn_fn, asP_cp, nrm_sl, nrm_nl, need_true, ct, cf, bd_eq, natD_zero, natD_succ, natD_one, noYl_v, noYl_sl, noYl_nl, noYl_cp, noYl_fn, Bool.and_true, Bool.true_and, Bool.and_self, beqN_self, Bool.not_true, Bool.not_false, Bool.and_false, Bool.false_and, Bool.or_false, Bool.false_or, Bool.or_true, Bool.true_or, wrap_in, dlt_t, dlt_f, dle_t, dle_f, dgt_t, dgt_f, dge_t, dge_f, ibeq_t, ibeq_f, ibne_t, ibne_f, inR_int, beqN_eq, bleN_le, ik_length, hst, one_div, Nat.mul_one]
end Go.Proofs.YtobmbacppbkgeaaDoor
