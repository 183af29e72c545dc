/- Parts put together: W, Ga, Gb, Gc, Gd, Ge, Gf, Gg, Gh, Gi, Gj, Gk, Gl, Oa, Ob, Oc, Od, Oe, Of, Og, Oh, Oi, Gm, Oj. -/
import Derived.Test.YtobmbacppbkgeaaDoorJ4
import Derived.Test.YtobmbacppbkgeaaDoorEq
set_option linter.unusedSimpArgs false
set_option linter.unusedVariables false
/- Rules whose conditions simp can have shown by omega; lists of records as cells. -/
namespace Go.PM
open Go
theorem wrap_in {x : Int} (h1 : -9223372036854775808 ≤ x) (h2 : x ≤ 9223372036854775807) : IntKind.i64.wrap x = x := IntWalk.i64_in x ⟨by omega, by omega⟩
theorem dlt_t {a b : Int} (h : a < b) : decide (a < b) = true := decide_eq_true h
theorem dlt_f {a b : Int} (h : b ≤ a) : decide (a < b) = false := decide_eq_false (by omega)
theorem dle_t {a b : Int} (h : a ≤ b) : decide (a ≤ b) = true := decide_eq_true h
theorem dle_f {a b : Int} (h : b < a) : decide (a ≤ b) = false := decide_eq_false (by omega)
theorem dgt_t {a b : Int} (h : b < a) : decide (a > b) = true := decide_eq_true h
theorem dgt_f {a b : Int} (h : a ≤ b) : decide (a > b) = false := decide_eq_false (by omega)
theorem dge_t {a b : Int} (h : b ≤ a) : decide (a ≥ b) = true := decide_eq_true h
theorem dge_f {a b : Int} (h : a < b) : decide (a ≥ b) = false := decide_eq_false (by omega)
theorem ibeq_t {a b : Int} (h : a = b) : (a == b) = true := beq_iff_eq.2 h
theorem ibeq_f {a b : Int} (h : a ≠ b) : (a == b) = false := beq_eq_false_iff_ne.2 h
theorem ibne_t {a b : Int} (h : a ≠ b) : (a != b) = true := bne_iff_ne.2 h
theorem ibne_f {a b : Int} (h : a = b) : (a != b) = false := by subst h; simp
def fl {A : Type} (e : A → List C) (l : List A) : List C := l.flatMap e
section
variable {A : Type} {e : A → List C} {m : Nat}
@[simp] theorem fl_nil : fl e [] = [] := rfl
theorem fl_cons (x : A) (l : List A) : fl e (x :: l) = e x ++ fl e l := by simp [fl]
theorem fl_append (l l' : List A) : fl e (l ++ l') = fl e l ++ fl e l' := by simp [fl]
theorem fl_snoc (l : List A) (x : A) : fl e l ++ e x = fl e (l ++ [x]) := by simp [fl]
theorem fl_length (h : ∀ x, (e x).length = m) : ∀ l : List A, (fl e l).length = l.length * m
  | [] => by simp [fl]
  | x :: l => by rw [fl_cons, List.length_append, h, fl_length h l, List.length_cons, Nat.succ_mul]; omega
theorem fl_drop (h : ∀ x, (e x).length = m) : ∀ (k : Nat) (l : List A), (fl e l).drop (k * m) = fl e (l.drop k)
  | 0, l => by simp
  | k + 1, [] => by simp [fl]
  | k + 1, x :: l => by
    rw [fl_cons, Nat.succ_mul, Nat.add_comm, List.drop_append]
    rw [show (e x).drop (m + k * m) = [] from List.drop_eq_nil_of_le (by rw [h]; omega), h, Nat.add_sub_cancel_left, List.nil_append, fl_drop h k l]
    rfl
theorem fl_at (h : ∀ x, (e x).length = m) {k : Nat} {l : List A} (hk : k < l.length) : (fl e l).drop (k * m) = e l[k] ++ fl e (l.drop (k + 1)) := by
  rw [fl_drop h, List.drop_eq_getElem_cons hk, fl_cons]
end
theorem first_or_none (P : Nat → Prop) [DecidablePred P] (n : Nat) : (∀ j, j < n → ¬ P j) ∨ ∃ k, k < n ∧ P k ∧ ∀ j, j < k → ¬ P j := by
  induction n with
  | zero => left; intro j hj; omega
  | succ n ih =>
    rcases ih with ih | ⟨k, h1, h2, h3⟩
    · by_cases h : P n
      · exact .inr ⟨n, by omega, h, ih⟩
      · left; intro j hj; by_cases e : j = n
        · subst e; exact h
        · exact ih j (by omega)
    · exact .inr ⟨k, by omega, h2, h3⟩
theorem iter_runx {A : Type} {body : A → Option (Nat × A)} {x : A} {fu : Nat} (f : Nat → A) (e : Nat) (z : A) (k : Nat) (hx : x = f 0) (h : ∀ j, j < k → body (f j) = some (0, f (j + 1))) (he : body (f k) = some (e + 1, z)) (hf : k < fu) : iter body fu x = some (e, z) := by
  rw [hx]; exact iter_run f e z k 0 fu (fun j _ hj => h j (by omega)) (by rw [Nat.zero_add]; exact he) hf
theorem iter_s {A : Type} (body : A → Option (Nat × A)) (n : Nat) (x : A) : iter body (n + 1) x = (body x).bind fun p => natD p.1 (iter body n p.2) fun m => some (m, p.2) := by
  simp only [iter]
  congr 1
end Go.PM
/- Places on the icosahedron and the nodes of its grids: plain laws, no program in sight. -/
namespace Go.Grid
structure Pl where
  f : Nat
  a : Nat
  b : Nat
  c : Nat
  deriving DecidableEq, Inhabited
def crnL : List (Nat × Nat × Nat) := [(0, 1, 2), (0, 2, 3), (0, 3, 4), (0, 4, 5), (0, 5, 1), (1, 6, 2), (2, 7, 3), (3, 8, 4), (4, 9, 5), (5, 10, 1),
  (6, 7, 2), (7, 8, 3), (8, 9, 4), (9, 10, 5), (10, 6, 1), (11, 7, 6), (11, 8, 7), (11, 9, 8), (11, 10, 9), (11, 6, 10)]
def crn (f : Nat) : Nat × Nat × Nat := crnL.getD f (0, 1, 2)
def Pl.ok (p : Pl) : Prop := p.f < 20 ∧ p.a + p.b + p.c = 840
instance (p : Pl) : Decidable p.ok := inferInstanceAs (Decidable (_ ∧ _))
def wt3 (k : Nat × Nat × Nat) (a b c v : Nat) : Nat := if v = k.1 then a else if v = k.2.1 then b else if v = k.2.2 then c else 0
def wt (p : Pl) (v : Nat) : Nat := wt3 (crn p.f) p.a p.b p.c v
def onW (w : Nat → Nat) (f : Nat) : Pl := ⟨f, w (crn f).1, w (crn f).2.1, w (crn f).2.2⟩
def Pl.full (p : Pl) : Bool := p.a + p.b + p.c == 840
def addrsW (w : Nat → Nat) : List Pl := ((List.range 20).map (onW w)).filter Pl.full
def addrs (p : Pl) : List Pl := addrsW (wt p)
def norm (p : Pl) : Pl := (addrs p).headD p
def Apart (k : Nat × Nat × Nat) : Prop := k.1 ≠ k.2.1 ∧ k.1 ≠ k.2.2 ∧ k.2.1 ≠ k.2.2
instance (k : Nat × Nat × Nat) : Decidable (Apart k) := inferInstanceAs (Decidable (_ ∧ _ ∧ _))
theorem crn_apart (f : Nat) : Apart (crn f) := by
  by_cases h : f < 20
  · exact (by decide : ∀ f : Fin 20, Apart (crn f)) ⟨f, h⟩
  · have : crn f = (0, 1, 2) := by unfold crn; rw [List.getD_eq_getElem?_getD, List.getElem?_eq_none (by simp [crnL]; omega)]; rfl
    rw [this]; decide
theorem wt3_1 (k : Nat × Nat × Nat) (a b c : Nat) : wt3 k a b c k.1 = a := by simp [wt3]
theorem wt3_2 {k : Nat × Nat × Nat} (h : Apart k) (a b c : Nat) : wt3 k a b c k.2.1 = b := by simp [wt3, Ne.symm h.1]
theorem wt3_3 {k : Nat × Nat × Nat} (h : Apart k) (a b c : Nat) : wt3 k a b c k.2.2 = c := by simp [wt3, Ne.symm h.2.1, Ne.symm h.2.2]
theorem onW_self (p : Pl) : onW (wt p) p.f = p := by
  cases p with
  | mk f a b c =>
    have h := crn_apart f
    simp only [onW, wt, wt3_1, wt3_2 h, wt3_3 h]
theorem wt3_sum {k : Nat × Nat × Nat} (h : Apart k) (a b c v : Nat) : wt3 k a b c v = (if v = k.1 then a else 0) + (if v = k.2.1 then b else 0) + (if v = k.2.2 then c else 0) := by
  obtain ⟨h1, h2, h3⟩ := h
  unfold wt3
  by_cases e1 : v = k.1
  · have e2 : ¬ v = k.2.1 := fun e => h1 (e1.symm.trans e)
    have e3 : ¬ v = k.2.2 := fun e => h2 (e1.symm.trans e)
    simp only [if_pos e1, if_neg e2, if_neg e3, Nat.add_zero]
  · by_cases e2 : v = k.2.1
    · have e3 : ¬ v = k.2.2 := fun e => h3 (e2.symm.trans e)
      simp only [if_neg e1, if_pos e2, if_neg e3, Nat.add_zero, Nat.zero_add]
    · by_cases e3 : v = k.2.2
      · simp only [if_neg e1, if_neg e2, if_pos e3, Nat.zero_add]
      · simp only [if_neg e1, if_neg e2, if_neg e3]
def part3 (l : Nat × Nat × Nat) (k a : Nat) : Nat := (if l.1 = k then a else 0) + (if l.2.1 = k then a else 0) + (if l.2.2 = k then a else 0)
theorem part3_le {l : Nat × Nat × Nat} (h : Apart l) (k a : Nat) : part3 l k a ≤ a := by
  obtain ⟨h1, h2, h3⟩ := h
  unfold part3
  (repeat' split) <;> omega
theorem part3_none {l : Nat × Nat × Nat} {k : Nat} (h1 : ¬ l.1 = k) (h2 : ¬ l.2.1 = k) (h3 : ¬ l.2.2 = k) (a : Nat) : part3 l k a = 0 := by
  unfold part3; rw [if_neg h1, if_neg h2, if_neg h3]
theorem wt3_full {k k' : Nat × Nat × Nat} (h : Apart k) (h' : Apart k') {a b c : Nat} (hs : wt3 k a b c k'.1 + wt3 k a b c k'.2.1 + wt3 k a b c k'.2.2 = a + b + c) (v : Nat) :
    wt3 k' (wt3 k a b c k'.1) (wt3 k a b c k'.2.1) (wt3 k a b c k'.2.2) v = wt3 k a b c v := by
  have hp : part3 k' k.1 a + part3 k' k.2.1 b + part3 k' k.2.2 c = a + b + c := by
    rw [wt3_sum h, wt3_sum h, wt3_sum h] at hs
    unfold part3; omega
  have l1 := part3_le h' k.1 a
  have l2 := part3_le h' k.2.1 b
  have l3 := part3_le h' k.2.2 c
  by_cases e1 : v = k'.1
  · rw [e1, wt3_1]
  · by_cases e2 : v = k'.2.1
    · rw [e2, wt3_2 h']
    · by_cases e3 : v = k'.2.2
      · rw [e3, wt3_3 h']
      · have hz : ∀ x y z, wt3 k' x y z v = 0 := fun x y z => by simp only [wt3, e1, e2, e3, if_false]
        rw [hz]
        have q1 : ∀ {j : Nat}, v = j → ¬ k'.1 = j := fun e e' => e1 (e.trans e'.symm)
        have q2 : ∀ {j : Nat}, v = j → ¬ k'.2.1 = j := fun e e' => e2 (e.trans e'.symm)
        have q3 : ∀ {j : Nat}, v = j → ¬ k'.2.2 = j := fun e e' => e3 (e.trans e'.symm)
        rw [wt3_sum h]
        have r1 : (if v = k.1 then a else 0) = 0 := by
          split
          · rename_i e; have := part3_none (q1 e) (q2 e) (q3 e) a; omega
          · rfl
        have r2 : (if v = k.2.1 then b else 0) = 0 := by
          split
          · rename_i e; have := part3_none (q1 e) (q2 e) (q3 e) b; omega
          · rfl
        have r3 : (if v = k.2.2 then c else 0) = 0 := by
          split
          · rename_i e; have := part3_none (q1 e) (q2 e) (q3 e) c; omega
          · rfl
        rw [r1, r2, r3]
theorem full_iff {p : Pl} : p.full = true ↔ p.a + p.b + p.c = 840 := by simp [Pl.full]
theorem mem_addrs {p q : Pl} : q ∈ addrs p ↔ ∃ f, f < 20 ∧ onW (wt p) f = q ∧ q.a + q.b + q.c = 840 := by
  simp only [addrs, addrsW, List.mem_filter, List.mem_map, List.mem_range, full_iff]
  constructor
  · rintro ⟨⟨f, h1, h2⟩, h3⟩; exact ⟨f, h1, h2, h3⟩
  · rintro ⟨f, h1, h2, h3⟩; exact ⟨⟨f, h1, h2⟩, h3⟩
theorem self_addrs {p : Pl} (h : p.ok) : p ∈ addrs p := mem_addrs.2 ⟨p.f, h.1, onW_self p, h.2⟩
theorem addrs_wt {p q : Pl} (h : p.ok) (hq : q ∈ addrs p) : q.ok ∧ wt q = wt p := by
  obtain ⟨f, h1, rfl, h3⟩ := mem_addrs.1 hq
  refine ⟨⟨h1, h3⟩, funext fun v => ?_⟩
  have hs : wt p (crn f).1 + wt p (crn f).2.1 + wt p (crn f).2.2 = p.a + p.b + p.c := by rw [h.2]; exact h3
  exact wt3_full (crn_apart p.f) (crn_apart f) hs v
theorem norm_mem {p : Pl} (h : p.ok) : norm p ∈ addrs p := by
  unfold norm
  have := self_addrs h
  cases e : addrs p with
  | nil => rw [e] at this; cases this
  | cons x r => simp
theorem norm_ok {p : Pl} (h : p.ok) : (norm p).ok := (addrs_wt h (norm_mem h)).1
theorem norm_wt {p : Pl} (h : p.ok) : wt (norm p) = wt p := (addrs_wt h (norm_mem h)).2
theorem norm_head {p : Pl} (h : p.ok) : ∃ r, addrs p = norm p :: r := by
  unfold norm
  have := self_addrs h
  cases e : addrs p with
  | nil => rw [e] at this; cases this
  | cons x r => exact ⟨r, rfl⟩
theorem norm_of_wt {p q : Pl} (h : p.ok) (hq : q.ok) (e : wt p = wt q) : norm p = norm q := by
  obtain ⟨r, h1⟩ := norm_head h
  obtain ⟨r', h2⟩ := norm_head hq
  have : addrs p = addrs q := by unfold addrs; rw [e]
  rw [h1, h2] at this
  exact (List.cons.inj this).1
theorem norm_norm {p : Pl} (h : p.ok) : norm (norm p) = norm p := norm_of_wt (norm_ok h) h (norm_wt h)
theorem eq_of_wt {p q : Pl} (hf : p.f = q.f) (e : wt p = wt q) : p = q := by
  rw [← onW_self p, ← onW_self q, e, hf]
theorem eq_of_norm {p q : Pl} (h : p.ok) (hq : q.ok) (hf : p.f = q.f) (e : norm p = norm q) : p = q :=
  eq_of_wt hf ((norm_wt h).symm.trans ((congrArg wt e).trans (norm_wt hq)))
end Go.Grid
/- The nodes of the grids: plain laws, no program in sight. -/
namespace Go.Grid
def freq (n : Nat) : Prop := 1 ≤ n ∧ n ≤ 8
theorem freq_cases {n : Nat} (h : freq n) : n = 1 ∨ n = 2 ∨ n = 3 ∨ n = 4 ∨ n = 5 ∨ n = 6 ∨ n = 7 ∨ n = 8 := by unfold freq at h; omega
theorem mul_step {n : Nat} (h : freq n) : n * (840 / n) = 840 := by
  rcases freq_cases h with rfl | rfl | rfl | rfl | rfl | rfl | rfl | rfl <;> rfl
theorem step_pos {n : Nat} (h : freq n) : 105 ≤ 840 / n ∧ 840 / n ≤ 840 := by
  rcases freq_cases h with rfl | rfl | rfl | rfl | rfl | rfl | rfl | rfl <;> decide
def pt (n f i j : Nat) : Pl := ⟨f, i * (840 / n), j * (840 / n), (n - i - j) * (840 / n)⟩
def row (n f i : Nat) : List Pl := (List.range (n + 1 - i)).map (pt n f i)
def face (n f : Nat) : List Pl := (List.range (n + 1)).flatMap (row n f)
def pts (n : Nat) : List Pl := (List.range 20).flatMap (face n)
def isN (p : Pl) : Bool := decide (norm p = p)
def nodes (n : Nat) : List Pl := (pts n).filter isN
theorem mem_pts {n : Nat} {p : Pl} : p ∈ pts n ↔ ∃ f i j, f < 20 ∧ i + j ≤ n ∧ pt n f i j = p := by
  simp only [pts, face, row, List.mem_flatMap, List.mem_range, List.mem_map]
  constructor
  · rintro ⟨f, h1, i, h2, j, h3, e⟩; exact ⟨f, i, j, h1, by omega, e⟩
  · rintro ⟨f, i, j, h1, h2, e⟩; exact ⟨f, h1, i, by omega, j, by omega, e⟩
theorem pt_sum {n i j : Nat} (h : freq n) (hij : i + j ≤ n) : i * (840 / n) + j * (840 / n) + (n - i - j) * (840 / n) = 840 := by
  rw [← Nat.add_mul, ← Nat.add_mul, show i + j + (n - i - j) = n by omega]; exact mul_step h
theorem pt_ok {n f i j : Nat} (h : freq n) (hf : f < 20) (hij : i + j ≤ n) : (pt n f i j).ok := ⟨hf, pt_sum h hij⟩
theorem pts_ok {n : Nat} (h : freq n) {p : Pl} (hp : p ∈ pts n) : p.ok := by
  obtain ⟨f, i, j, h1, h2, rfl⟩ := mem_pts.1 hp; exact pt_ok h h1 h2
theorem mem_pts_of {n : Nat} (h : freq n) {p : Pl} (hp : p.ok) (ha : 840 / n ∣ p.a) (hb : 840 / n ∣ p.b) (hc : 840 / n ∣ p.c) : p ∈ pts n := by
  obtain ⟨i, ei⟩ := ha
  obtain ⟨j, ej⟩ := hb
  obtain ⟨k, ek⟩ := hc
  have hs := hp.2
  have hm := mul_step h
  have hst := step_pos h
  have e : i + j + k = n := by
    have h1 : (i + j + k) * (840 / n) = n * (840 / n) := by
      rw [hm, Nat.add_mul, Nat.add_mul, Nat.mul_comm i, Nat.mul_comm j, Nat.mul_comm k, ← ei, ← ej, ← ek]; exact hs
    exact Nat.eq_of_mul_eq_mul_right (by omega) h1
  refine mem_pts.2 ⟨p.f, i, j, hp.1, by omega, ?_⟩
  cases p with
  | mk f a b c =>
    simp only at ei ej ek
    simp only [pt, Pl.mk.injEq, true_and]
    refine ⟨by rw [ei, Nat.mul_comm], by rw [ej, Nat.mul_comm], ?_⟩
    rw [ek, show n - i - j = k by omega, Nat.mul_comm]
theorem norm_coord {p : Pl} (h : p.ok) (P : Nat → Prop) (h0 : P 0) (ha : P p.a) (hb : P p.b) (hc : P p.c) : P (norm p).a ∧ P (norm p).b ∧ P (norm p).c := by
  have hw : ∀ v, P (wt p v) := fun v => by
    unfold wt wt3
    split
    · exact ha
    · split
      · exact hb
      · split
        · exact hc
        · exact h0
  obtain ⟨f, _, e, _⟩ := mem_addrs.1 (norm_mem h)
  rw [← e]
  exact ⟨hw _, hw _, hw _⟩
theorem norm_pts {n : Nat} (h : freq n) {p : Pl} (hp : p ∈ pts n) : norm p ∈ nodes n := by
  have ho := pts_ok h hp
  obtain ⟨f, i, j, h1, h2, e⟩ := mem_pts.1 hp
  obtain ⟨d1, d2, d3⟩ := norm_coord ho (fun x => 840 / n ∣ x) (Nat.dvd_zero _) (by rw [← e]; exact Nat.dvd_mul_left _ _) (by rw [← e]; exact Nat.dvd_mul_left _ _) (by rw [← e]; exact Nat.dvd_mul_left _ _)
  refine List.mem_filter.2 ⟨mem_pts_of h (norm_ok ho) d1 d2 d3, ?_⟩
  exact decide_eq_true (norm_norm ho)
def plt (p q : Pl) : Prop := p.f < q.f ∨ p.f = q.f ∧ (p.a < q.a ∨ p.a = q.a ∧ p.b < q.b)
instance (p q : Pl) : Decidable (plt p q) := inferInstanceAs (Decidable (_ ∨ _ ∧ (_ ∨ _ ∧ _)))
theorem plt_irrefl (p : Pl) : ¬ plt p p := by unfold plt; omega
def idx (n : Nat) (p : Pl) : Nat := (nodes n).idxOf (norm p)
theorem idx_lt {n : Nat} (h : freq n) {p : Pl} (hp : p ∈ pts n) : idx n p < (nodes n).length := List.idxOf_lt_length_of_mem (norm_pts h hp)
theorem idx_at {n : Nat} (h : freq n) {p : Pl} (hp : p ∈ pts n) : (nodes n)[idx n p]'(idx_lt h hp) = norm p := List.getElem_idxOf (idx_lt h hp)
theorem idx_inj {n : Nat} (h : freq n) {p q : Pl} (hp : p ∈ pts n) (hq : q ∈ pts n) (hf : p.f = q.f) (e : idx n p = idx n q) : p = q := by
  refine eq_of_norm (pts_ok h hp) (pts_ok h hq) hf ?_
  rw [← idx_at h hp, ← idx_at h hq]
  congr 1
theorem nodes_length {n : Nat} (h : freq n) : (nodes n).length = 10 * n * n + 2 := by
  rcases freq_cases h with rfl | rfl | rfl | rfl | rfl | rfl | rfl | rfl <;> kernel_rfl
end Go.Grid
/- Places: what the functions of the program and of the reference come to. -/
namespace Go.Proofs.YtobmbacppbkgeaaDoor
open Go Go.PM Go.Grid
def plc (p : Pl) : List C := [.v (.int .i64 p.f), .v (.int .i64 p.a), .v (.int .i64 p.b), .v (.int .i64 p.c)]
theorem plc_length (p : Pl) : (plc p).length = 4 := rfl
def wcs (w : Nat → Nat) : List C := (List.range 12).map fun v => .v (.int .i64 (w v))
abbrev OK (r : V) : Option Out := some ⟨r, [], none⟩
def validI (f a b c : Int) : Bool := decide (0 ≤ f ∧ f < 20 ∧ 0 ≤ a ∧ a ≤ 840 ∧ 0 ≤ b ∧ b ≤ 840 ∧ 0 ≤ c ∧ c ≤ 840 ∧ a + b + c = 840)
theorem validI_pl {f a b c : Int} (h : validI f a b c = true) : ∃ p : Pl, p.ok ∧ f = p.f ∧ a = p.a ∧ b = p.b ∧ c = p.c := by
  have h := of_decide_eq_true h
  exact ⟨⟨f.toNat, a.toNat, b.toNat, c.toNat⟩, ⟨by show f.toNat < 20; omega, by show a.toNat + b.toNat + c.toNat = 840; omega⟩, by simp; omega, by simp; omega, by simp; omega, by simp; omega⟩
theorem validI_of {p : Pl} (h : p.ok) : validI p.f p.a p.b p.c = true := by
  obtain ⟨h1, h2⟩ := h
  exact decide_eq_true (by omega)
theorem sp_ref_Valid (fu d : Nat) (f a b c : Int) : cl fu (d + 1) fn_synopticref02_Valid [V.agg [.v (.int .i64 f), .v (.int .i64 a), .v (.int .i64 b), .v (.int .i64 c)]] [] = OK (B (validI f a b c)) := by
  rw [eq_synopticref02_Valid]
  by_cases h1 : 0 ≤ f
  case neg => rw [show validI f a b c = false from decide_eq_false (by omega)]; simp (disch := omega) only [obs, rC_c, rA_agg, rT_tup, rP_ptr, rW_own, rS_sb, rF_sb, uncV_cons, uncO_cons, nilV_nil, rO_ob, rN_ob, unc_cons, asI_int, asB_bool, asS_string, asSl_sl, asSl_nl, asFn_fn, asP_cp, nrm_sl, nrm_nl, need_true, ct, cf, bd_eq, natD_zero, natD_succ, natD_one, noYl_v, noYl_sl, noYl_nl, noYl_cp, noYl_fn, Bool.and_true, Bool.true_and, Bool.and_self, beqN_self, Bool.not_true, Bool.not_false, Bool.and_false, Bool.false_and, Bool.or_false, Bool.false_or, Bool.or_true, Bool.true_or, wrap_in, dlt_t, dlt_f, dle_t, dle_f, dgt_t, dgt_f, dge_t, dge_f, ibeq_t, ibeq_f, ibne_t, ibne_f, inR_int, beqN_eq, bleN_le]
  by_cases h2 : f < 20
  case neg => rw [show validI f a b c = false from decide_eq_false (by omega)]; simp (disch := omega) only [obs, rC_c, rA_agg, rT_tup, rP_ptr, rW_own, rS_sb, rF_sb, uncV_cons, uncO_cons, nilV_nil, rO_ob, rN_ob, unc_cons, asI_int, asB_bool, asS_string, asSl_sl, asSl_nl, asFn_fn, asP_cp, nrm_sl, nrm_nl, need_true, ct, cf, bd_eq, natD_zero, natD_succ, natD_one, noYl_v, noYl_sl, noYl_nl, noYl_cp, noYl_fn, Bool.and_true, Bool.true_and, Bool.and_self, beqN_self, Bool.not_true, Bool.not_false, Bool.and_false, Bool.false_and, Bool.or_false, Bool.false_or, Bool.or_true, Bool.true_or, wrap_in, dlt_t, dlt_f, dle_t, dle_f, dgt_t, dgt_f, dge_t, dge_f, ibeq_t, ibeq_f, ibne_t, ibne_f, inR_int, beqN_eq, bleN_le]
  by_cases h3 : 0 ≤ a
  case neg => rw [show validI f a b c = false from decide_eq_false (by omega)]; simp (disch := omega) only [obs, rC_c, rA_agg, rT_tup, rP_ptr, rW_own, rS_sb, rF_sb, uncV_cons, uncO_cons, nilV_nil, rO_ob, rN_ob, unc_cons, asI_int, asB_bool, asS_string, asSl_sl, asSl_nl, asFn_fn, asP_cp, nrm_sl, nrm_nl, need_true, ct, cf, bd_eq, natD_zero, natD_succ, natD_one, noYl_v, noYl_sl, noYl_nl, noYl_cp, noYl_fn, Bool.and_true, Bool.true_and, Bool.and_self, beqN_self, Bool.not_true, Bool.not_false, Bool.and_false, Bool.false_and, Bool.or_false, Bool.false_or, Bool.or_true, Bool.true_or, wrap_in, dlt_t, dlt_f, dle_t, dle_f, dgt_t, dgt_f, dge_t, dge_f, ibeq_t, ibeq_f, ibne_t, ibne_f, inR_int, beqN_eq, bleN_le]
  by_cases h4 : a ≤ 840
  case neg => rw [show validI f a b c = false from decide_eq_false (by omega)]; simp (disch := omega) only [obs, rC_c, rA_agg, rT_tup, rP_ptr, rW_own, rS_sb, rF_sb, uncV_cons, uncO_cons, nilV_nil, rO_ob, rN_ob, unc_cons, asI_int, asB_bool, asS_string, asSl_sl, asSl_nl, asFn_fn, asP_cp, nrm_sl, nrm_nl, need_true, ct, cf, bd_eq, natD_zero, natD_succ, natD_one, noYl_v, noYl_sl, noYl_nl, noYl_cp, noYl_fn, Bool.and_true, Bool.true_and, Bool.and_self, beqN_self, Bool.not_true, Bool.not_false, Bool.and_false, Bool.false_and, Bool.or_false, Bool.false_or, Bool.or_true, Bool.true_or, wrap_in, dlt_t, dlt_f, dle_t, dle_f, dgt_t, dgt_f, dge_t, dge_f, ibeq_t, ibeq_f, ibne_t, ibne_f, inR_int, beqN_eq, bleN_le]
  by_cases h5 : 0 ≤ b
  case neg => rw [show validI f a b c = false from decide_eq_false (by omega)]; simp (disch := omega) only [obs, rC_c, rA_agg, rT_tup, rP_ptr, rW_own, rS_sb, rF_sb, uncV_cons, uncO_cons, nilV_nil, rO_ob, rN_ob, unc_cons, asI_int, asB_bool, asS_string, asSl_sl, asSl_nl, asFn_fn, asP_cp, nrm_sl, nrm_nl, need_true, ct, cf, bd_eq, natD_zero, natD_succ, natD_one, noYl_v, noYl_sl, noYl_nl, noYl_cp, noYl_fn, Bool.and_true, Bool.true_and, Bool.and_self, beqN_self, Bool.not_true, Bool.not_false, Bool.and_false, Bool.false_and, Bool.or_false, Bool.false_or, Bool.or_true, Bool.true_or, wrap_in, dlt_t, dlt_f, dle_t, dle_f, dgt_t, dgt_f, dge_t, dge_f, ibeq_t, ibeq_f, ibne_t, ibne_f, inR_int, beqN_eq, bleN_le]
  by_cases h6 : b ≤ 840
  case neg => rw [show validI f a b c = false from decide_eq_false (by omega)]; simp (disch := omega) only [obs, rC_c, rA_agg, rT_tup, rP_ptr, rW_own, rS_sb, rF_sb, uncV_cons, uncO_cons, nilV_nil, rO_ob, rN_ob, unc_cons, asI_int, asB_bool, asS_string, asSl_sl, asSl_nl, asFn_fn, asP_cp, nrm_sl, nrm_nl, need_true, ct, cf, bd_eq, natD_zero, natD_succ, natD_one, noYl_v, noYl_sl, noYl_nl, noYl_cp, noYl_fn, Bool.and_true, Bool.true_and, Bool.and_self, beqN_self, Bool.not_true, Bool.not_false, Bool.and_false, Bool.false_and, Bool.or_false, Bool.false_or, Bool.or_true, Bool.true_or, wrap_in, dlt_t, dlt_f, dle_t, dle_f, dgt_t, dgt_f, dge_t, dge_f, ibeq_t, ibeq_f, ibne_t, ibne_f, inR_int, beqN_eq, bleN_le]
  by_cases h7 : 0 ≤ c
  case neg => rw [show validI f a b c = false from decide_eq_false (by omega)]; simp (disch := omega) only [obs, rC_c, rA_agg, rT_tup, rP_ptr, rW_own, rS_sb, rF_sb, uncV_cons, uncO_cons, nilV_nil, rO_ob, rN_ob, unc_cons, asI_int, asB_bool, asS_string, asSl_sl, asSl_nl, asFn_fn, asP_cp, nrm_sl, nrm_nl, need_true, ct, cf, bd_eq, natD_zero, natD_succ, natD_one, noYl_v, noYl_sl, noYl_nl, noYl_cp, noYl_fn, Bool.and_true, Bool.true_and, Bool.and_self, beqN_self, Bool.not_true, Bool.not_false, Bool.and_false, Bool.false_and, Bool.or_false, Bool.false_or, Bool.or_true, Bool.true_or, wrap_in, dlt_t, dlt_f, dle_t, dle_f, dgt_t, dgt_f, dge_t, dge_f, ibeq_t, ibeq_f, ibne_t, ibne_f, inR_int, beqN_eq, bleN_le]
  by_cases h8 : c ≤ 840
  case neg => rw [show validI f a b c = false from decide_eq_false (by omega)]; simp (disch := omega) only [obs, rC_c, rA_agg, rT_tup, rP_ptr, rW_own, rS_sb, rF_sb, uncV_cons, uncO_cons, nilV_nil, rO_ob, rN_ob, unc_cons, asI_int, asB_bool, asS_string, asSl_sl, asSl_nl, asFn_fn, asP_cp, nrm_sl, nrm_nl, need_true, ct, cf, bd_eq, natD_zero, natD_succ, natD_one, noYl_v, noYl_sl, noYl_nl, noYl_cp, noYl_fn, Bool.and_true, Bool.true_and, Bool.and_self, beqN_self, Bool.not_true, Bool.not_false, Bool.and_false, Bool.false_and, Bool.or_false, Bool.false_or, Bool.or_true, Bool.true_or, wrap_in, dlt_t, dlt_f, dle_t, dle_f, dgt_t, dgt_f, dge_t, dge_f, ibeq_t, ibeq_f, ibne_t, ibne_f, inR_int, beqN_eq, bleN_le]
  by_cases h9 : a + b + c = 840
  · rw [show validI f a b c = true from decide_eq_true (by omega)]; simp (disch := omega) only [obs, rC_c, rA_agg, rT_tup, rP_ptr, rW_own, rS_sb, rF_sb, uncV_cons, uncO_cons, nilV_nil, rO_ob, rN_ob, unc_cons, asI_int, asB_bool, asS_string, asSl_sl, asSl_nl, asFn_fn, asP_cp, nrm_sl, nrm_nl, need_true, ct, cf, bd_eq, natD_zero, natD_succ, natD_one, noYl_v, noYl_sl, noYl_nl, noYl_cp, noYl_fn, Bool.and_true, Bool.true_and, Bool.and_self, beqN_self, Bool.not_true, Bool.not_false, Bool.and_false, Bool.false_and, Bool.or_false, Bool.false_or, Bool.or_true, Bool.true_or, wrap_in, dlt_t, dlt_f, dle_t, dle_f, dgt_t, dgt_f, dge_t, dge_f, ibeq_t, ibeq_f, ibne_t, ibne_f, inR_int, beqN_eq, bleN_le]
  · rw [show validI f a b c = false from decide_eq_false (by omega)]; simp (disch := omega) only [obs, rC_c, rA_agg, rT_tup, rP_ptr, rW_own, rS_sb, rF_sb, uncV_cons, uncO_cons, nilV_nil, rO_ob, rN_ob, unc_cons, asI_int, asB_bool, asS_string, asSl_sl, asSl_nl, asFn_fn, asP_cp, nrm_sl, nrm_nl, need_true, ct, cf, bd_eq, natD_zero, natD_succ, natD_one, noYl_v, noYl_sl, noYl_nl, noYl_cp, noYl_fn, Bool.and_true, Bool.true_and, Bool.and_self, beqN_self, Bool.not_true, Bool.not_false, Bool.and_false, Bool.false_and, Bool.or_false, Bool.false_or, Bool.or_true, Bool.true_or, wrap_in, dlt_t, dlt_f, dle_t, dle_f, dgt_t, dgt_f, dge_t, dge_f, ibeq_t, ibeq_f, ibne_t, ibne_f, inR_int, beqN_eq, bleN_le]
theorem twenty {f : Nat} (h : f < 20) : f = 0 ∨ f = 1 ∨ f = 2 ∨ f = 3 ∨ f = 4 ∨ f = 5 ∨ f = 6 ∨ f = 7 ∨ f = 8 ∨ f = 9 ∨ f = 10 ∨ f = 11 ∨ f = 12 ∨ f = 13 ∨ f = 14 ∨ f = 15 ∨ f = 16 ∨ f = 17 ∨ f = 18 ∨ f = 19 := by omega
theorem sp_ref_Corners (fu d f : Nat) (h : f < 20) : cl fu (d + 1) fn_synopticref02_Corners [I f] [] = OK (V.tup [V.agg [.v (.int .i64 (crn f).1), .v (.int .i64 (crn f).2.1), .v (.int .i64 (crn f).2.2)], I 0]) := by
  rw [eq_synopticref02_Corners]
  rcases twenty h with rfl | rfl | rfl | rfl | rfl | rfl | rfl | rfl | rfl | rfl | rfl | rfl | rfl | rfl | rfl | rfl | rfl | rfl | rfl | rfl <;> (show @Eq (Option Out) _ _; kernel_rfl)
theorem sp_ref_Weights (fu d : Nat) (p : Pl) (h : p.ok) : cl fu (d + 2) fn_synopticref02_Weights [V.agg (plc p)] [] = OK (V.agg (wcs (wt p))) := by
  obtain ⟨f, a, b, c⟩ := p
  unfold plc
  rw [eq_synopticref02_Weights]
  simp only
  rw [sp_ref_Corners fu d f h.1]
  have hf : f < 20 := h.1
  rcases twenty hf with rfl | rfl | rfl | rfl | rfl | rfl | rfl | rfl | rfl | rfl | rfl | rfl | rfl | rfl | rfl | rfl | rfl | rfl | rfl | rfl <;> (show @Eq (Option Out) _ _; kernel_rfl)
theorem sp_ref_On (fu d : Nat) (w : Nat → Nat) (hw : ∀ v, w v ≤ 840) (f : Nat) (h : f < 20) : cl fu (d + 2) fn_synopticref02_On [I f, V.agg (wcs w)] [] = OK (V.tup [V.agg (plc (onW w f)), B (onW w f).full]) := by
  have e : cl fu (d + 2) fn_synopticref02_On [I f, V.agg (wcs w)] [] = OK (V.tup [V.agg (plc (onW w f)), B (IntKind.i64.wrap (IntKind.i64.wrap ((w (crn f).1 : Int) + (w (crn f).2.1 : Int)) + (w (crn f).2.2 : Int)) == 840)]) := by
    rw [eq_synopticref02_On, sp_ref_Corners fu d f h]
    rcases twenty h with rfl | rfl | rfl | rfl | rfl | rfl | rfl | rfl | rfl | rfl | rfl | rfl | rfl | rfl | rfl | rfl | rfl | rfl | rfl | rfl <;> (show @Eq (Option Out) _ _; kernel_rfl)
  rw [e]
  have h1 := hw (crn f).1
  have h2 := hw (crn f).2.1
  have h3 := hw (crn f).2.2
  simp (disch := omega) only [wrap_in]
  have e2 : ((w (crn f).1 : Int) + (w (crn f).2.1 : Int) + (w (crn f).2.2 : Int) == 840) = (onW w f).full := by
    rw [Bool.eq_iff_iff, full_iff, beq_iff_eq]
    show _ ↔ w (crn f).1 + w (crn f).2.1 + w (crn f).2.2 = 840
    omega
  rw [e2]
def addrsTo (w : Nat → Nat) (j : Nat) : List Pl := ((List.range j).map (onW w)).filter Pl.full
theorem addrsTo_succ (w : Nat → Nat) (j : Nat) : addrsTo w (j + 1) = if (onW w j).full then addrsTo w j ++ [onW w j] else addrsTo w j := by
  unfold addrsTo
  rw [List.range_succ, List.map_append, List.filter_append]
  simp only [List.map_cons, List.map_nil, List.filter_cons, List.filter_nil]
  split <;> simp
theorem addrsTo_length (w : Nat → Nat) (j : Nat) : (addrsTo w j).length ≤ j := by
  unfold addrsTo
  refine Nat.le_trans (List.length_filter_le _ _) ?_
  simp
theorem wt_le {p : Pl} (h : p.ok) (v : Nat) : wt p v ≤ 840 := by
  have h2 := h.2
  unfold wt wt3
  (repeat' split) <;> omega
theorem pl_snoc (l : List Pl) (q : Pl) : fl plc l ++ [.v (.int .i64 q.f), .v (.int .i64 q.a), .v (.int .i64 q.b), .v (.int .i64 q.c)] = fl plc (l ++ [q]) := fl_snoc l q
theorem pl_div (l : List Pl) : l.length * 4 / 4 = l.length := Nat.mul_div_cancel _ (by omega)
theorem wcs_put (w : Nat → Nat) : putAt [C.v (.int .i64 0), C.v (.int .i64 0), C.v (.int .i64 0), C.v (.int .i64 0), C.v (.int .i64 0), C.v (.int .i64 0), C.v (.int .i64 0), C.v (.int .i64 0), C.v (.int .i64 0), C.v (.int .i64 0), C.v (.int .i64 0), C.v (.int .i64 0)] 0 (wcs w) = wcs w := id rfl
theorem wcs_take (w : Nat → Nat) : List.take 12 (wcs w) = wcs w := id rfl
theorem wcs_length (w : Nat → Nat) : (wcs w).length = 12 := id rfl
theorem sp_ref_Addresses (fu d : Nat) (hf : 18446744073709551616 ≤ fu) (p : Pl) (h : p.ok) :
    cl fu (d + 3) fn_synopticref02_Addresses [V.agg (plc p)] [] = OK (V.tup [V.c (C.sl (addrs p).length (fl plc (addrs p))), I 0]) := by
  have e1 := sp_ref_Weights fu d p h
  have hv := validI_of h
  unfold plc at e1 ⊢
  rw [eq_synopticref02_Addresses, sp_ref_Valid, hv, e1]
  simp only [obs, rC_c, rA_agg, rT_tup, rP_ptr, rW_own, rS_sb, rF_sb, uncV_cons, uncO_cons, nilV_nil, rO_ob, rN_ob, unc_cons, asI_int, asB_bool, asS_string, asSl_sl, asSl_nl, asFn_fn, asP_cp, nrm_sl, nrm_nl, need_true, ct, cf, bd_eq, natD_zero, natD_succ, natD_one, noYl_v, noYl_sl, noYl_nl, noYl_cp, noYl_fn, Bool.and_true, Bool.true_and, Bool.and_self, beqN_self, Bool.not_true, Bool.not_false, Bool.and_false, Bool.false_and, Bool.or_false, Bool.false_or, Bool.or_true, Bool.true_or, wcs_put, wcs_take, wcs_length, Nat.zero_add, show Nat.ble 12 12 = true from rfl]
  rw [show (([] : List C), (0 : Int), ()) = (fun j : Nat => (fl plc (addrsTo (wt p) j), (j : Int), ())) 0 from rfl, iter_run (fun j : Nat => (fl plc (addrsTo (wt p) j), (j : Int), ())) 0 (fl plc (addrsTo (wt p) 20), (20 : Int), ()) 20 0 fu ?_ ?_ (by omega)]
  · simp (disch := omega) only [obs, rC_c, rA_agg, rT_tup, rP_ptr, rW_own, rS_sb, rF_sb, uncV_cons, uncO_cons, nilV_nil, rO_ob, rN_ob, unc_cons, asI_int, asB_bool, asS_string, asSl_sl, asSl_nl, asFn_fn, asP_cp, nrm_sl, nrm_nl, need_true, ct, cf, bd_eq, natD_zero, natD_succ, natD_one, noYl_v, noYl_sl, noYl_nl, noYl_cp, noYl_fn, Bool.and_true, Bool.true_and, Bool.and_self, beqN_self, Bool.not_true, Bool.not_false, Bool.and_false, Bool.false_and, Bool.or_false, Bool.false_or, Bool.or_true, Bool.true_or, wrap_in, dlt_t, dlt_f, dle_t, dle_f, dgt_t, dgt_f, dge_t, dge_f, ibeq_t, ibeq_f, ibne_t, ibne_f, inR_int, beqN_eq, bleN_le, fl_length plc_length, pl_div, Nat.zero_add]
    rw [List.take_of_length_le (by rw [fl_length plc_length]; omega)]
    rfl
  · intro j _ hj
    have hl := addrsTo_length (wt p) j
    rw [addrsTo_succ]
    have e2 := sp_ref_On fu d (wt p) (wt_le h) j (by omega)
    unfold plc at e2
    simp (disch := omega) only [obs, rC_c, rA_agg, rT_tup, rP_ptr, rW_own, rS_sb, rF_sb, uncV_cons, uncO_cons, nilV_nil, rO_ob, rN_ob, unc_cons, asI_int, asB_bool, asS_string, asSl_sl, asSl_nl, asFn_fn, asP_cp, nrm_sl, nrm_nl, need_true, ct, cf, bd_eq, natD_zero, natD_succ, natD_one, noYl_v, noYl_sl, noYl_nl, noYl_cp, noYl_fn, Bool.and_true, Bool.true_and, Bool.and_self, beqN_self, Bool.not_true, Bool.not_false, Bool.and_false, Bool.false_and, Bool.or_false, Bool.false_or, Bool.or_true, Bool.true_or, wrap_in, dlt_t, dlt_f, dle_t, dle_f, dgt_t, dgt_f, dge_t, dge_f, ibeq_t, ibeq_f, ibne_t, ibne_f, inR_int, beqN_eq, bleN_le, e2, fl_length plc_length, pl_div, List.length_cons, List.length_nil, Nat.zero_add, Nat.reduceAdd]
    cases hfull : (onW (wt p) j).full with
    | true =>
      simp (disch := omega) only [obs, rC_c, rA_agg, rT_tup, rP_ptr, rW_own, rS_sb, rF_sb, uncV_cons, uncO_cons, nilV_nil, rO_ob, rN_ob, unc_cons, asI_int, asB_bool, asS_string, asSl_sl, asSl_nl, asFn_fn, asP_cp, nrm_sl, nrm_nl, need_true, ct, cf, bd_eq, natD_zero, natD_succ, natD_one, noYl_v, noYl_sl, noYl_nl, noYl_cp, noYl_fn, Bool.and_true, Bool.true_and, Bool.and_self, beqN_self, Bool.not_true, Bool.not_false, Bool.and_false, Bool.false_and, Bool.or_false, Bool.false_or, Bool.or_true, Bool.true_or, wrap_in, dlt_t, dlt_f, dle_t, dle_f, dgt_t, dgt_f, dge_t, dge_f, ibeq_t, ibeq_f, ibne_t, ibne_f, inR_int, beqN_eq, bleN_le, pl_snoc, fl_length plc_length, List.length_append, List.length_cons, List.length_nil, Nat.zero_add, if_true, Int.natCast_add, Int.natCast_one]
    | false =>
      simp (disch := omega) only [obs, rC_c, rA_agg, rT_tup, rP_ptr, rW_own, rS_sb, rF_sb, uncV_cons, uncO_cons, nilV_nil, rO_ob, rN_ob, unc_cons, asI_int, asB_bool, asS_string, asSl_sl, asSl_nl, asFn_fn, asP_cp, nrm_sl, nrm_nl, need_true, ct, cf, bd_eq, natD_zero, natD_succ, natD_one, noYl_v, noYl_sl, noYl_nl, noYl_cp, noYl_fn, Bool.and_true, Bool.true_and, Bool.and_self, beqN_self, Bool.not_true, Bool.not_false, Bool.and_false, Bool.false_and, Bool.or_false, Bool.false_or, Bool.or_true, Bool.true_or, wrap_in, dlt_t, dlt_f, dle_t, dle_f, dgt_t, dgt_f, dge_t, dge_f, ibeq_t, ibeq_f, ibne_t, ibne_f, inR_int, beqN_eq, bleN_le, Bool.false_eq_true, if_false, Int.natCast_add, Int.natCast_one]
  · simp (disch := omega) only [obs, rC_c, rA_agg, rT_tup, rP_ptr, rW_own, rS_sb, rF_sb, uncV_cons, uncO_cons, nilV_nil, rO_ob, rN_ob, unc_cons, asI_int, asB_bool, asS_string, asSl_sl, asSl_nl, asFn_fn, asP_cp, nrm_sl, nrm_nl, need_true, ct, cf, bd_eq, natD_zero, natD_succ, natD_one, noYl_v, noYl_sl, noYl_nl, noYl_cp, noYl_fn, Bool.and_true, Bool.true_and, Bool.and_self, beqN_self, Bool.not_true, Bool.not_false, Bool.and_false, Bool.false_and, Bool.or_false, Bool.false_or, Bool.or_true, Bool.true_or, wrap_in, dlt_t, dlt_f, dle_t, dle_f, dgt_t, dgt_f, dge_t, dge_f, ibeq_t, ibeq_f, ibne_t, ibne_f, inR_int, beqN_eq, bleN_le, fl_length plc_length, pl_div, Nat.zero_add]
    rfl
end Go.Proofs.YtobmbacppbkgeaaDoor
/- Places, continued: the normal place; the program's functions. -/
namespace Go.Proofs.YtobmbacppbkgeaaDoor
open Go Go.PM Go.Grid
theorem sp_ref_Normal (fu d : Nat) (hf : 18446744073709551616 ≤ fu) (p : Pl) (h : p.ok) : cl fu (d + 4) fn_synopticref02_Normal [V.agg (plc p)] [] = OK (V.tup [V.agg (plc (norm p)), I 0]) := by
  have e1 := sp_ref_Addresses fu d hf p h
  obtain ⟨r, hr⟩ := norm_head h
  rw [hr] at e1
  unfold plc at e1 ⊢
  rw [eq_synopticref02_Normal, e1]
  simp (disch := omega) only [obs, rC_c, rA_agg, rT_tup, rP_ptr, rW_own, rS_sb, rF_sb, uncV_cons, uncO_cons, nilV_nil, rO_ob, rN_ob, unc_cons, asI_int, asB_bool, asS_string, asSl_sl, asSl_nl, asFn_fn, asP_cp, nrm_sl, nrm_nl, need_true, ct, cf, bd_eq, natD_zero, natD_succ, natD_one, noYl_v, noYl_sl, noYl_nl, noYl_cp, noYl_fn, Bool.and_true, Bool.true_and, Bool.and_self, beqN_self, Bool.not_true, Bool.not_false, Bool.and_false, Bool.false_and, Bool.or_false, Bool.false_or, Bool.or_true, Bool.true_or, wrap_in, dlt_t, dlt_f, dle_t, dle_f, dgt_t, dgt_f, dge_t, dge_f, ibeq_t, ibeq_f, ibne_t, ibne_f, inR_int, beqN_eq, bleN_le, fl_cons, plc, List.cons_append, List.nil_append, List.length_cons]
theorem plc_eqb (p q : Pl) : ((p.f : Int) == q.f && ((p.a : Int) == q.a && ((p.b : Int) == q.b && (p.c : Int) == q.c))) = decide (p = q) := by
  obtain ⟨f, a, b, c⟩ := p
  obtain ⟨f', a', b', c'⟩ := q
  rw [Bool.eq_iff_iff]
  simp only [Bool.and_eq_true, beq_iff_eq, decide_eq_true_eq, Pl.mk.injEq]
  omega
theorem sp_face (fu d : Nat) (f : Int) : cl fu (d + 1) fn_place_face [I f] [] = OK (B (decide (0 ≤ f ∧ f < 20))) := by
  rw [eq_place_face]
  by_cases h1 : 0 ≤ f
  · simp (disch := omega) only [obs, rC_c, rA_agg, rT_tup, rP_ptr, rW_own, rS_sb, rF_sb, uncV_cons, uncO_cons, nilV_nil, rO_ob, rN_ob, unc_cons, asI_int, asB_bool, asS_string, asSl_sl, asSl_nl, asFn_fn, asP_cp, nrm_sl, nrm_nl, need_true, ct, cf, bd_eq, natD_zero, natD_succ, natD_one, noYl_v, noYl_sl, noYl_nl, noYl_cp, noYl_fn, Bool.and_true, Bool.true_and, Bool.and_self, beqN_self, Bool.not_true, Bool.not_false, Bool.and_false, Bool.false_and, Bool.or_false, Bool.false_or, Bool.or_true, Bool.true_or, wrap_in, dlt_t, dlt_f, dle_t, dle_f, dgt_t, dgt_f, dge_t, dge_f, ibeq_t, ibeq_f, ibne_t, ibne_f, inR_int, beqN_eq, bleN_le]
    by_cases h2 : f < 20
    · rw [dlt_t h2, decide_eq_true ⟨h1, h2⟩]
    · rw [dlt_f (by omega), decide_eq_false (by omega)]
  · rw [decide_eq_false (by omega : ¬ (0 ≤ f ∧ f < 20))]
    simp (disch := omega) only [obs, rC_c, rA_agg, rT_tup, rP_ptr, rW_own, rS_sb, rF_sb, uncV_cons, uncO_cons, nilV_nil, rO_ob, rN_ob, unc_cons, asI_int, asB_bool, asS_string, asSl_sl, asSl_nl, asFn_fn, asP_cp, nrm_sl, nrm_nl, need_true, ct, cf, bd_eq, natD_zero, natD_succ, natD_one, noYl_v, noYl_sl, noYl_nl, noYl_cp, noYl_fn, Bool.and_true, Bool.true_and, Bool.and_self, beqN_self, Bool.not_true, Bool.not_false, Bool.and_false, Bool.false_and, Bool.or_false, Bool.false_or, Bool.or_true, Bool.true_or, wrap_in, dlt_t, dlt_f, dle_t, dle_f, dgt_t, dgt_f, dge_t, dge_f, ibeq_t, ibeq_f, ibne_t, ibne_f, inR_int, beqN_eq, bleN_le]
theorem sp_Valid (fu d : Nat) (hf : 18446744073709551616 ≤ fu) (f a b c : Int) : cl fu (d + 2) fn_place_Valid [V.agg [.v (.int .i64 f), .v (.int .i64 a), .v (.int .i64 b), .v (.int .i64 c)]] [] = OK (B (validI f a b c)) := by
  rw [eq_place_Valid, sp_face]
  obtain ⟨fu', rfl⟩ : ∃ n, fu = n + 4 := ⟨fu - 4, by omega⟩
  by_cases h3 : 0 ≤ a
  case neg => rw [show validI f a b c = false from decide_eq_false (by omega)]; rw [iter_s]; simp (disch := omega) only [obs, rC_c, rA_agg, rT_tup, rP_ptr, rW_own, rS_sb, rF_sb, uncV_cons, uncO_cons, nilV_nil, rO_ob, rN_ob, unc_cons, asI_int, asB_bool, asS_string, asSl_sl, asSl_nl, asFn_fn, asP_cp, nrm_sl, nrm_nl, need_true, ct, cf, bd_eq, natD_zero, natD_succ, natD_one, noYl_v, noYl_sl, noYl_nl, noYl_cp, noYl_fn, Bool.and_true, Bool.true_and, Bool.and_self, beqN_self, Bool.not_true, Bool.not_false, Bool.and_false, Bool.false_and, Bool.or_false, Bool.false_or, Bool.or_true, Bool.true_or, wrap_in, dlt_t, dlt_f, dle_t, dle_f, dgt_t, dgt_f, dge_t, dge_f, ibeq_t, ibeq_f, ibne_t, ibne_f, inR_int, beqN_eq, bleN_le, Int.toNat_zero, Nat.zero_mul, List.drop_zero]
  by_cases h4 : a ≤ 840
  case neg => rw [show validI f a b c = false from decide_eq_false (by omega)]; rw [iter_s]; simp (disch := omega) only [obs, rC_c, rA_agg, rT_tup, rP_ptr, rW_own, rS_sb, rF_sb, uncV_cons, uncO_cons, nilV_nil, rO_ob, rN_ob, unc_cons, asI_int, asB_bool, asS_string, asSl_sl, asSl_nl, asFn_fn, asP_cp, nrm_sl, nrm_nl, need_true, ct, cf, bd_eq, natD_zero, natD_succ, natD_one, noYl_v, noYl_sl, noYl_nl, noYl_cp, noYl_fn, Bool.and_true, Bool.true_and, Bool.and_self, beqN_self, Bool.not_true, Bool.not_false, Bool.and_false, Bool.false_and, Bool.or_false, Bool.false_or, Bool.or_true, Bool.true_or, wrap_in, dlt_t, dlt_f, dle_t, dle_f, dgt_t, dgt_f, dge_t, dge_f, ibeq_t, ibeq_f, ibne_t, ibne_f, inR_int, beqN_eq, bleN_le, Int.toNat_zero, Nat.zero_mul, List.drop_zero]
  by_cases h5 : 0 ≤ b
  case neg => rw [show validI f a b c = false from decide_eq_false (by omega)]; rw [iter_s]; simp (disch := omega) only [obs, rC_c, rA_agg, rT_tup, rP_ptr, rW_own, rS_sb, rF_sb, uncV_cons, uncO_cons, nilV_nil, rO_ob, rN_ob, unc_cons, asI_int, asB_bool, asS_string, asSl_sl, asSl_nl, asFn_fn, asP_cp, nrm_sl, nrm_nl, need_true, ct, cf, bd_eq, natD_zero, natD_succ, natD_one, noYl_v, noYl_sl, noYl_nl, noYl_cp, noYl_fn, Bool.and_true, Bool.true_and, Bool.and_self, beqN_self, Bool.not_true, Bool.not_false, Bool.and_false, Bool.false_and, Bool.or_false, Bool.false_or, Bool.or_true, Bool.true_or, wrap_in, dlt_t, dlt_f, dle_t, dle_f, dgt_t, dgt_f, dge_t, dge_f, ibeq_t, ibeq_f, ibne_t, ibne_f, inR_int, beqN_eq, bleN_le, Int.toNat_zero, Nat.zero_mul, List.drop_zero, Int.zero_add, iter_s, Int.toNat_one, Nat.one_mul, List.drop_succ_cons]
  by_cases h6 : b ≤ 840
  case neg => rw [show validI f a b c = false from decide_eq_false (by omega)]; rw [iter_s]; simp (disch := omega) only [obs, rC_c, rA_agg, rT_tup, rP_ptr, rW_own, rS_sb, rF_sb, uncV_cons, uncO_cons, nilV_nil, rO_ob, rN_ob, unc_cons, asI_int, asB_bool, asS_string, asSl_sl, asSl_nl, asFn_fn, asP_cp, nrm_sl, nrm_nl, need_true, ct, cf, bd_eq, natD_zero, natD_succ, natD_one, noYl_v, noYl_sl, noYl_nl, noYl_cp, noYl_fn, Bool.and_true, Bool.true_and, Bool.and_self, beqN_self, Bool.not_true, Bool.not_false, Bool.and_false, Bool.false_and, Bool.or_false, Bool.false_or, Bool.or_true, Bool.true_or, wrap_in, dlt_t, dlt_f, dle_t, dle_f, dgt_t, dgt_f, dge_t, dge_f, ibeq_t, ibeq_f, ibne_t, ibne_f, inR_int, beqN_eq, bleN_le, Int.toNat_zero, Nat.zero_mul, List.drop_zero, Int.zero_add, iter_s, Int.toNat_one, Nat.one_mul, List.drop_succ_cons]
  by_cases h7 : 0 ≤ c
  case neg => rw [show validI f a b c = false from decide_eq_false (by omega)]; rw [iter_s]; simp (disch := omega) only [obs, rC_c, rA_agg, rT_tup, rP_ptr, rW_own, rS_sb, rF_sb, uncV_cons, uncO_cons, nilV_nil, rO_ob, rN_ob, unc_cons, asI_int, asB_bool, asS_string, asSl_sl, asSl_nl, asFn_fn, asP_cp, nrm_sl, nrm_nl, need_true, ct, cf, bd_eq, natD_zero, natD_succ, natD_one, noYl_v, noYl_sl, noYl_nl, noYl_cp, noYl_fn, Bool.and_true, Bool.true_and, Bool.and_self, beqN_self, Bool.not_true, Bool.not_false, Bool.and_false, Bool.false_and, Bool.or_false, Bool.false_or, Bool.or_true, Bool.true_or, wrap_in, dlt_t, dlt_f, dle_t, dle_f, dgt_t, dgt_f, dge_t, dge_f, ibeq_t, ibeq_f, ibne_t, ibne_f, inR_int, beqN_eq, bleN_le, Int.toNat_zero, Nat.zero_mul, List.drop_zero, Int.zero_add, iter_s, Int.toNat_one, Nat.one_mul, List.drop_succ_cons, Int.reduceAdd, Int.reduceToNat]
  by_cases h8 : c ≤ 840
  case neg => rw [show validI f a b c = false from decide_eq_false (by omega)]; rw [iter_s]; simp (disch := omega) only [obs, rC_c, rA_agg, rT_tup, rP_ptr, rW_own, rS_sb, rF_sb, uncV_cons, uncO_cons, nilV_nil, rO_ob, rN_ob, unc_cons, asI_int, asB_bool, asS_string, asSl_sl, asSl_nl, asFn_fn, asP_cp, nrm_sl, nrm_nl, need_true, ct, cf, bd_eq, natD_zero, natD_succ, natD_one, noYl_v, noYl_sl, noYl_nl, noYl_cp, noYl_fn, Bool.and_true, Bool.true_and, Bool.and_self, beqN_self, Bool.not_true, Bool.not_false, Bool.and_false, Bool.false_and, Bool.or_false, Bool.false_or, Bool.or_true, Bool.true_or, wrap_in, dlt_t, dlt_f, dle_t, dle_f, dgt_t, dgt_f, dge_t, dge_f, ibeq_t, ibeq_f, ibne_t, ibne_f, inR_int, beqN_eq, bleN_le, Int.toNat_zero, Nat.zero_mul, List.drop_zero, Int.zero_add, iter_s, Int.toNat_one, Nat.one_mul, List.drop_succ_cons, Int.reduceAdd, Int.reduceToNat]
  simp (disch := omega) only [obs, rC_c, rA_agg, rT_tup, rP_ptr, rW_own, rS_sb, rF_sb, uncV_cons, uncO_cons, nilV_nil, rO_ob, rN_ob, unc_cons, asI_int, asB_bool, asS_string, asSl_sl, asSl_nl, asFn_fn, asP_cp, nrm_sl, nrm_nl, need_true, ct, cf, bd_eq, natD_zero, natD_succ, natD_one, noYl_v, noYl_sl, noYl_nl, noYl_cp, noYl_fn, Bool.and_true, Bool.true_and, Bool.and_self, beqN_self, Bool.not_true, Bool.not_false, Bool.and_false, Bool.false_and, Bool.or_false, Bool.false_or, Bool.or_true, Bool.true_or, wrap_in, dlt_t, dlt_f, dle_t, dle_f, dgt_t, dgt_f, dge_t, dge_f, ibeq_t, ibeq_f, ibne_t, ibne_f, inR_int, beqN_eq, bleN_le, Int.toNat_zero, Nat.zero_mul, List.drop_zero, Int.zero_add, iter_s, Int.toNat_one, Nat.one_mul, List.drop_succ_cons, Int.reduceAdd, Int.reduceToNat]
  by_cases h1 : 0 ≤ f ∧ f < 20
  · rw [decide_eq_true h1]
    by_cases h9 : a + b + c = 840
    · rw [show validI f a b c = true from decide_eq_true (by omega)]; simp (disch := omega) only [obs, rC_c, rA_agg, rT_tup, rP_ptr, rW_own, rS_sb, rF_sb, uncV_cons, uncO_cons, nilV_nil, rO_ob, rN_ob, unc_cons, asI_int, asB_bool, asS_string, asSl_sl, asSl_nl, asFn_fn, asP_cp, nrm_sl, nrm_nl, need_true, ct, cf, bd_eq, natD_zero, natD_succ, natD_one, noYl_v, noYl_sl, noYl_nl, noYl_cp, noYl_fn, Bool.and_true, Bool.true_and, Bool.and_self, beqN_self, Bool.not_true, Bool.not_false, Bool.and_false, Bool.false_and, Bool.or_false, Bool.false_or, Bool.or_true, Bool.true_or, wrap_in, dlt_t, dlt_f, dle_t, dle_f, dgt_t, dgt_f, dge_t, dge_f, ibeq_t, ibeq_f, ibne_t, ibne_f, inR_int, beqN_eq, bleN_le]
    · rw [show validI f a b c = false from decide_eq_false (by omega)]; simp (disch := omega) only [obs, rC_c, rA_agg, rT_tup, rP_ptr, rW_own, rS_sb, rF_sb, uncV_cons, uncO_cons, nilV_nil, rO_ob, rN_ob, unc_cons, asI_int, asB_bool, asS_string, asSl_sl, asSl_nl, asFn_fn, asP_cp, nrm_sl, nrm_nl, need_true, ct, cf, bd_eq, natD_zero, natD_succ, natD_one, noYl_v, noYl_sl, noYl_nl, noYl_cp, noYl_fn, Bool.and_true, Bool.true_and, Bool.and_self, beqN_self, Bool.not_true, Bool.not_false, Bool.and_false, Bool.false_and, Bool.or_false, Bool.false_or, Bool.or_true, Bool.true_or, wrap_in, dlt_t, dlt_f, dle_t, dle_f, dgt_t, dgt_f, dge_t, dge_f, ibeq_t, ibeq_f, ibne_t, ibne_f, inR_int, beqN_eq, bleN_le]
  · rw [decide_eq_false h1, show validI f a b c = false from decide_eq_false (by omega)]; simp (disch := omega) only [obs, rC_c, rA_agg, rT_tup, rP_ptr, rW_own, rS_sb, rF_sb, uncV_cons, uncO_cons, nilV_nil, rO_ob, rN_ob, unc_cons, asI_int, asB_bool, asS_string, asSl_sl, asSl_nl, asFn_fn, asP_cp, nrm_sl, nrm_nl, need_true, ct, cf, bd_eq, natD_zero, natD_succ, natD_one, noYl_v, noYl_sl, noYl_nl, noYl_cp, noYl_fn, Bool.and_true, Bool.true_and, Bool.and_self, beqN_self, Bool.not_true, Bool.not_false, Bool.and_false, Bool.false_and, Bool.or_false, Bool.false_or, Bool.or_true, Bool.true_or, wrap_in, dlt_t, dlt_f, dle_t, dle_f, dgt_t, dgt_f, dge_t, dge_f, ibeq_t, ibeq_f, ibne_t, ibne_f, inR_int, beqN_eq, bleN_le]
theorem sp_of (fu d : Nat) (p : Pl) (h : p.ok) : cl fu (d + 1) fn_place_of [V.agg (plc p)] [] = OK (V.agg (wcs (wt p))) := by
  obtain ⟨f, a, b, c⟩ := p
  unfold plc
  rw [eq_place_of]
  have hf : f < 20 := h.1
  rcases twenty hf with rfl | rfl | rfl | rfl | rfl | rfl | rfl | rfl | rfl | rfl | rfl | rfl | rfl | rfl | rfl | rfl | rfl | rfl | rfl | rfl <;> (show @Eq (Option Out) _ _; kernel_rfl)
theorem validI_onW {w : Nat → Nat} (hw : ∀ v, w v ≤ 840) {f : Nat} (h : f < 20) : validI (onW w f).f (onW w f).a (onW w f).b (onW w f).c = (onW w f).full := by
  have h1 := hw (crn f).1
  have h2 := hw (crn f).2.1
  have h3 := hw (crn f).2.2
  rw [Bool.eq_iff_iff, full_iff]
  unfold validI
  rw [decide_eq_true_eq]
  show (0 : Int) ≤ (f : Nat) ∧ ((f : Nat) : Int) < 20 ∧ (0 : Int) ≤ ((w (crn f).1 : Nat) : Int) ∧ ((w (crn f).1 : Nat) : Int) ≤ 840 ∧ (0 : Int) ≤ ((w (crn f).2.1 : Nat) : Int) ∧ ((w (crn f).2.1 : Nat) : Int) ≤ 840 ∧ (0 : Int) ≤ ((w (crn f).2.2 : Nat) : Int) ∧ ((w (crn f).2.2 : Nat) : Int) ≤ 840 ∧ ((w (crn f).1 : Nat) : Int) + ((w (crn f).2.1 : Nat) : Int) + ((w (crn f).2.2 : Nat) : Int) = 840 ↔ w (crn f).1 + w (crn f).2.1 + w (crn f).2.2 = 840
  omega
theorem sp_on (fu d : Nat) (hf : 18446744073709551616 ≤ fu) (w : Nat → Nat) (hw : ∀ v, w v ≤ 840) (f : Nat) (h : f < 20) : cl fu (d + 3) fn_place_on [I f, V.agg (wcs w)] [] = OK (V.tup [V.agg (plc (onW w f)), B (onW w f).full]) := by
  have e : cl fu (d + 3) fn_place_on [I f, V.agg (wcs w)] [] = ((cl fu (d + 2) fn_place_Valid [V.agg (plc (onW w f))] []).bind fun out => rC out.r fun c6 => asB c6 fun b => OK (V.tup [V.agg (plc (onW w f)), B b])) := by
    rw [eq_place_on]
    rcases twenty h with rfl | rfl | rfl | rfl | rfl | rfl | rfl | rfl | rfl | rfl | rfl | rfl | rfl | rfl | rfl | rfl | rfl | rfl | rfl | rfl <;> (show @Eq (Option Out) _ _; kernel_rfl)
  rw [e]
  unfold plc
  rw [sp_Valid fu d hf, validI_onW hw h]
  simp only [obs, rC_c, rA_agg, rT_tup, rP_ptr, rW_own, rS_sb, rF_sb, uncV_cons, uncO_cons, nilV_nil, rO_ob, rN_ob, unc_cons, asI_int, asB_bool, asS_string, asSl_sl, asSl_nl, asFn_fn, asP_cp, nrm_sl, nrm_nl, need_true, ct, cf, bd_eq, natD_zero, natD_succ, natD_one, noYl_v, noYl_sl, noYl_nl, noYl_cp, noYl_fn, Bool.and_true, Bool.true_and, Bool.and_self, beqN_self, Bool.not_true, Bool.not_false, Bool.and_false, Bool.false_and, Bool.or_false, Bool.false_or, Bool.or_true, Bool.true_or]
theorem addrsTo_none {w : Nat → Nat} : ∀ {k : Nat}, (∀ j, j < k → (onW w j).full = false) → addrsTo w k = []
  | 0, _ => rfl
  | k + 1, h => by rw [addrsTo_succ, h k (by omega), addrsTo_none (fun j hj => h j (by omega))]; rfl
theorem addrsTo_first {w : Nat → Nat} {k : Nat} (hk : (onW w k).full = true) (h : ∀ j, j < k → (onW w j).full = false) : ∀ n, k < n → ∃ r, addrsTo w n = onW w k :: r
  | 0, hn => by omega
  | n + 1, hn => by
    by_cases e : k = n
    · subst e; exact ⟨[], by rw [addrsTo_succ, hk, addrsTo_none h]; rfl⟩
    · obtain ⟨r, hr⟩ := addrsTo_first hk h n (by omega)
      rw [addrsTo_succ, hr]
      split
      · exact ⟨r ++ [onW w n], rfl⟩
      · exact ⟨r, rfl⟩
theorem sp_Normal (fu d : Nat) (hf : 18446744073709551616 ≤ fu) (p : Pl) (h : p.ok) : cl fu (d + 4) fn_place_Normal [V.agg (plc p)] [] = OK (V.tup [V.agg (plc (norm p)), I 0]) := by
  have e1 := sp_of fu (d + 2) p h
  have hv := validI_of h
  unfold plc at e1 ⊢
  rw [eq_place_Normal, sp_Valid fu (d + 1) hf, hv, e1]
  simp only [obs, rC_c, rA_agg, rT_tup, rP_ptr, rW_own, rS_sb, rF_sb, uncV_cons, uncO_cons, nilV_nil, rO_ob, rN_ob, unc_cons, asI_int, asB_bool, asS_string, asSl_sl, asSl_nl, asFn_fn, asP_cp, nrm_sl, nrm_nl, need_true, ct, cf, bd_eq, natD_zero, natD_succ, natD_one, noYl_v, noYl_sl, noYl_nl, noYl_cp, noYl_fn, Bool.and_true, Bool.true_and, Bool.and_self, beqN_self, Bool.not_true, Bool.not_false, Bool.and_false, Bool.false_and, Bool.or_false, Bool.false_or, Bool.or_true, Bool.true_or, wcs_put, wcs_take, wcs_length, Nat.zero_add, show Nat.ble 12 12 = true from rfl]
  obtain ⟨r, hr⟩ := norm_head h
  have hm := norm_mem h
  obtain ⟨k, hk, hke, hkl⟩ : ∃ k, k < 20 ∧ onW (wt p) k = norm p ∧ ∀ j, j < k → (onW (wt p) j).full = false := by
    rcases first_or_none (fun j => (onW (wt p) j).full = true) 20 with h0 | ⟨k, h1, h2, h3⟩
    · exfalso
      obtain ⟨g, g1, g2, g3⟩ := mem_addrs.1 hm
      exact h0 g g1 (by rw [g2]; exact full_iff.2 g3)
    · refine ⟨k, h1, ?_, fun j hj => by simpa using h3 j hj⟩
      obtain ⟨r', this⟩ := addrsTo_first h2 (fun j hj => by simpa using h3 j hj) 20 h1
      have this : addrs p = onW (wt p) k :: r' := this
      rw [hr] at this
      exact (List.cons.inj this).1.symm
  rw [show ((0 : Int), (0 : Int), ((0 : Int), (0 : Int), (0 : Int), (0 : Int), ()), ()) = (fun j : Nat => ((0 : Int), (j : Int), ((0 : Int), (0 : Int), (0 : Int), (0 : Int), ()), ())) 0 from rfl, iter_run (fun j : Nat => ((0 : Int), (j : Int), ((0 : Int), (0 : Int), (0 : Int), (0 : Int), ()), ())) 1 (0, (k : Int), ((norm p).f, (norm p).a, (norm p).b, (norm p).c, ()), ()) k 0 fu ?_ ?_ (by omega)]
  · simp only [obs, rC_c, rA_agg, rT_tup, rP_ptr, rW_own, rS_sb, rF_sb, uncV_cons, uncO_cons, nilV_nil, rO_ob, rN_ob, unc_cons, asI_int, asB_bool, asS_string, asSl_sl, asSl_nl, asFn_fn, asP_cp, nrm_sl, nrm_nl, need_true, ct, cf, bd_eq, natD_zero, natD_succ, natD_one, noYl_v, noYl_sl, noYl_nl, noYl_cp, noYl_fn, Bool.and_true, Bool.true_and, Bool.and_self, beqN_self, Bool.not_true, Bool.not_false, Bool.and_false, Bool.false_and, Bool.or_false, Bool.false_or, Bool.or_true, Bool.true_or]
  · intro j _ hj
    have e2 := sp_on fu d hf (wt p) (wt_le h) j (by omega)
    rw [hkl j (by omega)] at e2
    unfold plc at e2
    simp (disch := omega) only [obs, rC_c, rA_agg, rT_tup, rP_ptr, rW_own, rS_sb, rF_sb, uncV_cons, uncO_cons, nilV_nil, rO_ob, rN_ob, unc_cons, asI_int, asB_bool, asS_string, asSl_sl, asSl_nl, asFn_fn, asP_cp, nrm_sl, nrm_nl, need_true, ct, cf, bd_eq, natD_zero, natD_succ, natD_one, noYl_v, noYl_sl, noYl_nl, noYl_cp, noYl_fn, Bool.and_true, Bool.true_and, Bool.and_self, beqN_self, Bool.not_true, Bool.not_false, Bool.and_false, Bool.false_and, Bool.or_false, Bool.false_or, Bool.or_true, Bool.true_or, wrap_in, dlt_t, dlt_f, dle_t, dle_f, dgt_t, dgt_f, dge_t, dge_f, ibeq_t, ibeq_f, ibne_t, ibne_f, inR_int, beqN_eq, bleN_le, e2, List.length_cons, List.length_nil, Nat.zero_add, Nat.reduceAdd, Int.natCast_add, Int.natCast_one]
  · have e2 := sp_on fu d hf (wt p) (wt_le h) k hk
    rw [hke, full_iff.2 (norm_ok h).2] at e2
    unfold plc at e2
    simp (disch := omega) only [obs, rC_c, rA_agg, rT_tup, rP_ptr, rW_own, rS_sb, rF_sb, uncV_cons, uncO_cons, nilV_nil, rO_ob, rN_ob, unc_cons, asI_int, asB_bool, asS_string, asSl_sl, asSl_nl, asFn_fn, asP_cp, nrm_sl, nrm_nl, need_true, ct, cf, bd_eq, natD_zero, natD_succ, natD_one, noYl_v, noYl_sl, noYl_nl, noYl_cp, noYl_fn, Bool.and_true, Bool.true_and, Bool.and_self, beqN_self, Bool.not_true, Bool.not_false, Bool.and_false, Bool.false_and, Bool.or_false, Bool.false_or, Bool.or_true, Bool.true_or, wrap_in, dlt_t, dlt_f, dle_t, dle_f, dgt_t, dgt_f, dge_t, dge_f, ibeq_t, ibeq_f, ibne_t, ibne_f, inR_int, beqN_eq, bleN_le, e2, List.length_cons, List.length_nil, Nat.zero_add, Nat.reduceAdd]
end Go.Proofs.YtobmbacppbkgeaaDoor
/- The nodes of the grids as they are collected; a map from the nodes to their numbers: plain laws. -/
namespace Go.Grid
def pre (n f i j : Nat) : List Pl := (List.range f).flatMap (face n) ++ ((List.range i).flatMap (row n f) ++ (List.range j).map (pt n f i))
def upTo (n f i j : Nat) : List Pl := (pre n f i j).filter isN
theorem pre_j (n f i j : Nat) : pre n f i (j + 1) = pre n f i j ++ [pt n f i j] := by
  unfold pre; rw [List.range_succ, List.map_append]; simp [List.append_assoc]
theorem pre_i (n f i : Nat) : pre n f i (n + 1 - i) = pre n f (i + 1) 0 := by
  unfold pre; rw [List.range_succ, List.flatMap_append]; simp [row]
theorem pre_f (n f : Nat) : pre n f (n + 1) 0 = pre n (f + 1) 0 0 := by
  unfold pre; rw [List.range_succ (n := f), List.flatMap_append]; simp [face]
theorem pre_end (n : Nat) : pre n 20 0 0 = pts n := by unfold pre pts; simp
theorem upTo_j (n f i j : Nat) : upTo n f i (j + 1) = if norm (pt n f i j) = pt n f i j then upTo n f i j ++ [pt n f i j] else upTo n f i j := by
  unfold upTo
  rw [pre_j, List.filter_append]
  simp only [List.filter_cons, List.filter_nil, isN, decide_eq_true_eq]
  split <;> simp
theorem pre_lt {n f i j : Nat} (h : freq n) {q : Pl} (hq : q ∈ pre n f i j) : plt q (pt n f i j) := by
  have hst := step_pos h
  have hmul : ∀ {i j : Nat}, i < j → i * (840 / n) < j * (840 / n) := fun hij => Nat.mul_lt_mul_of_pos_right hij (by omega)
  simp only [pre, List.mem_append, List.mem_flatMap, List.mem_range, List.mem_map, face, row] at hq
  rcases hq with ⟨f', h1, i', _, j', _, rfl⟩ | ⟨i', h1, j', _, rfl⟩ | ⟨j', h1, rfl⟩
  · exact .inl h1
  · exact .inr ⟨rfl, .inl (hmul h1)⟩
  · exact .inr ⟨rfl, .inr ⟨rfl, hmul h1⟩⟩
theorem upTo_not {n f i j : Nat} (h : freq n) : pt n f i j ∉ upTo n f i j := fun hm => plt_irrefl _ (pre_lt h (List.mem_filter.1 hm).1)
theorem flatMap_le {B : Type} {g : Nat → List B} {m : Nat} (h : ∀ x, (g x).length ≤ m) : ∀ k, ((List.range k).flatMap g).length ≤ k * m
  | 0 => by simp
  | k + 1 => by
    rw [List.range_succ, List.flatMap_append, List.length_append, Nat.succ_mul]
    have := flatMap_le h k
    have := h k
    simp only [List.flatMap_cons, List.flatMap_nil, List.append_nil]
    omega
theorem row_le (n f i : Nat) (h : n ≤ 8) : (row n f i).length ≤ 9 := by unfold row; simp; omega
theorem face_le (n f : Nat) (h : n ≤ 8) : (face n f).length ≤ 81 := by
  unfold face
  have := flatMap_le (g := row n f) (fun i => row_le n f i h) (n + 1)
  omega
theorem upTo_le {n f i j : Nat} (h : freq n) (hf : f ≤ 20) (hi : i ≤ 9) (hj : j ≤ 9) : (upTo n f i j).length ≤ 2000 := by
  refine Nat.le_trans (List.length_filter_le _ _) ?_
  unfold pre
  rw [List.length_append, List.length_append, List.length_map, List.length_range]
  have h1 := flatMap_le (g := face n) (fun f => face_le n f h.2) f
  have h2 := flatMap_le (g := row n f) (fun i => row_le n f i h.2) i
  omega
theorem upTo_end (n : Nat) : upTo n 20 0 0 = nodes n := by unfold upTo; rw [pre_end]; rfl
end Go.Grid
/- The nodes of a grid: what the functions of the program and of the reference come to. -/
namespace Go.Proofs.YtobmbacppbkgeaaDoor
open Go Go.PM Go.Grid
theorem eqT_place (p q : Pl) : eqT Tryd.prog 20 ty_api_Place (plc p) (plc q) = some (decide (p = q)) := by
  have : eqT Tryd.prog 20 ty_api_Place (plc p) (plc q) = some ((p.f : Int) == q.f && ((p.a : Int) == q.a && ((p.b : Int) == q.b && ((p.c : Int) == q.c && true)))) := by kernel_rfl
  rw [this, Bool.and_true, plc_eqb]
def esn : Nat → List Pl → List (List C × List C)
  | _, [] => []
  | k, p :: r => (plc p, [.v (.int .i64 k)]) :: esn (k + 1) r
theorem esn_snoc (p : Pl) : ∀ (l : List Pl) (k : Nat), esn k l ++ [(plc p, [.v (.int .i64 ((k + l.length : Nat) : Int))])] = esn k (l ++ [p])
  | [], k => by simp [esn]
  | q :: l, k => by
    simp only [esn, List.cons_append, List.length_cons]
    rw [← esn_snoc p l (k + 1), show k + (l.length + 1) = k + 1 + l.length by omega]
theorem ceqs_plc (p : Pl) : ceqs (plc p) (plc p) = true := by simp [plc, ceqs, ceq]
theorem mfd_not {p : Pl} : ∀ (l : List Pl) (k i : Nat), p ∉ l → mfind Tryd.prog ty_api_Place (plc p) (esn k l) i = some none
  | [], k, i, _ => by simp [esn, mfind]
  | q :: l, k, i, h => by
    simp only [esn, mfind, eqT_place]
    rw [decide_eq_false (fun e => h (by simp [e]))]
    simp only [cf]
    exact mfd_not l (k + 1) (i + 1) (fun e => h (by simp [e]))
theorem mfd_mem {p : Pl} : ∀ (l : List Pl) (k i : Nat), p ∈ l → mfind Tryd.prog ty_api_Place (plc p) (esn k l) i = some (some (i + l.idxOf p, [.v (.int .i64 ((k + l.idxOf p : Nat) : Int))]))
  | [], k, i, h => by cases h
  | q :: l, k, i, h => by
    simp only [esn, mfind, eqT_place]
    by_cases e : p = q
    · subst e
      rw [decide_eq_true rfl]
      simp [ceqs_plc, need]
    · rw [decide_eq_false e]
      simp only [cf]
      have hm : p ∈ l := by rcases List.mem_cons.1 h with h | h; exact absurd h e; exact h
      rw [mfd_mem l (k + 1) (i + 1) hm, List.idxOf_cons]
      have : (q == p) = false := by simpa using Ne.symm e
      rw [this]
      simp only [cond_false]
      rw [show i + 1 + l.idxOf p = i + (l.idxOf p + 1) by omega, show k + 1 + l.idxOf p = k + (l.idxOf p + 1) by omega]
theorem mput_none (es : List (List C × List C)) (k v : List C) : mput es none k v = es ++ [(k, v)] := id rfl
abbrev netC (n : Nat) (l : List Pl) : List C := [.v (.int .i64 n), .v (.int .i64 ((840 / n : Nat) : Int)), C.sl l.length (fl plc l), C.mp ty_api_Place ty_int (some 4) none (esn 0 l), C.nl, C.nl, C.nl]
abbrev netS (n : Nat) (l : List Pl) : Int × Int × List C × List (List C × List C) × C × C × C × Unit := ((n : Int), ((840 / n : Nat) : Int), fl plc l, esn 0 l, C.nl, C.nl, C.nl, ())
theorem step_int {n : Nat} (h : freq n) : IntKind.i64.wrap (Int.tdiv 840 n) = ((840 / n : Nat) : Int) := by
  rcases freq_cases h with rfl | rfl | rfl | rfl | rfl | rfl | rfl | rfl <;> rfl
theorem mul_le {n i : Nat} (h : freq n) (hi : i ≤ n) : i * (840 / n) ≤ 840 := by
  have := Nat.mul_le_mul_right (840 / n) hi
  rw [mul_step h] at this; exact this
theorem wrap_mul {n i : Nat} (h : freq n) (hi : i ≤ n) : IntKind.i64.wrap ((i : Int) * ((840 / n : Nat) : Int)) = ((i * (840 / n) : Nat) : Int) := by
  have := mul_le h hi
  rw [show ((i : Int) * ((840 / n : Nat) : Int)) = ((i * (840 / n) : Nat) : Int) from (Int.natCast_mul _ _).symm]
  exact wrap_in (Int.le_trans (by decide) (Int.natCast_nonneg _)) (Int.le_trans (Int.ofNat_le.2 this) (by decide))
theorem pl_snoc' (l : List Pl) (f a b c : Nat) : fl plc l ++ [.v (.int .i64 f), .v (.int .i64 a), .v (.int .i64 b), .v (.int .i64 c)] = fl plc (l ++ [⟨f, a, b, c⟩]) := fl_snoc l ⟨f, a, b, c⟩
theorem esn_snoc' (l : List Pl) (f a b c : Nat) : esn 0 l ++ [([.v (.int .i64 f), .v (.int .i64 a), .v (.int .i64 b), .v (.int .i64 c)], [.v (.int .i64 (l.length : Int))])] = esn 0 (l ++ [⟨f, a, b, c⟩]) := by
  have := esn_snoc ⟨f, a, b, c⟩ l 0
  rw [Nat.zero_add] at this
  exact this
theorem sp_Points (fu d : Nat) (hf : 18446744073709551616 ≤ fu) (n : Nat) (h : freq n) : cl fu (d + 5) fn_mesh_Points [I n] [] = OK (V.c (C.cp (netC n (nodes n)))) := by
  have hn := h
  unfold freq at hn
  rw [eq_mesh_Points, step_int h, show (!((n : Int) == 0)) = true from by rw [ibeq_f (by omega)]; rfl, need_true]
  rw [iter_runx (fun f : Nat => ((f : Int), netS n (upTo n f 0 0), ())) 0 ((20 : Int), netS n (upTo n 20 0 0), ()) 20 ?_ ?_ ?_ (by omega)]
  · rw [upTo_end]
    simp (disch := omega) only [obs, rC_c, rA_agg, rT_tup, rP_ptr, rW_own, rS_sb, rF_sb, uncV_cons, uncO_cons, nilV_nil, rO_ob, rN_ob, unc_cons, asI_int, asB_bool, asS_string, asSl_sl, asSl_nl, asFn_fn, asP_cp, nrm_sl, nrm_nl, need_true, ct, cf, bd_eq, natD_zero, natD_succ, natD_one, noYl_v, noYl_sl, noYl_nl, noYl_cp, noYl_fn, Bool.and_true, Bool.true_and, Bool.and_self, beqN_self, Bool.not_true, Bool.not_false, Bool.and_false, Bool.false_and, Bool.or_false, Bool.false_or, Bool.or_true, Bool.true_or, wrap_in, dlt_t, dlt_f, dle_t, dle_f, dgt_t, dgt_f, dge_t, dge_f, ibeq_t, ibeq_f, ibne_t, ibne_f, inR_int, beqN_eq, bleN_le, fl_length plc_length, pl_div, Nat.zero_add]
    rw [List.take_of_length_le (by rw [fl_length plc_length]; omega)]
  · rfl
  · intro f hf'
    have hl : (upTo n f 0 0).length ≤ 2000 := upTo_le h (by omega) (by omega) (by omega)
    simp (disch := omega) only [obs, rC_c, rA_agg, rT_tup, rP_ptr, rW_own, rS_sb, rF_sb, uncV_cons, uncO_cons, nilV_nil, rO_ob, rN_ob, unc_cons, asI_int, asB_bool, asS_string, asSl_sl, asSl_nl, asFn_fn, asP_cp, nrm_sl, nrm_nl, need_true, ct, cf, bd_eq, natD_zero, natD_succ, natD_one, noYl_v, noYl_sl, noYl_nl, noYl_cp, noYl_fn, Bool.and_true, Bool.true_and, Bool.and_self, beqN_self, Bool.not_true, Bool.not_false, Bool.and_false, Bool.false_and, Bool.or_false, Bool.false_or, Bool.or_true, Bool.true_or, wrap_in, dlt_t, dlt_f, dle_t, dle_f, dgt_t, dgt_f, dge_t, dge_f, ibeq_t, ibeq_f, ibne_t, ibne_f, inR_int, beqN_eq, bleN_le, fl_length plc_length, pl_div]
    rw [iter_runx (fun i : Nat => ((i : Int), netS n (upTo n f i 0), ())) 0 (((n + 1 : Nat) : Int), netS n (upTo n f (n + 1) 0), ()) (n + 1) ?_ ?_ ?_ (by omega)]
    · have hl : (upTo n f (n + 1) 0).length ≤ 2000 := upTo_le h (by omega) (by omega) (by omega)
      simp (disch := omega) only [obs, rC_c, rA_agg, rT_tup, rP_ptr, rW_own, rS_sb, rF_sb, uncV_cons, uncO_cons, nilV_nil, rO_ob, rN_ob, unc_cons, asI_int, asB_bool, asS_string, asSl_sl, asSl_nl, asFn_fn, asP_cp, nrm_sl, nrm_nl, need_true, ct, cf, bd_eq, natD_zero, natD_succ, natD_one, noYl_v, noYl_sl, noYl_nl, noYl_cp, noYl_fn, Bool.and_true, Bool.true_and, Bool.and_self, beqN_self, Bool.not_true, Bool.not_false, Bool.and_false, Bool.false_and, Bool.or_false, Bool.false_or, Bool.or_true, Bool.true_or, wrap_in, dlt_t, dlt_f, dle_t, dle_f, dgt_t, dgt_f, dge_t, dge_f, ibeq_t, ibeq_f, ibne_t, ibne_f, inR_int, beqN_eq, bleN_le, fl_length plc_length, pl_div, Int.natCast_add, Int.natCast_one]
      unfold upTo
      rw [pre_f]
    · rfl
    · intro i hi
      have hl : (upTo n f i 0).length ≤ 2000 := upTo_le h (by omega) (by omega) (by omega)
      simp (disch := omega) only [obs, rC_c, rA_agg, rT_tup, rP_ptr, rW_own, rS_sb, rF_sb, uncV_cons, uncO_cons, nilV_nil, rO_ob, rN_ob, unc_cons, asI_int, asB_bool, asS_string, asSl_sl, asSl_nl, asFn_fn, asP_cp, nrm_sl, nrm_nl, need_true, ct, cf, bd_eq, natD_zero, natD_succ, natD_one, noYl_v, noYl_sl, noYl_nl, noYl_cp, noYl_fn, Bool.and_true, Bool.true_and, Bool.and_self, beqN_self, Bool.not_true, Bool.not_false, Bool.and_false, Bool.false_and, Bool.or_false, Bool.false_or, Bool.or_true, Bool.true_or, wrap_in, dlt_t, dlt_f, dle_t, dle_f, dgt_t, dgt_f, dge_t, dge_f, ibeq_t, ibeq_f, ibne_t, ibne_f, inR_int, beqN_eq, bleN_le, fl_length plc_length, pl_div]
      rw [iter_runx (fun j : Nat => ((j : Int), netS n (upTo n f i j), ())) 0 (((n + 1 - i : Nat) : Int), netS n (upTo n f i (n + 1 - i)), ()) (n + 1 - i) ?_ ?_ ?_ (by omega)]
      · have hl : (upTo n f i (n + 1 - i)).length ≤ 2000 := upTo_le h (by omega) (by omega) (by omega)
        simp (disch := omega) only [obs, rC_c, rA_agg, rT_tup, rP_ptr, rW_own, rS_sb, rF_sb, uncV_cons, uncO_cons, nilV_nil, rO_ob, rN_ob, unc_cons, asI_int, asB_bool, asS_string, asSl_sl, asSl_nl, asFn_fn, asP_cp, nrm_sl, nrm_nl, need_true, ct, cf, bd_eq, natD_zero, natD_succ, natD_one, noYl_v, noYl_sl, noYl_nl, noYl_cp, noYl_fn, Bool.and_true, Bool.true_and, Bool.and_self, beqN_self, Bool.not_true, Bool.not_false, Bool.and_false, Bool.false_and, Bool.or_false, Bool.false_or, Bool.or_true, Bool.true_or, wrap_in, dlt_t, dlt_f, dle_t, dle_f, dgt_t, dgt_f, dge_t, dge_f, ibeq_t, ibeq_f, ibne_t, ibne_f, inR_int, beqN_eq, bleN_le, fl_length plc_length, pl_div, Int.natCast_add, Int.natCast_one]
        unfold upTo
        rw [pre_i]
      · rfl
      · intro j hj
        have hl : (upTo n f i j).length ≤ 2000 := upTo_le h (by omega) (by omega) (by omega)
        have hnot := upTo_not (f := f) (i := i) (j := j) h
        have hc : IntKind.i64.wrap (((n : Int) - (i : Int) - (j : Int)) * ((840 / n : Nat) : Int)) = (((n - i - j) * (840 / n) : Nat) : Int) := by
          rw [show (n : Int) - i - j = ((n - i - j : Nat) : Int) by omega, wrap_mul h (by omega)]
        have e2 := sp_Normal fu d hf (pt n f i j) (pt_ok h hf' (by omega))
        have e3 := mfd_not (upTo n f i j) 0 0 hnot
        have e4 := plc_eqb (norm (pt n f i j)) (pt n f i j)
        have e5 := upTo_j n f i j
        generalize hz : decide (norm (pt n f i j) = pt n f i j) = z at e4
        replace e5 : upTo n f i (j + 1) = bif z then upTo n f i j ++ [pt n f i j] else upTo n f i j := by
          cases z with
          | true => rw [e5, if_pos (of_decide_eq_true hz)]; rfl
          | false => rw [e5, if_neg (of_decide_eq_false hz)]; rfl
        clear hz
        simp only [plc] at e2 e3
        generalize norm (pt n f i j) = q at e2 e4 e5
        simp only [pt] at e2 e3 e4 e5
        simp (disch := omega) only [obs, rC_c, rA_agg, rT_tup, rP_ptr, rW_own, rS_sb, rF_sb, uncV_cons, uncO_cons, nilV_nil, rO_ob, rN_ob, unc_cons, asI_int, asB_bool, asS_string, asSl_sl, asSl_nl, asFn_fn, asP_cp, nrm_sl, nrm_nl, need_true, ct, cf, bd_eq, natD_zero, natD_succ, natD_one, noYl_v, noYl_sl, noYl_nl, noYl_cp, noYl_fn, Bool.and_true, Bool.true_and, Bool.and_self, beqN_self, Bool.not_true, Bool.not_false, Bool.and_false, Bool.false_and, Bool.or_false, Bool.false_or, Bool.or_true, Bool.true_or, wrap_in, dlt_t, dlt_f, dle_t, dle_f, dgt_t, dgt_f, dge_t, dge_f, ibeq_t, ibeq_f, ibne_t, ibne_f, inR_int, beqN_eq, bleN_le, hc, wrap_mul h (show i ≤ n by omega), wrap_mul h (show j ≤ n by omega), e2, e4, List.length_cons, List.length_nil, Nat.zero_add, Nat.reduceAdd, fl_length plc_length, pl_div]
        rw [e5]
        cases z with
        | true =>
          simp (disch := omega) only [obs, rC_c, rA_agg, rT_tup, rP_ptr, rW_own, rS_sb, rF_sb, uncV_cons, uncO_cons, nilV_nil, rO_ob, rN_ob, unc_cons, asI_int, asB_bool, asS_string, asSl_sl, asSl_nl, asFn_fn, asP_cp, nrm_sl, nrm_nl, need_true, ct, cf, bd_eq, natD_zero, natD_succ, natD_one, noYl_v, noYl_sl, noYl_nl, noYl_cp, noYl_fn, Bool.and_true, Bool.true_and, Bool.and_self, beqN_self, Bool.not_true, Bool.not_false, Bool.and_false, Bool.false_and, Bool.or_false, Bool.false_or, Bool.or_true, Bool.true_or, wrap_in, dlt_t, dlt_f, dle_t, dle_f, dgt_t, dgt_f, dge_t, dge_f, ibeq_t, ibeq_f, ibne_t, ibne_f, inR_int, beqN_eq, bleN_le, mfd, e3, mput_none, pl_snoc', esn_snoc', fl_length plc_length, pl_div, List.length_append, List.length_cons, List.length_nil, Nat.zero_add, Int.natCast_add, Int.natCast_one]
        | false =>
          simp (disch := omega) only [obs, rC_c, rA_agg, rT_tup, rP_ptr, rW_own, rS_sb, rF_sb, uncV_cons, uncO_cons, nilV_nil, rO_ob, rN_ob, unc_cons, asI_int, asB_bool, asS_string, asSl_sl, asSl_nl, asFn_fn, asP_cp, nrm_sl, nrm_nl, need_true, ct, cf, bd_eq, natD_zero, natD_succ, natD_one, noYl_v, noYl_sl, noYl_nl, noYl_cp, noYl_fn, Bool.and_true, Bool.true_and, Bool.and_self, beqN_self, Bool.not_true, Bool.not_false, Bool.and_false, Bool.false_and, Bool.or_false, Bool.false_or, Bool.or_true, Bool.true_or, wrap_in, dlt_t, dlt_f, dle_t, dle_f, dgt_t, dgt_f, dge_t, dge_f, ibeq_t, ibeq_f, ibne_t, ibne_f, inR_int, beqN_eq, bleN_le, Int.natCast_add, Int.natCast_one]
      · have hl : (upTo n f i (n + 1 - i)).length ≤ 2000 := upTo_le h (by omega) (by omega) (by omega)
        simp (disch := omega) only [obs, rC_c, rA_agg, rT_tup, rP_ptr, rW_own, rS_sb, rF_sb, uncV_cons, uncO_cons, nilV_nil, rO_ob, rN_ob, unc_cons, asI_int, asB_bool, asS_string, asSl_sl, asSl_nl, asFn_fn, asP_cp, nrm_sl, nrm_nl, need_true, ct, cf, bd_eq, natD_zero, natD_succ, natD_one, noYl_v, noYl_sl, noYl_nl, noYl_cp, noYl_fn, Bool.and_true, Bool.true_and, Bool.and_self, beqN_self, Bool.not_true, Bool.not_false, Bool.and_false, Bool.false_and, Bool.or_false, Bool.false_or, Bool.or_true, Bool.true_or, wrap_in, dlt_t, dlt_f, dle_t, dle_f, dgt_t, dgt_f, dge_t, dge_f, ibeq_t, ibeq_f, ibne_t, ibne_f, inR_int, beqN_eq, bleN_le, fl_length plc_length, pl_div]
    · have hl : (upTo n f (n + 1) 0).length ≤ 2000 := upTo_le h (by omega) (by omega) (by omega)
      simp (disch := omega) only [obs, rC_c, rA_agg, rT_tup, rP_ptr, rW_own, rS_sb, rF_sb, uncV_cons, uncO_cons, nilV_nil, rO_ob, rN_ob, unc_cons, asI_int, asB_bool, asS_string, asSl_sl, asSl_nl, asFn_fn, asP_cp, nrm_sl, nrm_nl, need_true, ct, cf, bd_eq, natD_zero, natD_succ, natD_one, noYl_v, noYl_sl, noYl_nl, noYl_cp, noYl_fn, Bool.and_true, Bool.true_and, Bool.and_self, beqN_self, Bool.not_true, Bool.not_false, Bool.and_false, Bool.false_and, Bool.or_false, Bool.false_or, Bool.or_true, Bool.true_or, wrap_in, dlt_t, dlt_f, dle_t, dle_f, dgt_t, dgt_f, dge_t, dge_f, ibeq_t, ibeq_f, ibne_t, ibne_f, inR_int, beqN_eq, bleN_le, fl_length plc_length, pl_div]
  · have hl : (upTo n 20 0 0).length ≤ 2000 := upTo_le h (by omega) (by omega) (by omega)
    simp (disch := omega) only [obs, rC_c, rA_agg, rT_tup, rP_ptr, rW_own, rS_sb, rF_sb, uncV_cons, uncO_cons, nilV_nil, rO_ob, rN_ob, unc_cons, asI_int, asB_bool, asS_string, asSl_sl, asSl_nl, asFn_fn, asP_cp, nrm_sl, nrm_nl, need_true, ct, cf, bd_eq, natD_zero, natD_succ, natD_one, noYl_v, noYl_sl, noYl_nl, noYl_cp, noYl_fn, Bool.and_true, Bool.true_and, Bool.and_self, beqN_self, Bool.not_true, Bool.not_false, Bool.and_false, Bool.false_and, Bool.or_false, Bool.false_or, Bool.or_true, Bool.true_or, wrap_in, dlt_t, dlt_f, dle_t, dle_f, dgt_t, dgt_f, dge_t, dge_f, ibeq_t, ibeq_f, ibne_t, ibne_f, inR_int, beqN_eq, bleN_le, fl_length plc_length, pl_div]
    rfl
end Go.Proofs.YtobmbacppbkgeaaDoor
/- The nodes of a grid, by the reference. -/
namespace Go.Proofs.YtobmbacppbkgeaaDoor
open Go Go.PM Go.Grid
theorem sp_ref_Count (fu d n : Nat) (h : freq n) : cl fu (d + 1) fn_synopticref03_Count [I n] [] = OK (I ((10 * n * n + 2 : Nat) : Int)) := by
  rw [eq_synopticref03_Count]
  rcases freq_cases h with rfl | rfl | rfl | rfl | rfl | rfl | rfl | rfl <;> (show @Eq (Option Out) _ _; kernel_rfl)
end Go.Proofs.YtobmbacppbkgeaaDoor
/- Where a place lies in a grid: its corners and shares: plain laws. -/
namespace Go.Grid
def ins (s : Nat × Nat) : List (Nat × Nat) → List (Nat × Nat)
  | [] => [s]
  | x :: r => if x.1 < s.1 then x :: ins s r else s :: x :: r
theorem ins_length (s : Nat × Nat) : ∀ l, (ins s l).length = l.length + 1
  | [] => rfl
  | x :: r => by unfold ins; split <;> simp [ins_length s r]
theorem ins_perm (s : Nat × Nat) : ∀ l, (ins s l).Perm (s :: l)
  | [] => .refl _
  | x :: r => by
    unfold ins; split
    · exact ((ins_perm s r).cons x).trans (.swap _ _ _)
    · exact .refl _
def asc (l : List (Nat × Nat)) : Prop := l.Pairwise (fun a b => a.1 < b.1)
theorem ins_asc {s : Nat × Nat} : ∀ {l : List (Nat × Nat)}, asc l → (∀ x ∈ l, x.1 ≠ s.1) → asc (ins s l)
  | [], _, _ => by simp [ins, asc]
  | x :: r, h, hne => by
    obtain ⟨h1, h2⟩ := List.pairwise_cons.1 h
    unfold ins
    split
    · rename_i hlt
      refine List.pairwise_cons.2 ⟨fun y hy => ?_, ins_asc h2 fun y hy => hne y (by simp [hy])⟩
      rcases List.mem_cons.1 ((ins_perm s r).mem_iff.1 hy) with rfl | hy
      · exact hlt
      · exact h1 y hy
    · rename_i hlt
      have := hne x (by simp)
      refine List.pairwise_cons.2 ⟨fun y hy => ?_, h⟩
      rcases List.mem_cons.1 hy with rfl | hy
      · omega
      · have := h1 y hy; omega
def rsum (n : Nat) (p : Pl) : Nat := p.a % (840 / n) + p.b % (840 / n) + p.c % (840 / n)
def corners (n : Nat) (p : Pl) : List (Pl × Nat) :=
  if rsum n p = 0 then [(p, 840)] else
  if rsum n p = 840 / n then
    [(⟨p.f, p.a - p.a % (840 / n) + 840 / n, p.b - p.b % (840 / n), p.c - p.c % (840 / n)⟩, p.a % (840 / n) * n),
     (⟨p.f, p.a - p.a % (840 / n), p.b - p.b % (840 / n) + 840 / n, p.c - p.c % (840 / n)⟩, p.b % (840 / n) * n),
     (⟨p.f, p.a - p.a % (840 / n), p.b - p.b % (840 / n), p.c - p.c % (840 / n) + 840 / n⟩, p.c % (840 / n) * n)]
  else
    [(⟨p.f, p.a - p.a % (840 / n), p.b - p.b % (840 / n) + 840 / n, p.c - p.c % (840 / n) + 840 / n⟩, 840 - p.a % (840 / n) * n),
     (⟨p.f, p.a - p.a % (840 / n) + 840 / n, p.b - p.b % (840 / n), p.c - p.c % (840 / n) + 840 / n⟩, 840 - p.b % (840 / n) * n),
     (⟨p.f, p.a - p.a % (840 / n) + 840 / n, p.b - p.b % (840 / n) + 840 / n, p.c - p.c % (840 / n)⟩, 840 - p.c % (840 / n) * n)]
def raw (n : Nat) (p : Pl) : List (Nat × Nat) := ((corners n p).filter fun c => decide (0 < c.2)).map fun c => (idx n c.1, c.2)
def insAll (l : List (Nat × Nat)) : List (Nat × Nat) := l.foldl (fun a s => ins s a) []
def shares (n : Nat) (p : Pl) : List (Nat × Nat) := insAll (raw n p)
theorem rsum_cases {n : Nat} (h : freq n) {p : Pl} (hp : p.ok) : rsum n p = 0 ∨ rsum n p = 840 / n ∨ rsum n p = 2 * (840 / n) := by
  have hst := step_pos h
  have hm := mul_step h
  obtain ⟨_, hs⟩ := hp
  unfold rsum
  generalize 840 / n = s at *
  have e1 := Nat.div_add_mod p.a s
  have e2 := Nat.div_add_mod p.b s
  have e3 := Nat.div_add_mod p.c s
  have l1 := Nat.mod_lt p.a (show 0 < s by omega)
  have l2 := Nat.mod_lt p.b (show 0 < s by omega)
  have l3 := Nat.mod_lt p.c (show 0 < s by omega)
  have hd : s * n = s * (p.a / s + p.b / s + p.c / s) + (p.a % s + p.b % s + p.c % s) := by
    rw [Nat.mul_add, Nat.mul_add, Nat.mul_comm s n, hm, ← hs]
    generalize s * (p.a / s) = u at *
    generalize s * (p.b / s) = v at *
    generalize s * (p.c / s) = w at *
    omega
  have hlt : p.a % s + p.b % s + p.c % s < 3 * s := by omega
  generalize p.a % s + p.b % s + p.c % s = r at *
  generalize p.a / s + p.b / s + p.c / s = q at *
  have hr : r = s * (n - q) := by rw [Nat.mul_sub]; omega
  have : n - q < 3 := by
    rcases Nat.lt_or_ge (n - q) 3 with h | h
    · exact h
    · have := Nat.mul_le_mul_left s h; omega
  rcases (show n - q = 0 ∨ n - q = 1 ∨ n - q = 2 by omega) with e | e | e
  · left; rw [hr, e]; simp
  · right; left; rw [hr, e]; simp
  · right; right; rw [hr, e]; omega
theorem dvd_sub_mod (a s : Nat) : s ∣ a - a % s := Nat.dvd_sub_mod a
theorem corners_pts {n : Nat} (h : freq n) {p : Pl} (hp : p.ok) : ∀ c ∈ corners n p, c.1 ∈ pts n ∧ c.1.f = p.f ∧ c.1.ok := by
  have hst := step_pos h
  have hc := rsum_cases h hp
  obtain ⟨h1, hs⟩ := hp
  have l1 := Nat.mod_le p.a (840 / n)
  have l2 := Nat.mod_le p.b (840 / n)
  have l3 := Nat.mod_le p.c (840 / n)
  have key : ∀ a b c, a + b + c = 840 → 840 / n ∣ a → 840 / n ∣ b → 840 / n ∣ c → (⟨p.f, a, b, c⟩ : Pl) ∈ pts n ∧ (⟨p.f, a, b, c⟩ : Pl).f = p.f ∧ (⟨p.f, a, b, c⟩ : Pl).ok := fun a b c e d1 d2 d3 =>
    ⟨mem_pts_of h ⟨h1, e⟩ d1 d2 d3, rfl, h1, e⟩
  have d1 := dvd_sub_mod p.a (840 / n)
  have d2 := dvd_sub_mod p.b (840 / n)
  have d3 := dvd_sub_mod p.c (840 / n)
  have g1 := Nat.dvd_add d1 (Nat.dvd_refl (840 / n))
  have g2 := Nat.dvd_add d2 (Nat.dvd_refl (840 / n))
  have g3 := Nat.dvd_add d3 (Nat.dvd_refl (840 / n))
  intro c hm
  unfold corners at hm
  unfold rsum at hc hm
  split at hm
  · simp only [List.mem_singleton] at hm
    subst hm
    have := key p.a p.b p.c hs (Nat.dvd_of_mod_eq_zero (by omega)) (Nat.dvd_of_mod_eq_zero (by omega)) (Nat.dvd_of_mod_eq_zero (by omega))
    exact this
  · split at hm
    · simp only [List.mem_cons, List.not_mem_nil, or_false] at hm
      rcases hm with rfl | rfl | rfl
      · exact key _ _ _ (by omega) g1 d2 d3
      · exact key _ _ _ (by omega) d1 g2 d3
      · exact key _ _ _ (by omega) d1 d2 g3
    · simp only [List.mem_cons, List.not_mem_nil, or_false] at hm
      rcases hm with rfl | rfl | rfl
      · exact key _ _ _ (by omega) d1 g2 g3
      · exact key _ _ _ (by omega) g1 d2 g3
      · exact key _ _ _ (by omega) g1 g2 d3
theorem corners_apart {n : Nat} (h : freq n) (p : Pl) : (corners n p).Pairwise fun c d => c.1 ≠ d.1 := by
  have hst := step_pos h
  unfold corners
  split
  · simp
  · split <;> (refine List.pairwise_cons.2 ⟨fun c hc => ?_, List.pairwise_cons.2 ⟨fun c hc => ?_, List.pairwise_cons.2 ⟨fun c hc => (by cases hc), .nil⟩⟩⟩ <;>
      (simp only [List.mem_cons, List.not_mem_nil, or_false] at hc; intro e
       first
       | (rcases hc with rfl | rfl <;> (simp only [Pl.mk.injEq] at e; omega))
       | (subst hc; simp only [Pl.mk.injEq] at e; omega)))
theorem corners_sum {n : Nat} (h : freq n) {p : Pl} (hp : p.ok) : ((corners n p).map (·.2)).sum = 840 := by
  have hm := mul_step h
  have hst := step_pos h
  have hc := rsum_cases h hp
  have l1 := Nat.mod_lt p.a (show 0 < 840 / n by omega)
  have l2 := Nat.mod_lt p.b (show 0 < 840 / n by omega)
  have l3 := Nat.mod_lt p.c (show 0 < 840 / n by omega)
  have m1 := Nat.mul_le_mul_right n (Nat.le_of_lt l1)
  have m2 := Nat.mul_le_mul_right n (Nat.le_of_lt l2)
  have m3 := Nat.mul_le_mul_right n (Nat.le_of_lt l3)
  have hadd : (p.a % (840 / n) + p.b % (840 / n) + p.c % (840 / n)) * n = p.a % (840 / n) * n + p.b % (840 / n) * n + p.c % (840 / n) * n := by rw [Nat.add_mul, Nat.add_mul]
  unfold corners
  unfold rsum at *
  rw [Nat.mul_comm] at hm
  split
  · rfl
  · split
    · rename_i e
      rw [e, hm] at hadd
      simp only [List.map_cons, List.map_nil, List.sum_cons, List.sum_nil]
      omega
    · have e : p.a % (840 / n) + p.b % (840 / n) + p.c % (840 / n) = 2 * (840 / n) := by omega
      rw [e, Nat.mul_assoc, hm] at hadd
      simp only [List.map_cons, List.map_nil, List.sum_cons, List.sum_nil]
      omega
theorem sum_filter_pos (l : List (Pl × Nat)) : ((l.filter fun c => decide (0 < c.2)).map (·.2)).sum = (l.map (·.2)).sum := by
  induction l with
  | nil => rfl
  | cons c r ih =>
    rw [List.filter_cons]
    split
    · simp [ih]
    · rename_i h
      simp only [decide_eq_true_eq] at h
      simp [ih]; omega
theorem raw_ok {n : Nat} (h : freq n) {p : Pl} (hp : p.ok) : (raw n p).Pairwise (fun a b => a.1 ≠ b.1) ∧ ((raw n p).map (·.2)).sum = 840 ∧ (∀ s ∈ raw n p, s.1 < 10 * n * n + 2 ∧ 0 < s.2) ∧ (raw n p).length ≤ 3 ∧ raw n p ≠ [] := by
  have hsum : ((raw n p).map (·.2)).sum = 840 := by
    unfold raw; rw [List.map_map]; exact (sum_filter_pos _).trans (corners_sum h hp)
  refine ⟨?_, hsum, fun s hs => ?_, ?_, fun e => by rw [e] at hsum; simp at hsum⟩
  · unfold raw
    refine List.Pairwise.map _ (fun a b hab => hab) ?_
    have h1 := (corners_apart h p).filter (fun c => decide (0 < c.2))
    refine List.Pairwise.imp_of_mem (fun {a b} ha hb hab e => hab ?_) h1
    obtain ⟨p1, f1, _⟩ := corners_pts h hp a (List.mem_filter.1 ha).1
    obtain ⟨p2, f2, _⟩ := corners_pts h hp b (List.mem_filter.1 hb).1
    exact idx_inj h p1 p2 (f1.trans f2.symm) e
  · obtain ⟨c, hc, rfl⟩ := List.mem_map.1 hs
    obtain ⟨h1, h2⟩ := List.mem_filter.1 hc
    refine ⟨?_, of_decide_eq_true h2⟩
    rw [← nodes_length h]; exact idx_lt h (corners_pts h hp c h1).1
  · unfold raw
    rw [List.length_map]
    refine Nat.le_trans (List.length_filter_le _ _) ?_
    unfold corners
    (repeat' split) <;> simp
theorem insAll_aux : ∀ (l a : List (Nat × Nat)), asc a → (a ++ l).Pairwise (fun x y => x.1 ≠ y.1) → asc (l.foldl (fun a s => ins s a) a) ∧ (l.foldl (fun a s => ins s a) a).Perm (a ++ l)
  | [], a, h, _ => by simp [h]
  | s :: l, a, h, hp => by
    have hp' : (s :: a ++ l).Pairwise (fun x y => x.1 ≠ y.1) := (List.perm_middle.pairwise_iff (fun {x y} hxy => Ne.symm hxy)).1 hp
    obtain ⟨q1, q2⟩ := List.pairwise_cons.1 hp'
    have h1 : asc (ins s a) := ins_asc h fun x hx => Ne.symm (q1 x (by simp [hx]))
    have h2 : (ins s a ++ l).Perm (s :: a ++ l) := (ins_perm s a).append_right l
    obtain ⟨r1, r2⟩ := insAll_aux l (ins s a) h1 ((h2.pairwise_iff (fun {x y} hxy => Ne.symm hxy)).2 hp')
    exact ⟨r1, r2.trans (h2.trans List.perm_middle.symm)⟩
theorem shares_ok {n : Nat} (h : freq n) {p : Pl} (hp : p.ok) : asc (shares n p) ∧ (shares n p).Perm (raw n p) := by
  have := insAll_aux (raw n p) [] (by simp [asc]) (by simpa using (raw_ok h hp).1)
  exact ⟨this.1, this.2.trans (by rw [List.nil_append])⟩
theorem sum_perm {l l' : List (Nat × Nat)} (h : l.Perm l') : (l.map (·.2)).sum = (l'.map (·.2)).sum := (h.map _).sum_nat
end Go.Grid
/- Nodes by their places, and shares: what the functions come to. -/
namespace Go.Proofs.YtobmbacppbkgeaaDoor
open Go Go.PM Go.Grid
theorem nodes_le {n : Nat} (h : freq n) : (nodes n).length ≤ 700 := by
  rw [nodes_length h]
  rcases freq_cases h with rfl | rfl | rfl | rfl | rfl | rfl | rfl | rfl <;> decide
theorem sp_at (fu d : Nat) (hf : 18446744073709551616 ≤ fu) (n : Nat) (h : freq n) (p : Pl) (hp : p ∈ pts n) :
    cl fu (d + 5) fn_mesh_Net_at [V.c (C.cp (netC n (nodes n))), V.agg (plc p)] [] = OK (I (idx n p)) := by
  have hok := pts_ok h hp
  have e1 := sp_Normal fu d hf p hok
  have e2 := mfd_mem (nodes n) 0 0 (norm_pts h hp)
  simp only [plc] at e1 e2 ⊢
  rw [eq_mesh_Net_at]
  simp (disch := omega) only [obs, rC_c, rA_agg, rT_tup, rP_ptr, rW_own, rS_sb, rF_sb, uncV_cons, uncO_cons, nilV_nil, rO_ob, rN_ob, unc_cons, asI_int, asB_bool, asS_string, asSl_sl, asSl_nl, asFn_fn, asP_cp, nrm_sl, nrm_nl, need_true, ct, cf, bd_eq, natD_zero, natD_succ, natD_one, noYl_v, noYl_sl, noYl_nl, noYl_cp, noYl_fn, Bool.and_true, Bool.true_and, Bool.and_self, beqN_self, Bool.not_true, Bool.not_false, Bool.and_false, Bool.false_and, Bool.or_false, Bool.false_or, Bool.or_true, Bool.true_or, wrap_in, dlt_t, dlt_f, dle_t, dle_f, dgt_t, dgt_f, dge_t, dge_f, ibeq_t, ibeq_f, ibne_t, ibne_f, inR_int, beqN_eq, bleN_le, e1, mfd, e2, orZ, List.length_cons, List.length_nil, Nat.zero_add, Nat.reduceAdd]
  rfl
def shc (s : Nat × Nat) : List C := [.v (.int .i64 s.1), .v (.int .i64 s.2)]
theorem shc_length (s : Nat × Nat) : (shc s).length = 2 := rfl
theorem sh_div (l : List (Nat × Nat)) : l.length * 2 / 2 = l.length := Nat.mul_div_cancel _ (by omega)
end Go.Proofs.YtobmbacppbkgeaaDoor
/- Sorting up to three shares. -/
namespace Go.Proofs.YtobmbacppbkgeaaDoor
open Go Go.PM Go.Grid
set_option maxRecDepth 20000
theorem sp_isort1 (fu d : Nat) (hf : 18446744073709551616 ≤ fu) (a w : Nat) :
    cl fu (d + 2) fn_slices_insertionSortCmpFunc_api_Share [V.own 1000000 0 1, I 0, I 1, V.c (C.fn fn_mesh_Net_Locate_1 [])] [.sb ty_api_Share 0 [.v (.int .i64 a), .v (.int .i64 w)]] = some ⟨V.tup [], [.sb ty_api_Share 0 [.v (.int .i64 a), .v (.int .i64 w)]], none⟩ := by
  obtain ⟨fu', rfl⟩ : ∃ m, fu = m + 9 := ⟨fu - 9, by omega⟩
  rw [eq_slices_insertionSortCmpFunc_api_Share]
  repeat (rw [iter_s]; simp (disch := omega) only [obs, rC_c, rA_agg, rT_tup, rP_ptr, rW_own, rS_sb, rF_sb, uncV_cons, uncO_cons, nilV_nil, rO_ob, rN_ob, unc_cons, asI_int, asB_bool, asS_string, asSl_sl, asSl_nl, asFn_fn, asP_cp, nrm_sl, nrm_nl, need_true, ct, cf, bd_eq, natD_zero, natD_succ, natD_one, noYl_v, noYl_sl, noYl_nl, noYl_cp, noYl_fn, Bool.and_true, Bool.true_and, Bool.and_self, beqN_self, Bool.not_true, Bool.not_false, Bool.and_false, Bool.false_and, Bool.or_false, Bool.false_or, Bool.or_true, Bool.true_or, wrap_in, dlt_t, dlt_f, dle_t, dle_f, dgt_t, dgt_f, dge_t, dge_f, ibeq_t, ibeq_f, ibne_t, ibne_f, inR_int, beqN_eq, bleN_le, Int.toNat_zero, Int.toNat_one, Int.reduceToNat, Nat.zero_mul, Nat.one_mul, Nat.reduceMul, Nat.zero_add, Nat.reduceAdd, List.drop_zero, List.drop_succ_cons, putAt, List.take_succ_cons, List.take_zero, List.cons_append, List.nil_append, List.length_cons, List.length_nil, Int.reduceAdd, Int.reduceSub, Int.reduceNeg, Int.zero_add, Int.natCast_one, Int.cast_ofNat_Int, List.append_nil])
theorem sp_isort2 (fu d : Nat) (hf : 18446744073709551616 ≤ fu) (a w a2 w2 : Nat) (h : a ≠ a2) (ha : a ≤ 1000000) (ha2 : a2 ≤ 1000000) :
    cl fu (d + 2) fn_slices_insertionSortCmpFunc_api_Share [V.own 1000000 0 2, I 0, I 2, V.c (C.fn fn_mesh_Net_Locate_1 [])] [.sb ty_api_Share 0 [.v (.int .i64 a), .v (.int .i64 w), .v (.int .i64 a2), .v (.int .i64 w2)]] = some ⟨V.tup [], [.sb ty_api_Share 0 (fl shc (insAll [(a, w), (a2, w2)]))], none⟩ := by
  obtain ⟨fu', rfl⟩ : ∃ m, fu = m + 9 := ⟨fu - 9, by omega⟩
  rw [eq_slices_insertionSortCmpFunc_api_Share]
  simp only [insAll, List.foldl, ins]
  by_cases h1 : a < a2
  · rw [if_pos h1]
    repeat (rw [iter_s]; simp (disch := omega) only [obs, rC_c, rA_agg, rT_tup, rP_ptr, rW_own, rS_sb, rF_sb, uncV_cons, uncO_cons, nilV_nil, rO_ob, rN_ob, unc_cons, asI_int, asB_bool, asS_string, asSl_sl, asSl_nl, asFn_fn, asP_cp, nrm_sl, nrm_nl, need_true, ct, cf, bd_eq, natD_zero, natD_succ, natD_one, noYl_v, noYl_sl, noYl_nl, noYl_cp, noYl_fn, Bool.and_true, Bool.true_and, Bool.and_self, beqN_self, Bool.not_true, Bool.not_false, Bool.and_false, Bool.false_and, Bool.or_false, Bool.false_or, Bool.or_true, Bool.true_or, wrap_in, dlt_t, dlt_f, dle_t, dle_f, dgt_t, dgt_f, dge_t, dge_f, ibeq_t, ibeq_f, ibne_t, ibne_f, inR_int, beqN_eq, bleN_le, Int.toNat_zero, Int.toNat_one, Int.reduceToNat, Nat.zero_mul, Nat.one_mul, Nat.reduceMul, Nat.zero_add, Nat.reduceAdd, List.drop_zero, List.drop_succ_cons, putAt, List.take_succ_cons, List.take_zero, List.cons_append, List.nil_append, List.length_cons, List.length_nil, Int.reduceAdd, Int.reduceSub, Int.reduceNeg, Int.zero_add, Int.natCast_one, Int.cast_ofNat_Int, List.append_nil, eq_mesh_Net_Locate_1])
    rfl
  · rw [if_neg h1]
    repeat (rw [iter_s]; simp (disch := omega) only [obs, rC_c, rA_agg, rT_tup, rP_ptr, rW_own, rS_sb, rF_sb, uncV_cons, uncO_cons, nilV_nil, rO_ob, rN_ob, unc_cons, asI_int, asB_bool, asS_string, asSl_sl, asSl_nl, asFn_fn, asP_cp, nrm_sl, nrm_nl, need_true, ct, cf, bd_eq, natD_zero, natD_succ, natD_one, noYl_v, noYl_sl, noYl_nl, noYl_cp, noYl_fn, Bool.and_true, Bool.true_and, Bool.and_self, beqN_self, Bool.not_true, Bool.not_false, Bool.and_false, Bool.false_and, Bool.or_false, Bool.false_or, Bool.or_true, Bool.true_or, wrap_in, dlt_t, dlt_f, dle_t, dle_f, dgt_t, dgt_f, dge_t, dge_f, ibeq_t, ibeq_f, ibne_t, ibne_f, inR_int, beqN_eq, bleN_le, Int.toNat_zero, Int.toNat_one, Int.reduceToNat, Nat.zero_mul, Nat.one_mul, Nat.reduceMul, Nat.zero_add, Nat.reduceAdd, List.drop_zero, List.drop_succ_cons, putAt, List.take_succ_cons, List.take_zero, List.cons_append, List.nil_append, List.length_cons, List.length_nil, Int.reduceAdd, Int.reduceSub, Int.reduceNeg, Int.zero_add, Int.natCast_one, Int.cast_ofNat_Int, List.append_nil, eq_mesh_Net_Locate_1])
    rfl
set_option maxHeartbeats 2000000 in
theorem sp_isort3 (fu d : Nat) (hf : 18446744073709551616 ≤ fu) (a w a2 w2 a3 w3 : Nat) (h : a ≠ a2) (h' : a ≠ a3) (h'' : a2 ≠ a3) (ha : a ≤ 1000000) (ha2 : a2 ≤ 1000000) (ha3 : a3 ≤ 1000000) :
    cl fu (d + 2) fn_slices_insertionSortCmpFunc_api_Share [V.own 1000000 0 3, I 0, I 3, V.c (C.fn fn_mesh_Net_Locate_1 [])] [.sb ty_api_Share 0 [.v (.int .i64 a), .v (.int .i64 w), .v (.int .i64 a2), .v (.int .i64 w2), .v (.int .i64 a3), .v (.int .i64 w3)]] = some ⟨V.tup [], [.sb ty_api_Share 0 (fl shc (insAll [(a, w), (a2, w2), (a3, w3)]))], none⟩ := by
  obtain ⟨fu', rfl⟩ : ∃ m, fu = m + 9 := ⟨fu - 9, by omega⟩
  rw [eq_slices_insertionSortCmpFunc_api_Share]
  simp only [insAll, List.foldl, ins]
  by_cases h1 : a < a2
  · rw [if_pos h1]
    simp only [ins]
    by_cases h2 : a2 < a3
    · rw [if_pos (show a < a3 by omega), if_pos h2]
      repeat (rw [iter_s]; simp (disch := omega) only [obs, rC_c, rA_agg, rT_tup, rP_ptr, rW_own, rS_sb, rF_sb, uncV_cons, uncO_cons, nilV_nil, rO_ob, rN_ob, unc_cons, asI_int, asB_bool, asS_string, asSl_sl, asSl_nl, asFn_fn, asP_cp, nrm_sl, nrm_nl, need_true, ct, cf, bd_eq, natD_zero, natD_succ, natD_one, noYl_v, noYl_sl, noYl_nl, noYl_cp, noYl_fn, Bool.and_true, Bool.true_and, Bool.and_self, beqN_self, Bool.not_true, Bool.not_false, Bool.and_false, Bool.false_and, Bool.or_false, Bool.false_or, Bool.or_true, Bool.true_or, wrap_in, dlt_t, dlt_f, dle_t, dle_f, dgt_t, dgt_f, dge_t, dge_f, ibeq_t, ibeq_f, ibne_t, ibne_f, inR_int, beqN_eq, bleN_le, Int.toNat_zero, Int.toNat_one, Int.reduceToNat, Nat.zero_mul, Nat.one_mul, Nat.reduceMul, Nat.zero_add, Nat.reduceAdd, List.drop_zero, List.drop_succ_cons, putAt, List.take_succ_cons, List.take_zero, List.cons_append, List.nil_append, List.length_cons, List.length_nil, Int.reduceAdd, Int.reduceSub, Int.reduceNeg, Int.zero_add, Int.natCast_one, Int.cast_ofNat_Int, List.append_nil, eq_mesh_Net_Locate_1])
      rfl
    · by_cases h3 : a < a3
      · rw [if_pos h3, if_neg h2]
        repeat (rw [iter_s]; simp (disch := omega) only [obs, rC_c, rA_agg, rT_tup, rP_ptr, rW_own, rS_sb, rF_sb, uncV_cons, uncO_cons, nilV_nil, rO_ob, rN_ob, unc_cons, asI_int, asB_bool, asS_string, asSl_sl, asSl_nl, asFn_fn, asP_cp, nrm_sl, nrm_nl, need_true, ct, cf, bd_eq, natD_zero, natD_succ, natD_one, noYl_v, noYl_sl, noYl_nl, noYl_cp, noYl_fn, Bool.and_true, Bool.true_and, Bool.and_self, beqN_self, Bool.not_true, Bool.not_false, Bool.and_false, Bool.false_and, Bool.or_false, Bool.false_or, Bool.or_true, Bool.true_or, wrap_in, dlt_t, dlt_f, dle_t, dle_f, dgt_t, dgt_f, dge_t, dge_f, ibeq_t, ibeq_f, ibne_t, ibne_f, inR_int, beqN_eq, bleN_le, Int.toNat_zero, Int.toNat_one, Int.reduceToNat, Nat.zero_mul, Nat.one_mul, Nat.reduceMul, Nat.zero_add, Nat.reduceAdd, List.drop_zero, List.drop_succ_cons, putAt, List.take_succ_cons, List.take_zero, List.cons_append, List.nil_append, List.length_cons, List.length_nil, Int.reduceAdd, Int.reduceSub, Int.reduceNeg, Int.zero_add, Int.natCast_one, Int.cast_ofNat_Int, List.append_nil, eq_mesh_Net_Locate_1])
        rfl
      · rw [if_neg h3]
        repeat (rw [iter_s]; simp (disch := omega) only [obs, rC_c, rA_agg, rT_tup, rP_ptr, rW_own, rS_sb, rF_sb, uncV_cons, uncO_cons, nilV_nil, rO_ob, rN_ob, unc_cons, asI_int, asB_bool, asS_string, asSl_sl, asSl_nl, asFn_fn, asP_cp, nrm_sl, nrm_nl, need_true, ct, cf, bd_eq, natD_zero, natD_succ, natD_one, noYl_v, noYl_sl, noYl_nl, noYl_cp, noYl_fn, Bool.and_true, Bool.true_and, Bool.and_self, beqN_self, Bool.not_true, Bool.not_false, Bool.and_false, Bool.false_and, Bool.or_false, Bool.false_or, Bool.or_true, Bool.true_or, wrap_in, dlt_t, dlt_f, dle_t, dle_f, dgt_t, dgt_f, dge_t, dge_f, ibeq_t, ibeq_f, ibne_t, ibne_f, inR_int, beqN_eq, bleN_le, Int.toNat_zero, Int.toNat_one, Int.reduceToNat, Nat.zero_mul, Nat.one_mul, Nat.reduceMul, Nat.zero_add, Nat.reduceAdd, List.drop_zero, List.drop_succ_cons, putAt, List.take_succ_cons, List.take_zero, List.cons_append, List.nil_append, List.length_cons, List.length_nil, Int.reduceAdd, Int.reduceSub, Int.reduceNeg, Int.zero_add, Int.natCast_one, Int.cast_ofNat_Int, List.append_nil, eq_mesh_Net_Locate_1])
        rfl
  · rw [if_neg h1]
    simp only [ins]
    by_cases h2 : a < a3
    · rw [if_pos (show a2 < a3 by omega), if_pos h2]
      repeat (rw [iter_s]; simp (disch := omega) only [obs, rC_c, rA_agg, rT_tup, rP_ptr, rW_own, rS_sb, rF_sb, uncV_cons, uncO_cons, nilV_nil, rO_ob, rN_ob, unc_cons, asI_int, asB_bool, asS_string, asSl_sl, asSl_nl, asFn_fn, asP_cp, nrm_sl, nrm_nl, need_true, ct, cf, bd_eq, natD_zero, natD_succ, natD_one, noYl_v, noYl_sl, noYl_nl, noYl_cp, noYl_fn, Bool.and_true, Bool.true_and, Bool.and_self, beqN_self, Bool.not_true, Bool.not_false, Bool.and_false, Bool.false_and, Bool.or_false, Bool.false_or, Bool.or_true, Bool.true_or, wrap_in, dlt_t, dlt_f, dle_t, dle_f, dgt_t, dgt_f, dge_t, dge_f, ibeq_t, ibeq_f, ibne_t, ibne_f, inR_int, beqN_eq, bleN_le, Int.toNat_zero, Int.toNat_one, Int.reduceToNat, Nat.zero_mul, Nat.one_mul, Nat.reduceMul, Nat.zero_add, Nat.reduceAdd, List.drop_zero, List.drop_succ_cons, putAt, List.take_succ_cons, List.take_zero, List.cons_append, List.nil_append, List.length_cons, List.length_nil, Int.reduceAdd, Int.reduceSub, Int.reduceNeg, Int.zero_add, Int.natCast_one, Int.cast_ofNat_Int, List.append_nil, eq_mesh_Net_Locate_1])
      rfl
    · by_cases h3 : a2 < a3
      · rw [if_pos h3, if_neg h2]
        repeat (rw [iter_s]; simp (disch := omega) only [obs, rC_c, rA_agg, rT_tup, rP_ptr, rW_own, rS_sb, rF_sb, uncV_cons, uncO_cons, nilV_nil, rO_ob, rN_ob, unc_cons, asI_int, asB_bool, asS_string, asSl_sl, asSl_nl, asFn_fn, asP_cp, nrm_sl, nrm_nl, need_true, ct, cf, bd_eq, natD_zero, natD_succ, natD_one, noYl_v, noYl_sl, noYl_nl, noYl_cp, noYl_fn, Bool.and_true, Bool.true_and, Bool.and_self, beqN_self, Bool.not_true, Bool.not_false, Bool.and_false, Bool.false_and, Bool.or_false, Bool.false_or, Bool.or_true, Bool.true_or, wrap_in, dlt_t, dlt_f, dle_t, dle_f, dgt_t, dgt_f, dge_t, dge_f, ibeq_t, ibeq_f, ibne_t, ibne_f, inR_int, beqN_eq, bleN_le, Int.toNat_zero, Int.toNat_one, Int.reduceToNat, Nat.zero_mul, Nat.one_mul, Nat.reduceMul, Nat.zero_add, Nat.reduceAdd, List.drop_zero, List.drop_succ_cons, putAt, List.take_succ_cons, List.take_zero, List.cons_append, List.nil_append, List.length_cons, List.length_nil, Int.reduceAdd, Int.reduceSub, Int.reduceNeg, Int.zero_add, Int.natCast_one, Int.cast_ofNat_Int, List.append_nil, eq_mesh_Net_Locate_1])
        rfl
      · rw [if_neg h3]
        repeat (rw [iter_s]; simp (disch := omega) only [obs, rC_c, rA_agg, rT_tup, rP_ptr, rW_own, rS_sb, rF_sb, uncV_cons, uncO_cons, nilV_nil, rO_ob, rN_ob, unc_cons, asI_int, asB_bool, asS_string, asSl_sl, asSl_nl, asFn_fn, asP_cp, nrm_sl, nrm_nl, need_true, ct, cf, bd_eq, natD_zero, natD_succ, natD_one, noYl_v, noYl_sl, noYl_nl, noYl_cp, noYl_fn, Bool.and_true, Bool.true_and, Bool.and_self, beqN_self, Bool.not_true, Bool.not_false, Bool.and_false, Bool.false_and, Bool.or_false, Bool.false_or, Bool.or_true, Bool.true_or, wrap_in, dlt_t, dlt_f, dle_t, dle_f, dgt_t, dgt_f, dge_t, dge_f, ibeq_t, ibeq_f, ibne_t, ibne_f, inR_int, beqN_eq, bleN_le, Int.toNat_zero, Int.toNat_one, Int.reduceToNat, Nat.zero_mul, Nat.one_mul, Nat.reduceMul, Nat.zero_add, Nat.reduceAdd, List.drop_zero, List.drop_succ_cons, putAt, List.take_succ_cons, List.take_zero, List.cons_append, List.nil_append, List.length_cons, List.length_nil, Int.reduceAdd, Int.reduceSub, Int.reduceNeg, Int.zero_add, Int.natCast_one, Int.cast_ofNat_Int, List.append_nil, eq_mesh_Net_Locate_1])
        rfl
theorem sp_Len (fu d : Nat) (m : Nat) (h : m ≤ 3) : ∃ k : Int, cl fu (d + 2) fn_bits_Len [V.c (.v (.int .u64 (IntKind.u64.wrap ((m : Nat) : Int))))] [] = OK (I k) := by
  rw [eq_bits_Len]
  rcases (show m = 0 ∨ m = 1 ∨ m = 2 ∨ m = 3 by omega) with rfl | rfl | rfl | rfl <;> (rw [show (IntKind.u64.wrap ((_ : Nat) : Int)) = ((_ : Nat) : Int) from rfl, eq_bits_Len64]; exact ⟨_, rfl⟩)
theorem insAll_length (l : List (Nat × Nat)) : (insAll l).length = l.length := by
  have : ∀ (l a : List (Nat × Nat)), (l.foldl (fun a s => ins s a) a).length = a.length + l.length := by
    intro l
    induction l with
    | nil => simp
    | cons s l ih => intro a; simp only [List.foldl_cons, ih, ins_length, List.length_cons]; omega
  exact (this l []).trans (Nat.zero_add _)
theorem sp_pdq (fu d : Nat) (hf : 18446744073709551616 ≤ fu) (m : Nat) (hm : m ≤ 12) (lim : Int) (cs cs' : List C) (hl : cs'.length = cs.length)
    (h : cl fu (d + 2) fn_slices_insertionSortCmpFunc_api_Share [V.own 1000000 0 m, I 0, I m, V.c (C.fn fn_mesh_Net_Locate_1 [])] [.sb ty_api_Share 0 cs] = some ⟨V.tup [], [.sb ty_api_Share 0 cs'], none⟩) :
    cl fu (d + 3) fn_slices_pdqsortCmpFunc_api_Share [V.own 1000000 0 m, I 0, I m, I lim, V.c (C.fn fn_mesh_Net_Locate_1 [])] [.sb ty_api_Share 0 cs] = some ⟨V.tup [], [.sb ty_api_Share 0 cs'], none⟩ := by
  rw [eq_slices_pdqsortCmpFunc_api_Share]
  rw [iter_one (e := 0) (z := ((m, cs'), 0, (m : Int), lim, true, true, ())) (by omega) ?_]
  · simp only [obs, rC_c, rA_agg, rT_tup, rP_ptr, rW_own, rS_sb, rF_sb, uncV_cons, uncO_cons, nilV_nil, rO_ob, rN_ob, unc_cons, asI_int, asB_bool, asS_string, asSl_sl, asSl_nl, asFn_fn, asP_cp, nrm_sl, nrm_nl, need_true, ct, cf, bd_eq, natD_zero, natD_succ, natD_one, noYl_v, noYl_sl, noYl_nl, noYl_cp, noYl_fn, Bool.and_true, Bool.true_and, Bool.and_self, beqN_self, Bool.not_true, Bool.not_false, Bool.and_false, Bool.false_and, Bool.or_false, Bool.false_or, Bool.or_true, Bool.true_or]
  · show (bif decide (IntKind.i64.wrap ((m : Int) - 0) ≤ 12) then _ else _) = _
    rw [wrap_in (by omega) (by omega), dle_t (by omega), ct, h]
    simp only [obs, rC_c, rA_agg, rT_tup, rP_ptr, rW_own, rS_sb, rF_sb, uncV_cons, uncO_cons, nilV_nil, rO_ob, rN_ob, unc_cons, asI_int, asB_bool, asS_string, asSl_sl, asSl_nl, asFn_fn, asP_cp, nrm_sl, nrm_nl, need_true, ct, cf, bd_eq, natD_zero, natD_succ, natD_one, noYl_v, noYl_sl, noYl_nl, noYl_cp, noYl_fn, Bool.and_true, Bool.true_and, Bool.and_self, beqN_self, Bool.not_true, Bool.not_false, Bool.and_false, Bool.false_and, Bool.or_false, Bool.false_or, Bool.or_true, Bool.true_or, hl]
theorem sp_SortFunc (fu d : Nat) (hf : 18446744073709551616 ≤ fu) (l : List (Nat × Nat)) (hl : l.length ≤ 3) (hne : l ≠ []) (hd : l.Pairwise fun a b => a.1 ≠ b.1) (hb : ∀ s ∈ l, s.1 ≤ 1000000) :
    cl fu (d + 4) fn_slices_SortFunc_sapi_Share_api_Share [V.own 1000000 0 l.length, V.c (C.fn fn_mesh_Net_Locate_1 [])] [.sb ty_api_Share 0 (fl shc l)] = some ⟨V.tup [], [.sb ty_api_Share 0 (fl shc (insAll l))], none⟩ := by
  obtain ⟨k, hk⟩ := sp_Len fu (d + 1) l.length hl
  have hlen : (fl shc (insAll l)).length = (fl shc l).length := by rw [fl_length shc_length, fl_length shc_length, insAll_length]
  have main : cl fu (d + 2) fn_slices_insertionSortCmpFunc_api_Share [V.own 1000000 0 l.length, I 0, I l.length, V.c (C.fn fn_mesh_Net_Locate_1 [])] [.sb ty_api_Share 0 (fl shc l)] = some ⟨V.tup [], [.sb ty_api_Share 0 (fl shc (insAll l))], none⟩ := by
    match l, hl, hne, hd, hb with
    | [x], _, _, _, _ => exact sp_isort1 fu d hf x.1 x.2
    | [x, y], _, _, hd, hb =>
      simp only [List.pairwise_cons, List.mem_cons, List.not_mem_nil, or_false, forall_eq] at hd
      exact sp_isort2 fu d hf x.1 x.2 y.1 y.2 hd.1 (hb x (by simp)) (hb y (by simp))
    | [x, y, z], _, _, hd, hb =>
      obtain ⟨h1, h2⟩ := List.pairwise_cons.1 hd
      obtain ⟨h3, _⟩ := List.pairwise_cons.1 h2
      exact sp_isort3 fu d hf x.1 x.2 y.1 y.2 z.1 z.2 (h1 y (by simp)) (h1 z (by simp)) (h3 z (by simp)) (hb x (by simp)) (hb y (by simp)) (hb z (by simp))
  have e := sp_pdq fu d hf l.length (by omega) k (fl shc l) (fl shc (insAll l)) hlen main
  rw [eq_slices_SortFunc_sapi_Share_api_Share, hk]
  simp only [obs, rC_c, rA_agg, rT_tup, rP_ptr, rW_own, rS_sb, rF_sb, uncV_cons, uncO_cons, nilV_nil, rO_ob, rN_ob, unc_cons, asI_int, asB_bool, asS_string, asSl_sl, asSl_nl, asFn_fn, asP_cp, nrm_sl, nrm_nl, need_true, ct, cf, bd_eq, natD_zero, natD_succ, natD_one, noYl_v, noYl_sl, noYl_nl, noYl_cp, noYl_fn, Bool.and_true, Bool.true_and, Bool.and_self, beqN_self, Bool.not_true, Bool.not_false, Bool.and_false, Bool.false_and, Bool.or_false, Bool.false_or, Bool.or_true, Bool.true_or, e, hlen]
end Go.Proofs.YtobmbacppbkgeaaDoor
/- The shares of a place: what both functions come to. -/
namespace Go.Proofs.YtobmbacppbkgeaaDoor
open Go Go.PM Go.Grid
theorem part_facts {n : Nat} (h : freq n) {v : Nat} (hv : v ≤ 840) : v % (840 / n) ≤ v ∧ v % (840 / n) < 840 / n ∧ v % (840 / n) * n ≤ 840 ∧
    IntKind.i64.wrap (IntKind.i64.wrap (Int.tdiv (v : Int) ((840 / n : Nat) : Int)) * ((840 / n : Nat) : Int)) = ((v - v % (840 / n) : Nat) : Int) ∧
    IntKind.i64.wrap ((n : Int) * IntKind.i64.wrap ((v : Int) - ((v - v % (840 / n) : Nat) : Int))) = ((v % (840 / n) * n : Nat) : Int) ∧
    IntKind.i64.wrap (Int.tmod (v : Int) ((840 / n : Nat) : Int) * (n : Int)) = ((v % (840 / n) * n : Nat) : Int) ∧ Int.tmod (v : Int) ((840 / n : Nat) : Int) = ((v % (840 / n) : Nat) : Int) := by
  have hst := step_pos h
  have hm := mul_step h
  have h1 := Nat.mod_lt v (show 0 < 840 / n by omega)
  have h2 := Nat.mul_le_mul_right n (Nat.le_of_lt h1)
  rw [Nat.mul_comm (840 / n) n, hm] at h2
  have h3 := Nat.div_add_mod v (840 / n)
  have hd : Int.tdiv (v : Int) ((840 / n : Nat) : Int) = ((v / (840 / n) : Nat) : Int) := rfl
  have hmo : Int.tmod (v : Int) ((840 / n : Nat) : Int) = ((v % (840 / n) : Nat) : Int) := rfl
  have hle := Nat.mod_le v (840 / n)
  refine ⟨hle, h1, h2, ?_, ?_, ?_, hmo⟩
  · have : v / (840 / n) ≤ v := Nat.div_le_self _ _
    rw [hd, wrap_in (x := ((v / (840 / n) : Nat) : Int)) (Int.le_trans (by decide) (Int.natCast_nonneg _)) (Int.le_trans (Int.ofNat_le.2 (Nat.le_trans this hv)) (by decide)), ← Int.natCast_mul, show v / (840 / n) * (840 / n) = v - v % (840 / n) from by rw [Nat.mul_comm]; omega]
    have hq : v - v % (840 / n) ≤ 840 := Nat.le_trans (Nat.sub_le _ _) hv
    exact wrap_in (Int.le_trans (by decide) (Int.natCast_nonneg _)) (Int.le_trans (Int.ofNat_le.2 hq) (by decide))
  · rw [show (v : Int) - ((v - v % (840 / n) : Nat) : Int) = ((v % (840 / n) : Nat) : Int) by omega, wrap_in (x := ((v % (840 / n) : Nat) : Int)) (by omega) (by omega), ← Int.natCast_mul, Nat.mul_comm n]
    generalize v % (840 / n) * n = m at *
    exact wrap_in (by omega) (by omega)
  · rw [hmo, ← Int.natCast_mul]
    generalize v % (840 / n) * n = m at *
    exact wrap_in (by omega) (by omega)
theorem rsum_mul {n : Nat} (h : freq n) {p : Pl} (hp : p.ok) : (rsum n p = 0 ∧ p.a % (840 / n) * n + p.b % (840 / n) * n + p.c % (840 / n) * n = 0) ∨ (rsum n p = 840 / n ∧ p.a % (840 / n) * n + p.b % (840 / n) * n + p.c % (840 / n) * n = 840) ∨ (rsum n p = 2 * (840 / n) ∧ p.a % (840 / n) * n + p.b % (840 / n) * n + p.c % (840 / n) * n = 1680) := by
  have hm := mul_step h
  rw [Nat.mul_comm] at hm
  have : rsum n p * n = p.a % (840 / n) * n + p.b % (840 / n) * n + p.c % (840 / n) * n := by unfold rsum; rw [Nat.add_mul, Nat.add_mul]
  rcases rsum_cases h hp with e | e | e
  · left; rw [e] at this; exact ⟨e, by omega⟩
  · right; left; rw [e, hm] at this; exact ⟨e, by omega⟩
  · right; right; rw [e, Nat.mul_assoc, hm] at this; exact ⟨e, by omega⟩
end Go.Proofs.YtobmbacppbkgeaaDoor
/- The shares of a place, by the program. -/
namespace Go.Proofs.YtobmbacppbkgeaaDoor
open Go Go.PM Go.Grid
def wc1 (w : Nat) : List C := [.v (.int .i64 w)]
theorem wc1_length (w : Nat) : (wc1 w).length = 1 := rfl
def rawTo (n : Nat) (cs : List (Pl × Nat)) (j : Nat) : List (Nat × Nat) := ((cs.take j).filter fun c => decide (0 < c.2)).map fun c => (idx n c.1, c.2)
theorem rawTo_succ (n : Nat) (cs : List (Pl × Nat)) (j : Nat) (h : j < cs.length) : rawTo n cs (j + 1) = if 0 < cs[j].2 then rawTo n cs j ++ [(idx n cs[j].1, cs[j].2)] else rawTo n cs j := by
  unfold rawTo
  rw [List.take_succ_eq_append_getElem h, List.filter_append, List.map_append]
  simp only [List.filter_cons, List.filter_nil, decide_eq_true_eq]
  split <;> simp
theorem sh_snoc (l : List (Nat × Nat)) (a w : Nat) : fl shc l ++ [.v (.int .i64 a), .v (.int .i64 w)] = fl shc (l ++ [(a, w)]) := fl_snoc l (a, w)
theorem rawTo_le (n : Nat) (cs : List (Pl × Nat)) (j : Nat) : (rawTo n cs j).length ≤ j := by
  unfold rawTo
  rw [List.length_map]
  refine Nat.le_trans (List.length_filter_le _ _) ?_
  rw [List.length_take]; omega
theorem sp_moved (fu d : Nat) (f a b c x y z : Int) : cl fu (d + 1) fn_mesh_moved [V.agg [.v (.int .i64 f), .v (.int .i64 a), .v (.int .i64 b), .v (.int .i64 c)], I x, I y, I z] [] = OK (V.agg [.v (.int .i64 f), .v (.int .i64 (IntKind.i64.wrap (a + x))), .v (.int .i64 (IntKind.i64.wrap (b + y))), .v (.int .i64 (IntKind.i64.wrap (c + z)))]) := by rw [eq_mesh_moved]
theorem sp_tail (fu d : Nat) (hf : 18446744073709551616 ≤ fu) (n : Nat) (h : freq n) (cs : List (Pl × Nat)) (hl : cs.length = 3) (hcp : ∀ c ∈ cs, c.1 ∈ pts n) (hw : ∀ c ∈ cs, c.2 ≤ 840) (hne : rawTo n cs 3 ≠ []) (hd : (rawTo n cs 3).Pairwise fun a b => a.1 ≠ b.1) :
    ((iter (fun (y : List C × Int × Unit) =>
      bif decide (y.2.1 < 3) then
        need (inR y.2.1 3) <|
        unc (List.drop (y.2.1.toNat * 4) (List.take 12 (fl plc (cs.map (·.1))))) fun c5 r4 =>
        asI .i64 c5 fun i5 =>
        unc r4 fun c6 r5 =>
        asI .i64 c6 fun i6 =>
        unc r5 fun c7 r6 =>
        asI .i64 c7 fun i7 =>
        unc r6 fun c8 _ =>
        asI .i64 c8 fun i8 =>
        need (inR y.2.1 3) <|
        unc (List.drop (y.2.1.toNat * 1) (fl wc1 (cs.map (·.2)))) fun c9 _ =>
        asI .i64 c9 fun i9 =>
        bif decide (i9 > 0) then
          (cl fu (d + 5) fn_mesh_Net_at [V.c (C.cp (netC n (nodes n))), V.agg ([C.v (.int .i64 i5), C.v (.int .i64 i6), C.v (.int .i64 i7), C.v (.int .i64 i8)])] []).bind fun out4 =>
          rC out4.r fun c10 =>
          asI .i64 c10 fun i10 =>
          need (inR y.2.1 3) <|
          unc (List.drop (y.2.1.toNat * 1) (fl wc1 (cs.map (·.2)))) fun c11 _ =>
          asI .i64 c11 fun i11 =>
          need ((((Nat.beq ((y.1.length / 2) * 2) y.1.length) && true) && (Nat.ble (((y.1.length / 2) + 1) * 16) 140737488355328)) && (Nat.ble ((y.1.length / 2) + 1) 140737488355328)) <|
          need (((Nat.beq (((y.1.length / 2) + 1) * 2) ((y.1 ++ ([C.v (.int .i64 i10), C.v (.int .i64 i11)])).length)) && true) && true) <|
          some (0, (y.1 ++ ([C.v (.int .i64 i10), C.v (.int .i64 i11)]), IntKind.i64.wrap (y.2.1 + 1), ()))
        else
          need (((Nat.beq ((y.1.length / 2) * 2) y.1.length) && true) && true) <|
          some (0, (y.1, IntKind.i64.wrap (y.2.1 + 1), ()))
      else
        need (((Nat.beq ((y.1.length / 2) * 2) y.1.length) && true) && true) <|
        some (1, (y.1, y.2.1, ()))) fu ([], 0, ())).bind fun p2 =>
    (cl fu (d + 5) fn_slices_SortFunc_sapi_Share_api_Share [V.own 1000000 0 (p2.2.1.length / 2), V.c (C.fn fn_mesh_Net_Locate_1 ([]))] [.sb ty_api_Share 0 p2.2.1]).bind fun out5 =>
    uncO out5.objs fun o os =>
    rS o ty_api_Share 0 fun cs5 =>
    need (Nat.beq cs5.length p2.2.1.length) <|
    need (Nat.ble (0 + ((p2.2.1.length / 2) * 2)) cs5.length) <|
    some ⟨V.c (C.sl (p2.2.1.length / 2) (List.take ((p2.2.1.length / 2) * 2) cs5)), [], none⟩) = OK (V.c (C.sl (insAll (rawTo n cs 3)).length (fl shc (insAll (rawTo n cs 3))))) := by
  have hr := rawTo_le n cs 3
  have hS := sp_SortFunc fu (d + 1) hf (rawTo n cs 3) hr hne hd (fun s hs => by
    unfold rawTo at hs
    obtain ⟨c, hc, rfl⟩ := List.mem_map.1 hs
    have hm := List.mem_of_mem_take (List.mem_filter.1 hc).1
    have h1 := idx_lt h (hcp c hm)
    have h2 := nodes_le h
    show idx n c.1 ≤ 1000000
    omega)
  rw [iter_runx (fun j : Nat => (fl shc (rawTo n cs j), (j : Int), ())) 0 (fl shc (rawTo n cs 3), (3 : Int), ()) 3 ?_ ?_ ?_ (by omega)]
  · simp (disch := omega) only [obs, rC_c, rA_agg, rT_tup, rP_ptr, rW_own, rS_sb, rF_sb, uncV_cons, uncO_cons, nilV_nil, rO_ob, rN_ob, unc_cons, asI_int, asB_bool, asS_string, asSl_sl, asSl_nl, asFn_fn, asP_cp, nrm_sl, nrm_nl, need_true, ct, cf, bd_eq, natD_zero, natD_succ, natD_one, noYl_v, noYl_sl, noYl_nl, noYl_cp, noYl_fn, Bool.and_true, Bool.true_and, Bool.and_self, beqN_self, Bool.not_true, Bool.not_false, Bool.and_false, Bool.false_and, Bool.or_false, Bool.false_or, Bool.or_true, Bool.true_or, wrap_in, dlt_t, dlt_f, dle_t, dle_f, dgt_t, dgt_f, dge_t, dge_f, ibeq_t, ibeq_f, ibne_t, ibne_f, inR_int, beqN_eq, bleN_le, fl_length shc_length, sh_div, hS, insAll_length, Nat.zero_add]
    rw [List.take_of_length_le (by rw [fl_length shc_length, insAll_length]; omega)]
  · rfl
  · intro j hj
    have hjl : j < cs.length := by omega
    have hm : cs[j] ∈ cs := List.getElem_mem hjl
    have hA := sp_at fu d hf n h cs[j].1 (hcp _ hm)
    have hW := hw _ hm
    have hr := rawTo_le n cs j
    have t1 : List.take 12 (fl plc (cs.map (·.1))) = fl plc (cs.map (·.1)) := List.take_of_length_le (by rw [fl_length plc_length, List.length_map, hl]; omega)
    have hd1 := fl_at plc_length (l := cs.map (·.1)) (k := j) (by simpa using hjl)
    have hd2 := fl_at wc1_length (l := cs.map (·.2)) (k := j) (by simpa using hjl)
    rw [List.getElem_map] at hd1 hd2
    rw [rawTo_succ n cs j hjl]
    simp only [plc] at hA
    by_cases hp : 0 < cs[j].2
    · rw [if_pos hp]
      simp (disch := omega) only [obs, rC_c, rA_agg, rT_tup, rP_ptr, rW_own, rS_sb, rF_sb, uncV_cons, uncO_cons, nilV_nil, rO_ob, rN_ob, unc_cons, asI_int, asB_bool, asS_string, asSl_sl, asSl_nl, asFn_fn, asP_cp, nrm_sl, nrm_nl, need_true, ct, cf, bd_eq, natD_zero, natD_succ, natD_one, noYl_v, noYl_sl, noYl_nl, noYl_cp, noYl_fn, Bool.and_true, Bool.true_and, Bool.and_self, beqN_self, Bool.not_true, Bool.not_false, Bool.and_false, Bool.false_and, Bool.or_false, Bool.false_or, Bool.or_true, Bool.true_or, wrap_in, dlt_t, dlt_f, dle_t, dle_f, dgt_t, dgt_f, dge_t, dge_f, ibeq_t, ibeq_f, ibne_t, ibne_f, inR_int, beqN_eq, bleN_le, t1, hd1, hd2, plc, wc1, Int.toNat_natCast, List.cons_append, List.nil_append, hA, fl_length shc_length, sh_div, sh_snoc, List.length_append, List.length_cons, List.length_nil, Nat.zero_add, Int.natCast_add, Int.natCast_one]
    · rw [if_neg hp]
      simp (disch := omega) only [obs, rC_c, rA_agg, rT_tup, rP_ptr, rW_own, rS_sb, rF_sb, uncV_cons, uncO_cons, nilV_nil, rO_ob, rN_ob, unc_cons, asI_int, asB_bool, asS_string, asSl_sl, asSl_nl, asFn_fn, asP_cp, nrm_sl, nrm_nl, need_true, ct, cf, bd_eq, natD_zero, natD_succ, natD_one, noYl_v, noYl_sl, noYl_nl, noYl_cp, noYl_fn, Bool.and_true, Bool.true_and, Bool.and_self, beqN_self, Bool.not_true, Bool.not_false, Bool.and_false, Bool.false_and, Bool.or_false, Bool.false_or, Bool.or_true, Bool.true_or, wrap_in, dlt_t, dlt_f, dle_t, dle_f, dgt_t, dgt_f, dge_t, dge_f, ibeq_t, ibeq_f, ibne_t, ibne_f, inR_int, beqN_eq, bleN_le, t1, hd1, hd2, plc, wc1, Int.toNat_natCast, List.cons_append, List.nil_append, fl_length shc_length, sh_div, Int.natCast_add, Int.natCast_one]
  · simp (disch := omega) only [obs, rC_c, rA_agg, rT_tup, rP_ptr, rW_own, rS_sb, rF_sb, uncV_cons, uncO_cons, nilV_nil, rO_ob, rN_ob, unc_cons, asI_int, asB_bool, asS_string, asSl_sl, asSl_nl, asFn_fn, asP_cp, nrm_sl, nrm_nl, need_true, ct, cf, bd_eq, natD_zero, natD_succ, natD_one, noYl_v, noYl_sl, noYl_nl, noYl_cp, noYl_fn, Bool.and_true, Bool.true_and, Bool.and_self, beqN_self, Bool.not_true, Bool.not_false, Bool.and_false, Bool.false_and, Bool.or_false, Bool.false_or, Bool.or_true, Bool.true_or, wrap_in, dlt_t, dlt_f, dle_t, dle_f, dgt_t, dgt_f, dge_t, dge_f, ibeq_t, ibeq_f, ibne_t, ibne_f, inR_int, beqN_eq, bleN_le, fl_length shc_length, sh_div]
    rfl
theorem sp_upward (fu d : Nat) (n : Nat) (h : freq n) (l : List Pl) (f a b c : Nat) (ha : a ≤ 840) (hb : b ≤ 840) (hc : c ≤ 840) :
    cl fu (d + 2) fn_mesh_Net_upward [V.c (C.cp (netC n l)), V.agg (plc ⟨f, a, b, c⟩)] [] = OK (V.agg (fl plc [⟨f, a + 840 / n, b, c⟩, ⟨f, a, b + 840 / n, c⟩, ⟨f, a, b, c + 840 / n⟩])) := by
  have hst := step_pos h
  simp only [plc]
  rw [eq_mesh_Net_upward]
  generalize 840 / n = s at *
  simp (disch := omega) only [obs, rC_c, rA_agg, rT_tup, rP_ptr, rW_own, rS_sb, rF_sb, uncV_cons, uncO_cons, nilV_nil, rO_ob, rN_ob, unc_cons, asI_int, asB_bool, asS_string, asSl_sl, asSl_nl, asFn_fn, asP_cp, nrm_sl, nrm_nl, need_true, ct, cf, bd_eq, natD_zero, natD_succ, natD_one, noYl_v, noYl_sl, noYl_nl, noYl_cp, noYl_fn, Bool.and_true, Bool.true_and, Bool.and_self, beqN_self, Bool.not_true, Bool.not_false, Bool.and_false, Bool.false_and, Bool.or_false, Bool.false_or, Bool.or_true, Bool.true_or, wrap_in, dlt_t, dlt_f, dle_t, dle_f, dgt_t, dgt_f, dge_t, dge_f, ibeq_t, ibeq_f, ibne_t, ibne_f, inR_int, beqN_eq, bleN_le, sp_moved, List.length_cons, List.length_nil, Nat.zero_add, Nat.reduceAdd, Int.add_zero]
  simp only [fl_cons, fl_nil, plc, List.cons_append, List.nil_append, Int.natCast_add]
theorem sp_downward (fu d : Nat) (n : Nat) (h : freq n) (l : List Pl) (f a b c : Nat) (ha : a ≤ 840) (hb : b ≤ 840) (hc : c ≤ 840) :
    cl fu (d + 2) fn_mesh_Net_downward [V.c (C.cp (netC n l)), V.agg (plc ⟨f, a, b, c⟩)] [] = OK (V.agg (fl plc [⟨f, a, b + 840 / n, c + 840 / n⟩, ⟨f, a + 840 / n, b, c + 840 / n⟩, ⟨f, a + 840 / n, b + 840 / n, c⟩])) := by
  have hst := step_pos h
  simp only [plc]
  rw [eq_mesh_Net_downward]
  generalize 840 / n = s at *
  simp (disch := omega) only [obs, rC_c, rA_agg, rT_tup, rP_ptr, rW_own, rS_sb, rF_sb, uncV_cons, uncO_cons, nilV_nil, rO_ob, rN_ob, unc_cons, asI_int, asB_bool, asS_string, asSl_sl, asSl_nl, asFn_fn, asP_cp, nrm_sl, nrm_nl, need_true, ct, cf, bd_eq, natD_zero, natD_succ, natD_one, noYl_v, noYl_sl, noYl_nl, noYl_cp, noYl_fn, Bool.and_true, Bool.true_and, Bool.and_self, beqN_self, Bool.not_true, Bool.not_false, Bool.and_false, Bool.false_and, Bool.or_false, Bool.false_or, Bool.or_true, Bool.true_or, wrap_in, dlt_t, dlt_f, dle_t, dle_f, dgt_t, dgt_f, dge_t, dge_f, ibeq_t, ibeq_f, ibne_t, ibne_f, inR_int, beqN_eq, bleN_le, sp_moved, List.length_cons, List.length_nil, Nat.zero_add, Nat.reduceAdd, Int.add_zero]
  simp only [fl_cons, fl_nil, plc, List.cons_append, List.nil_append, Int.natCast_add]
theorem put3 (a b c : Pl) : putAt [C.v (.int .i64 0), C.v (.int .i64 0), C.v (.int .i64 0), C.v (.int .i64 0), C.v (.int .i64 0), C.v (.int .i64 0), C.v (.int .i64 0), C.v (.int .i64 0), C.v (.int .i64 0), C.v (.int .i64 0), C.v (.int .i64 0), C.v (.int .i64 0)] 0 (fl plc [a, b, c]) = fl plc [a, b, c] := id rfl
theorem fw3 (x y z : Nat) : fl wc1 [x, y, z] = [.v (.int .i64 x), .v (.int .i64 y), .v (.int .i64 z)] := id rfl
theorem ble1212 : Nat.ble 12 12 = true := id rfl
theorem raw_to (n : Nat) (p : Pl) (hl : (corners n p).length = 3) : rawTo n (corners n p) 3 = raw n p := by
  unfold rawTo raw; rw [List.take_of_length_le (by omega)]
set_option maxHeartbeats 1000000 in
theorem sp_Locate (fu d : Nat) (hf : 18446744073709551616 ≤ fu) (n : Nat) (h : freq n) (p : Pl) (hp : p.ok) :
    cl fu (d + 6) fn_mesh_Net_Locate [V.c (C.cp (netC n (nodes n))), V.agg (plc p)] [] = OK (V.c (C.sl (shares n p).length (fl shc (shares n p)))) := by
  have hst := step_pos h
  have hs := hp.2
  have hn := h
  unfold freq at hn
  obtain ⟨a1, a2, a3, _, _, a6, a7⟩ := part_facts h (show p.a ≤ 840 by omega)
  obtain ⟨b1, b2, b3, _, _, b6, b7⟩ := part_facts h (show p.b ≤ 840 by omega)
  obtain ⟨c1, c2, c3, _, _, c6, c7⟩ := part_facts h (show p.c ≤ 840 by omega)
  have hcp := corners_pts h hp
  have hraw := raw_ok h hp
  rw [show plc p = [.v (.int .i64 p.f), .v (.int .i64 p.a), .v (.int .i64 p.b), .v (.int .i64 p.c)] from rfl, eq_mesh_Net_Locate]
  rw [ibeq_f (show ((840 / n : Nat) : Int) ≠ 0 by omega)]
  have hu := fun f a b c h1 h2 h3 => sp_upward fu (d + 3) n h (nodes n) f a b c h1 h2 h3
  have hdn := fun f a b c h1 h2 h3 => sp_downward fu (d + 3) n h (nodes n) f a b c h1 h2 h3
  simp only [plc] at hu hdn
  have hA := sp_at fu d hf n h p
  simp only [plc] at hA
  rw [sp_moved]
  simp only [a7, b7, c7] at a6 b6 c6 ⊢
  simp only [a6, b6, c6]
  have ea : ((p.a - p.a % (840 / n) : Nat) : Int) = (p.a : Int) + (0 - ((p.a % (840 / n) : Nat) : Int)) := by omega
  have eb : ((p.b - p.b % (840 / n) : Nat) : Int) = (p.b : Int) + (0 - ((p.b % (840 / n) : Nat) : Int)) := by omega
  have ec : ((p.c - p.c % (840 / n) : Nat) : Int) = (p.c : Int) + (0 - ((p.c % (840 / n) : Nat) : Int)) := by omega
  have la : p.a - p.a % (840 / n) ≤ 840 := by omega
  have lb : p.b - p.b % (840 / n) ≤ 840 := by omega
  have lc : p.c - p.c % (840 / n) ≤ 840 := by omega
  have hu := hu p.f _ _ _ la lb lc
  have hdn := hdn p.f _ _ _ la lb lc
  have ht := sp_tail fu d hf n h (corners n p)
  have key : (corners n p).length = 3 → (∀ c ∈ corners n p, c.2 ≤ 840) → _ := fun hl hw => ht hl (fun c hc => (hcp c hc).1) hw (by rw [raw_to n p hl]; exact hraw.2.2.2.2) (by rw [raw_to n p hl]; exact hraw.1)
  rcases rsum_mul h hp with ⟨e, e'⟩ | ⟨e, e'⟩ | ⟨e, e'⟩
  · have hA := hA (by have := (hcp (p, 840) (by unfold corners; rw [if_pos e]; simp)).1; exact this)
    have hsh : shares n p = [(idx n p, 840)] := by unfold shares raw corners; rw [if_pos e]; rfl
    rw [hsh]
    clear key ht hu hdn hcp hraw
    generalize p.a % (840 / n) * n = xa at *
    generalize p.b % (840 / n) * n = xb at *
    generalize p.c % (840 / n) * n = xc at *
    generalize p.a % (840 / n) = ma at *
    generalize p.b % (840 / n) = mb at *
    generalize p.c % (840 / n) = mc at *
    simp (disch := omega) only [obs, rC_c, rA_agg, rT_tup, rP_ptr, rW_own, rS_sb, rF_sb, uncV_cons, uncO_cons, nilV_nil, rO_ob, rN_ob, unc_cons, asI_int, asB_bool, asS_string, asSl_sl, asSl_nl, asFn_fn, asP_cp, nrm_sl, nrm_nl, need_true, ct, cf, bd_eq, natD_zero, natD_succ, natD_one, noYl_v, noYl_sl, noYl_nl, noYl_cp, noYl_fn, Bool.and_true, Bool.true_and, Bool.and_self, beqN_self, Bool.not_true, Bool.not_false, Bool.and_false, Bool.false_and, Bool.or_false, Bool.false_or, Bool.or_true, Bool.true_or, wrap_in, dlt_t, dlt_f, dle_t, dle_f, dgt_t, dgt_f, dge_t, dge_f, ibeq_t, ibeq_f, ibne_t, ibne_f, inR_int, beqN_eq, bleN_le, List.length_cons, List.length_nil, Nat.zero_add, Nat.reduceAdd, hA]
    rfl
  · have hl : (corners n p).length = 3 := by unfold corners; rw [if_neg (by omega), if_pos e]; rfl
    have key := key hl (by unfold corners; rw [if_neg (by omega), if_pos e]; intro c hc; simp only [List.mem_cons, List.not_mem_nil, or_false] at hc; rcases hc with rfl | rfl | rfl <;> assumption)
    rw [raw_to n p hl, show corners n p = _ from by unfold corners; rw [if_neg (by omega), if_pos e]] at key
    simp only [List.map_cons, List.map_nil] at key
    clear ht hdn hcp hraw hA
    generalize hsh : insAll (raw n p) = S at key
    have hsh' : shares n p = S := hsh
    rw [hsh']
    generalize p.a % (840 / n) * n = xa at *
    generalize p.b % (840 / n) * n = xb at *
    generalize p.c % (840 / n) * n = xc at *
    generalize hra : p.a - p.a % (840 / n) = ra at *
    generalize hrb : p.b - p.b % (840 / n) = rb at *
    generalize hrc : p.c - p.c % (840 / n) = rc at *
    generalize p.a % (840 / n) = ma at *
    generalize p.b % (840 / n) = mb at *
    generalize p.c % (840 / n) = mc at *
    simp (disch := omega) only [obs, rC_c, rA_agg, rT_tup, rP_ptr, rW_own, rS_sb, rF_sb, uncV_cons, uncO_cons, nilV_nil, rO_ob, rN_ob, unc_cons, asI_int, asB_bool, asS_string, asSl_sl, asSl_nl, asFn_fn, asP_cp, nrm_sl, nrm_nl, need_true, ct, cf, bd_eq, natD_zero, natD_succ, natD_one, noYl_v, noYl_sl, noYl_nl, noYl_cp, noYl_fn, Bool.and_true, Bool.true_and, Bool.and_self, beqN_self, Bool.not_true, Bool.not_false, Bool.and_false, Bool.false_and, Bool.or_false, Bool.false_or, Bool.or_true, Bool.true_or, wrap_in, dlt_t, dlt_f, dle_t, dle_f, dgt_t, dgt_f, dge_t, dge_f, ibeq_t, ibeq_f, ibne_t, ibne_f, inR_int, beqN_eq, bleN_le, List.length_cons, List.length_nil, Nat.zero_add, Nat.reduceAdd, ← ea, ← eb, ← ec, hu, fl_length plc_length, Nat.reduceMul, put3, fw3, ble1212] at key ⊢
    exact key
  · have hl : (corners n p).length = 3 := by unfold corners; rw [if_neg (by omega), if_neg (by omega)]; rfl
    have key := key hl (by unfold corners; rw [if_neg (by omega), if_neg (by omega)]; intro c hc; simp only [List.mem_cons, List.not_mem_nil, or_false] at hc; rcases hc with rfl | rfl | rfl <;> exact Nat.sub_le _ _)
    rw [raw_to n p hl, show corners n p = _ from by unfold corners; rw [if_neg (by omega), if_neg (by omega)]] at key
    simp only [List.map_cons, List.map_nil] at key
    clear ht hu hcp hraw hA
    generalize hsh : insAll (raw n p) = S at key
    have hsh' : shares n p = S := hsh
    rw [hsh']
    generalize p.a % (840 / n) * n = xa at *
    generalize p.b % (840 / n) * n = xb at *
    generalize p.c % (840 / n) * n = xc at *
    generalize hra : p.a - p.a % (840 / n) = ra at *
    generalize hrb : p.b - p.b % (840 / n) = rb at *
    generalize hrc : p.c - p.c % (840 / n) = rc at *
    generalize p.a % (840 / n) = ma at *
    generalize p.b % (840 / n) = mb at *
    generalize p.c % (840 / n) = mc at *
    have k1 : (840 : Int) - (xa : Int) = ((840 - xa : Nat) : Int) := by omega
    have k2 : (840 : Int) - (xb : Int) = ((840 - xb : Nat) : Int) := by omega
    have k3 : (840 : Int) - (xc : Int) = ((840 - xc : Nat) : Int) := by omega
    simp (disch := omega) only [obs, rC_c, rA_agg, rT_tup, rP_ptr, rW_own, rS_sb, rF_sb, uncV_cons, uncO_cons, nilV_nil, rO_ob, rN_ob, unc_cons, asI_int, asB_bool, asS_string, asSl_sl, asSl_nl, asFn_fn, asP_cp, nrm_sl, nrm_nl, need_true, ct, cf, bd_eq, natD_zero, natD_succ, natD_one, noYl_v, noYl_sl, noYl_nl, noYl_cp, noYl_fn, Bool.and_true, Bool.true_and, Bool.and_self, beqN_self, Bool.not_true, Bool.not_false, Bool.and_false, Bool.false_and, Bool.or_false, Bool.false_or, Bool.or_true, Bool.true_or, wrap_in, dlt_t, dlt_f, dle_t, dle_f, dgt_t, dgt_f, dge_t, dge_f, ibeq_t, ibeq_f, ibne_t, ibne_f, inR_int, beqN_eq, bleN_le, List.length_cons, List.length_nil, Nat.zero_add, Nat.reduceAdd, ← ea, ← eb, ← ec, hdn, k1, k2, k3, fl_length plc_length, Nat.reduceMul, put3, fw3, ble1212] at key ⊢
    exact key
end Go.Proofs.YtobmbacppbkgeaaDoor
/- Numbers that are read from a list; the elements' ranges; readings that are made of numbers. -/
namespace Go.Proofs.YtobmbacppbkgeaaDoor
open Go Go.PM
def srcC (l : List Int) (i : Nat) : List C := [C.sl l.length (ints l), C.v (.int .i64 (i : Nat))]
abbrev srcO (l : List Int) (i : Nat) : PM.Obj := .ob ty_synoptickeep_Src 0 (srcC l i)
theorem sp_Mod (fu d : Nat) (a n : Int) (hn : 1 ≤ n ∧ n ≤ 4611686018427387904) : ∃ v, cl fu (d + 1) fn_synoptickeep_Mod [I a, I n] [] = some ⟨I v, [], none⟩ ∧ 0 ≤ v ∧ v < n := by
  rw [eq_synoptickeep_Mod]
  have h1 : -n < Int.tmod a n := by have := Int.lt_tmod_of_pos a (show 0 < n by omega); omega
  have h2 : Int.tmod a n < n := Int.tmod_lt_of_pos a (by omega)
  simp only [show decide (n < 1) = false from decide_eq_false (by omega), cf, show (n == 0) = false by rw [beq_eq_false_iff_ne]; omega, Bool.not_false, need_true]
  by_cases h : Int.tmod a n < 0
  · rw [decide_eq_true h, IntWalk.i64_in _ ⟨by omega, by omega⟩]
    exact ⟨_, rfl, by omega, by omega⟩
  · rw [decide_eq_false h]
    exact ⟨_, rfl, by omega, h2⟩
theorem sp_New (fu d : Nat) (l : List Int) : cl fu (d + 1) fn_synoptickeep_New [V.c (C.sl l.length (ints l))] [] = some ⟨V.ptr 1000000 0, [srcO (l.take 2000) 0], none⟩ := by
  rw [eq_synoptickeep_New]
  unfold srcO srcC
  by_cases h : 2000 < l.length
  · simp only [if_pos (show (2000 : Int) < (l.length : Int) by omega), decide_eq_true (show (0 : Int) ≤ 2000 by omega), decide_eq_true (show (2000 : Int) ≤ (l.length : Int) by omega), Bool.and_self, need_true, show (2000 : Int).toNat = 2000 from rfl, Nat.mul_one, ik_take, List.length_take, Nat.min_eq_left (Nat.le_of_lt h)]
    rfl
  · simp only [if_neg (show ¬ (2000 : Int) < (l.length : Int) by omega), decide_eq_true (show (0 : Int) ≤ (l.length : Int) by omega), decide_eq_true (Int.le_refl (l.length : Int)), Bool.and_self, need_true, Int.toNat_natCast, Nat.mul_one, ik_take, List.take_length, List.take_of_length_le (show l.length ≤ 2000 by omega)]
    rfl
theorem sp_Raw (fu d : Nat) (l : List Int) (i : Nat) (hl : l.length ≤ 2000) : ∃ (v : Int) (j : Nat), cl fu (d + 1) fn_synoptickeep_Src_Raw [V.ptr 1000000 0] [srcO l i] = some ⟨I v, [srcO l j], none⟩ := by
  unfold srcO srcC
  rw [eq_synoptickeep_Src_Raw]
  simp only [asSl_sl]
  by_cases h : i < l.length
  · rw [decide_eq_false (show ¬ (i : Int) ≥ (l.length : Int) by omega)]
    simp only [cf]
    rw [IntWalk.i64_in ((i : Int) + 1) ⟨by omega, by omega⟩, show (i : Int) + 1 - 1 = i by omega, IntWalk.i64_in (i : Int) ⟨by omega, by omega⟩]
    simp only [inR_nat h, need_true, Int.toNat_natCast, Nat.mul_one, unc_ik h, asI_int]
    exact ⟨l[i], i + 1, by simp⟩
  · rw [decide_eq_true (show (i : Int) ≥ (l.length : Int) by omega)]
    exact ⟨0, i, rfl⟩
theorem sp_N (fu d : Nat) (l : List Int) (i : Nat) (hl : l.length ≤ 2000) (n : Int) (hn : 1 ≤ n ∧ n ≤ 4611686018427387904) :
    ∃ (v : Int) (j : Nat), cl fu (d + 2) fn_synoptickeep_Src_N [V.ptr 1000000 0, I n] [srcO l i] = some ⟨I v, [srcO l j], none⟩ ∧ 0 ≤ v ∧ v < n := by
  obtain ⟨w, j, h1⟩ := sp_Raw fu d l i hl
  obtain ⟨v, h2, h3, h4⟩ := sp_Mod fu d w n hn
  refine ⟨v, j, ?_, h3, h4⟩
  unfold srcO srcC at h1 ⊢
  rw [eq_synoptickeep_Src_N, h1]
  simp only [obs, uncO_cons, rO_ob, beqN_self, Bool.and_self, need_true, List.length_cons, List.length_nil, Nat.zero_add, Nat.reduceAdd, unc_cons, asI_int, rC_c, h2]
theorem sp_Range (fu d : Nat) (l : List Int) (i : Nat) (hl : l.length ≤ 2000) (lo hi : Int) (h : lo ≤ hi) (hb : -2305843009213693952 ≤ lo ∧ hi ≤ 2305843009213693951) :
    ∃ (v : Int) (j : Nat), cl fu (d + 3) fn_synoptickeep_Src_Range [V.ptr 1000000 0, I lo, I hi] [srcO l i] = some ⟨I v, [srcO l j], none⟩ ∧ lo ≤ v ∧ v ≤ hi := by
  obtain ⟨v, j, h1, h2, h3⟩ := sp_N fu d l i hl (hi - lo + 1) ⟨by omega, by omega⟩
  refine ⟨lo + v, j, ?_, by omega, by omega⟩
  unfold srcO srcC at h1 ⊢
  rw [eq_synoptickeep_Src_Range, IntWalk.i64_in (hi - lo) ⟨by omega, by omega⟩, IntWalk.i64_in (hi - lo + 1) ⟨by omega, by omega⟩, h1]
  simp only [obs, uncO_cons, rO_ob, beqN_self, Bool.and_self, need_true, List.length_cons, List.length_nil, Nat.zero_add, Nat.reduceAdd, unc_cons, asI_int, rC_c]
  rw [IntWalk.i64_in (lo + v) ⟨by omega, by omega⟩]
theorem sp_Pick (fu d : Nat) (l : List Int) (i : Nat) (hl : l.length ≤ 2000) (q : List Int) (hq : 1 ≤ q.length ∧ q.length ≤ 1000000) :
    ∃ (v : Int) (j : Nat), cl fu (d + 3) fn_synoptickeep_Src_Pick [V.ptr 1000000 0, V.c (C.sl q.length (ints q))] [srcO l i] = some ⟨I v, [srcO l j], none⟩ ∧ v ∈ q := by
  obtain ⟨v, j, h1, h2, h3⟩ := sp_N fu d l i hl (q.length : Int) ⟨by omega, by omega⟩
  obtain ⟨k, rfl⟩ : ∃ k : Nat, v = k := ⟨v.toNat, by omega⟩
  have hk : k < q.length := by omega
  refine ⟨q[k], j, ?_, List.getElem_mem hk⟩
  unfold srcO srcC at h1 ⊢
  rw [eq_synoptickeep_Src_Pick, h1]
  simp only [obs, uncO_cons, rO_ob, beqN_self, Bool.and_self, need_true, List.length_cons, List.length_nil, Nat.zero_add, Nat.reduceAdd, unc_cons, asI_int, rC_c, inR_nat hk, Int.toNat_natCast, Nat.mul_one, unc_ik hk]
def rng (c : Int) : Int × Int := [(8000, 11000), (1800, 3300), (1800, 3300), (-1000, 1000), (-1000, 1000), (900, 1700), (2000, 3200), (2400, 3400), (2000, 3000), (4400, 6200), (2000, 2900)].getD (c - 1).toNat (0, 0)
theorem cases11 {p : Int → Prop} (h : p 1 ∧ p 2 ∧ p 3 ∧ p 4 ∧ p 5 ∧ p 6 ∧ p 7 ∧ p 8 ∧ p 9 ∧ p 10 ∧ p 11) (c : Int) (hc : 1 ≤ c ∧ c ≤ 11) : p c := by
  obtain ⟨h1, h2, h3, h4, h5, h6, h7, h8, h9, h10, h11⟩ := h
  have : c = 1 ∨ c = 2 ∨ c = 3 ∨ c = 4 ∨ c = 5 ∨ c = 6 ∨ c = 7 ∨ c = 8 ∨ c = 9 ∨ c = 10 ∨ c = 11 := by omega
  rcases this with rfl | rfl | rfl | rfl | rfl | rfl | rfl | rfl | rfl | rfl | rfl <;> assumption
end Go.Proofs.YtobmbacppbkgeaaDoor
/- Rows that are made of numbers: places, reports, the reference's rows. -/
namespace Go.Proofs.YtobmbacppbkgeaaDoor
open Go Go.PM Go.Grid
theorem sp_ref_Normal_int (fu d : Nat) (hf : 18446744073709551616 ≤ fu) (f a b c : Int) (h : validI f a b c = true) : ∃ p : Pl, p.ok ∧ cl fu (d + 4) fn_synopticref02_Normal [V.agg [.v (.int .i64 f), .v (.int .i64 a), .v (.int .i64 b), .v (.int .i64 c)]] [] = OK (V.tup [V.agg (plc p), I 0]) := by
  obtain ⟨p, hp, rfl, rfl, rfl, rfl⟩ := validI_pl h
  exact ⟨norm p, norm_ok hp, sp_ref_Normal fu d hf p hp⟩
set_option maxHeartbeats 2000000 in
theorem sp_Place (fu d : Nat) (hf : 18446744073709551616 ≤ fu) (l : List Int) (i : Nat) (hl : l.length ≤ 2000) : ∃ (p : Pl) (j : Nat), p.ok ∧ cl fu (d + 5) fn_synopticdata_Place [V.ptr 1000000 0] [srcO l i] = some ⟨V.agg (plc p), [srcO l j], none⟩ := by
  obtain ⟨v1, j1, a1, b1, c1⟩ := sp_N fu (d + 2) l i hl 20 (by omega)
  obtain ⟨v2, j2, a2, b2, c2⟩ := sp_N fu (d + 2) l j1 hl 841 (by omega)
  obtain ⟨v3, j3, a3, b3, c3⟩ := sp_N fu (d + 2) l j2 hl 4 (by omega)
  obtain ⟨v4, j4, a4, b4, c4⟩ := sp_N fu (d + 2) l j3 hl 9 (by omega)
  obtain ⟨v5, j5, a5, b5, c5⟩ := sp_N fu (d + 2) l j3 hl 5 (by omega)
  have fin : ∀ (A : Int) (j : Nat), 0 ≤ A → A ≤ 840 → ∃ (B' : Int) (j' j'' : Nat) (v : Int) (p : Pl), p.ok ∧ cl fu (d + 4) fn_synoptickeep_Src_N [V.ptr 1000000 0, I (840 - A + 1)] [srcO l j] = some ⟨I B', [srcO l j'], none⟩ ∧ 0 ≤ B' ∧ B' ≤ 840 - A ∧
      cl fu (d + 4) fn_synoptickeep_Src_N [V.ptr 1000000 0, I 3] [srcO l j'] = some ⟨I v, [srcO l j''], none⟩ ∧ 0 ≤ v ∧ (v = 0 → cl fu (d + 4) fn_synopticref02_Normal [V.agg [.v (.int .i64 v1), .v (.int .i64 A), .v (.int .i64 (B' - Int.tmod B' 105)), .v (.int .i64 (840 - A - (B' - Int.tmod B' 105)))]] [] = OK (V.tup [V.agg (plc p), I 0])) ∧
      (v ≠ 0 → cl fu (d + 4) fn_synopticref02_Normal [V.agg [.v (.int .i64 v1), .v (.int .i64 A), .v (.int .i64 B'), .v (.int .i64 (840 - A - B'))]] [] = OK (V.tup [V.agg (plc p), I 0])) := by
    intro A j hA1 hA2
    obtain ⟨v6, j6, a6, b6, c6⟩ := sp_N fu (d + 2) l j hl (840 - A + 1) (by omega)
    obtain ⟨v7, j7, a7, b7, c7⟩ := sp_N fu (d + 2) l j6 hl 3 (by omega)
    have ht : 0 ≤ Int.tmod v6 105 ∧ Int.tmod v6 105 ≤ v6 := by
      refine ⟨Int.tmod_nonneg _ b6, ?_⟩
      have h1 := Int.mul_tdiv_add_tmod v6 105
      have h2 := Int.tdiv_nonneg b6 (show (0 : Int) ≤ 105 by omega)
      omega
    by_cases h0 : v7 = 0
    · obtain ⟨p, hp, hN⟩ := sp_ref_Normal_int fu d hf v1 A (v6 - Int.tmod v6 105) (840 - A - (v6 - Int.tmod v6 105)) (decide_eq_true (by omega))
      exact ⟨v6, j6, j7, v7, p, hp, a6, b6, by omega, a7, b7, fun _ => hN, fun h => absurd h0 h⟩
    · obtain ⟨p, hp, hN⟩ := sp_ref_Normal_int fu d hf v1 A v6 (840 - A - v6) (decide_eq_true (by omega))
      exact ⟨v6, j6, j7, v7, p, hp, a6, b6, by omega, a7, b7, fun h => absurd h h0, fun _ => hN⟩
  have ht2 : ∀ B' : Int, 0 ≤ B' → 0 ≤ Int.tmod B' 105 ∧ Int.tmod B' 105 ≤ B' := fun B' hB => by
    refine ⟨Int.tmod_nonneg _ hB, ?_⟩
    have h1 := Int.mul_tdiv_add_tmod B' 105
    have h2 := Int.tdiv_nonneg hB (show (0 : Int) ≤ 105 by omega)
    omega
  unfold srcO srcC at a1 a2 a3 a4 a5 ⊢
  rw [eq_synopticdata_Place]
  simp only [obs, rC_c, rA_agg, rT_tup, rP_ptr, rW_own, rS_sb, rF_sb, uncV_cons, uncO_cons, nilV_nil, rO_ob, rN_ob, unc_cons, asI_int, asB_bool, asS_string, asSl_sl, asSl_nl, asFn_fn, asP_cp, nrm_sl, nrm_nl, need_true, ct, cf, bd_eq, natD_zero, natD_succ, natD_one, noYl_v, noYl_sl, noYl_nl, noYl_cp, noYl_fn, Bool.and_true, Bool.true_and, Bool.and_self, beqN_self, Bool.not_true, Bool.not_false, Bool.and_false, Bool.false_and, Bool.or_false, Bool.false_or, Bool.or_true, Bool.true_or, a1, a2, a3, List.length_cons, List.length_nil, Nat.zero_add, Nat.reduceAdd]
  by_cases h0 : v3 = 0
  · obtain ⟨B', j6, j7, v7, p, hp, a6, b6, c6, a7, b7, n0, n1⟩ := fin (105 * v4) j4 (by omega) (by omega)
    have := ht2 B' b6
    unfold srcO srcC at a6 a7
    by_cases h7 : v7 = 0
    · have n0 := n0 h7
      simp (disch := omega) only [obs, rC_c, rA_agg, rT_tup, rP_ptr, rW_own, rS_sb, rF_sb, uncV_cons, uncO_cons, nilV_nil, rO_ob, rN_ob, unc_cons, asI_int, asB_bool, asS_string, asSl_sl, asSl_nl, asFn_fn, asP_cp, nrm_sl, nrm_nl, need_true, ct, cf, bd_eq, natD_zero, natD_succ, natD_one, noYl_v, noYl_sl, noYl_nl, noYl_cp, noYl_fn, Bool.and_true, Bool.true_and, Bool.and_self, beqN_self, Bool.not_true, Bool.not_false, Bool.and_false, Bool.false_and, Bool.or_false, Bool.false_or, Bool.or_true, Bool.true_or, wrap_in, dlt_t, dlt_f, dle_t, dle_f, dgt_t, dgt_f, dge_t, dge_f, ibeq_t, ibeq_f, ibne_t, ibne_f, inR_int, beqN_eq, bleN_le, a4, a6, a7, n0, List.length_cons, List.length_nil, Nat.zero_add, Nat.reduceAdd]
      exact ⟨p, j7, hp, by simp (disch := omega) only [obs, rC_c, rA_agg, rT_tup, rP_ptr, rW_own, rS_sb, rF_sb, uncV_cons, uncO_cons, nilV_nil, rO_ob, rN_ob, unc_cons, asI_int, asB_bool, asS_string, asSl_sl, asSl_nl, asFn_fn, asP_cp, nrm_sl, nrm_nl, need_true, ct, cf, bd_eq, natD_zero, natD_succ, natD_one, noYl_v, noYl_sl, noYl_nl, noYl_cp, noYl_fn, Bool.and_true, Bool.true_and, Bool.and_self, beqN_self, Bool.not_true, Bool.not_false, Bool.and_false, Bool.false_and, Bool.or_false, Bool.false_or, Bool.or_true, Bool.true_or, wrap_in, dlt_t, dlt_f, dle_t, dle_f, dgt_t, dgt_f, dge_t, dge_f, ibeq_t, ibeq_f, ibne_t, ibne_f, inR_int, beqN_eq, bleN_le, plc, List.length_cons, List.length_nil, Nat.zero_add, Nat.reduceAdd]⟩
    · have n1 := n1 h7
      simp (disch := omega) only [obs, rC_c, rA_agg, rT_tup, rP_ptr, rW_own, rS_sb, rF_sb, uncV_cons, uncO_cons, nilV_nil, rO_ob, rN_ob, unc_cons, asI_int, asB_bool, asS_string, asSl_sl, asSl_nl, asFn_fn, asP_cp, nrm_sl, nrm_nl, need_true, ct, cf, bd_eq, natD_zero, natD_succ, natD_one, noYl_v, noYl_sl, noYl_nl, noYl_cp, noYl_fn, Bool.and_true, Bool.true_and, Bool.and_self, beqN_self, Bool.not_true, Bool.not_false, Bool.and_false, Bool.false_and, Bool.or_false, Bool.false_or, Bool.or_true, Bool.true_or, wrap_in, dlt_t, dlt_f, dle_t, dle_f, dgt_t, dgt_f, dge_t, dge_f, ibeq_t, ibeq_f, ibne_t, ibne_f, inR_int, beqN_eq, bleN_le, a4, a6, a7, n1, List.length_cons, List.length_nil, Nat.zero_add, Nat.reduceAdd]
      exact ⟨p, j7, hp, by simp (disch := omega) only [obs, rC_c, rA_agg, rT_tup, rP_ptr, rW_own, rS_sb, rF_sb, uncV_cons, uncO_cons, nilV_nil, rO_ob, rN_ob, unc_cons, asI_int, asB_bool, asS_string, asSl_sl, asSl_nl, asFn_fn, asP_cp, nrm_sl, nrm_nl, need_true, ct, cf, bd_eq, natD_zero, natD_succ, natD_one, noYl_v, noYl_sl, noYl_nl, noYl_cp, noYl_fn, Bool.and_true, Bool.true_and, Bool.and_self, beqN_self, Bool.not_true, Bool.not_false, Bool.and_false, Bool.false_and, Bool.or_false, Bool.false_or, Bool.or_true, Bool.true_or, wrap_in, dlt_t, dlt_f, dle_t, dle_f, dgt_t, dgt_f, dge_t, dge_f, ibeq_t, ibeq_f, ibne_t, ibne_f, inR_int, beqN_eq, bleN_le, plc, List.length_cons, List.length_nil, Nat.zero_add, Nat.reduceAdd]⟩
  · by_cases h1 : v3 = 1
    · obtain ⟨B', j6, j7, v7, p, hp, a6, b6, c6, a7, b7, n0, n1⟩ := fin (210 * v5) j5 (by omega) (by omega)
      have := ht2 B' b6
      unfold srcO srcC at a6 a7
      by_cases h7 : v7 = 0
      · have n0 := n0 h7
        simp (disch := omega) only [obs, rC_c, rA_agg, rT_tup, rP_ptr, rW_own, rS_sb, rF_sb, uncV_cons, uncO_cons, nilV_nil, rO_ob, rN_ob, unc_cons, asI_int, asB_bool, asS_string, asSl_sl, asSl_nl, asFn_fn, asP_cp, nrm_sl, nrm_nl, need_true, ct, cf, bd_eq, natD_zero, natD_succ, natD_one, noYl_v, noYl_sl, noYl_nl, noYl_cp, noYl_fn, Bool.and_true, Bool.true_and, Bool.and_self, beqN_self, Bool.not_true, Bool.not_false, Bool.and_false, Bool.false_and, Bool.or_false, Bool.false_or, Bool.or_true, Bool.true_or, wrap_in, dlt_t, dlt_f, dle_t, dle_f, dgt_t, dgt_f, dge_t, dge_f, ibeq_t, ibeq_f, ibne_t, ibne_f, inR_int, beqN_eq, bleN_le, a5, a6, a7, n0, List.length_cons, List.length_nil, Nat.zero_add, Nat.reduceAdd]
        exact ⟨p, j7, hp, by simp (disch := omega) only [obs, rC_c, rA_agg, rT_tup, rP_ptr, rW_own, rS_sb, rF_sb, uncV_cons, uncO_cons, nilV_nil, rO_ob, rN_ob, unc_cons, asI_int, asB_bool, asS_string, asSl_sl, asSl_nl, asFn_fn, asP_cp, nrm_sl, nrm_nl, need_true, ct, cf, bd_eq, natD_zero, natD_succ, natD_one, noYl_v, noYl_sl, noYl_nl, noYl_cp, noYl_fn, Bool.and_true, Bool.true_and, Bool.and_self, beqN_self, Bool.not_true, Bool.not_false, Bool.and_false, Bool.false_and, Bool.or_false, Bool.false_or, Bool.or_true, Bool.true_or, wrap_in, dlt_t, dlt_f, dle_t, dle_f, dgt_t, dgt_f, dge_t, dge_f, ibeq_t, ibeq_f, ibne_t, ibne_f, inR_int, beqN_eq, bleN_le, plc, List.length_cons, List.length_nil, Nat.zero_add, Nat.reduceAdd]⟩
      · have n1 := n1 h7
        simp (disch := omega) only [obs, rC_c, rA_agg, rT_tup, rP_ptr, rW_own, rS_sb, rF_sb, uncV_cons, uncO_cons, nilV_nil, rO_ob, rN_ob, unc_cons, asI_int, asB_bool, asS_string, asSl_sl, asSl_nl, asFn_fn, asP_cp, nrm_sl, nrm_nl, need_true, ct, cf, bd_eq, natD_zero, natD_succ, natD_one, noYl_v, noYl_sl, noYl_nl, noYl_cp, noYl_fn, Bool.and_true, Bool.true_and, Bool.and_self, beqN_self, Bool.not_true, Bool.not_false, Bool.and_false, Bool.false_and, Bool.or_false, Bool.false_or, Bool.or_true, Bool.true_or, wrap_in, dlt_t, dlt_f, dle_t, dle_f, dgt_t, dgt_f, dge_t, dge_f, ibeq_t, ibeq_f, ibne_t, ibne_f, inR_int, beqN_eq, bleN_le, a5, a6, a7, n1, List.length_cons, List.length_nil, Nat.zero_add, Nat.reduceAdd]
        exact ⟨p, j7, hp, by simp (disch := omega) only [obs, rC_c, rA_agg, rT_tup, rP_ptr, rW_own, rS_sb, rF_sb, uncV_cons, uncO_cons, nilV_nil, rO_ob, rN_ob, unc_cons, asI_int, asB_bool, asS_string, asSl_sl, asSl_nl, asFn_fn, asP_cp, nrm_sl, nrm_nl, need_true, ct, cf, bd_eq, natD_zero, natD_succ, natD_one, noYl_v, noYl_sl, noYl_nl, noYl_cp, noYl_fn, Bool.and_true, Bool.true_and, Bool.and_self, beqN_self, Bool.not_true, Bool.not_false, Bool.and_false, Bool.false_and, Bool.or_false, Bool.false_or, Bool.or_true, Bool.true_or, wrap_in, dlt_t, dlt_f, dle_t, dle_f, dgt_t, dgt_f, dge_t, dge_f, ibeq_t, ibeq_f, ibne_t, ibne_f, inR_int, beqN_eq, bleN_le, plc, List.length_cons, List.length_nil, Nat.zero_add, Nat.reduceAdd]⟩
    · obtain ⟨B', j6, j7, v7, p, hp, a6, b6, c6, a7, b7, n0, n1⟩ := fin v2 j3 (by omega) (by omega)
      have := ht2 B' b6
      unfold srcO srcC at a6 a7
      by_cases h7 : v7 = 0
      · have n0 := n0 h7
        simp (disch := omega) only [obs, rC_c, rA_agg, rT_tup, rP_ptr, rW_own, rS_sb, rF_sb, uncV_cons, uncO_cons, nilV_nil, rO_ob, rN_ob, unc_cons, asI_int, asB_bool, asS_string, asSl_sl, asSl_nl, asFn_fn, asP_cp, nrm_sl, nrm_nl, need_true, ct, cf, bd_eq, natD_zero, natD_succ, natD_one, noYl_v, noYl_sl, noYl_nl, noYl_cp, noYl_fn, Bool.and_true, Bool.true_and, Bool.and_self, beqN_self, Bool.not_true, Bool.not_false, Bool.and_false, Bool.false_and, Bool.or_false, Bool.false_or, Bool.or_true, Bool.true_or, wrap_in, dlt_t, dlt_f, dle_t, dle_f, dgt_t, dgt_f, dge_t, dge_f, ibeq_t, ibeq_f, ibne_t, ibne_f, inR_int, beqN_eq, bleN_le, a6, a7, n0, List.length_cons, List.length_nil, Nat.zero_add, Nat.reduceAdd]
        exact ⟨p, j7, hp, by simp (disch := omega) only [obs, rC_c, rA_agg, rT_tup, rP_ptr, rW_own, rS_sb, rF_sb, uncV_cons, uncO_cons, nilV_nil, rO_ob, rN_ob, unc_cons, asI_int, asB_bool, asS_string, asSl_sl, asSl_nl, asFn_fn, asP_cp, nrm_sl, nrm_nl, need_true, ct, cf, bd_eq, natD_zero, natD_succ, natD_one, noYl_v, noYl_sl, noYl_nl, noYl_cp, noYl_fn, Bool.and_true, Bool.true_and, Bool.and_self, beqN_self, Bool.not_true, Bool.not_false, Bool.and_false, Bool.false_and, Bool.or_false, Bool.false_or, Bool.or_true, Bool.true_or, wrap_in, dlt_t, dlt_f, dle_t, dle_f, dgt_t, dgt_f, dge_t, dge_f, ibeq_t, ibeq_f, ibne_t, ibne_f, inR_int, beqN_eq, bleN_le, plc, List.length_cons, List.length_nil, Nat.zero_add, Nat.reduceAdd]⟩
      · have n1 := n1 h7
        simp (disch := omega) only [obs, rC_c, rA_agg, rT_tup, rP_ptr, rW_own, rS_sb, rF_sb, uncV_cons, uncO_cons, nilV_nil, rO_ob, rN_ob, unc_cons, asI_int, asB_bool, asS_string, asSl_sl, asSl_nl, asFn_fn, asP_cp, nrm_sl, nrm_nl, need_true, ct, cf, bd_eq, natD_zero, natD_succ, natD_one, noYl_v, noYl_sl, noYl_nl, noYl_cp, noYl_fn, Bool.and_true, Bool.true_and, Bool.and_self, beqN_self, Bool.not_true, Bool.not_false, Bool.and_false, Bool.false_and, Bool.or_false, Bool.false_or, Bool.or_true, Bool.true_or, wrap_in, dlt_t, dlt_f, dle_t, dle_f, dgt_t, dgt_f, dge_t, dge_f, ibeq_t, ibeq_f, ibne_t, ibne_f, inR_int, beqN_eq, bleN_le, a6, a7, n1, List.length_cons, List.length_nil, Nat.zero_add, Nat.reduceAdd]
        exact ⟨p, j7, hp, by simp (disch := omega) only [obs, rC_c, rA_agg, rT_tup, rP_ptr, rW_own, rS_sb, rF_sb, uncV_cons, uncO_cons, nilV_nil, rO_ob, rN_ob, unc_cons, asI_int, asB_bool, asS_string, asSl_sl, asSl_nl, asFn_fn, asP_cp, nrm_sl, nrm_nl, need_true, ct, cf, bd_eq, natD_zero, natD_succ, natD_one, noYl_v, noYl_sl, noYl_nl, noYl_cp, noYl_fn, Bool.and_true, Bool.true_and, Bool.and_self, beqN_self, Bool.not_true, Bool.not_false, Bool.and_false, Bool.false_and, Bool.or_false, Bool.false_or, Bool.or_true, Bool.true_or, wrap_in, dlt_t, dlt_f, dle_t, dle_f, dgt_t, dgt_f, dge_t, dge_f, ibeq_t, ibeq_f, ibne_t, ibne_f, inR_int, beqN_eq, bleN_le, plc, List.length_cons, List.length_nil, Nat.zero_add, Nat.reduceAdd]⟩
def prC (v : Int) : List C := [.v (.int .i64 1), .v (.int .i64 v)]
def okV (v : Int) : Prop := 8000 ≤ v ∧ v ≤ 11000
theorem rng1 : rng 1 = (8000, 11000) := rfl
end Go.Proofs.YtobmbacppbkgeaaDoor
/- Rows: the reference's, of reports with one reading; those that the statements look at. -/
namespace Go.Proofs.YtobmbacppbkgeaaDoor
open Go Go.PM Go.Grid
structure Rw where
  sh : List (Nat × Nat)
  v : Int
  w : Int
  r : Nat
  deriving DecidableEq
def rwc (x : Rw) : List C := [C.sl x.sh.length (fl shc x.sh), .v (.int .i64 x.v), .v (.int .i64 x.w), .v (.int .i64 x.r)]
theorem rwc_length (x : Rw) : (rwc x).length = 4 := rfl
def rpc (x : Pl × Int) : List C := [.v (.int .i64 0), .v (.string ⟨#[]⟩), .v (.int .i64 0), .v (.int .i64 x.1.f), .v (.int .i64 x.1.a), .v (.int .i64 x.1.b), .v (.int .i64 x.1.c), C.sl 1 [.v (.int .i64 1), .v (.int .i64 x.2)]]
theorem rpc_length (x : Pl × Int) : (rpc x).length = 8 := rfl
def okP (x : Pl × Int) : Prop := x.1.ok ∧ okV x.2
def rowsF (n : Nat) (w : Int) : Nat → List (Pl × Int) → List Rw
  | _, [] => []
  | k, x :: r => ⟨shares n x.1, x.2, w, k⟩ :: rowsF n w (k + 1) r
theorem rowsF_snoc (n : Nat) (w : Int) (x : Pl × Int) : ∀ (l : List (Pl × Int)) (k : Nat), rowsF n w k (l ++ [x]) = rowsF n w k l ++ [⟨shares n x.1, x.2, w, k + l.length⟩]
  | [], k => by simp [rowsF]
  | y :: l, k => by
    simp only [List.cons_append, rowsF, List.length_cons]
    rw [rowsF_snoc n w x l (k + 1), show k + 1 + l.length = k + (l.length + 1) by omega]
theorem rowsF_length (n : Nat) (w : Int) : ∀ (l : List (Pl × Int)) (k : Nat), (rowsF n w k l).length = l.length
  | [], k => rfl
  | y :: l, k => by simp [rowsF, rowsF_length n w l]
theorem rowsF_take (n : Nat) (w : Int) (l : List (Pl × Int)) (j : Nat) (h : j < l.length) : rowsF n w 0 (l.take (j + 1)) = rowsF n w 0 (l.take j) ++ [⟨shares n l[j].1, l[j].2, w, j⟩] := by
  rw [List.take_succ_eq_append_getElem h, rowsF_snoc, List.length_take, Nat.min_eq_left (by omega), Nat.zero_add]
theorem rw_div (l : List Rw) : l.length * 4 / 4 = l.length := Nat.mul_div_cancel _ (by omega)
theorem div4 (k : Nat) : k * 4 / 4 = k := Nat.mul_div_cancel _ (by omega)
theorem rw_snoc (l : List Rw) (s : List (Nat × Nat)) (v w : Int) (r : Nat) : fl rwc l ++ [C.sl s.length (fl shc s), .v (.int .i64 v), .v (.int .i64 w), .v (.int .i64 r)] = fl rwc (l ++ [⟨s, v, w, r⟩]) := fl_snoc l ⟨s, v, w, r⟩
def okRow (m : Nat) (x : Rw) : Prop := asc x.sh ∧ (∀ s ∈ x.sh, s.1 < m ∧ 0 < s.2 ∧ s.2 ≤ 840) ∧ (x.sh.map (·.2)).sum = 840 ∧ (-100000 ≤ x.v ∧ x.v ≤ 100000) ∧ (1 ≤ x.w ∧ x.w ≤ 1000) ∧ x.sh.length ≤ 1000
theorem le_sum {l : List (Nat × Nat)} {s : Nat × Nat} (h : s ∈ l) : s.2 ≤ (l.map (·.2)).sum := by
  induction l with
  | nil => cases h
  | cons x r ih =>
    simp only [List.map_cons, List.sum_cons]
    rcases List.mem_cons.1 h with rfl | h
    · omega
    · have := ih h; omega
theorem okRow_of {n : Nat} (h : freq n) {x : Pl × Int} (hx : okP x) {w : Int} (hw : 1 ≤ w ∧ w ≤ 1000) (k : Nat) : okRow (10 * n * n + 2) ⟨shares n x.1, x.2, w, k⟩ := by
  obtain ⟨h1, h2⟩ := shares_ok h hx.1
  have hr := raw_ok h hx.1
  have hv := hx.2
  unfold okV at hv
  refine ⟨h1, fun s hs => ?_, (sum_perm h2).trans hr.2.1, ⟨by show -100000 ≤ x.2; omega, by show x.2 ≤ 100000; omega⟩, hw, ?_⟩
  · have hm := h2.mem_iff.1 hs
    have := le_sum hm
    rw [hr.2.1] at this
    exact ⟨(hr.2.2.1 s hm).1, (hr.2.2.1 s hm).2, this⟩
  · have := h2.length_eq; have := hr.2.2.2.1; show (shares n x.1).length ≤ 1000; omega
end Go.Proofs.YtobmbacppbkgeaaDoor
/- The rows and the values that the statements look at. -/
namespace Go.Proofs.YtobmbacppbkgeaaDoor
open Go Go.PM Go.Grid
def gather {A : Type} (F : Nat → A × Nat) (i : Nat) : Nat → List A × Nat
  | 0 => ([], i)
  | j + 1 => ((gather F i j).1 ++ [(F (gather F i j).2).1], (F (gather F i j).2).2)
theorem gather_length {A : Type} (F : Nat → A × Nat) (i : Nat) : ∀ j, (gather F i j).1.length = j
  | 0 => rfl
  | j + 1 => by simp [gather, gather_length F i j]
theorem gather_all {A : Type} {P : A → Prop} {F : Nat → A × Nat} (h : ∀ i, P (F i).1) (i : Nat) : ∀ j, ∀ x ∈ (gather F i j).1, P x
  | 0, x, hx => by simp [gather] at hx
  | j + 1, x, hx => by
    simp only [gather, List.mem_append, List.mem_singleton] at hx
    rcases hx with hx | rfl
    · exact gather_all h i j x hx
    · exact h _
theorem one_div (k : Nat) : k / 1 = k := Nat.div_one k
theorem sp_values (fu d : Nat) (hf : 18446744073709551616 ≤ fu) (l : List Int) (i : Nat) (hl : l.length ≤ 2000) (m : Nat) (hm : m ≤ 1000) (most : Int) (hmost : 0 ≤ most ∧ most ≤ 1048576) :
    ∃ (x : List Int) (j : Nat), x.length = m ∧ (∀ v ∈ x, -2 * most - 500 ≤ v ∧ v ≤ 2 * most + 500) ∧
      cl fu (d + 4) fn_synopticlaw21_values [V.ptr 1000000 0, I (m : Int), I most] [srcO l i] = some ⟨V.c (C.sl x.length (ints x)), [srcO l j], none⟩ := by
  obtain ⟨base, j1, a1, b1, c1⟩ := sp_Range fu d l i hl (-most) most (by omega) ⟨by omega, by omega⟩
  have hP : ∀ i : Nat, ∃ q : Int × Nat, (-most - 500 ≤ q.1 ∧ q.1 ≤ most + 500) ∧ ∃ v1 j1 v2 j2, cl fu (d + 3) fn_synoptickeep_Src_Range [V.ptr 1000000 0, I (-500), I 500] [srcO l i] = some ⟨I v1, [srcO l j1], none⟩ ∧
      cl fu (d + 3) fn_synoptickeep_Src_Range [V.ptr 1000000 0, I (-most), I most] [srcO l j1] = some ⟨I v2, [srcO l j2], none⟩ ∧ cl fu (d + 3) fn_synoptickeep_Src_Pick [V.ptr 1000000 0, V.c (C.sl 3 [.v (.int .i64 0), .v (.int .i64 v1), .v (.int .i64 v2)])] [srcO l j2] = some ⟨I q.1, [srcO l q.2], none⟩ := by
    intro i
    obtain ⟨v1, j1, a1, b1, c1⟩ := sp_Range fu d l i hl (-500) 500 (by omega) ⟨by omega, by omega⟩
    obtain ⟨v2, j2, a2, b2, c2⟩ := sp_Range fu d l j1 hl (-most) most (by omega) ⟨by omega, by omega⟩
    obtain ⟨v3, j3, a3, b3⟩ := sp_Pick fu d l j2 hl [0, v1, v2] (by simp)
    refine ⟨(v3, j3), ?_, v1, j1, v2, j2, a1, a2, a3⟩
    simp only [List.mem_cons, List.not_mem_nil, or_false] at b3
    rcases b3 with rfl | rfl | rfl
    · simp only; omega
    · simp only; omega
    · simp only; omega
  obtain ⟨F, hF⟩ := Classical.axiomOfChoice hP
  have hgl := gather_length F j1
  have hga := gather_all (P := fun v => -most - 500 ≤ v ∧ v ≤ most + 500) (F := F) (fun i => (hF i).1) j1
  have hx : ∀ v ∈ ((gather F j1 m).1.map fun v => base + v), -2 * most - 500 ≤ v ∧ v ≤ 2 * most + 500 := by
    intro v hv
    obtain ⟨u, hu, rfl⟩ := List.mem_map.1 hv
    have := hga m u hu
    omega
  refine ⟨(gather F j1 m).1.map fun v => base + v, (gather F j1 m).2, by rw [List.length_map, hgl], hx, ?_⟩
  unfold srcO srcC at a1 hF ⊢
  have hneg : (0 : Int) - most = -most := by omega
  have hreps : reps m [C.v (.int .i64 0)] = ints (List.replicate m 0) := by unfold reps ints ik; simp
  rw [eq_synopticlaw21_values]
  simp (disch := omega) only [obs, rC_c, rA_agg, rT_tup, rP_ptr, rW_own, rS_sb, rF_sb, uncV_cons, uncO_cons, nilV_nil, rO_ob, rN_ob, unc_cons, asI_int, asB_bool, asS_string, asSl_sl, asSl_nl, asFn_fn, asP_cp, nrm_sl, nrm_nl, need_true, ct, cf, bd_eq, natD_zero, natD_succ, natD_one, noYl_v, noYl_sl, noYl_nl, noYl_cp, noYl_fn, Bool.and_true, Bool.true_and, Bool.and_self, beqN_self, Bool.not_true, Bool.not_false, Bool.and_false, Bool.false_and, Bool.or_false, Bool.false_or, Bool.or_true, Bool.true_or, wrap_in, dlt_t, dlt_f, dle_t, dle_f, dgt_t, dgt_f, dge_t, dge_f, ibeq_t, ibeq_f, ibne_t, ibne_f, inR_int, beqN_eq, bleN_le, a1, hneg, Int.toNat_natCast, hreps, ik_length, List.length_replicate, Nat.mul_one, List.length_cons, List.length_nil, Nat.zero_add, Nat.reduceAdd, decide_true]
  have st : ∀ j, j ≤ m → ((((gather F j1 j).1.map fun v => base + v) ++ List.replicate (m - j) 0)).length = m := fun j hj => by simp [hgl]; omega
  rw [iter_runx (fun j : Nat => (ints (((gather F j1 j).1.map fun v => base + v) ++ List.replicate (m - j) 0), (j : Int), (C.sl l.length (ints l), ((gather F j1 j).2 : Int), ()), ())) 0 (ints ((gather F j1 m).1.map fun v => base + v), (m : Int), (C.sl l.length (ints l), ((gather F j1 m).2 : Int), ()), ()) m ?_ ?_ ?_ (by omega)]
  · simp (disch := omega) only [obs, rC_c, rA_agg, rT_tup, rP_ptr, rW_own, rS_sb, rF_sb, uncV_cons, uncO_cons, nilV_nil, rO_ob, rN_ob, unc_cons, asI_int, asB_bool, asS_string, asSl_sl, asSl_nl, asFn_fn, asP_cp, nrm_sl, nrm_nl, need_true, ct, cf, bd_eq, natD_zero, natD_succ, natD_one, noYl_v, noYl_sl, noYl_nl, noYl_cp, noYl_fn, Bool.and_true, Bool.true_and, Bool.and_self, beqN_self, Bool.not_true, Bool.not_false, Bool.and_false, Bool.false_and, Bool.or_false, Bool.false_or, Bool.or_true, Bool.true_or, wrap_in, dlt_t, dlt_f, dle_t, dle_f, dgt_t, dgt_f, dge_t, dge_f, ibeq_t, ibeq_f, ibne_t, ibne_f, inR_int, beqN_eq, bleN_le, ik_length, List.length_map, hgl, one_div, Nat.mul_one, Nat.zero_add]
    rw [List.take_of_length_le (by rw [ik_length, List.length_map, hgl]; omega)]
  · simp [gather]
  · intro j hj
    obtain ⟨hq, v1, i1, v2, i2, e1, e2, e3⟩ := hF (gather F j1 j).2
    have hg : (gather F j1 (j + 1)).1 = (gather F j1 j).1 ++ [(F (gather F j1 j).2).1] := rfl
    have hg2 : (gather F j1 (j + 1)).2 = (F (gather F j1 j).2).2 := rfl
    have hlj := hgl j
    have hst := st j (by omega)
    rw [hg, hg2]
    generalize F (gather F j1 j).2 = q at *
    obtain ⟨v, q2⟩ := q
    simp only at e1 e2 e3 hq ⊢
    have hput : putAt (ints (((gather F j1 j).1.map fun v => base + v) ++ List.replicate (m - j) 0)) j [C.v (.int .i64 (base + v))] = ints ((((gather F j1 j).1 ++ [v]).map fun v => base + v) ++ List.replicate (m - (j + 1)) 0) := by
      rw [ik_put (by rw [hst]; exact hj)]
      refine congrArg (ik .i64) ?_
      rw [List.set_append, if_neg (by rw [List.length_map, hlj]; omega), List.length_map, hlj, Nat.sub_self, show m - j = (m - (j + 1)) + 1 by omega, List.replicate_succ]
      simp
    have hst2 := st (j + 1) (by omega)
    rw [hg] at hst2
    simp (disch := omega) only [obs, rC_c, rA_agg, rT_tup, rP_ptr, rW_own, rS_sb, rF_sb, uncV_cons, uncO_cons, nilV_nil, rO_ob, rN_ob, unc_cons, asI_int, asB_bool, asS_string, asSl_sl, asSl_nl, asFn_fn, asP_cp, nrm_sl, nrm_nl, need_true, ct, cf, bd_eq, natD_zero, natD_succ, natD_one, noYl_v, noYl_sl, noYl_nl, noYl_cp, noYl_fn, Bool.and_true, Bool.true_and, Bool.and_self, beqN_self, Bool.not_true, Bool.not_false, Bool.and_false, Bool.false_and, Bool.or_false, Bool.false_or, Bool.or_true, Bool.true_or, wrap_in, dlt_t, dlt_f, dle_t, dle_f, dgt_t, dgt_f, dge_t, dge_f, ibeq_t, ibeq_f, ibne_t, ibne_f, inR_int, beqN_eq, bleN_le, e1, e2, e3, hneg, List.length_cons, List.length_nil, Nat.zero_add, Nat.reduceAdd, ik_length, hst, hst2, one_div, Nat.mul_one, Int.toNat_natCast, hput, Int.natCast_add, Int.natCast_one]
  · have hst := st m (Nat.le_refl _)
    rw [Nat.sub_self, List.replicate_zero, List.append_nil] at hst ⊢
    simp (disch := omega) only [obs, rC_c, rA_agg, rT_tup, rP_ptr, rW_own, rS_sb, rF_sb, uncV_cons, uncO_cons, nilV_nil, rO_ob, rN_ob, unc_cons, asI_int, asB_bool, asS_string, asSl_sl, asSl_nl, asFn_fn, asP_cp, nrm_sl, nrm_nl, need_true, ct, cf, bd_eq, natD_zero, natD_succ, natD_one, noYl_v, noYl_sl, noYl_nl, noYl_cp, noYl_fn, Bool.and_true, Bool.true_and, Bool.and_self, beqN_self, Bool.not_true, Bool.not_false, Bool.and_false, Bool.false_and, Bool.or_false, Bool.false_or, Bool.or_true, Bool.true_or, wrap_in, dlt_t, dlt_f, dle_t, dle_f, dgt_t, dgt_f, dge_t, dge_f, ibeq_t, ibeq_f, ibne_t, ibne_f, inR_int, beqN_eq, bleN_le, ik_length, hst, one_div, Nat.mul_one]
end Go.Proofs.YtobmbacppbkgeaaDoor
/- Rows applied to values: what the program's functions come to for rows that are valid. -/
namespace Go.Proofs.YtobmbacppbkgeaaDoor
open Go Go.PM Go.Grid
def at0 (x : List Int) (k : Nat) : Int := x.getD k 0
theorem at0_eq {x : List Int} {k : Nat} (h : k < x.length) : x[k] = at0 x k := by simp [at0, h]
def dotR (sh : List (Nat × Nat)) (x : List Int) : Int := (sh.map fun s => (s.2 : Int) * at0 x s.1).sum
def wsum (sh : List (Nat × Nat)) : Int := (sh.map fun s => (s.2 : Int)).sum
def bd0 (b : Int) (x : List Int) : Prop := ∀ v ∈ x, -b ≤ v ∧ v ≤ b
theorem at0_bd {b : Int} (hb : 0 ≤ b) {x : List Int} (h : bd0 b x) (k : Nat) : -b ≤ at0 x k ∧ at0 x k ≤ b := by
  by_cases hk : k < x.length
  · rw [← at0_eq hk]; exact h _ (List.getElem_mem hk)
  · have : at0 x k = 0 := by unfold at0; rw [List.getD_eq_getElem?_getD, List.getElem?_eq_none (by omega)]; rfl
    rw [this]; omega
theorem mul_bd {b w v : Int} (hw : 0 ≤ w) (h : -b ≤ v ∧ v ≤ b) : -(w * b) ≤ w * v ∧ w * v ≤ w * b := by
  have h1 := Int.mul_le_mul_of_nonneg_left h.1 hw
  have h2 := Int.mul_le_mul_of_nonneg_left h.2 hw
  rw [Int.mul_neg] at h1
  exact ⟨h1, h2⟩
theorem dotR_bd {b : Int} (hb : 0 ≤ b) {x : List Int} (h : bd0 b x) : ∀ sh : List (Nat × Nat), -(wsum sh * b) ≤ dotR sh x ∧ dotR sh x ≤ wsum sh * b
  | [] => by simp [dotR, wsum]
  | s :: sh => by
    have ih := dotR_bd hb h sh
    have h1 := mul_bd (w := (s.2 : Int)) (by omega) (at0_bd hb h s.1)
    simp only [dotR, wsum, List.map_cons, List.sum_cons] at ih ⊢
    rw [Int.add_mul]
    omega
theorem dotR_snoc (sh : List (Nat × Nat)) (s : Nat × Nat) (x : List Int) : dotR (sh ++ [s]) x = dotR sh x + (s.2 : Int) * at0 x s.1 := by simp [dotR]
theorem wsum_snoc (sh : List (Nat × Nat)) (s : Nat × Nat) : wsum (sh ++ [s]) = wsum sh + (s.2 : Int) := by simp [wsum]
theorem wsum_nat (sh : List (Nat × Nat)) : wsum sh = (((sh.map (·.2)).sum : Nat) : Int) := by
  induction sh with
  | nil => rfl
  | cons s r ih => simp only [wsum, List.map_cons, List.sum_cons] at ih ⊢; rw [ih]; omega
theorem wsum_append (a b : List (Nat × Nat)) : wsum (a ++ b) = wsum a + wsum b := by simp [wsum]
theorem wsum_take (sh : List (Nat × Nat)) (j : Nat) : 0 ≤ wsum (sh.take j) ∧ wsum (sh.take j) ≤ wsum sh := by
  have e : wsum sh = wsum (sh.take j) + wsum (sh.drop j) := by
    rw [← wsum_append, List.take_append_drop]
  have h1 := wsum_nat (sh.take j)
  have h2 := wsum_nat (sh.drop j)
  omega
theorem okRow_sum {m : Nat} {x : Rw} (h : okRow m x) : wsum x.sh = 840 := by rw [wsum_nat, h.2.2.1]; rfl
theorem sp_weighted (fu d : Nat) (w : Int) (h : 1 ≤ w ∧ w ≤ 1000) : cl fu (d + 1) fn_operator_weighted [I w] [] = OK (B true) := by
  rw [eq_operator_weighted]; simp (disch := omega) only [obs, rC_c, rA_agg, rT_tup, rP_ptr, rW_own, rS_sb, rF_sb, uncV_cons, uncO_cons, nilV_nil, rO_ob, rN_ob, unc_cons, asI_int, asB_bool, asS_string, asSl_sl, asSl_nl, asFn_fn, asP_cp, nrm_sl, nrm_nl, need_true, ct, cf, bd_eq, natD_zero, natD_succ, natD_one, noYl_v, noYl_sl, noYl_nl, noYl_cp, noYl_fn, Bool.and_true, Bool.true_and, Bool.and_self, beqN_self, Bool.not_true, Bool.not_false, Bool.and_false, Bool.false_and, Bool.or_false, Bool.false_or, Bool.or_true, Bool.true_or, wrap_in, dlt_t, dlt_f, dle_t, dle_f, dgt_t, dgt_f, dge_t, dge_f, ibeq_t, ibeq_f, ibne_t, ibne_f, inR_int, beqN_eq, bleN_le]
theorem sp_valid (fu d : Nat) (hf : 18446744073709551616 ≤ fu) (m : Nat) (x : Rw) (h : okRow m x) : cl fu (d + 2) fn_operator_valid [V.agg (rwc x), I (m : Int)] [] = OK (B true) := by
  obtain ⟨h1, h2, h3, h4, h5, h6⟩ := h
  have hw := wsum_nat x.sh
  rw [h3] at hw
  unfold rwc
  rw [eq_operator_valid]
  simp only [obs, rC_c, rA_agg, rT_tup, rP_ptr, rW_own, rS_sb, rF_sb, uncV_cons, uncO_cons, nilV_nil, rO_ob, rN_ob, unc_cons, asI_int, asB_bool, asS_string, asSl_sl, asSl_nl, asFn_fn, asP_cp, nrm_sl, nrm_nl, need_true, ct, cf, bd_eq, natD_zero, natD_succ, natD_one, noYl_v, noYl_sl, noYl_nl, noYl_cp, noYl_fn, Bool.and_true, Bool.true_and, Bool.and_self, beqN_self, Bool.not_true, Bool.not_false, Bool.and_false, Bool.false_and, Bool.or_false, Bool.false_or, Bool.or_true, Bool.true_or]
  rw [iter_runx (fun j : Nat => (false, wsum (x.sh.take j), (j : Int), ())) 0 (false, wsum x.sh, (x.sh.length : Int), ()) x.sh.length ?_ ?_ ?_ (by omega)]
  · simp (disch := omega) only [obs, rC_c, rA_agg, rT_tup, rP_ptr, rW_own, rS_sb, rF_sb, uncV_cons, uncO_cons, nilV_nil, rO_ob, rN_ob, unc_cons, asI_int, asB_bool, asS_string, asSl_sl, asSl_nl, asFn_fn, asP_cp, nrm_sl, nrm_nl, need_true, ct, cf, bd_eq, natD_zero, natD_succ, natD_one, noYl_v, noYl_sl, noYl_nl, noYl_cp, noYl_fn, Bool.and_true, Bool.true_and, Bool.and_self, beqN_self, Bool.not_true, Bool.not_false, Bool.and_false, Bool.false_and, Bool.or_false, Bool.false_or, Bool.or_true, Bool.true_or, wrap_in, dlt_t, dlt_f, dle_t, dle_f, dgt_t, dgt_f, dge_t, dge_f, ibeq_t, ibeq_f, ibne_t, ibne_f, inR_int, beqN_eq, bleN_le, sp_weighted fu d x.w h5]
  · rfl
  · intro j hj
    have hat := fl_at shc_length hj
    obtain ⟨g1, g2, g3⟩ := h2 _ (List.getElem_mem hj)
    have hb := wsum_take x.sh j
    rw [List.take_succ_eq_append_getElem hj, wsum_snoc]
    by_cases h0 : 0 < j
    · have hat2 := fl_at (l := x.sh) shc_length (show j - 1 < x.sh.length by omega)
      have hlt : x.sh[j - 1].1 < x.sh[j].1 := List.pairwise_iff_getElem.1 h1 (j - 1) j (by omega) hj (by omega)
      have hc : ((j : Int) - 1) = ((j - 1 : Nat) : Int) := by omega
      simp (disch := omega) only [obs, rC_c, rA_agg, rT_tup, rP_ptr, rW_own, rS_sb, rF_sb, uncV_cons, uncO_cons, nilV_nil, rO_ob, rN_ob, unc_cons, asI_int, asB_bool, asS_string, asSl_sl, asSl_nl, asFn_fn, asP_cp, nrm_sl, nrm_nl, need_true, ct, cf, bd_eq, natD_zero, natD_succ, natD_one, noYl_v, noYl_sl, noYl_nl, noYl_cp, noYl_fn, Bool.and_true, Bool.true_and, Bool.and_self, beqN_self, Bool.not_true, Bool.not_false, Bool.and_false, Bool.false_and, Bool.or_false, Bool.false_or, Bool.or_true, Bool.true_or, wrap_in, dlt_t, dlt_f, dle_t, dle_f, dgt_t, dgt_f, dge_t, dge_f, ibeq_t, ibeq_f, ibne_t, ibne_f, inR_int, beqN_eq, bleN_le, Int.toNat_natCast, hat, shc, List.cons_append, List.nil_append, hc, hat2, Int.natCast_add, Int.natCast_one]
    · simp (disch := omega) only [obs, rC_c, rA_agg, rT_tup, rP_ptr, rW_own, rS_sb, rF_sb, uncV_cons, uncO_cons, nilV_nil, rO_ob, rN_ob, unc_cons, asI_int, asB_bool, asS_string, asSl_sl, asSl_nl, asFn_fn, asP_cp, nrm_sl, nrm_nl, need_true, ct, cf, bd_eq, natD_zero, natD_succ, natD_one, noYl_v, noYl_sl, noYl_nl, noYl_cp, noYl_fn, Bool.and_true, Bool.true_and, Bool.and_self, beqN_self, Bool.not_true, Bool.not_false, Bool.and_false, Bool.false_and, Bool.or_false, Bool.false_or, Bool.or_true, Bool.true_or, wrap_in, dlt_t, dlt_f, dle_t, dle_f, dgt_t, dgt_f, dge_t, dge_f, ibeq_t, ibeq_f, ibne_t, ibne_f, inR_int, beqN_eq, bleN_le, Int.toNat_natCast, hat, shc, List.cons_append, List.nil_append, Int.natCast_add, Int.natCast_one]
  · rw [List.take_of_length_le (Nat.le_refl _)]
    simp (disch := omega) only [obs, rC_c, rA_agg, rT_tup, rP_ptr, rW_own, rS_sb, rF_sb, uncV_cons, uncO_cons, nilV_nil, rO_ob, rN_ob, unc_cons, asI_int, asB_bool, asS_string, asSl_sl, asSl_nl, asFn_fn, asP_cp, nrm_sl, nrm_nl, need_true, ct, cf, bd_eq, natD_zero, natD_succ, natD_one, noYl_v, noYl_sl, noYl_nl, noYl_cp, noYl_fn, Bool.and_true, Bool.true_and, Bool.and_self, beqN_self, Bool.not_true, Bool.not_false, Bool.and_false, Bool.false_and, Bool.or_false, Bool.false_or, Bool.or_true, Bool.true_or, wrap_in, dlt_t, dlt_f, dle_t, dle_f, dgt_t, dgt_f, dge_t, dge_f, ibeq_t, ibeq_f, ibne_t, ibne_f, inR_int, beqN_eq, bleN_le]
theorem sp_invalid (fu d : Nat) (hf : 18446744073709551616 ≤ fu) (m : Nat) (L : List Rw) (hL : L.length ≤ 1000000) (h : ∀ x ∈ L, okRow m x) : cl fu (d + 6) fn_operator_invalid [V.c (C.sl L.length (fl rwc L)), I (m : Int)] [] = OK (B false) := by
  rw [eq_operator_invalid, eq1_slices_ContainsFunc_sapi_Row_api_Row, eq1_slices_IndexFunc_sapi_Row_api_Row]
  rw [iter_runx (fun j : Nat => ((0 : Int), (j : Int), ())) 0 ((0 : Int), (L.length : Int), ()) L.length ?_ ?_ ?_ (by omega)]
  · simp (disch := omega) only [obs, rC_c, rA_agg, rT_tup, rP_ptr, rW_own, rS_sb, rF_sb, uncV_cons, uncO_cons, nilV_nil, rO_ob, rN_ob, unc_cons, asI_int, asB_bool, asS_string, asSl_sl, asSl_nl, asFn_fn, asP_cp, nrm_sl, nrm_nl, need_true, ct, cf, bd_eq, natD_zero, natD_succ, natD_one, noYl_v, noYl_sl, noYl_nl, noYl_cp, noYl_fn, Bool.and_true, Bool.true_and, Bool.and_self, beqN_self, Bool.not_true, Bool.not_false, Bool.and_false, Bool.false_and, Bool.or_false, Bool.false_or, Bool.or_true, Bool.true_or, wrap_in, dlt_t, dlt_f, dle_t, dle_f, dgt_t, dgt_f, dge_t, dge_f, ibeq_t, ibeq_f, ibne_t, ibne_f, inR_int, beqN_eq, bleN_le]
  · rfl
  · intro j hj
    have hat := fl_at rwc_length hj
    have hv := sp_valid fu d hf m L[j] (h _ (List.getElem_mem hj))
    simp only [rwc] at hv
    simp (disch := omega) only [obs, rC_c, rA_agg, rT_tup, rP_ptr, rW_own, rS_sb, rF_sb, uncV_cons, uncO_cons, nilV_nil, rO_ob, rN_ob, unc_cons, asI_int, asB_bool, asS_string, asSl_sl, asSl_nl, asFn_fn, asP_cp, nrm_sl, nrm_nl, need_true, ct, cf, bd_eq, natD_zero, natD_succ, natD_one, noYl_v, noYl_sl, noYl_nl, noYl_cp, noYl_fn, Bool.and_true, Bool.true_and, Bool.and_self, beqN_self, Bool.not_true, Bool.not_false, Bool.and_false, Bool.false_and, Bool.or_false, Bool.false_or, Bool.or_true, Bool.true_or, wrap_in, dlt_t, dlt_f, dle_t, dle_f, dgt_t, dgt_f, dge_t, dge_f, ibeq_t, ibeq_f, ibne_t, ibne_f, inR_int, beqN_eq, bleN_le, Int.toNat_natCast, hat, rwc, List.cons_append, List.nil_append, eq_operator_invalid_1, hv, Int.natCast_add, Int.natCast_one]
  · simp (disch := omega) only [obs, rC_c, rA_agg, rT_tup, rP_ptr, rW_own, rS_sb, rF_sb, uncV_cons, uncO_cons, nilV_nil, rO_ob, rN_ob, unc_cons, asI_int, asB_bool, asS_string, asSl_sl, asSl_nl, asFn_fn, asP_cp, nrm_sl, nrm_nl, need_true, ct, cf, bd_eq, natD_zero, natD_succ, natD_one, noYl_v, noYl_sl, noYl_nl, noYl_cp, noYl_fn, Bool.and_true, Bool.true_and, Bool.and_self, beqN_self, Bool.not_true, Bool.not_false, Bool.and_false, Bool.false_and, Bool.or_false, Bool.false_or, Bool.or_true, Bool.true_or, wrap_in, dlt_t, dlt_f, dle_t, dle_f, dgt_t, dgt_f, dge_t, dge_f, ibeq_t, ibeq_f, ibne_t, ibne_f, inR_int, beqN_eq, bleN_le]
theorem sp_small (fu d : Nat) (hf : 18446744073709551616 ≤ fu) (x : List Int) (hl : x.length ≤ 1000000) (h : bd0 1099511627776 x) : cl fu (d + 4) fn_operator_small [V.c (C.sl x.length (ints x))] [] = OK (B true) := by
  rw [eq_operator_small, eq_slices_ContainsFunc_sint_int, eq_slices_IndexFunc_sint_int]
  rw [iter_runx (fun j : Nat => ((0 : Int), (j : Int), ())) 0 ((0 : Int), (x.length : Int), ()) x.length ?_ ?_ ?_ (by omega)]
  · simp (disch := omega) only [obs, rC_c, rA_agg, rT_tup, rP_ptr, rW_own, rS_sb, rF_sb, uncV_cons, uncO_cons, nilV_nil, rO_ob, rN_ob, unc_cons, asI_int, asB_bool, asS_string, asSl_sl, asSl_nl, asFn_fn, asP_cp, nrm_sl, nrm_nl, need_true, ct, cf, bd_eq, natD_zero, natD_succ, natD_one, noYl_v, noYl_sl, noYl_nl, noYl_cp, noYl_fn, Bool.and_true, Bool.true_and, Bool.and_self, beqN_self, Bool.not_true, Bool.not_false, Bool.and_false, Bool.false_and, Bool.or_false, Bool.false_or, Bool.or_true, Bool.true_or, wrap_in, dlt_t, dlt_f, dle_t, dle_f, dgt_t, dgt_f, dge_t, dge_f, ibeq_t, ibeq_f, ibne_t, ibne_f, inR_int, beqN_eq, bleN_le]
  · rfl
  · intro j hj
    have hv := h _ (List.getElem_mem hj)
    simp (disch := omega) only [obs, rC_c, rA_agg, rT_tup, rP_ptr, rW_own, rS_sb, rF_sb, uncV_cons, uncO_cons, nilV_nil, rO_ob, rN_ob, unc_cons, asI_int, asB_bool, asS_string, asSl_sl, asSl_nl, asFn_fn, asP_cp, nrm_sl, nrm_nl, need_true, ct, cf, bd_eq, natD_zero, natD_succ, natD_one, noYl_v, noYl_sl, noYl_nl, noYl_cp, noYl_fn, Bool.and_true, Bool.true_and, Bool.and_self, beqN_self, Bool.not_true, Bool.not_false, Bool.and_false, Bool.false_and, Bool.or_false, Bool.false_or, Bool.or_true, Bool.true_or, wrap_in, dlt_t, dlt_f, dle_t, dle_f, dgt_t, dgt_f, dge_t, dge_f, ibeq_t, ibeq_f, ibne_t, ibne_f, inR_int, beqN_eq, bleN_le, Int.toNat_natCast, Nat.mul_one, unc_ik hj, eq_operator_small_1, Int.natCast_add, Int.natCast_one]
  · simp (disch := omega) only [obs, rC_c, rA_agg, rT_tup, rP_ptr, rW_own, rS_sb, rF_sb, uncV_cons, uncO_cons, nilV_nil, rO_ob, rN_ob, unc_cons, asI_int, asB_bool, asS_string, asSl_sl, asSl_nl, asFn_fn, asP_cp, nrm_sl, nrm_nl, need_true, ct, cf, bd_eq, natD_zero, natD_succ, natD_one, noYl_v, noYl_sl, noYl_nl, noYl_cp, noYl_fn, Bool.and_true, Bool.true_and, Bool.and_self, beqN_self, Bool.not_true, Bool.not_false, Bool.and_false, Bool.false_and, Bool.or_false, Bool.false_or, Bool.or_true, Bool.true_or, wrap_in, dlt_t, dlt_f, dle_t, dle_f, dgt_t, dgt_f, dge_t, dge_f, ibeq_t, ibeq_f, ibne_t, ibne_f, inR_int, beqN_eq, bleN_le]
theorem sp_value (fu d : Nat) (hf : 18446744073709551616 ≤ fu) (m : Nat) (r : Rw) (h : okRow m r) (x : List Int) (hx : x.length = m) (hb : bd0 1099511627776 x) : cl fu (d + 1) fn_operator_value [V.agg (rwc r), V.c (C.sl x.length (ints x))] [] = OK (I (dotR r.sh x)) := by
  have hs := okRow_sum h
  have h6 := h.2.2.2.2.2
  unfold rwc
  rw [eq_operator_value]
  simp only [obs, rC_c, rA_agg, rT_tup, rP_ptr, rW_own, rS_sb, rF_sb, uncV_cons, uncO_cons, nilV_nil, rO_ob, rN_ob, unc_cons, asI_int, asB_bool, asS_string, asSl_sl, asSl_nl, asFn_fn, asP_cp, nrm_sl, nrm_nl, need_true, ct, cf, bd_eq, natD_zero, natD_succ, natD_one, noYl_v, noYl_sl, noYl_nl, noYl_cp, noYl_fn, Bool.and_true, Bool.true_and, Bool.and_self, beqN_self, Bool.not_true, Bool.not_false, Bool.and_false, Bool.false_and, Bool.or_false, Bool.false_or, Bool.or_true, Bool.true_or]
  rw [iter_runx (fun j : Nat => (dotR (r.sh.take j) x, (j : Int), ())) 0 (dotR r.sh x, (r.sh.length : Int), ()) r.sh.length ?_ ?_ ?_ (by omega)]
  · simp only [obs, rC_c, rA_agg, rT_tup, rP_ptr, rW_own, rS_sb, rF_sb, uncV_cons, uncO_cons, nilV_nil, rO_ob, rN_ob, unc_cons, asI_int, asB_bool, asS_string, asSl_sl, asSl_nl, asFn_fn, asP_cp, nrm_sl, nrm_nl, need_true, ct, cf, bd_eq, natD_zero, natD_succ, natD_one, noYl_v, noYl_sl, noYl_nl, noYl_cp, noYl_fn, Bool.and_true, Bool.true_and, Bool.and_self, beqN_self, Bool.not_true, Bool.not_false, Bool.and_false, Bool.false_and, Bool.or_false, Bool.false_or, Bool.or_true, Bool.true_or]
  · rfl
  · intro j hj
    have hat := fl_at shc_length hj
    obtain ⟨g1, g2, g3⟩ := h.2.1 _ (List.getElem_mem hj)
    have hk : r.sh[j].1 < x.length := by omega
    have hv := at0_bd (by decide) hb r.sh[j].1
    have hp := mul_bd (w := (r.sh[j].2 : Int)) (by omega) hv
    have hw1 := wsum_take r.sh j
    have hw2 := wsum_take r.sh (j + 1)
    have hd1 := dotR_bd (by decide) hb (r.sh.take j)
    have hd2 := dotR_bd (by decide) hb (r.sh.take (j + 1))
    rw [List.take_succ_eq_append_getElem hj, dotR_snoc, wsum_snoc] at hd2
    rw [List.take_succ_eq_append_getElem hj, wsum_snoc] at hw2
    rw [List.take_succ_eq_append_getElem hj, dotR_snoc]
    have hg := at0_eq hk
    have hq : IntKind.i64.wrap ((r.sh[j].2 : Int) * x[r.sh[j].1]) = (r.sh[j].2 : Int) * at0 x r.sh[j].1 := by
      rw [hg]
      generalize (r.sh[j].2 : Int) * at0 x r.sh[j].1 = q at *
      exact wrap_in (by omega) (by omega)
    have hq2 : IntKind.i64.wrap (dotR (r.sh.take j) x + (r.sh[j].2 : Int) * at0 x r.sh[j].1) = dotR (r.sh.take j) x + (r.sh[j].2 : Int) * at0 x r.sh[j].1 := by
      generalize (r.sh[j].2 : Int) * at0 x r.sh[j].1 = q at *
      exact wrap_in (by omega) (by omega)
    simp (disch := omega) only [obs, rC_c, rA_agg, rT_tup, rP_ptr, rW_own, rS_sb, rF_sb, uncV_cons, uncO_cons, nilV_nil, rO_ob, rN_ob, unc_cons, asI_int, asB_bool, asS_string, asSl_sl, asSl_nl, asFn_fn, asP_cp, nrm_sl, nrm_nl, need_true, ct, cf, bd_eq, natD_zero, natD_succ, natD_one, noYl_v, noYl_sl, noYl_nl, noYl_cp, noYl_fn, Bool.and_true, Bool.true_and, Bool.and_self, beqN_self, Bool.not_true, Bool.not_false, Bool.and_false, Bool.false_and, Bool.or_false, Bool.false_or, Bool.or_true, Bool.true_or, wrap_in, dlt_t, dlt_f, dle_t, dle_f, dgt_t, dgt_f, dge_t, dge_f, ibeq_t, ibeq_f, ibne_t, ibne_f, inR_int, beqN_eq, bleN_le, Int.toNat_natCast, Nat.mul_one, hat, shc, List.cons_append, List.nil_append, unc_ik hk, hq, hq2, Int.natCast_add, Int.natCast_one]
  · rw [List.take_of_length_le (Nat.le_refl _)]
    simp (disch := omega) only [obs, rC_c, rA_agg, rT_tup, rP_ptr, rW_own, rS_sb, rF_sb, uncV_cons, uncO_cons, nilV_nil, rO_ob, rN_ob, unc_cons, asI_int, asB_bool, asS_string, asSl_sl, asSl_nl, asFn_fn, asP_cp, nrm_sl, nrm_nl, need_true, ct, cf, bd_eq, natD_zero, natD_succ, natD_one, noYl_v, noYl_sl, noYl_nl, noYl_cp, noYl_fn, Bool.and_true, Bool.true_and, Bool.and_self, beqN_self, Bool.not_true, Bool.not_false, Bool.and_false, Bool.false_and, Bool.or_false, Bool.false_or, Bool.or_true, Bool.true_or, wrap_in, dlt_t, dlt_f, dle_t, dle_f, dgt_t, dgt_f, dge_t, dge_f, ibeq_t, ibeq_f, ibne_t, ibne_f, inR_int, beqN_eq, bleN_le]
def applyR (L : List Rw) (x : List Int) : List Int := L.map fun r => dotR r.sh x
theorem applyR_take (L : List Rw) (x : List Int) (j : Nat) (h : j < L.length) : applyR (L.take (j + 1)) x = applyR (L.take j) x ++ [dotR L[j].sh x] := by
  unfold applyR; rw [List.take_succ_eq_append_getElem h, List.map_append]; rfl
theorem applyR_length (L : List Rw) (x : List Int) : (applyR L x).length = L.length := by simp [applyR]
theorem sp_Apply (fu d : Nat) (hf : 18446744073709551616 ≤ fu) (m : Nat) (hm : m ≤ 642) (L : List Rw) (hL : L.length ≤ 200) (h : ∀ x ∈ L, okRow m x) (x : List Int) (hx : x.length = m) (hb : bd0 1099511627776 x) :
    cl fu (d + 7) fn_operator_Apply [V.c (C.sl L.length (fl rwc L)), V.c (C.sl x.length (ints x))] [] = some ⟨V.tup [V.own 1000000 0 L.length, I 0], [.sb ty_int 0 (ints (applyR L x))], none⟩ := by
  have hi := sp_invalid fu d hf m L (by omega) h
  rw [← hx] at hi
  have hs := sp_small fu (d + 2) hf x (by omega) hb
  rw [eq_operator_Apply]
  simp (disch := omega) only [obs, rC_c, rA_agg, rT_tup, rP_ptr, rW_own, rS_sb, rF_sb, uncV_cons, uncO_cons, nilV_nil, rO_ob, rN_ob, unc_cons, asI_int, asB_bool, asS_string, asSl_sl, asSl_nl, asFn_fn, asP_cp, nrm_sl, nrm_nl, need_true, ct, cf, bd_eq, natD_zero, natD_succ, natD_one, noYl_v, noYl_sl, noYl_nl, noYl_cp, noYl_fn, Bool.and_true, Bool.true_and, Bool.and_self, beqN_self, Bool.not_true, Bool.not_false, Bool.and_false, Bool.false_and, Bool.or_false, Bool.false_or, Bool.or_true, Bool.true_or, wrap_in, dlt_t, dlt_f, dle_t, dle_f, dgt_t, dgt_f, dge_t, dge_f, ibeq_t, ibeq_f, ibne_t, ibne_f, inR_int, beqN_eq, bleN_le, hi, hs]
  rw [iter_runx (fun j : Nat => (ints (applyR (L.take j) x), (j : Int), ())) 0 (ints (applyR L x), (L.length : Int), ()) L.length ?_ ?_ ?_ (by omega)]
  · simp (disch := omega) only [obs, rC_c, rA_agg, rT_tup, rP_ptr, rW_own, rS_sb, rF_sb, uncV_cons, uncO_cons, nilV_nil, rO_ob, rN_ob, unc_cons, asI_int, asB_bool, asS_string, asSl_sl, asSl_nl, asFn_fn, asP_cp, nrm_sl, nrm_nl, need_true, ct, cf, bd_eq, natD_zero, natD_succ, natD_one, noYl_v, noYl_sl, noYl_nl, noYl_cp, noYl_fn, Bool.and_true, Bool.true_and, Bool.and_self, beqN_self, Bool.not_true, Bool.not_false, Bool.and_false, Bool.false_and, Bool.or_false, Bool.false_or, Bool.or_true, Bool.true_or, wrap_in, dlt_t, dlt_f, dle_t, dle_f, dgt_t, dgt_f, dge_t, dge_f, ibeq_t, ibeq_f, ibne_t, ibne_f, inR_int, beqN_eq, bleN_le, ik_length, applyR_length, one_div, Nat.mul_one]
    rw [List.take_of_length_le (by rw [ik_length, applyR_length]; omega)]
  · rfl
  · intro j hj
    have hat := fl_at rwc_length hj
    have hv := sp_value fu (d + 5) hf m L[j] (h _ (List.getElem_mem hj)) x hx hb
    simp only [rwc] at hv
    have hl : (applyR (L.take j) x).length = j := by rw [applyR_length, List.length_take]; omega
    rw [applyR_take L x j hj]
    simp (disch := omega) only [obs, rC_c, rA_agg, rT_tup, rP_ptr, rW_own, rS_sb, rF_sb, uncV_cons, uncO_cons, nilV_nil, rO_ob, rN_ob, unc_cons, asI_int, asB_bool, asS_string, asSl_sl, asSl_nl, asFn_fn, asP_cp, nrm_sl, nrm_nl, need_true, ct, cf, bd_eq, natD_zero, natD_succ, natD_one, noYl_v, noYl_sl, noYl_nl, noYl_cp, noYl_fn, Bool.and_true, Bool.true_and, Bool.and_self, beqN_self, Bool.not_true, Bool.not_false, Bool.and_false, Bool.false_and, Bool.or_false, Bool.false_or, Bool.or_true, Bool.true_or, wrap_in, dlt_t, dlt_f, dle_t, dle_f, dgt_t, dgt_f, dge_t, dge_f, ibeq_t, ibeq_f, ibne_t, ibne_f, inR_int, beqN_eq, bleN_le, Int.toNat_natCast, hat, rwc, List.cons_append, List.nil_append, hv, ik_length, hl, one_div, Nat.mul_one, ik_snoc, List.length_append, List.length_cons, List.length_nil, Nat.zero_add, Int.natCast_add, Int.natCast_one]
  · rw [List.take_of_length_le (Nat.le_refl _)]
    simp (disch := omega) only [obs, rC_c, rA_agg, rT_tup, rP_ptr, rW_own, rS_sb, rF_sb, uncV_cons, uncO_cons, nilV_nil, rO_ob, rN_ob, unc_cons, asI_int, asB_bool, asS_string, asSl_sl, asSl_nl, asFn_fn, asP_cp, nrm_sl, nrm_nl, need_true, ct, cf, bd_eq, natD_zero, natD_succ, natD_one, noYl_v, noYl_sl, noYl_nl, noYl_cp, noYl_fn, Bool.and_true, Bool.true_and, Bool.and_self, beqN_self, Bool.not_true, Bool.not_false, Bool.and_false, Bool.false_and, Bool.or_false, Bool.false_or, Bool.or_true, Bool.true_or, wrap_in, dlt_t, dlt_f, dle_t, dle_f, dgt_t, dgt_f, dge_t, dge_f, ibeq_t, ibeq_f, ibne_t, ibne_f, inR_int, beqN_eq, bleN_le, ik_length, applyR_length, one_div, Nat.mul_one]
def depR (L : List Rw) (x : List Int) : List Int := L.map fun r => 840 * r.v - dotR r.sh x
theorem sp_Departures (fu d : Nat) (hf : 18446744073709551616 ≤ fu) (m : Nat) (hm : m ≤ 642) (L : List Rw) (hL : L.length ≤ 200) (h : ∀ x ∈ L, okRow m x) (x : List Int) (hx : x.length = m) (hb : bd0 1099511627776 x) :
    cl fu (d + 8) fn_operator_Departures [V.c (C.sl L.length (fl rwc L)), V.c (C.sl x.length (ints x))] [] = OK (V.tup [V.c (C.sl L.length (ints (depR L x))), I 0]) := by
  have hA := sp_Apply fu d hf m hm L hL h x hx hb
  have hlA := applyR_length L x
  have hlD : (depR L x).length = L.length := by simp [depR]
  rw [eq_operator_Departures, hA]
  simp (disch := omega) only [obs, rC_c, rA_agg, rT_tup, rP_ptr, rW_own, rS_sb, rF_sb, uncV_cons, uncO_cons, nilV_nil, rO_ob, rN_ob, unc_cons, asI_int, asB_bool, asS_string, asSl_sl, asSl_nl, asFn_fn, asP_cp, nrm_sl, nrm_nl, need_true, ct, cf, bd_eq, natD_zero, natD_succ, natD_one, noYl_v, noYl_sl, noYl_nl, noYl_cp, noYl_fn, Bool.and_true, Bool.true_and, Bool.and_self, beqN_self, Bool.not_true, Bool.not_false, Bool.and_false, Bool.false_and, Bool.or_false, Bool.false_or, Bool.or_true, Bool.true_or, wrap_in, dlt_t, dlt_f, dle_t, dle_f, dgt_t, dgt_f, dge_t, dge_f, ibeq_t, ibeq_f, ibne_t, ibne_f, inR_int, beqN_eq, bleN_le, ik_length, hlA, Nat.mul_one, Nat.add_zero, show OUT = 1000000 from rfl]
  have st : ∀ j, j ≤ L.length → (depR (L.take j) x ++ (applyR L x).drop j).length = L.length := fun j hj => by simp [depR, applyR]; omega
  rw [iter_runx (fun j : Nat => (ints (depR (L.take j) x ++ (applyR L x).drop j), (j : Int), ())) 0 (ints (depR L x), (L.length : Int), ()) L.length ?_ ?_ ?_ (by omega)]
  · simp (disch := omega) only [obs, rC_c, rA_agg, rT_tup, rP_ptr, rW_own, rS_sb, rF_sb, uncV_cons, uncO_cons, nilV_nil, rO_ob, rN_ob, unc_cons, asI_int, asB_bool, asS_string, asSl_sl, asSl_nl, asFn_fn, asP_cp, nrm_sl, nrm_nl, need_true, ct, cf, bd_eq, natD_zero, natD_succ, natD_one, noYl_v, noYl_sl, noYl_nl, noYl_cp, noYl_fn, Bool.and_true, Bool.true_and, Bool.and_self, beqN_self, Bool.not_true, Bool.not_false, Bool.and_false, Bool.false_and, Bool.or_false, Bool.false_or, Bool.or_true, Bool.true_or, wrap_in, dlt_t, dlt_f, dle_t, dle_f, dgt_t, dgt_f, dge_t, dge_f, ibeq_t, ibeq_f, ibne_t, ibne_f, inR_int, beqN_eq, bleN_le, ik_length, hlD, one_div, Nat.mul_one, Nat.zero_add]
    rw [List.take_of_length_le (by rw [ik_length, hlD]; omega)]
  · simp [depR]
  · intro j hj
    have hat := fl_at rwc_length hj
    have hst := st j (by omega)
    have hst2 := st (j + 1) (by omega)
    have hr := h _ (List.getElem_mem hj)
    have hd := dotR_bd (by decide) hb L[j].sh
    rw [okRow_sum hr] at hd
    have hv := hr.2.2.2.1
    have hk : j < (depR (L.take j) x ++ (applyR L x).drop j).length := by omega
    have hdl : (depR (L.take j) x).length = j := by simp [depR]; omega
    have hget : (depR (L.take j) x ++ (applyR L x).drop j)[j] = dotR L[j].sh x := by
      rw [List.getElem_append_right (by omega)]
      simp [hdl, applyR]
    have hput : putAt (ints (depR (L.take j) x ++ (applyR L x).drop j)) j [C.v (.int .i64 (840 * L[j].v - dotR L[j].sh x))] = ints (depR (L.take (j + 1)) x ++ (applyR L x).drop (j + 1)) := by
      rw [ik_put hk]
      refine congrArg (ik .i64) ?_
      rw [List.set_append, if_neg (by omega), hdl, Nat.sub_self, List.drop_eq_getElem_cons (show j < (applyR L x).length by omega), List.set_cons_zero, show depR (L.take (j + 1)) x = depR (L.take j) x ++ [840 * L[j].v - dotR L[j].sh x] from by unfold depR; rw [List.take_succ_eq_append_getElem hj, List.map_append]; rfl]
      simp
    have hu := unc_ik (kd := .i64) hk (R := Nat × List C × Int × Unit)
    rw [hget] at hu
    simp (disch := omega) only [obs, rC_c, rA_agg, rT_tup, rP_ptr, rW_own, rS_sb, rF_sb, uncV_cons, uncO_cons, nilV_nil, rO_ob, rN_ob, unc_cons, asI_int, asB_bool, asS_string, asSl_sl, asSl_nl, asFn_fn, asP_cp, nrm_sl, nrm_nl, need_true, ct, cf, bd_eq, natD_zero, natD_succ, natD_one, noYl_v, noYl_sl, noYl_nl, noYl_cp, noYl_fn, Bool.and_true, Bool.true_and, Bool.and_self, beqN_self, Bool.not_true, Bool.not_false, Bool.and_false, Bool.false_and, Bool.or_false, Bool.false_or, Bool.or_true, Bool.true_or, wrap_in, dlt_t, dlt_f, dle_t, dle_f, dgt_t, dgt_f, dge_t, dge_f, ibeq_t, ibeq_f, ibne_t, ibne_f, inR_int, beqN_eq, bleN_le, Int.toNat_natCast, hat, rwc, List.cons_append, List.nil_append, List.drop_succ_cons, List.drop_zero, Nat.zero_add, Nat.mul_one, hu, ik_length, hst, hst2, hput, one_div, Int.natCast_add, Int.natCast_one]
  · have hst := st L.length (Nat.le_refl _)
    rw [List.drop_of_length_le (by omega), List.append_nil, List.take_of_length_le (Nat.le_refl _)] at *
    simp (disch := omega) only [obs, rC_c, rA_agg, rT_tup, rP_ptr, rW_own, rS_sb, rF_sb, uncV_cons, uncO_cons, nilV_nil, rO_ob, rN_ob, unc_cons, asI_int, asB_bool, asS_string, asSl_sl, asSl_nl, asFn_fn, asP_cp, nrm_sl, nrm_nl, need_true, ct, cf, bd_eq, natD_zero, natD_succ, natD_one, noYl_v, noYl_sl, noYl_nl, noYl_cp, noYl_fn, Bool.and_true, Bool.true_and, Bool.and_self, beqN_self, Bool.not_true, Bool.not_false, Bool.and_false, Bool.false_and, Bool.or_false, Bool.false_or, Bool.or_true, Bool.true_or, wrap_in, dlt_t, dlt_f, dle_t, dle_f, dgt_t, dgt_f, dge_t, dge_f, ibeq_t, ibeq_f, ibne_t, ibne_f, inR_int, beqN_eq, bleN_le, ik_length, hlD, one_div, Nat.mul_one]
end Go.Proofs.YtobmbacppbkgeaaDoor
/- The transposed rows: what the program's function comes to for rows that are valid. -/
namespace Go.Proofs.YtobmbacppbkgeaaDoor
open Go Go.PM Go.Grid
def addS (v : Int) (o : List Int) (s : Nat × Nat) : List Int := o.set s.1 (at0 o s.1 + (s.2 : Int) * v)
def addR (v : Int) (o : List Int) (sh : List (Nat × Nat)) : List Int := sh.foldl (addS v) o
theorem addS_length (v : Int) (o : List Int) (s : Nat × Nat) : (addS v o s).length = o.length := by simp [addS]
theorem addR_length (v : Int) : ∀ (sh : List (Nat × Nat)) (o : List Int), (addR v o sh).length = o.length
  | [], o => rfl
  | s :: sh, o => by show (addR v (addS v o s) sh).length = _; rw [addR_length v sh, addS_length]
theorem addR_snoc (v : Int) (o : List Int) (sh : List (Nat × Nat)) (s : Nat × Nat) : addR v o (sh ++ [s]) = addS v (addR v o sh) s := by simp [addR]
theorem addS_bd {b c v : Int} (hb : 0 ≤ b) (hc : 0 ≤ c) (hv : -b ≤ v ∧ v ≤ b) {o : List Int} (ho : bd0 c o) (s : Nat × Nat) : bd0 (c + (s.2 : Int) * b) (addS v o s) := by
  have h1 := mul_bd (w := (s.2 : Int)) (by omega) hv
  have h2 := at0_bd hc ho s.1
  have h0 : (0 : Int) ≤ (s.2 : Int) * b := Int.mul_nonneg (by omega) hb
  intro u hu
  rcases List.mem_or_eq_of_mem_set hu with hu | rfl
  · have := ho u hu; omega
  · omega
theorem addR_bd {b v : Int} (hb : 0 ≤ b) (hv : -b ≤ v ∧ v ≤ b) : ∀ (sh : List (Nat × Nat)) {c : Int} (_ : 0 ≤ c) {o : List Int} (_ : bd0 c o), bd0 (c + wsum sh * b) (addR v o sh)
  | [], c, _, o, ho => by simpa [wsum, addR] using ho
  | s :: sh, c, hc, o, ho => by
    have h0 : (0 : Int) ≤ (s.2 : Int) * b := Int.mul_nonneg (by omega) hb
    have := addR_bd hb hv sh (c := c + (s.2 : Int) * b) (by omega) (addS_bd hb hc hv ho s)
    have e : wsum (s :: sh) * b = (s.2 : Int) * b + wsum sh * b := by simp only [wsum, List.map_cons, List.sum_cons]; rw [Int.add_mul]
    rw [e, ← Int.add_assoc]
    exact this
def trans (m : Nat) (L : List Rw) (d : List Int) : Nat → List Int
  | 0 => List.replicate m 0
  | j + 1 => addR (at0 d j) (trans m L d j) ((L.getD j ⟨[], 0, 0, 0⟩).sh)
theorem trans_length (m : Nat) (L : List Rw) (d : List Int) : ∀ j, (trans m L d j).length = m
  | 0 => by simp [trans]
  | j + 1 => by unfold trans; rw [addR_length, trans_length m L d j]
theorem trans_succ (m : Nat) (L : List Rw) (d : List Int) (j : Nat) (h : j < L.length) : trans m L d (j + 1) = addR (at0 d j) (trans m L d j) L[j].sh := by
  show addR _ _ ((L.getD j ⟨[], 0, 0, 0⟩).sh) = _
  simp [h]
theorem trans_bd {m : Nat} {L : List Rw} (h : ∀ x ∈ L, okRow m x) {d : List Int} {b : Int} (hb : 0 ≤ b) (hd : bd0 b d) : ∀ j, j ≤ L.length → bd0 ((j : Int) * (840 * b)) (trans m L d j)
  | 0, _ => by
    intro v hv
    have := List.eq_of_mem_replicate hv
    simp [this]
  | j + 1, hj => by
    have ih := trans_bd h hb hd j (by omega)
    have h0 : (0 : Int) ≤ (j : Int) * (840 * b) := Int.mul_nonneg (by omega) (by omega)
    have := addR_bd hb (at0_bd hb hd j) L[j].sh h0 ih
    rw [okRow_sum (h _ (List.getElem_mem _))] at this
    rw [trans_succ m L d j (by omega), show ((j + 1 : Nat) : Int) * (840 * b) = (j : Int) * (840 * b) + 840 * b by rw [Int.natCast_add, Int.add_mul]; simp]
    exact this
theorem sp_Transpose (fu d : Nat) (hf : 18446744073709551616 ≤ fu) (m : Nat) (hm : m ≤ 642) (L : List Rw) (hL : L.length ≤ 200) (h : ∀ x ∈ L, okRow m x) (x : List Int) (hx : x.length = L.length) (hb : bd0 1099511627776 x) :
    cl fu (d + 7) fn_operator_Transpose [V.c (C.sl L.length (fl rwc L)), I (m : Int), V.c (C.sl x.length (ints x))] [] = OK (V.tup [V.c (C.sl m (ints (trans m L x L.length))), I 0]) := by
  have hi := sp_invalid fu d hf m L (by omega) h
  have hs := sp_small fu (d + 2) hf x (by omega) hb
  have hT := trans_length m L x
  have hreps : reps m [C.v (.int .i64 0)] = ints (trans m L x 0) := by unfold reps ints ik trans; simp
  rw [eq_operator_Transpose]
  simp (disch := omega) only [obs, rC_c, rA_agg, rT_tup, rP_ptr, rW_own, rS_sb, rF_sb, uncV_cons, uncO_cons, nilV_nil, rO_ob, rN_ob, unc_cons, asI_int, asB_bool, asS_string, asSl_sl, asSl_nl, asFn_fn, asP_cp, nrm_sl, nrm_nl, need_true, ct, cf, bd_eq, natD_zero, natD_succ, natD_one, noYl_v, noYl_sl, noYl_nl, noYl_cp, noYl_fn, Bool.and_true, Bool.true_and, Bool.and_self, beqN_self, Bool.not_true, Bool.not_false, Bool.and_false, Bool.false_and, Bool.or_false, Bool.false_or, Bool.or_true, Bool.true_or, wrap_in, dlt_t, dlt_f, dle_t, dle_f, dgt_t, dgt_f, dge_t, dge_f, ibeq_t, ibeq_f, ibne_t, ibne_f, inR_int, beqN_eq, bleN_le, hi, hs, Int.toNat_natCast, hreps, ik_length, hT, Nat.mul_one, decide_true]
  rw [iter_runx (fun j : Nat => (ints (trans m L x j), (j : Int), ())) 0 (ints (trans m L x L.length), (L.length : Int), ()) L.length ?_ ?_ ?_ (by omega)]
  · simp (disch := omega) only [obs, rC_c, rA_agg, rT_tup, rP_ptr, rW_own, rS_sb, rF_sb, uncV_cons, uncO_cons, nilV_nil, rO_ob, rN_ob, unc_cons, asI_int, asB_bool, asS_string, asSl_sl, asSl_nl, asFn_fn, asP_cp, nrm_sl, nrm_nl, need_true, ct, cf, bd_eq, natD_zero, natD_succ, natD_one, noYl_v, noYl_sl, noYl_nl, noYl_cp, noYl_fn, Bool.and_true, Bool.true_and, Bool.and_self, beqN_self, Bool.not_true, Bool.not_false, Bool.and_false, Bool.false_and, Bool.or_false, Bool.false_or, Bool.or_true, Bool.true_or, wrap_in, dlt_t, dlt_f, dle_t, dle_f, dgt_t, dgt_f, dge_t, dge_f, ibeq_t, ibeq_f, ibne_t, ibne_f, inR_int, beqN_eq, bleN_le, ik_length, hT, one_div, Nat.mul_one, Nat.zero_add]
    rw [List.take_of_length_le (by rw [ik_length, hT]; omega)]
  · rfl
  · intro j hj
    have hat := fl_at rwc_length hj
    have hr := h _ (List.getElem_mem hj)
    have h6 := hr.2.2.2.2.2
    have hsum := okRow_sum hr
    have hjx : j < x.length := by omega
    have hbt := trans_bd h (by decide) hb j (by omega)
    have hvj := at0_bd (by decide) hb j
    have hlen : ∀ t, (addR (at0 x j) (trans m L x j) (L[j].sh.take t)).length = m := fun t => by rw [addR_length, hT]
    simp (disch := omega) only [obs, rC_c, rA_agg, rT_tup, rP_ptr, rW_own, rS_sb, rF_sb, uncV_cons, uncO_cons, nilV_nil, rO_ob, rN_ob, unc_cons, asI_int, asB_bool, asS_string, asSl_sl, asSl_nl, asFn_fn, asP_cp, nrm_sl, nrm_nl, need_true, ct, cf, bd_eq, natD_zero, natD_succ, natD_one, noYl_v, noYl_sl, noYl_nl, noYl_cp, noYl_fn, Bool.and_true, Bool.true_and, Bool.and_self, beqN_self, Bool.not_true, Bool.not_false, Bool.and_false, Bool.false_and, Bool.or_false, Bool.false_or, Bool.or_true, Bool.true_or, wrap_in, dlt_t, dlt_f, dle_t, dle_f, dgt_t, dgt_f, dge_t, dge_f, ibeq_t, ibeq_f, ibne_t, ibne_f, inR_int, beqN_eq, bleN_le, Int.toNat_natCast, hat, rwc, List.cons_append, List.nil_append, ik_length, hT, one_div, Nat.mul_one]
    rw [iter_runx (fun t : Nat => (ints (addR (at0 x j) (trans m L x j) (L[j].sh.take t)), (t : Int), ())) 0 (ints (trans m L x (j + 1)), (L[j].sh.length : Int), ()) L[j].sh.length ?_ ?_ ?_ (by omega)]
    · simp (disch := omega) only [obs, rC_c, rA_agg, rT_tup, rP_ptr, rW_own, rS_sb, rF_sb, uncV_cons, uncO_cons, nilV_nil, rO_ob, rN_ob, unc_cons, asI_int, asB_bool, asS_string, asSl_sl, asSl_nl, asFn_fn, asP_cp, nrm_sl, nrm_nl, need_true, ct, cf, bd_eq, natD_zero, natD_succ, natD_one, noYl_v, noYl_sl, noYl_nl, noYl_cp, noYl_fn, Bool.and_true, Bool.true_and, Bool.and_self, beqN_self, Bool.not_true, Bool.not_false, Bool.and_false, Bool.false_and, Bool.or_false, Bool.false_or, Bool.or_true, Bool.true_or, wrap_in, dlt_t, dlt_f, dle_t, dle_f, dgt_t, dgt_f, dge_t, dge_f, ibeq_t, ibeq_f, ibne_t, ibne_f, inR_int, beqN_eq, bleN_le, ik_length, hT, one_div, Nat.mul_one, Int.natCast_add, Int.natCast_one]
    · rfl
    · intro t ht
      have hat2 := fl_at shc_length ht
      obtain ⟨g1, g2, g3⟩ := hr.2.1 _ (List.getElem_mem ht)
      have hk : L[j].sh[t].1 < (addR (at0 x j) (trans m L x j) (L[j].sh.take t)).length := by rw [hlen]; exact g1
      have hu := unc_ik (kd := .i64) hk (R := Nat × List C × Int × Unit)
      have hux := unc_ik (kd := .i64) hjx (R := Nat × List C × Int × Unit)
      have hput := fun y => ik_put (kd := .i64) hk y
      have hlt := hlen t
      have hlt1 := hlen (t + 1)
      have hj0 : (0 : Int) ≤ (j : Int) * (840 * 1099511627776) := by omega
      have hbd := addR_bd (by decide) hvj (L[j].sh.take t) hj0 hbt
      have hbd1 := addR_bd (by decide) hvj (L[j].sh.take (t + 1)) hj0 hbt
      have hw := wsum_take L[j].sh t
      have hw1 := wsum_take L[j].sh (t + 1)
      rw [List.take_succ_eq_append_getElem ht, addR_snoc] at hbd1 hlt1
      rw [List.take_succ_eq_append_getElem ht] at hw1
      rw [List.take_succ_eq_append_getElem ht, addR_snoc]
      generalize addR (at0 x j) (trans m L x j) (L[j].sh.take t) = o at *
      have e1 := at0_eq hk
      have e2 := at0_eq hjx
      have hin : at0 o L[j].sh[t].1 + (L[j].sh[t].2 : Int) * at0 x j ∈ addS (at0 x j) o L[j].sh[t] := by
        unfold addS; exact List.mem_set hk _
      have b1 := hbd1 _ hin
      have b2 := mul_bd (w := (L[j].sh[t].2 : Int)) (by omega) hvj
      rw [e1] at hu
      rw [e2] at hux
      have hset : o.set L[j].sh[t].1 (at0 o L[j].sh[t].1 + (L[j].sh[t].2 : Int) * at0 x j) = addS (at0 x j) o L[j].sh[t] := rfl
      have hp := hput (at0 o L[j].sh[t].1 + (L[j].sh[t].2 : Int) * at0 x j)
      rw [hset] at hp
      have hq : IntKind.i64.wrap ((L[j].sh[t].2 : Int) * at0 x j) = (L[j].sh[t].2 : Int) * at0 x j := by
        generalize (L[j].sh[t].2 : Int) * at0 x j = q at *
        exact wrap_in (by omega) (by omega)
      have hq2 : IntKind.i64.wrap (at0 o L[j].sh[t].1 + (L[j].sh[t].2 : Int) * at0 x j) = at0 o L[j].sh[t].1 + (L[j].sh[t].2 : Int) * at0 x j := by
        generalize (L[j].sh[t].2 : Int) * at0 x j = q at *
        generalize wsum (L[j].sh.take t ++ [L[j].sh[t]]) = W at *
        exact wrap_in (by omega) (by omega)
      simp (disch := omega) only [obs, rC_c, rA_agg, rT_tup, rP_ptr, rW_own, rS_sb, rF_sb, uncV_cons, uncO_cons, nilV_nil, rO_ob, rN_ob, unc_cons, asI_int, asB_bool, asS_string, asSl_sl, asSl_nl, asFn_fn, asP_cp, nrm_sl, nrm_nl, need_true, ct, cf, bd_eq, natD_zero, natD_succ, natD_one, noYl_v, noYl_sl, noYl_nl, noYl_cp, noYl_fn, Bool.and_true, Bool.true_and, Bool.and_self, beqN_self, Bool.not_true, Bool.not_false, Bool.and_false, Bool.false_and, Bool.or_false, Bool.false_or, Bool.or_true, Bool.true_or, wrap_in, dlt_t, dlt_f, dle_t, dle_f, dgt_t, dgt_f, dge_t, dge_f, ibeq_t, ibeq_f, ibne_t, ibne_f, inR_int, beqN_eq, bleN_le, Int.toNat_natCast, Nat.mul_one, hat2, shc, List.cons_append, List.nil_append, Nat.zero_add, ik_length, hlt, hlt1, one_div, hu, hux, hq, hq2, hp, Int.natCast_add, Int.natCast_one]
    · rw [List.take_of_length_le (Nat.le_refl _), ← trans_succ m L x j hj]
      simp (disch := omega) only [obs, rC_c, rA_agg, rT_tup, rP_ptr, rW_own, rS_sb, rF_sb, uncV_cons, uncO_cons, nilV_nil, rO_ob, rN_ob, unc_cons, asI_int, asB_bool, asS_string, asSl_sl, asSl_nl, asFn_fn, asP_cp, nrm_sl, nrm_nl, need_true, ct, cf, bd_eq, natD_zero, natD_succ, natD_one, noYl_v, noYl_sl, noYl_nl, noYl_cp, noYl_fn, Bool.and_true, Bool.true_and, Bool.and_self, beqN_self, Bool.not_true, Bool.not_false, Bool.and_false, Bool.false_and, Bool.or_false, Bool.false_or, Bool.or_true, Bool.true_or, wrap_in, dlt_t, dlt_f, dle_t, dle_f, dgt_t, dgt_f, dge_t, dge_f, ibeq_t, ibeq_f, ibne_t, ibne_f, inR_int, beqN_eq, bleN_le, ik_length, hT, one_div, Nat.mul_one]
  · simp (disch := omega) only [obs, rC_c, rA_agg, rT_tup, rP_ptr, rW_own, rS_sb, rF_sb, uncV_cons, uncO_cons, nilV_nil, rO_ob, rN_ob, unc_cons, asI_int, asB_bool, asS_string, asSl_sl, asSl_nl, asFn_fn, asP_cp, nrm_sl, nrm_nl, need_true, ct, cf, bd_eq, natD_zero, natD_succ, natD_one, noYl_v, noYl_sl, noYl_nl, noYl_cp, noYl_fn, Bool.and_true, Bool.true_and, Bool.and_self, beqN_self, Bool.not_true, Bool.not_false, Bool.and_false, Bool.false_and, Bool.or_false, Bool.false_or, Bool.or_true, Bool.true_or, wrap_in, dlt_t, dlt_f, dle_t, dle_f, dgt_t, dgt_f, dge_t, dge_f, ibeq_t, ibeq_f, ibne_t, ibne_f, inR_int, beqN_eq, bleN_le, ik_length, hT, one_div, Nat.mul_one]
end Go.Proofs.YtobmbacppbkgeaaDoor
/- The program's rows of reports with one reading; the check that the program is awake. -/
namespace Go.Proofs.YtobmbacppbkgeaaDoor
open Go Go.PM Go.Grid
theorem sp_eDescribe1 (fu d : Nat) : ∃ s g, cl fu (d + 1) fn_element_Describe [I 1] [] = some ⟨V.tup [V.agg [C.v (.string s), C.v (.int .i64 8000), C.v (.int .i64 11000), C.v (.int .i64 g)], I 0], [], none⟩ := by
  rw [eq_element_Describe]; exact ⟨_, _, rfl⟩
theorem sp_check1 (fu d : Nat) (v : Int) (h : okV v) : cl fu (d + 2) fn_element_check [V.agg [.v (.int .i64 1), .v (.int .i64 v)]] [] = OK (I 0) := by
  obtain ⟨s, g, hd⟩ := sp_eDescribe1 fu d
  unfold okV at h
  rw [eq_element_check, hd]
  simp (disch := omega) only [obs, rC_c, rA_agg, rT_tup, rP_ptr, rW_own, rS_sb, rF_sb, uncV_cons, uncO_cons, nilV_nil, rO_ob, rN_ob, unc_cons, asI_int, asB_bool, asS_string, asSl_sl, asSl_nl, asFn_fn, asP_cp, nrm_sl, nrm_nl, need_true, ct, cf, bd_eq, natD_zero, natD_succ, natD_one, noYl_v, noYl_sl, noYl_nl, noYl_cp, noYl_fn, Bool.and_true, Bool.true_and, Bool.and_self, beqN_self, Bool.not_true, Bool.not_false, Bool.and_false, Bool.false_and, Bool.or_false, Bool.false_or, Bool.or_true, Bool.true_or, wrap_in, dlt_t, dlt_f, dle_t, dle_f, dgt_t, dgt_f, dge_t, dge_f, ibeq_t, ibeq_f, ibne_t, ibne_f, inR_int, beqN_eq, bleN_le, List.length_cons, List.length_nil, Nat.zero_add, Nat.reduceAdd]
theorem sp_has1 (fu d : Nat) (hf : 18446744073709551616 ≤ fu) (v : Int) (h : okV v) (c : Int) (hc : c ≠ 0) : cl fu (d + 6) fn_element_Validate_1 [I c, V.c (C.cp [C.sl 1 (prC v)])] [] = OK (B false) := by
  have hk := sp_check1 fu d v h
  obtain ⟨fu', rfl⟩ : ∃ m, fu = m + 3 := ⟨fu - 3, by omega⟩
  unfold prC
  rw [eq_element_Validate_1]
  simp (disch := omega) only [obs, rC_c, rA_agg, rT_tup, rP_ptr, rW_own, rS_sb, rF_sb, uncV_cons, uncO_cons, nilV_nil, rO_ob, rN_ob, unc_cons, asI_int, asB_bool, asS_string, asSl_sl, asSl_nl, asFn_fn, asP_cp, nrm_sl, nrm_nl, need_true, ct, cf, bd_eq, natD_zero, natD_succ, natD_one, noYl_v, noYl_sl, noYl_nl, noYl_cp, noYl_fn, Bool.and_true, Bool.true_and, Bool.and_self, beqN_self, Bool.not_true, Bool.not_false, Bool.and_false, Bool.false_and, Bool.or_false, Bool.false_or, Bool.or_true, Bool.true_or, wrap_in, dlt_t, dlt_f, dle_t, dle_f, dgt_t, dgt_f, dge_t, dge_f, ibeq_t, ibeq_f, ibne_t, ibne_f, inR_int, beqN_eq, bleN_le]
  rw [eq1_slices_ContainsFunc_sapi_Reading_api_Reading, eq1_slices_IndexFunc_sapi_Reading_api_Reading]
  repeat (rw [iter_s]; simp (disch := omega) only [obs, rC_c, rA_agg, rT_tup, rP_ptr, rW_own, rS_sb, rF_sb, uncV_cons, uncO_cons, nilV_nil, rO_ob, rN_ob, unc_cons, asI_int, asB_bool, asS_string, asSl_sl, asSl_nl, asFn_fn, asP_cp, nrm_sl, nrm_nl, need_true, ct, cf, bd_eq, natD_zero, natD_succ, natD_one, noYl_v, noYl_sl, noYl_nl, noYl_cp, noYl_fn, Bool.and_true, Bool.true_and, Bool.and_self, beqN_self, Bool.not_true, Bool.not_false, Bool.and_false, Bool.false_and, Bool.or_false, Bool.false_or, Bool.or_true, Bool.true_or, wrap_in, dlt_t, dlt_f, dle_t, dle_f, dgt_t, dgt_f, dge_t, dge_f, ibeq_t, ibeq_f, ibne_t, ibne_f, inR_int, beqN_eq, bleN_le, eq_element_Validate_1_1, hk, List.length_cons, List.length_nil, Nat.zero_add, Nat.reduceAdd, Int.toNat_zero, Nat.zero_mul, List.drop_zero, Int.zero_add, Int.natCast_one])
theorem sp_eValidate1 (fu d : Nat) (hf : 18446744073709551616 ≤ fu) (v : Int) (h : okV v) : cl fu (d + 7) fn_element_Validate [V.c (C.sl 1 (prC v))] [] = OK (I 0) := by
  have h4 := sp_has1 fu d hf v h 4 (by omega)
  have h1 := sp_has1 fu d hf v h 1 (by omega)
  obtain ⟨fu', rfl⟩ : ∃ m, fu = m + 3 := ⟨fu - 3, by omega⟩
  rw [eq_element_Validate, h4]
  simp only [obs, rC_c, rA_agg, rT_tup, rP_ptr, rW_own, rS_sb, rF_sb, uncV_cons, uncO_cons, nilV_nil, rO_ob, rN_ob, unc_cons, asI_int, asB_bool, asS_string, asSl_sl, asSl_nl, asFn_fn, asP_cp, nrm_sl, nrm_nl, need_true, ct, cf, bd_eq, natD_zero, natD_succ, natD_one, noYl_v, noYl_sl, noYl_nl, noYl_cp, noYl_fn, Bool.and_true, Bool.true_and, Bool.and_self, beqN_self, Bool.not_true, Bool.not_false, Bool.and_false, Bool.false_and, Bool.or_false, Bool.false_or, Bool.or_true, Bool.true_or]
  rw [h1]
  simp only [obs, rC_c, rA_agg, rT_tup, rP_ptr, rW_own, rS_sb, rF_sb, uncV_cons, uncO_cons, nilV_nil, rO_ob, rN_ob, unc_cons, asI_int, asB_bool, asS_string, asSl_sl, asSl_nl, asFn_fn, asP_cp, nrm_sl, nrm_nl, need_true, ct, cf, bd_eq, natD_zero, natD_succ, natD_one, noYl_v, noYl_sl, noYl_nl, noYl_cp, noYl_fn, Bool.and_true, Bool.true_and, Bool.and_self, beqN_self, Bool.not_true, Bool.not_false, Bool.and_false, Bool.false_and, Bool.or_false, Bool.false_or, Bool.or_true, Bool.true_or]
  repeat (rw [iter_s]; simp (disch := omega) only [obs, rC_c, rA_agg, rT_tup, rP_ptr, rW_own, rS_sb, rF_sb, uncV_cons, uncO_cons, nilV_nil, rO_ob, rN_ob, unc_cons, asI_int, asB_bool, asS_string, asSl_sl, asSl_nl, asFn_fn, asP_cp, nrm_sl, nrm_nl, need_true, ct, cf, bd_eq, natD_zero, natD_succ, natD_one, noYl_v, noYl_sl, noYl_nl, noYl_cp, noYl_fn, Bool.and_true, Bool.true_and, Bool.and_self, beqN_self, Bool.not_true, Bool.not_false, Bool.and_false, Bool.false_and, Bool.or_false, Bool.false_or, Bool.or_true, Bool.true_or, wrap_in, dlt_t, dlt_f, dle_t, dle_f, dgt_t, dgt_f, dge_t, dge_f, ibeq_t, ibeq_f, ibne_t, ibne_f, inR_int, beqN_eq, bleN_le, Int.natCast_one])
theorem sp_eFind1 (fu d : Nat) (hf : 18446744073709551616 ≤ fu) (v : Int) : cl fu (d + 3) fn_element_Find [V.c (C.sl 1 (prC v)), I 1] [] = OK (V.tup [I v, B true]) := by
  obtain ⟨fu', rfl⟩ : ∃ m, fu = m + 3 := ⟨fu - 3, by omega⟩
  unfold prC
  rw [eq_element_Find, eq1_slices_IndexFunc_sapi_Reading_api_Reading]
  repeat (rw [iter_s]; simp (disch := omega) only [obs, rC_c, rA_agg, rT_tup, rP_ptr, rW_own, rS_sb, rF_sb, uncV_cons, uncO_cons, nilV_nil, rO_ob, rN_ob, unc_cons, asI_int, asB_bool, asS_string, asSl_sl, asSl_nl, asFn_fn, asP_cp, nrm_sl, nrm_nl, need_true, ct, cf, bd_eq, natD_zero, natD_succ, natD_one, noYl_v, noYl_sl, noYl_nl, noYl_cp, noYl_fn, Bool.and_true, Bool.true_and, Bool.and_self, beqN_self, Bool.not_true, Bool.not_false, Bool.and_false, Bool.false_and, Bool.or_false, Bool.false_or, Bool.or_true, Bool.true_or, wrap_in, dlt_t, dlt_f, dle_t, dle_f, dgt_t, dgt_f, dge_t, dge_f, ibeq_t, ibeq_f, ibne_t, ibne_f, inR_int, beqN_eq, bleN_le, eq_element_Find_1, List.length_cons, List.length_nil, Nat.zero_add, Nat.reduceAdd, Int.toNat_zero, Nat.zero_mul, List.drop_zero, Int.zero_add, Int.natCast_one, List.drop_succ_cons])
theorem sp_Frequency (fu d : Nat) (n : Nat) (h : freq n) : cl fu (d + 1) fn_mesh_Frequency [I n] [] = OK (B true) := by
  unfold freq at h
  rw [eq_mesh_Frequency]; simp (disch := omega) only [obs, rC_c, rA_agg, rT_tup, rP_ptr, rW_own, rS_sb, rF_sb, uncV_cons, uncO_cons, nilV_nil, rO_ob, rN_ob, unc_cons, asI_int, asB_bool, asS_string, asSl_sl, asSl_nl, asFn_fn, asP_cp, nrm_sl, nrm_nl, need_true, ct, cf, bd_eq, natD_zero, natD_succ, natD_one, noYl_v, noYl_sl, noYl_nl, noYl_cp, noYl_fn, Bool.and_true, Bool.true_and, Bool.and_self, beqN_self, Bool.not_true, Bool.not_false, Bool.and_false, Bool.false_and, Bool.or_false, Bool.false_or, Bool.or_true, Bool.true_or, wrap_in, dlt_t, dlt_f, dle_t, dle_f, dgt_t, dgt_f, dge_t, dge_f, ibeq_t, ibeq_f, ibne_t, ibne_f, inR_int, beqN_eq, bleN_le]
theorem sp_Rows (fu d : Nat) (hf : 18446744073709551616 ≤ fu) (n : Nat) (h : freq n) (L : List (Pl × Int)) (hL : L.length ≤ 100) (hok : ∀ x ∈ L, okP x) (w : Int) (hw : 1 ≤ w ∧ w ≤ 1000) :
    cl fu (d + 8) fn_operator_Rows [I n, V.c (C.sl L.length (fl rpc L)), I 1, I w] [] = OK (V.tup [V.c (C.sl L.length (fl rwc (rowsF n w 0 L))), I 0]) := by
  obtain ⟨s, g, hd⟩ := sp_eDescribe1 fu (d + 6)
  have hfq := sp_Frequency fu (d + 6) n h
  have hPt := sp_Points fu (d + 2) hf n h
  rw [eq_operator_Rows, hfq]
  simp only [obs, rC_c, rA_agg, rT_tup, rP_ptr, rW_own, rS_sb, rF_sb, uncV_cons, uncO_cons, nilV_nil, rO_ob, rN_ob, unc_cons, asI_int, asB_bool, asS_string, asSl_sl, asSl_nl, asFn_fn, asP_cp, nrm_sl, nrm_nl, need_true, ct, cf, bd_eq, natD_zero, natD_succ, natD_one, noYl_v, noYl_sl, noYl_nl, noYl_cp, noYl_fn, Bool.and_true, Bool.true_and, Bool.and_self, beqN_self, Bool.not_true, Bool.not_false, Bool.and_false, Bool.false_and, Bool.or_false, Bool.false_or, Bool.or_true, Bool.true_or, hd, sp_weighted fu (d + 6) w hw, List.length_cons, List.length_nil, Nat.zero_add, Nat.reduceAdd]
  simp (disch := omega) only [obs, rC_c, rA_agg, rT_tup, rP_ptr, rW_own, rS_sb, rF_sb, uncV_cons, uncO_cons, nilV_nil, rO_ob, rN_ob, unc_cons, asI_int, asB_bool, asS_string, asSl_sl, asSl_nl, asFn_fn, asP_cp, nrm_sl, nrm_nl, need_true, ct, cf, bd_eq, natD_zero, natD_succ, natD_one, noYl_v, noYl_sl, noYl_nl, noYl_cp, noYl_fn, Bool.and_true, Bool.true_and, Bool.and_self, beqN_self, Bool.not_true, Bool.not_false, Bool.and_false, Bool.false_and, Bool.or_false, Bool.false_or, Bool.or_true, Bool.true_or, wrap_in, dlt_t, dlt_f, dle_t, dle_f, dgt_t, dgt_f, dge_t, dge_f, ibeq_t, ibeq_f, ibne_t, ibne_f, inR_int, beqN_eq, bleN_le]
  rw [iter_runx (fun j : Nat => (([] : List C), (0 : Int), (j : Int), ())) 0 ([], 0, (L.length : Int), ()) L.length ?_ ?_ ?_ (by omega)]
  · simp only [obs, rC_c, rA_agg, rT_tup, rP_ptr, rW_own, rS_sb, rF_sb, uncV_cons, uncO_cons, nilV_nil, rO_ob, rN_ob, unc_cons, asI_int, asB_bool, asS_string, asSl_sl, asSl_nl, asFn_fn, asP_cp, nrm_sl, nrm_nl, need_true, ct, cf, bd_eq, natD_zero, natD_succ, natD_one, noYl_v, noYl_sl, noYl_nl, noYl_cp, noYl_fn, Bool.and_true, Bool.true_and, Bool.and_self, beqN_self, Bool.not_true, Bool.not_false, Bool.and_false, Bool.false_and, Bool.or_false, Bool.false_or, Bool.or_true, Bool.true_or, hPt, List.length_nil, Nat.zero_div, Nat.zero_mul]
    rw [iter_runx (fun j : Nat => (([] : List C), (0 : Int), fl rwc (rowsF n w 0 (L.take j)), (j : Int), ())) 0 ([], 0, fl rwc (rowsF n w 0 L), (L.length : Int), ()) L.length ?_ ?_ ?_ (by omega)]
    · simp (disch := omega) only [obs, rC_c, rA_agg, rT_tup, rP_ptr, rW_own, rS_sb, rF_sb, uncV_cons, uncO_cons, nilV_nil, rO_ob, rN_ob, unc_cons, asI_int, asB_bool, asS_string, asSl_sl, asSl_nl, asFn_fn, asP_cp, nrm_sl, nrm_nl, need_true, ct, cf, bd_eq, natD_zero, natD_succ, natD_one, noYl_v, noYl_sl, noYl_nl, noYl_cp, noYl_fn, Bool.and_true, Bool.true_and, Bool.and_self, beqN_self, Bool.not_true, Bool.not_false, Bool.and_false, Bool.false_and, Bool.or_false, Bool.false_or, Bool.or_true, Bool.true_or, wrap_in, dlt_t, dlt_f, dle_t, dle_f, dgt_t, dgt_f, dge_t, dge_f, ibeq_t, ibeq_f, ibne_t, ibne_f, inR_int, beqN_eq, bleN_le, fl_length rwc_length, div4, rowsF_length, Nat.zero_add]
      rw [List.take_of_length_le (by rw [fl_length rwc_length, rowsF_length]; omega)]
    · rfl
    · intro j hj
      have hx := hok _ (List.getElem_mem hj)
      have hat := fl_at rpc_length hj
      have hF := sp_eFind1 fu (d + 4) hf L[j].2
      have hLo := sp_Locate fu (d + 1) hf n h L[j].1 hx.1
      have hv := validI_of hx.1
      simp only [prC] at hF
      rw [show plc L[j].1 = [.v (.int .i64 L[j].1.f), .v (.int .i64 L[j].1.a), .v (.int .i64 L[j].1.b), .v (.int .i64 L[j].1.c)] from rfl] at hLo
      rw [rowsF_take n w L j hj]
      have hl : (rowsF n w 0 (L.take j)).length = j := by rw [rowsF_length, List.length_take]; omega
      simp (disch := omega) only [obs, rC_c, rA_agg, rT_tup, rP_ptr, rW_own, rS_sb, rF_sb, uncV_cons, uncO_cons, nilV_nil, rO_ob, rN_ob, unc_cons, asI_int, asB_bool, asS_string, asSl_sl, asSl_nl, asFn_fn, asP_cp, nrm_sl, nrm_nl, need_true, ct, cf, bd_eq, natD_zero, natD_succ, natD_one, noYl_v, noYl_sl, noYl_nl, noYl_cp, noYl_fn, Bool.and_true, Bool.true_and, Bool.and_self, beqN_self, Bool.not_true, Bool.not_false, Bool.and_false, Bool.false_and, Bool.or_false, Bool.false_or, Bool.or_true, Bool.true_or, wrap_in, dlt_t, dlt_f, dle_t, dle_f, dgt_t, dgt_f, dge_t, dge_f, ibeq_t, ibeq_f, ibne_t, ibne_f, inR_int, beqN_eq, bleN_le, Int.toNat_natCast, hat, rpc, List.cons_append, List.nil_append, hF, sp_Valid fu (d + 5) hf, hv, hLo, List.length_nil, Nat.zero_div, Nat.zero_mul, fl_length rwc_length, rw_div, hl, rw_snoc, List.length_append, List.length_cons, Nat.zero_add, Int.natCast_add, Int.natCast_one]
    · have hl : (rowsF n w 0 L).length = L.length := rowsF_length _ _ _ _
      rw [List.take_of_length_le (Nat.le_refl _)]
      simp (disch := omega) only [obs, rC_c, rA_agg, rT_tup, rP_ptr, rW_own, rS_sb, rF_sb, uncV_cons, uncO_cons, nilV_nil, rO_ob, rN_ob, unc_cons, asI_int, asB_bool, asS_string, asSl_sl, asSl_nl, asFn_fn, asP_cp, nrm_sl, nrm_nl, need_true, ct, cf, bd_eq, natD_zero, natD_succ, natD_one, noYl_v, noYl_sl, noYl_nl, noYl_cp, noYl_fn, Bool.and_true, Bool.true_and, Bool.and_self, beqN_self, Bool.not_true, Bool.not_false, Bool.and_false, Bool.false_and, Bool.or_false, Bool.false_or, Bool.or_true, Bool.true_or, wrap_in, dlt_t, dlt_f, dle_t, dle_f, dgt_t, dgt_f, dge_t, dge_f, ibeq_t, ibeq_f, ibne_t, ibne_f, inR_int, beqN_eq, bleN_le, fl_length rwc_length, rw_div, hl, List.length_nil, Nat.zero_div, Nat.zero_mul]
  · rfl
  · intro j hj
    have hx := hok _ (List.getElem_mem hj)
    have hat := fl_at rpc_length hj
    have hV := sp_eValidate1 fu d hf L[j].2 hx.2
    simp only [prC] at hV
    simp (disch := omega) only [obs, rC_c, rA_agg, rT_tup, rP_ptr, rW_own, rS_sb, rF_sb, uncV_cons, uncO_cons, nilV_nil, rO_ob, rN_ob, unc_cons, asI_int, asB_bool, asS_string, asSl_sl, asSl_nl, asFn_fn, asP_cp, nrm_sl, nrm_nl, need_true, ct, cf, bd_eq, natD_zero, natD_succ, natD_one, noYl_v, noYl_sl, noYl_nl, noYl_cp, noYl_fn, Bool.and_true, Bool.true_and, Bool.and_self, beqN_self, Bool.not_true, Bool.not_false, Bool.and_false, Bool.false_and, Bool.or_false, Bool.false_or, Bool.or_true, Bool.true_or, wrap_in, dlt_t, dlt_f, dle_t, dle_f, dgt_t, dgt_f, dge_t, dge_f, ibeq_t, ibeq_f, ibne_t, ibne_f, inR_int, beqN_eq, bleN_le, Int.toNat_natCast, hat, rpc, List.cons_append, List.nil_append, hV, List.length_nil, Nat.zero_div, Nat.zero_mul, Int.natCast_add, Int.natCast_one]
  · simp (disch := omega) only [obs, rC_c, rA_agg, rT_tup, rP_ptr, rW_own, rS_sb, rF_sb, uncV_cons, uncO_cons, nilV_nil, rO_ob, rN_ob, unc_cons, asI_int, asB_bool, asS_string, asSl_sl, asSl_nl, asFn_fn, asP_cp, nrm_sl, nrm_nl, need_true, ct, cf, bd_eq, natD_zero, natD_succ, natD_one, noYl_v, noYl_sl, noYl_nl, noYl_cp, noYl_fn, Bool.and_true, Bool.true_and, Bool.and_self, beqN_self, Bool.not_true, Bool.not_false, Bool.and_false, Bool.false_and, Bool.or_false, Bool.false_or, Bool.or_true, Bool.true_or, wrap_in, dlt_t, dlt_f, dle_t, dle_f, dgt_t, dgt_f, dge_t, dge_f, ibeq_t, ibeq_f, ibne_t, ibne_f, inR_int, beqN_eq, bleN_le, List.length_nil, Nat.zero_div, Nat.zero_mul]
theorem sp_Ints1 (fu d : Nat) (hf : 18446744073709551616 ≤ fu) (v : Int) : cl fu (d + 1) fn_synoptickeep_Ints [V.c (C.sl 1 [.v (.int .i64 v)]), V.c (C.sl 1 [.v (.int .i64 v)])] [] = OK (B true) := by
  obtain ⟨fu', rfl⟩ : ∃ m, fu = m + 3 := ⟨fu - 3, by omega⟩
  rw [eq_synoptickeep_Ints]
  simp (disch := omega) only [obs, rC_c, rA_agg, rT_tup, rP_ptr, rW_own, rS_sb, rF_sb, uncV_cons, uncO_cons, nilV_nil, rO_ob, rN_ob, unc_cons, asI_int, asB_bool, asS_string, asSl_sl, asSl_nl, asFn_fn, asP_cp, nrm_sl, nrm_nl, need_true, ct, cf, bd_eq, natD_zero, natD_succ, natD_one, noYl_v, noYl_sl, noYl_nl, noYl_cp, noYl_fn, Bool.and_true, Bool.true_and, Bool.and_self, beqN_self, Bool.not_true, Bool.not_false, Bool.and_false, Bool.false_and, Bool.or_false, Bool.false_or, Bool.or_true, Bool.true_or, wrap_in, dlt_t, dlt_f, dle_t, dle_f, dgt_t, dgt_f, dge_t, dge_f, ibeq_t, ibeq_f, ibne_t, ibne_f, inR_int, beqN_eq, bleN_le]
  repeat (rw [iter_s]; simp (disch := omega) only [obs, rC_c, rA_agg, rT_tup, rP_ptr, rW_own, rS_sb, rF_sb, uncV_cons, uncO_cons, nilV_nil, rO_ob, rN_ob, unc_cons, asI_int, asB_bool, asS_string, asSl_sl, asSl_nl, asFn_fn, asP_cp, nrm_sl, nrm_nl, need_true, ct, cf, bd_eq, natD_zero, natD_succ, natD_one, noYl_v, noYl_sl, noYl_nl, noYl_cp, noYl_fn, Bool.and_true, Bool.true_and, Bool.and_self, beqN_self, Bool.not_true, Bool.not_false, Bool.and_false, Bool.false_and, Bool.or_false, Bool.false_or, Bool.or_true, Bool.true_or, wrap_in, dlt_t, dlt_f, dle_t, dle_f, dgt_t, dgt_f, dge_t, dge_f, ibeq_t, ibeq_f, ibne_t, ibne_f, inR_int, beqN_eq, bleN_le, List.length_cons, List.length_nil, Nat.zero_add, Nat.reduceAdd, Int.toNat_zero, Nat.zero_mul, List.drop_zero, Int.zero_add, Int.natCast_one, List.drop_succ_cons])
def awP : Pl := ⟨0, 630, 210, 0⟩
theorem awP_shares : ∃ i j, shares 2 awP = [(i, 420), (j, 420)] ∧ i < 42 ∧ j < 42 ∧ i ≠ j := by
  have : shares 2 awP = [((shares 2 awP).getD 0 (0, 0)).1, ((shares 2 awP).getD 1 (0, 0)).1].map fun i => (i, 420) := by kernel_rfl
  refine ⟨((shares 2 awP).getD 0 (0, 0)).1, ((shares 2 awP).getD 1 (0, 0)).1, this, ?_, ?_, ?_⟩ <;> decide
end Go.Proofs.YtobmbacppbkgeaaDoor
/- The program is awake; the law of the transposed rows, in plain words and of the program. -/
namespace Go.Proofs.YtobmbacppbkgeaaDoor
open Go Go.PM Go.Grid
theorem at0_set {o : List Int} {k : Nat} (hk : k < o.length) (a : Int) (i : Nat) : at0 (o.set k a) i = if i = k then a else at0 o i := by
  unfold at0
  rw [List.getD_eq_getElem?_getD, List.getD_eq_getElem?_getD, List.getElem?_set]
  by_cases h : k = i
  · subst h; simp [hk]
  · rw [if_neg h, if_neg (Ne.symm h)]
theorem rowsF_one (n : Nat) (w : Int) (x : Pl × Int) : rowsF n w 0 [x] = [⟨shares n x.1, x.2, w, 0⟩] := rfl
theorem sp_awake (fu d : Nat) (hf : 18446744073709551616 ≤ fu) : cl fu (d + 9) fn_synopticlaw21_awake [] [] = OK (B true) := by
  have hok : okP (awP, 10100) := ⟨by decide, by unfold okV; omega⟩
  have hR := sp_Rows fu d hf 2 (by unfold freq; omega) [(awP, 10100)] (by simp) (fun x hx => by rw [List.mem_singleton.1 hx]; exact hok) 3 (by omega)
  obtain ⟨i, j, hsh, hi, hj, hij⟩ := awP_shares
  have hrow := okRow_of (n := 2) (by unfold freq; omega) hok (w := 3) (by omega) 0
  rw [rowsF_one] at hR
  simp only [hsh] at hR hrow
  have hR : cl fu (d + 8) fn_operator_Rows [I 2, V.c (C.sl 1 [C.v (.int .i64 0), C.v (.string ⟨#[]⟩), C.v (.int .i64 0), C.v (.int .i64 0), C.v (.int .i64 630), C.v (.int .i64 210), C.v (.int .i64 0), C.sl 1 [C.v (.int .i64 1), C.v (.int .i64 10100)]]), I 1, I 3] [] =
    OK (V.tup [V.c (C.sl 1 [C.sl 2 [.v (.int .i64 i), .v (.int .i64 420), .v (.int .i64 j), .v (.int .i64 420)], .v (.int .i64 10100), .v (.int .i64 3), .v (.int .i64 0)]), I 0]) := hR
  have hx : (((List.replicate 42 (0 : Int)).set i 10090).set j 10100).length = 42 := by simp
  have hb : bd0 1099511627776 (((List.replicate 42 (0 : Int)).set i 10090).set j 10100) := by
    intro v hv
    rcases List.mem_or_eq_of_mem_set hv with hv | rfl
    · rcases List.mem_or_eq_of_mem_set hv with hv | rfl
      · have := List.eq_of_mem_replicate hv; omega
      · omega
    · omega
  have hr : ∀ r ∈ [(⟨[(i, 420), (j, 420)], 10100, 3, 0⟩ : Rw)], okRow 42 r := fun r hr => by rw [List.mem_singleton.1 hr]; exact hrow
  have hA := sp_Apply fu (d + 1) hf 42 (by omega) [⟨[(i, 420), (j, 420)], 10100, 3, 0⟩] (by simp) hr _ hx hb
  have hD := sp_Departures fu d hf 42 (by omega) [⟨[(i, 420), (j, 420)], 10100, 3, 0⟩] (by simp) hr _ hx hb
  have hdot : dotR [(i, 420), (j, 420)] (((List.replicate 42 (0 : Int)).set i 10090).set j 10100) = 8479800 := by
    simp only [dotR, List.map_cons, List.map_nil, List.sum_cons, List.sum_nil]
    rw [at0_set (by simp; omega), at0_set (by simp; omega), if_neg hij, at0_set (by simp; omega), if_pos rfl, if_pos rfl]
    rfl
  simp only [applyR, depR, List.map_cons, List.map_nil, hdot, hx] at hA hD
  have hz : putAt (ints (List.replicate 42 (0 : Int))) i [C.v (.int .i64 10090)] = ints ((List.replicate 42 (0 : Int)).set i 10090) := ik_put (by simp; omega) _
  have hz2 : putAt (ints ((List.replicate 42 (0 : Int)).set i 10090)) j [C.v (.int .i64 10100)] = ints (((List.replicate 42 (0 : Int)).set i 10090).set j 10100) := ik_put (by simp; omega) _
  have hl1 : (ints ((List.replicate 42 (0 : Int)).set i 10090)).length = 42 := by simp
  have hl2 : (ints (((List.replicate 42 (0 : Int)).set i 10090).set j 10100)).length = 42 := by simp
  have ht : List.take 42 (ints (((List.replicate 42 (0 : Int)).set i 10090).set j 10100)) = ints (((List.replicate 42 (0 : Int)).set i 10090).set j 10100) := List.take_of_length_le (by rw [hl2]; omega)
  generalize ((List.replicate 42 (0 : Int)).set i 10090).set j 10100 = X at *
  generalize (List.replicate 42 (0 : Int)).set i 10090 = Y at *
  have hI1 := sp_Ints1 fu (d + 7) hf 8479800
  have hI2 := sp_Ints1 fu (d + 7) hf 4200
  simp only [fl_cons, fl_nil, rwc, shc, List.append_nil, List.length_cons, List.length_nil, Nat.zero_add, Nat.reduceAdd, Nat.reduceMul, Int.toNat_zero, Int.toNat_one, Nat.zero_mul, List.drop_zero, Int.natCast_one, List.drop_succ_cons, List.cons_append, List.nil_append, ik_cons, ik_nil, Int.cast_ofNat_Int, hx] at hA hD
  rw [eq_synopticlaw21_awake, hR]
  rw [show [C.v (.int .i64 0), C.v (.int .i64 0), C.v (.int .i64 0), C.v (.int .i64 0), C.v (.int .i64 0), C.v (.int .i64 0), C.v (.int .i64 0), C.v (.int .i64 0), C.v (.int .i64 0), C.v (.int .i64 0), C.v (.int .i64 0), C.v (.int .i64 0), C.v (.int .i64 0), C.v (.int .i64 0), C.v (.int .i64 0), C.v (.int .i64 0), C.v (.int .i64 0), C.v (.int .i64 0), C.v (.int .i64 0), C.v (.int .i64 0), C.v (.int .i64 0), C.v (.int .i64 0), C.v (.int .i64 0), C.v (.int .i64 0), C.v (.int .i64 0), C.v (.int .i64 0), C.v (.int .i64 0), C.v (.int .i64 0), C.v (.int .i64 0), C.v (.int .i64 0), C.v (.int .i64 0), C.v (.int .i64 0), C.v (.int .i64 0), C.v (.int .i64 0), C.v (.int .i64 0), C.v (.int .i64 0), C.v (.int .i64 0), C.v (.int .i64 0), C.v (.int .i64 0), C.v (.int .i64 0), C.v (.int .i64 0), C.v (.int .i64 0)] = ints (List.replicate 42 (0 : Int)) from rfl]
  simp (disch := omega) only [obs, rC_c, rA_agg, rT_tup, rP_ptr, rW_own, rS_sb, rF_sb, uncV_cons, uncO_cons, nilV_nil, rO_ob, rN_ob, unc_cons, asI_int, asB_bool, asS_string, asSl_sl, asSl_nl, asFn_fn, asP_cp, nrm_sl, nrm_nl, need_true, ct, cf, bd_eq, natD_zero, natD_succ, natD_one, noYl_v, noYl_sl, noYl_nl, noYl_cp, noYl_fn, Bool.and_true, Bool.true_and, Bool.and_self, beqN_self, Bool.not_true, Bool.not_false, Bool.and_false, Bool.false_and, Bool.or_false, Bool.false_or, Bool.or_true, Bool.true_or, wrap_in, dlt_t, dlt_f, dle_t, dle_f, dgt_t, dgt_f, dge_t, dge_f, ibeq_t, ibeq_f, ibne_t, ibne_f, inR_int, beqN_eq, bleN_le, List.length_cons, List.length_nil, Nat.zero_add, Nat.reduceAdd, Nat.reduceMul, Int.toNat_zero, Int.toNat_one, Nat.zero_mul, List.drop_zero, Int.natCast_one, List.drop_succ_cons, List.cons_append, List.nil_append, Int.toNat_natCast, Nat.mul_one, hz, hz2, hl1, hl2, ht, hA, hD, hI1, hI2, Nat.add_zero, Nat.one_mul, show OUT = 1000000 from rfl, List.take_succ_cons, List.take_zero]
  rw [show (840 : Int) * 10100 - 8479800 = 4200 from rfl, hI2]
  simp only [obs, rC_c, rA_agg, rT_tup, rP_ptr, rW_own, rS_sb, rF_sb, uncV_cons, uncO_cons, nilV_nil, rO_ob, rN_ob, unc_cons, asI_int, asB_bool, asS_string, asSl_sl, asSl_nl, asFn_fn, asP_cp, nrm_sl, nrm_nl, need_true, ct, cf, bd_eq, natD_zero, natD_succ, natD_one, noYl_v, noYl_sl, noYl_nl, noYl_cp, noYl_fn, Bool.and_true, Bool.true_and, Bool.and_self, beqN_self, Bool.not_true, Bool.not_false, Bool.and_false, Bool.false_and, Bool.or_false, Bool.false_or, Bool.or_true, Bool.true_or]
end Go.Proofs.YtobmbacppbkgeaaDoor
/- The values of rows are linear: in plain words and of the program. -/
namespace Go.Proofs.YtobmbacppbkgeaaDoor
open Go Go.PM Go.Grid
end Go.Proofs.YtobmbacppbkgeaaDoor
/- The shares of all addresses of a place are the same, and they reproduce its weights: plain laws. -/
namespace Go.Grid
end Go.Grid
/- Numbers given at the vertices, weighed at a place and at the nodes around it: plain laws; rows that are the same. -/
namespace Go.Grid
end Go.Grid
namespace Go.Proofs.YtobmbacppbkgeaaDoor
open Go Go.PM Go.Grid
theorem shc_drop {l : List (Nat × Nat)} {j : Nat} (hj : j < l.length) : List.drop (j * 2) (fl shc l) = [.v (.int .i64 (l[j].1 : Nat)), .v (.int .i64 (l[j].2 : Nat))] ++ fl shc (l.drop (j + 1)) := fl_at shc_length hj
theorem sp_Shares (fu d : Nat) (hf : 18446744073709551616 ≤ fu) (l : List (Nat × Nat)) (hl : l.length ≤ 1000000) :
    cl fu (d + 1) fn_synopticref03_Shares [V.c (C.sl l.length (fl shc l)), V.c (C.sl l.length (fl shc l))] [] = OK (B true) := by
  rw [eq_synopticref03_Shares]
  rw [ibne_f (show (l.length : Int) = l.length from rfl)]
  simp only [obs, rC_c, rA_agg, rT_tup, rP_ptr, rW_own, rS_sb, rF_sb, uncV_cons, uncO_cons, nilV_nil, rO_ob, rN_ob, unc_cons, asI_int, asB_bool, asS_string, asSl_sl, asSl_nl, asFn_fn, asP_cp, nrm_sl, nrm_nl, need_true, ct, cf, bd_eq, natD_zero, natD_succ, natD_one, noYl_v, noYl_sl, noYl_nl, noYl_cp, noYl_fn, Bool.and_true, Bool.true_and, Bool.and_self, beqN_self, Bool.not_true, Bool.not_false, Bool.and_false, Bool.false_and, Bool.or_false, Bool.false_or, Bool.or_true, Bool.true_or]
  rw [iter_runx (fun j : Nat => (false, (j : Int), ())) 0 (false, (l.length : Int), ()) l.length ?_ ?_ ?_ (by omega)]
  · simp only [obs, rC_c, rA_agg, rT_tup, rP_ptr, rW_own, rS_sb, rF_sb, uncV_cons, uncO_cons, nilV_nil, rO_ob, rN_ob, unc_cons, asI_int, asB_bool, asS_string, asSl_sl, asSl_nl, asFn_fn, asP_cp, nrm_sl, nrm_nl, need_true, ct, cf, bd_eq, natD_zero, natD_succ, natD_one, noYl_v, noYl_sl, noYl_nl, noYl_cp, noYl_fn, Bool.and_true, Bool.true_and, Bool.and_self, beqN_self, Bool.not_true, Bool.not_false, Bool.and_false, Bool.false_and, Bool.or_false, Bool.false_or, Bool.or_true, Bool.true_or]
  · rfl
  · intro j hj
    have hat := shc_drop hj
    simp (disch := omega) only [obs, rC_c, rA_agg, rT_tup, rP_ptr, rW_own, rS_sb, rF_sb, uncV_cons, uncO_cons, nilV_nil, rO_ob, rN_ob, unc_cons, asI_int, asB_bool, asS_string, asSl_sl, asSl_nl, asFn_fn, asP_cp, nrm_sl, nrm_nl, need_true, ct, cf, bd_eq, natD_zero, natD_succ, natD_one, noYl_v, noYl_sl, noYl_nl, noYl_cp, noYl_fn, Bool.and_true, Bool.true_and, Bool.and_self, beqN_self, Bool.not_true, Bool.not_false, Bool.and_false, Bool.false_and, Bool.or_false, Bool.false_or, Bool.or_true, Bool.true_or, wrap_in, dlt_t, dlt_f, dle_t, dle_f, dgt_t, dgt_f, dge_t, dge_f, ibeq_t, ibeq_f, ibne_t, ibne_f, inR_int, beqN_eq, bleN_le, Int.toNat_natCast, hat, List.cons_append, List.nil_append, beq_self_eq_true, Int.natCast_add, Int.natCast_one]
  · simp (disch := omega) only [obs, rC_c, rA_agg, rT_tup, rP_ptr, rW_own, rS_sb, rF_sb, uncV_cons, uncO_cons, nilV_nil, rO_ob, rN_ob, unc_cons, asI_int, asB_bool, asS_string, asSl_sl, asSl_nl, asFn_fn, asP_cp, nrm_sl, nrm_nl, need_true, ct, cf, bd_eq, natD_zero, natD_succ, natD_one, noYl_v, noYl_sl, noYl_nl, noYl_cp, noYl_fn, Bool.and_true, Bool.true_and, Bool.and_self, beqN_self, Bool.not_true, Bool.not_false, Bool.and_false, Bool.false_and, Bool.or_false, Bool.false_or, Bool.or_true, Bool.true_or, wrap_in, dlt_t, dlt_f, dle_t, dle_f, dgt_t, dgt_f, dge_t, dge_f, ibeq_t, ibeq_f, ibne_t, ibne_f, inR_int, beqN_eq, bleN_le]
theorem sp_Same (fu d : Nat) (hf : 18446744073709551616 ≤ fu) (L : List Rw) (hl : L.length ≤ 1000000) (hs : ∀ r ∈ L, r.sh.length ≤ 1000000) :
    cl fu (d + 2) fn_synopticref21_Same [V.c (C.sl L.length (fl rwc L)), V.c (C.sl L.length (fl rwc L))] [] = OK (B true) := by
  rw [eq_synopticref21_Same]
  rw [ibne_f (show (L.length : Int) = L.length from rfl)]
  simp only [obs, rC_c, rA_agg, rT_tup, rP_ptr, rW_own, rS_sb, rF_sb, uncV_cons, uncO_cons, nilV_nil, rO_ob, rN_ob, unc_cons, asI_int, asB_bool, asS_string, asSl_sl, asSl_nl, asFn_fn, asP_cp, nrm_sl, nrm_nl, need_true, ct, cf, bd_eq, natD_zero, natD_succ, natD_one, noYl_v, noYl_sl, noYl_nl, noYl_cp, noYl_fn, Bool.and_true, Bool.true_and, Bool.and_self, beqN_self, Bool.not_true, Bool.not_false, Bool.and_false, Bool.false_and, Bool.or_false, Bool.false_or, Bool.or_true, Bool.true_or]
  rw [iter_runx (fun j : Nat => (false, (j : Int), ())) 0 (false, (L.length : Int), ()) L.length ?_ ?_ ?_ (by omega)]
  · simp only [obs, rC_c, rA_agg, rT_tup, rP_ptr, rW_own, rS_sb, rF_sb, uncV_cons, uncO_cons, nilV_nil, rO_ob, rN_ob, unc_cons, asI_int, asB_bool, asS_string, asSl_sl, asSl_nl, asFn_fn, asP_cp, nrm_sl, nrm_nl, need_true, ct, cf, bd_eq, natD_zero, natD_succ, natD_one, noYl_v, noYl_sl, noYl_nl, noYl_cp, noYl_fn, Bool.and_true, Bool.true_and, Bool.and_self, beqN_self, Bool.not_true, Bool.not_false, Bool.and_false, Bool.false_and, Bool.or_false, Bool.false_or, Bool.or_true, Bool.true_or]
  · rfl
  · intro j hj
    have hat := fl_at rwc_length hj
    have hS := sp_Shares fu d hf L[j].sh (hs _ (List.getElem_mem hj))
    have hb : ∀ x : Int, (x != x) = false := fun x => by simp
    simp (disch := omega) only [obs, rC_c, rA_agg, rT_tup, rP_ptr, rW_own, rS_sb, rF_sb, uncV_cons, uncO_cons, nilV_nil, rO_ob, rN_ob, unc_cons, asI_int, asB_bool, asS_string, asSl_sl, asSl_nl, asFn_fn, asP_cp, nrm_sl, nrm_nl, need_true, ct, cf, bd_eq, natD_zero, natD_succ, natD_one, noYl_v, noYl_sl, noYl_nl, noYl_cp, noYl_fn, Bool.and_true, Bool.true_and, Bool.and_self, beqN_self, Bool.not_true, Bool.not_false, Bool.and_false, Bool.false_and, Bool.or_false, Bool.false_or, Bool.or_true, Bool.true_or, wrap_in, dlt_t, dlt_f, dle_t, dle_f, dgt_t, dgt_f, dge_t, dge_f, ibeq_t, ibeq_f, ibne_t, ibne_f, inR_int, beqN_eq, bleN_le, Int.toNat_natCast, hat, rwc, List.cons_append, List.nil_append, List.drop_succ_cons, List.drop_zero, hb, hS, Int.natCast_add, Int.natCast_one]
  · simp (disch := omega) only [obs, rC_c, rA_agg, rT_tup, rP_ptr, rW_own, rS_sb, rF_sb, uncV_cons, uncO_cons, nilV_nil, rO_ob, rN_ob, unc_cons, asI_int, asB_bool, asS_string, asSl_sl, asSl_nl, asFn_fn, asP_cp, nrm_sl, nrm_nl, need_true, ct, cf, bd_eq, natD_zero, natD_succ, natD_one, noYl_v, noYl_sl, noYl_nl, noYl_cp, noYl_fn, Bool.and_true, Bool.true_and, Bool.and_self, beqN_self, Bool.not_true, Bool.not_false, Bool.and_false, Bool.false_and, Bool.or_false, Bool.false_or, Bool.or_true, Bool.true_or, wrap_in, dlt_t, dlt_f, dle_t, dle_f, dgt_t, dgt_f, dge_t, dge_f, ibeq_t, ibeq_f, ibne_t, ibne_f, inR_int, beqN_eq, bleN_le]
end Go.Proofs.YtobmbacppbkgeaaDoor
