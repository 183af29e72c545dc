/- Rules for reading what the pure machine's equations say (no condition). -/
import Derived.Test.YtepjbmlhfhahcaaPNd
import Derived.WalkKit
set_option linter.unusedVariables false
set_option linter.unusedSimpArgs false
namespace Go.PM
open Go

def bd {A R : Type} (x : A) (k : A → Option R) : Option R := k x
def natD {R : Type} (n : Nat) (a : Option R) (b : Nat → Option R) : Option R := match n with | 0 => a | m + 1 => b m
def nilV {R : Type} (xs : List V) (k : Option R) : Option R := match xs with | [] => k | _ :: _ => none
def unI {R : Type} (xs : List (List V)) (k : List V → List (List V) → Option R) : Option R := match xs with | [] => none | x :: r => k x r
def rN {R : Type} (o : PM.Obj) (t n : Nat) (k : List C → Option R) : Option R := rO o t 0 fun cs => need (Nat.beq cs.length n) (k cs)

/-- Integers of one kind as cells. -/
def ik (kd : IntKind) (l : List Int) : List C := l.map fun i => .v (.int kd i)
abbrev ints (l : List Int) : List C := ik .i64 l
/-- Pairs of integers as cells. -/
def prs : List (Int × Int) → List C
  | [] => []
  | p :: r => .v (.int .i64 p.1) :: .v (.int .i64 p.2) :: prs r

section
variable {R A B' : Type}
@[simp] theorem rC_c (c : C) (k : C → Option R) : rC (.c c) k = k c := id rfl
@[simp] theorem rA_agg (cs : List C) (k : List C → Option R) : rA (.agg cs) k = k cs := id rfl
@[simp] theorem rT_tup (vs : List V) (k : List V → Option R) : rT (.tup vs) k = k vs := id rfl
@[simp] theorem rP_ptr (s off m : Nat) (k : Option R) : rP (.ptr s off) m k = need (Nat.beq s (OUT + m) && Nat.beq off 0) k := id rfl
@[simp] theorem rW_own (s off n m : Nat) (k : Nat → Option R) : rW (.own s off n) m k = need (Nat.beq s (OUT + m) && Nat.beq off 0) (k n) := id rfl
@[simp] theorem rS_sb (t fz t' fz' : Nat) (cs : List C) (k : List C → Option R) : rS (.sb t fz cs) t' fz' k = need (Nat.beq t t' && Nat.beq fz fz') (k cs) := id rfl
@[simp] theorem uncV_cons (x : V) (r : List V) (k : V → List V → Option R) : uncV (x :: r) k = k x r := id rfl
@[simp] theorem uncO_cons (x : PM.Obj) (r : List PM.Obj) (k : PM.Obj → List PM.Obj → Option R) : uncO (x :: r) k = k x r := id rfl
@[simp] theorem unI_cons (x : List V) (r : List (List V)) (k : List V → List (List V) → Option R) : unI (x :: r) k = k x r := id rfl
@[simp] theorem nilV_nil (k : Option R) : nilV [] k = k := id rfl
@[simp] theorem rO_ob (t fz t' fz' : Nat) (cs : List C) (k : List C → Option R) : rO (.ob t fz cs) t' fz' k = need (Nat.beq t t' && Nat.beq fz fz') (k cs) := id rfl
@[simp] theorem rN_ob (t fz t' n : Nat) (cs : List C) (k : List C → Option R) : rN (.ob t fz cs) t' n k = need (Nat.beq t t' && Nat.beq fz 0) (need (Nat.beq cs.length n) (k cs)) := id rfl
@[simp] theorem unc_cons (x : C) (r : List C) (k : C → List C → Option R) : unc (x :: r) k = k x r := id rfl
@[simp] theorem asI_int (kd : IntKind) (n : Int) (k : Int → Option R) : asI kd (.v (.int kd n)) k = k n := by simp [asI]
@[simp] theorem asB_bool (b : Bool) (k : Bool → Option R) : asB (.v (.bool b)) k = k b := id rfl
@[simp] theorem asS_string (s : ByteArray) (k : ByteArray → Option R) : asS (.v (.string s)) k = k s := id rfl
@[simp] theorem asSl_sl (n : Nat) (cs : List C) (k : Nat → List C → Option R) : asSl (.sl n cs) k = k n cs := id rfl
@[simp] theorem asSl_nl (k : Nat → List C → Option R) : asSl .nl k = k 0 [] := id rfl
@[simp] theorem asFn_fn (f : FuncId) (cs : List C) (k : FuncId → List C → Option R) : asFn (.fn f cs) k = k f cs := id rfl
@[simp] theorem asP_cp (cs : List C) (k : List C → Option R) : asP (.cp cs) k = k cs := id rfl
@[simp] theorem nrm_sl (n : Nat) (cs : List C) : nrm (.sl n cs) = .sl n cs := id rfl
@[simp] theorem nrm_nl : nrm .nl = .sl 0 [] := id rfl
@[simp] theorem need_true (k : Option R) : need true k = k := id rfl
theorem ct (a b : R) : cond true a b = a := id rfl
theorem cf (a b : R) : cond false a b = b := id rfl
theorem obs {A R : Type} (a : A) (f : A → Option R) : Option.bind (some a) f = f a := id rfl
theorem need_of {b : Bool} (h : b = true) (k : Option R) : need b k = k := by subst h; rfl
@[simp] theorem bd_eq (x : A) (k : A → Option R) : bd x k = k x := id rfl
@[simp] theorem natD_zero (a : Option R) (b : Nat → Option R) : natD 0 a b = a := id rfl
@[simp] theorem natD_succ (n : Nat) (a : Option R) (b : Nat → Option R) : natD (n + 1) a b = b n := id rfl
@[simp] theorem natD_one (a : Option R) (b : Nat → Option R) : natD 1 a b = b 0 := id rfl
@[simp] theorem eqV_self (a : List V) : eqV a a = true := by simp [eqV]
@[simp] theorem noYl_int (kd : IntKind) (n : Int) (r : List V) : noYl (.c (.v (.int kd n)) :: r) = true := id rfl
@[simp] theorem noYl_v (x : Value) (r : List V) : noYl (.c (.v x) :: r) = true := id rfl
@[simp] theorem noYl_sl (n : Nat) (cs : List C) (r : List V) : noYl (.c (.sl n cs) :: r) = true := id rfl
@[simp] theorem noYl_nl (r : List V) : noYl (.c .nl :: r) = true := id rfl
@[simp] theorem noYl_cp (cs : List C) (r : List V) : noYl (.c (.cp cs) :: r) = true := id rfl
@[simp] theorem noYl_fn (f : FuncId) (cs : List C) (r : List V) : noYl (.c (.fn f cs) :: r) = true := id rfl
@[simp] theorem beqN_self (n : Nat) : Nat.beq n n = true := Nat.beq_refl n
theorem beqN_eq {a b : Nat} (h : a = b) : Nat.beq a b = true := by subst h; exact Nat.beq_refl a
theorem bleN_le {a b : Nat} (h : a ≤ b) : Nat.ble a b = true := Nat.ble_eq_true_of_le h
theorem inR_nat {k n : Nat} (h : k < n) : inR (k : Int) n = true := by simp [inR]; omega
theorem inR_int {i : Int} {n : Nat} (h0 : 0 ≤ i) (h : i < n) : inR i n = true := by simp [inR]; omega

/-! Lists of cells. -/
@[simp] theorem ik_length (kd : IntKind) (l : List Int) : (ik kd l).length = l.length := by simp [ik]
@[simp] theorem ik_nil (kd : IntKind) : ik kd [] = [] := id rfl
theorem ik_cons (kd : IntKind) (x : Int) (l : List Int) : ik kd (x :: l) = .v (.int kd x) :: ik kd l := rfl
theorem ik_append (kd : IntKind) (a b : List Int) : ik kd (a ++ b) = ik kd a ++ ik kd b := by simp [ik]
theorem ik_snoc (kd : IntKind) (a : List Int) (x : Int) : ik kd a ++ [.v (.int kd x)] = ik kd (a ++ [x]) := by simp [ik]
theorem ik_take (kd : IntKind) (k : Nat) (l : List Int) : (ik kd l).take k = ik kd (l.take k) := by simp [ik, List.map_take]
theorem ik_drop (kd : IntKind) (k : Nat) (l : List Int) : (ik kd l).drop k = ik kd (l.drop k) := by simp [ik, List.map_drop]
theorem unc_ik {kd : IntKind} {l : List Int} {k : Nat} (h : k < l.length) (f : C → List C → Option R) : unc ((ik kd l).drop k) f = f (.v (.int kd l[k])) (ik kd (l.drop (k + 1))) := by
  rw [ik_drop, List.drop_eq_getElem_cons h]
  rfl
theorem ik_put {kd : IntKind} {l : List Int} {k : Nat} (h : k < l.length) (x : Int) : putAt (ik kd l) k [.v (.int kd x)] = ik kd (l.set k x) := by
  unfold putAt
  rw [List.set_eq_take_append_cons_drop, if_pos h, ik_take, ik_drop]
  simp [ik]
theorem putAt_length {cs xs : List C} {k : Nat} (h : k + xs.length ≤ cs.length) : (putAt cs k xs).length = cs.length := by
  unfold putAt; simp; omega
@[simp] theorem prs_length (l : List (Int × Int)) : (prs l).length = l.length * 2 := by
  induction l with
  | nil => rfl
  | cons p r ih => simp [prs, ih]; omega
theorem prs_snoc (l : List (Int × Int)) (a b : Int) : prs l ++ [.v (.int .i64 a), .v (.int .i64 b)] = prs (l ++ [(a, b)]) := by
  induction l with
  | nil => rfl
  | cons p r ih => simp [prs, ih]
theorem prs_drop (l : List (Int × Int)) (k : Nat) : (prs l).drop (k * 2) = prs (l.drop k) := by
  induction k generalizing l with
  | zero => simp
  | succ k ih =>
    cases l with
    | nil => simp [prs]
    | cons p r => rw [Nat.succ_mul]; simp [prs, ih]
theorem unc_prs {l : List (Int × Int)} {k : Nat} (h : k < l.length) (f : C → List C → Option R) : unc ((prs l).drop (k * 2)) f = f (.v (.int .i64 l[k].1)) (.v (.int .i64 l[k].2) :: prs (l.drop (k + 1))) := by
  rw [prs_drop, List.drop_eq_getElem_cons h]
  rfl

/-! Loops. -/
/-- A loop whose states are known. -/
theorem iter_run {A : Type} {body : A → Option (Nat × A)} (f : Nat → A) (e : Nat) (z : A) : ∀ (k i fu : Nat), (∀ j, i ≤ j → j < i + k → body (f j) = some (0, f (j + 1))) → body (f (i + k)) = some (e + 1, z) → k < fu → iter body fu (f i) = some (e, z)
  | 0, i, fu, _, he, hf => by
    cases fu with
    | zero => omega
    | succ fu => simp only [iter, Nat.add_zero] at he ⊢; rw [he]; rfl
  | k + 1, i, fu, h, he, hf => by
    cases fu with
    | zero => omega
    | succ fu =>
      simp only [iter]
      rw [h i (Nat.le_refl i) (by omega)]
      exact iter_run f e z k (i + 1) fu (fun j h1 h2 => h j (by omega) (by omega)) (by rw [← he]; congr 2; omega) (by omega)
/-- A loop by what holds ahead of each round. -/
theorem iter_inv {A : Type} {body : A → Option (Nat × A)} (J : Nat → A → Prop) (Q : Nat → A → Prop) : ∀ (k i fu : Nat) (x : A), J i x → (∀ j y, i ≤ j → j < i + k → J j y → ∃ y', (body y = some (0, y') ∧ J (j + 1) y') ∨ ∃ e, body y = some (e + 1, y') ∧ Q e y') → (∀ y, J (i + k) y → ∃ e y', body y = some (e + 1, y') ∧ Q e y') → k < fu → ∃ e z, iter body fu x = some (e, z) ∧ Q e z
  | 0, i, fu, x, hx, _, he, hf => by
    cases fu with
    | zero => omega
    | succ fu =>
      obtain ⟨e, y, h1, h2⟩ := he x hx
      exact ⟨e, y, by simp only [iter]; rw [h1]; rfl, h2⟩
  | k + 1, i, fu, x, hx, h, he, hf => by
    cases fu with
    | zero => omega
    | succ fu =>
      obtain ⟨y, h1 | ⟨e, h1, h2⟩⟩ := h i x (Nat.le_refl i) (by omega) hx
      · obtain ⟨e, z, h3, h4⟩ := iter_inv J Q k (i + 1) fu y h1.2 (fun j y' p q => h j y' (by omega) (by omega)) (fun y' hy => he y' (by rw [show i + (k + 1) = i + 1 + k by omega]; exact hy)) (by omega)
        refine ⟨e, z, ?_, h4⟩
        simp only [iter]
        rw [h1.1]
        exact h3
      · exact ⟨e, y, by simp only [iter]; rw [h1]; rfl, h2⟩
/-- A loop by what holds ahead of each round, and a measure. -/
theorem iter_meas {A : Type} {body : A → Option (Nat × A)} (J : A → Prop) (m : A → Nat) (Q : Nat → A → Prop) (h : ∀ y, J y → (∃ y', body y = some (0, y') ∧ J y' ∧ m y' < m y) ∨ ∃ e z, body y = some (e + 1, z) ∧ Q e z) : ∀ (fu : Nat) (x : A), J x → m x < fu → ∃ e z, iter body fu x = some (e, z) ∧ Q e z
  | 0, _, _, hf => by omega
  | fu + 1, x, hx, hf => by
    rcases h x hx with ⟨y, h1, h2, h3⟩ | ⟨e, z, h1, h2⟩
    · obtain ⟨e, z, h4, h5⟩ := iter_meas J m Q h fu y h2 (by omega)
      exact ⟨e, z, by simp only [iter]; rw [h1]; exact h4, h5⟩
    · exact ⟨e, z, by simp only [iter]; rw [h1]; rfl, h2⟩
/-- A range over a function whose states are known. -/
theorem overK_run {I' A : Type} {body : I' → A → Option (Nat × A)} (xs : List I') (f : Nat → A) : (∀ j (h : j < xs.length), body xs[j] (f j) = some (0, f (j + 1))) → overK body xs (f 0) = some (0, f xs.length) := by
  suffices H : ∀ (ys : List I') (i : Nat), (∀ j (h : j < ys.length), body ys[j] (f (i + j)) = some (0, f (i + j + 1))) → overK body ys (f i) = some (0, f (i + ys.length)) by
    intro h
    have := H xs 0 (fun j hj => by simpa using h j hj)
    simpa using this
  intro ys
  induction ys with
  | nil => intro i _; rfl
  | cons y r ih =>
    intro i h
    have h0 := h 0 (by simp)
    simp only [List.getElem_cons_zero, Nat.add_zero] at h0
    simp only [overK]
    rw [h0]
    have := ih (i + 1) (fun j hj => by
      have := h (j + 1) (by simp; omega)
      rw [show i + 1 + j = i + (j + 1) by omega]
      simpa using this)
    simp only [List.length_cons, Option.bind_some]
    rw [this]
    congr 3; omega
end

theorem iter_one {A : Type} {body : A → Option (Nat × A)} {fu : Nat} {x z : A} {e : Nat} (hf : 0 < fu) (h : body x = some (e + 1, z)) : iter body fu x = some (e, z) := by
  cases fu with
  | zero => omega
  | succ fu => simp only [iter]; rw [h]; rfl
theorem iter_next {A : Type} {body : A → Option (Nat × A)} {fu : Nat} {x z : A} (h : body x = some (0, z)) : iter body (fu + 1) x = iter body fu z := by
  simp only [iter]; rw [h]; rfl

/-! Bits. -/
theorem and_mask {kd : IntKind} (hk : 0 < kd.bits) (x k : Nat) (h : k ≤ kd.bits - 1) : (BitVec.ofInt kd.bits (x : Int) &&& BitVec.ofInt kd.bits ((2 ^ k - 1 : Nat) : Int)).toNat = x % 2 ^ k := by
  rw [BitVec.toNat_and]
  have hp : 2 ^ k - 1 < 2 ^ kd.bits := Nat.lt_of_lt_of_le (Nat.sub_one_lt (by have := Nat.two_pow_pos k; omega)) (Nat.pow_le_pow_right (by omega) (by omega))
  have e1 : (BitVec.ofInt kd.bits (x : Int)).toNat = x % 2 ^ kd.bits := by simp
  have e2 : (BitVec.ofInt kd.bits ((2 ^ k - 1 : Nat) : Int)).toNat = 2 ^ k - 1 := by rw [BitVec.ofInt_natCast, BitVec.toNat_ofNat, Nat.mod_eq_of_lt hp]
  rw [e1, e2, Nat.and_two_pow_sub_one_eq_mod]
  exact Nat.mod_mod_of_dvd _ (Nat.pow_dvd_pow 2 (by omega))
theorem and_one {kd : IntKind} (hk : 1 < kd.bits) (x : Nat) : (BitVec.ofInt kd.bits (x : Int) &&& BitVec.ofInt kd.bits 1).toNat = x % 2 :=
  and_mask (kd := kd) (by omega) x 1 (by omega)
theorem fdiv_pow (x k : Nat) : Int.fdiv (x : Int) (2 ^ k) = ((x / 2 ^ k : Nat) : Int) := by
  rw [show ((2 : Int) ^ k) = ((2 ^ k : Nat) : Int) by simp]
  exact Int.ofNat_fdiv x (2 ^ k) |>.symm
theorem lt_nat (a b : Nat) : decide ((a : Int) < (b : Int)) = decide (a < b) := by simp
theorem lt_yes {a b : Int} (h : a < b) : decide (a < b) = true := by simpa using h
theorem lt_no {a b : Int} (h : ¬ a < b) : decide (a < b) = false := by simpa using h

end Go.PM
