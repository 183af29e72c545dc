/- Parts put together: W, H, Za, Zb, Zc, Zd, Mg, Ze, Zf, Zg, Zh, Zi, Zj, Zk, Zl, Zm, Zn, Zo, Zp, Zq, Zr, Zs. -/
import Derived.Test.YthblmpoheobcbaaDoorJ5
import Derived.Test.YthblmpoheobcbaaDoorEq
import Derived.Test.YthblmpoheobcbaaDoorPrim
set_option linter.unusedSimpArgs false
set_option linter.unusedVariables false
/- Rules whose conditions simp can have shown by omega; lists of records as cells. -/
namespace Go.PM
open Go
theorem wrap_in {x : Int} (h1 : -9223372036854775808 ≤ x) (h2 : x ≤ 9223372036854775807) : IntKind.i64.wrap x = x := IntWalk.i64_in x ⟨by omega, by omega⟩
theorem dlt_t {a b : Int} (h : a < b) : decide (a < b) = true := decide_eq_true h
theorem dlt_f {a b : Int} (h : b ≤ a) : decide (a < b) = false := decide_eq_false (by omega)
theorem dle_t {a b : Int} (h : a ≤ b) : decide (a ≤ b) = true := decide_eq_true h
theorem dle_f {a b : Int} (h : b < a) : decide (a ≤ b) = false := decide_eq_false (by omega)
theorem dgt_t {a b : Int} (h : b < a) : decide (a > b) = true := decide_eq_true h
theorem dgt_f {a b : Int} (h : a ≤ b) : decide (a > b) = false := decide_eq_false (by omega)
theorem dge_t {a b : Int} (h : b ≤ a) : decide (a ≥ b) = true := decide_eq_true h
theorem dge_f {a b : Int} (h : a < b) : decide (a ≥ b) = false := decide_eq_false (by omega)
theorem ibeq_t {a b : Int} (h : a = b) : (a == b) = true := beq_iff_eq.2 h
theorem ibeq_f {a b : Int} (h : a ≠ b) : (a == b) = false := beq_eq_false_iff_ne.2 h
theorem ibne_t {a b : Int} (h : a ≠ b) : (a != b) = true := bne_iff_ne.2 h
theorem ibne_f {a b : Int} (h : a = b) : (a != b) = false := by subst h; simp
def fl {A : Type} (e : A → List C) (l : List A) : List C := l.flatMap e
section
variable {A : Type} {e : A → List C} {m : Nat}
@[simp] theorem fl_nil : fl e [] = [] := rfl
theorem fl_cons (x : A) (l : List A) : fl e (x :: l) = e x ++ fl e l := by simp [fl]
theorem fl_append (l l' : List A) : fl e (l ++ l') = fl e l ++ fl e l' := by simp [fl]
theorem fl_snoc (l : List A) (x : A) : fl e l ++ e x = fl e (l ++ [x]) := by simp [fl]
theorem fl_length (h : ∀ x, (e x).length = m) : ∀ l : List A, (fl e l).length = l.length * m
  | [] => by simp [fl]
  | x :: l => by rw [fl_cons, List.length_append, h, fl_length h l, List.length_cons, Nat.succ_mul]; omega
theorem fl_drop (h : ∀ x, (e x).length = m) : ∀ (k : Nat) (l : List A), (fl e l).drop (k * m) = fl e (l.drop k)
  | 0, l => by simp
  | k + 1, [] => by simp [fl]
  | k + 1, x :: l => by
    rw [fl_cons, Nat.succ_mul, Nat.add_comm, List.drop_append]
    rw [show (e x).drop (m + k * m) = [] from List.drop_eq_nil_of_le (by rw [h]; omega), h, Nat.add_sub_cancel_left, List.nil_append, fl_drop h k l]
    rfl
theorem fl_at (h : ∀ x, (e x).length = m) {k : Nat} {l : List A} (hk : k < l.length) : (fl e l).drop (k * m) = e l[k] ++ fl e (l.drop (k + 1)) := by
  rw [fl_drop h, List.drop_eq_getElem_cons hk, fl_cons]
end
theorem iter_runx {A : Type} {body : A → Option (Nat × A)} {x : A} {fu : Nat} (f : Nat → A) (e : Nat) (z : A) (k : Nat) (hx : x = f 0) (h : ∀ j, j < k → body (f j) = some (0, f (j + 1))) (he : body (f k) = some (e + 1, z)) (hf : k < fu) : iter body fu x = some (e, z) := by
  rw [hx]; exact iter_run f e z k 0 fu (fun j _ hj => h j (by omega)) (by rw [Nat.zero_add]; exact he) hf
end Go.PM
/- Rules that keep simp at what comes first: nothing behind it is looked at (attribute [local congr] in the texts that use them). -/
namespace Go.PM
open Go
def hdt {A : Type} (x : A) : A := x
theorem hdt_eq {A : Type} (x : A) : hdt x = x := id rfl
theorem out0 : Nat.beq 1000000 (OUT + 0) = true := id rfl
theorem out1 : Nat.beq 1000001 (OUT + 1) = true := id rfl
theorem out2 : Nat.beq 1000002 (OUT + 2) = true := id rfl
section
variable {R A B' : Type}
theorem hd_bind {x x' : Option A} {k : A → Option B'} (h : hdt x = x') : x.bind k = x'.bind k := by rw [← h]; rfl
theorem hd_need {b b' : Bool} {k : Option R} (h : hdt b = b') : need b k = need b' k := by rw [← h]; rfl
theorem hd_cond {b b' : Bool} {x y : R} (h : hdt b = b') : (bif b then x else y) = (bif b' then x else y) := by rw [← h]; rfl
theorem hd_unc {c c' : List C} {k : C → List C → Option R} (h : hdt c = c') : unc c k = unc c' k := by rw [← h]; rfl
theorem hd_uncV {c c' : List V} {k : V → List V → Option R} (h : hdt c = c') : uncV c k = uncV c' k := by rw [← h]; rfl
theorem hd_uncO {c c' : List PM.Obj} {k : PM.Obj → List PM.Obj → Option R} (h : hdt c = c') : uncO c k = uncO c' k := by rw [← h]; rfl
theorem hd_unI {c c' : List (List V)} {k : List V → List (List V) → Option R} (h : hdt c = c') : unI c k = unI c' k := by rw [← h]; rfl
theorem hd_asI {kd : IntKind} {c c' : C} {k : Int → Option R} (h : hdt c = c') : asI kd c k = asI kd c' k := by rw [← h]; rfl
theorem hd_asB {c c' : C} {k : Bool → Option R} (h : hdt c = c') : asB c k = asB c' k := by rw [← h]; rfl
theorem hd_asS {c c' : C} {k : ByteArray → Option R} (h : hdt c = c') : asS c k = asS c' k := by rw [← h]; rfl
theorem hd_asSl {c c' : C} {k : Nat → List C → Option R} (h : hdt c = c') : asSl c k = asSl c' k := by rw [← h]; rfl
theorem hd_asFn {c c' : C} {k : FuncId → List C → Option R} (h : hdt c = c') : asFn c k = asFn c' k := by rw [← h]; rfl
theorem hd_asP {c c' : C} {k : List C → Option R} (h : hdt c = c') : asP c k = asP c' k := by rw [← h]; rfl
theorem hd_asYF {c c' : C} {ky : Nat → Option R} {k : FuncId → List C → Option R} (h : hdt c = c') : asYF c ky k = asYF c' ky k := by rw [← h]; rfl
theorem hd_rC {x x' : V} {k : C → Option R} (h : hdt x = x') : rC x k = rC x' k := by rw [← h]; rfl
theorem hd_rA {x x' : V} {k : List C → Option R} (h : hdt x = x') : rA x k = rA x' k := by rw [← h]; rfl
theorem hd_rT {x x' : V} {k : List V → Option R} (h : hdt x = x') : rT x k = rT x' k := by rw [← h]; rfl
theorem hd_rG {x x' : V} {k : List V → Option R} (h : hdt x = x') : rG x k = rG x' k := by rw [← h]; rfl
theorem hd_rP {x x' : V} {m : Nat} {k : Option R} (h : hdt x = x') : rP x m k = rP x' m k := by rw [← h]; rfl
theorem hd_rW {x x' : V} {m : Nat} {k : Nat → Option R} (h : hdt x = x') : rW x m k = rW x' m k := by rw [← h]; rfl
theorem hd_rO {o o' : PM.Obj} {t fz : Nat} {k : List C → Option R} (h : hdt o = o') : rO o t fz k = rO o' t fz k := by rw [← h]; rfl
theorem hd_rN {o o' : PM.Obj} {t n : Nat} {k : List C → Option R} (h : hdt o = o') : rN o t n k = rN o' t n k := by rw [← h]; rfl
theorem hd_rF {o o' : PM.Obj} {t : Nat} {k : Nat → List C → Option R} (h : hdt o = o') : rF o t k = rF o' t k := by rw [← h]; rfl
theorem hd_rS {o o' : PM.Obj} {t fz : Nat} {k : List C → Option R} (h : hdt o = o') : rS o t fz k = rS o' t fz k := by rw [← h]; rfl
theorem hd_nilV {x x' : List V} {k : Option R} (h : hdt x = x') : nilV x k = nilV x' k := by rw [← h]; rfl
theorem hd_natD {n n' : Nat} {a : Option R} {b : Nat → Option R} (h : hdt n = n') : natD n a b = natD n' a b := by rw [← h]; rfl
theorem hd_bd {x x' : A} {k : A → Option R} (h : hdt x = x') : bd x k = bd x' k := by rw [← h]; rfl
theorem hd_iter {body : A → Option (Nat × A)} {fu : Nat} {x x' : A} (h : hdt x = x') : iter body fu x = iter body fu x' := by rw [← h]; rfl
theorem hd_over {I : Type} {body : I → A → Option (Nat × A)} {l l' : List I} {x x' : A} (h1 : hdt l = l') (h : hdt x = x') : overK body l x = overK body l' x' := by rw [← h, ← h1]; rfl
theorem hd_sliceC {sz : Nat} {lo lo' hi hi' : Option V} {c c' : C} {k : C → Option R} (h1 : hdt lo = lo') (h2 : hdt hi = hi') (h : hdt c = c') : sliceC sz lo hi c k = sliceC sz lo' hi' c' k := by rw [← h, ← h1, ← h2]; rfl
theorem hd_asMp {c c' : C} {kt et : TypeId} {ka va : Option Nat} {k : List (List C × List C) → Option R} (h : hdt c = c') : asMp c kt et ka va k = asMp c' kt et ka va k := by rw [← h]; rfl
end
end Go.PM
/- Numbers that are read from a list (chapter 16). -/
namespace Go.Proofs.YthblmpoheobcbaaDoor
open Go Go.PM
def srcC (l : List Int) (i : Nat) : List C := [C.sl l.length (ints l), C.v (.int .i64 (i : Nat))]
abbrev srcO (l : List Int) (i : Nat) : PM.Obj := .ob ty_synoptickeep_Src 0 (srcC l i)
theorem sp_Mod (fu d : Nat) (a n : Int) (hn : 1 ≤ n ∧ n ≤ 4611686018427387904) : ∃ v, cl fu (d + 1) fn_synoptickeep_Mod [I a, I n] [] = some ⟨I v, [], none⟩ ∧ 0 ≤ v ∧ v < n := by
  rw [eq_synoptickeep_Mod]
  have h1 : -n < Int.tmod a n := by have := Int.lt_tmod_of_pos a (show 0 < n by omega); omega
  have h2 : Int.tmod a n < n := Int.tmod_lt_of_pos a (by omega)
  simp only [show decide (n < 1) = false from decide_eq_false (by omega), cf, show (n == 0) = false by rw [beq_eq_false_iff_ne]; omega, Bool.not_false, need_true]
  by_cases h : Int.tmod a n < 0
  · rw [decide_eq_true h, IntWalk.i64_in _ ⟨by omega, by omega⟩]
    exact ⟨_, rfl, by omega, by omega⟩
  · rw [decide_eq_false h]
    exact ⟨_, rfl, by omega, h2⟩
theorem sp_New (fu d : Nat) (l : List Int) : cl fu (d + 1) fn_synoptickeep_New [V.c (C.sl l.length (ints l))] [] = some ⟨V.ptr 1000000 0, [srcO (l.take 2000) 0], none⟩ := by
  rw [eq_synoptickeep_New]
  unfold srcO srcC
  by_cases h : 2000 < l.length
  · simp only [if_pos (show (2000 : Int) < (l.length : Int) by omega), decide_eq_true (show (0 : Int) ≤ 2000 by omega), decide_eq_true (show (2000 : Int) ≤ (l.length : Int) by omega), Bool.and_self, need_true, show (2000 : Int).toNat = 2000 from rfl, Nat.mul_one, ik_take, List.length_take, Nat.min_eq_left (Nat.le_of_lt h)]
    rfl
  · simp only [if_neg (show ¬ (2000 : Int) < (l.length : Int) by omega), decide_eq_true (show (0 : Int) ≤ (l.length : Int) by omega), decide_eq_true (Int.le_refl (l.length : Int)), Bool.and_self, need_true, Int.toNat_natCast, Nat.mul_one, ik_take, List.take_length, List.take_of_length_le (show l.length ≤ 2000 by omega)]
    rfl
theorem sp_Raw (fu d : Nat) (l : List Int) (i : Nat) (hl : l.length ≤ 2000) : ∃ (v : Int) (j : Nat), cl fu (d + 1) fn_synoptickeep_Src_Raw [V.ptr 1000000 0] [srcO l i] = some ⟨I v, [srcO l j], none⟩ := by
  unfold srcO srcC
  rw [eq_synoptickeep_Src_Raw]
  simp only [asSl_sl]
  by_cases h : i < l.length
  · rw [decide_eq_false (show ¬ (i : Int) ≥ (l.length : Int) by omega)]
    simp only [cf]
    rw [IntWalk.i64_in ((i : Int) + 1) ⟨by omega, by omega⟩, show (i : Int) + 1 - 1 = i by omega, IntWalk.i64_in (i : Int) ⟨by omega, by omega⟩]
    simp only [inR_nat h, need_true, Int.toNat_natCast, Nat.mul_one, unc_ik h, asI_int]
    exact ⟨l[i], i + 1, by simp⟩
  · rw [decide_eq_true (show (i : Int) ≥ (l.length : Int) by omega)]
    exact ⟨0, i, rfl⟩
theorem sp_N (fu d : Nat) (l : List Int) (i : Nat) (hl : l.length ≤ 2000) (n : Int) (hn : 1 ≤ n ∧ n ≤ 4611686018427387904) :
    ∃ (v : Int) (j : Nat), cl fu (d + 2) fn_synoptickeep_Src_N [V.ptr 1000000 0, I n] [srcO l i] = some ⟨I v, [srcO l j], none⟩ ∧ 0 ≤ v ∧ v < n := by
  obtain ⟨w, j, h1⟩ := sp_Raw fu d l i hl
  obtain ⟨v, h2, h3, h4⟩ := sp_Mod fu d w n hn
  refine ⟨v, j, ?_, h3, h4⟩
  unfold srcO srcC at h1 ⊢
  rw [eq_synoptickeep_Src_N, h1]
  simp only [obs, uncO_cons, rO_ob, beqN_self, Bool.and_self, need_true, List.length_cons, List.length_nil, Nat.zero_add, Nat.reduceAdd, unc_cons, asI_int, rC_c, h2]
theorem sp_Range (fu d : Nat) (l : List Int) (i : Nat) (hl : l.length ≤ 2000) (lo hi : Int) (h : lo ≤ hi) (hb : -2305843009213693952 ≤ lo ∧ hi ≤ 2305843009213693951) :
    ∃ (v : Int) (j : Nat), cl fu (d + 3) fn_synoptickeep_Src_Range [V.ptr 1000000 0, I lo, I hi] [srcO l i] = some ⟨I v, [srcO l j], none⟩ ∧ lo ≤ v ∧ v ≤ hi := by
  obtain ⟨v, j, h1, h2, h3⟩ := sp_N fu d l i hl (hi - lo + 1) ⟨by omega, by omega⟩
  refine ⟨lo + v, j, ?_, by omega, by omega⟩
  unfold srcO srcC at h1 ⊢
  rw [eq_synoptickeep_Src_Range, IntWalk.i64_in (hi - lo) ⟨by omega, by omega⟩, IntWalk.i64_in (hi - lo + 1) ⟨by omega, by omega⟩, h1]
  simp only [obs, uncO_cons, rO_ob, beqN_self, Bool.and_self, need_true, List.length_cons, List.length_nil, Nat.zero_add, Nat.reduceAdd, unc_cons, asI_int, rC_c]
  rw [IntWalk.i64_in (lo + v) ⟨by omega, by omega⟩]
theorem sp_Pick (fu d : Nat) (l : List Int) (i : Nat) (hl : l.length ≤ 2000) (q : List Int) (hq : 1 ≤ q.length ∧ q.length ≤ 1000000) :
    ∃ (v : Int) (j : Nat), cl fu (d + 3) fn_synoptickeep_Src_Pick [V.ptr 1000000 0, V.c (C.sl q.length (ints q))] [srcO l i] = some ⟨I v, [srcO l j], none⟩ ∧ v ∈ q := by
  obtain ⟨v, j, h1, h2, h3⟩ := sp_N fu d l i hl (q.length : Int) ⟨by omega, by omega⟩
  obtain ⟨k, rfl⟩ : ∃ k : Nat, v = k := ⟨v.toNat, by omega⟩
  have hk : k < q.length := by omega
  refine ⟨q[k], j, ?_, List.getElem_mem hk⟩
  unfold srcO srcC at h1 ⊢
  rw [eq_synoptickeep_Src_Pick, h1]
  simp only [obs, uncO_cons, rO_ob, beqN_self, Bool.and_self, need_true, List.length_cons, List.length_nil, Nat.zero_add, Nat.reduceAdd, unc_cons, asI_int, rC_c, inR_nat hk, Int.toNat_natCast, Nat.mul_one, unc_ik hk]
def rng (c : Int) : Int × Int := [(8000, 11000), (1800, 3300), (1800, 3300), (-1000, 1000), (-1000, 1000), (900, 1700), (2000, 3200), (2400, 3400), (2000, 3000), (4400, 6200), (2000, 2900)].getD (c - 1).toNat (0, 0)
theorem cases11 {p : Int → Prop} (h : p 1 ∧ p 2 ∧ p 3 ∧ p 4 ∧ p 5 ∧ p 6 ∧ p 7 ∧ p 8 ∧ p 9 ∧ p 10 ∧ p 11) (c : Int) (hc : 1 ≤ c ∧ c ≤ 11) : p c := by
  obtain ⟨h1, h2, h3, h4, h5, h6, h7, h8, h9, h10, h11⟩ := h
  have : c = 1 ∨ c = 2 ∨ c = 3 ∨ c = 4 ∨ c = 5 ∨ c = 6 ∨ c = 7 ∨ c = 8 ∨ c = 9 ∨ c = 10 ∨ c = 11 := by omega
  rcases this with rfl | rfl | rfl | rfl | rfl | rfl | rfl | rfl | rfl | rfl | rfl <;> assumption
theorem rng_bounds (c : Int) (hc : 1 ≤ c ∧ c ≤ 11) : -1000 ≤ (rng c).1 ∧ (rng c).1 + 400 ≤ (rng c).2 ∧ (rng c).2 ≤ 11000 :=
  cases11 (p := fun c => -1000 ≤ (rng c).1 ∧ (rng c).1 + 400 ≤ (rng c).2 ∧ (rng c).2 ≤ 11000) (by decide) c hc
abbrev OK (v : V) : Option Out := some ⟨v, [], none⟩
theorem rng1 : rng 1 = (8000, 11000) := rfl
end Go.Proofs.YthblmpoheobcbaaDoor
namespace Go.Grid
end Go.Grid
/- Lists of readings, validated (chapter 16). -/
namespace Go.Proofs.YthblmpoheobcbaaDoor
open Go Go.PM Go.Grid
theorem iter_bind_ex {A B : Type} {body : A → Option (Nat × A)} {fu : Nat} {x : A} {K : Nat × A → Option B} (R : Option B → Prop) (J : Nat → A → Prop) (Q : A → Prop) (e k : Nat) (hx : J 0 x)
    (h : ∀ j y, j < k → J j y → ∃ y', body y = some (0, y') ∧ J (j + 1) y') (he : ∀ y, J k y → ∃ z, body y = some (e + 1, z) ∧ Q z) (hf : k < fu) (hK : ∀ z, Q z → R (K (e, z))) : R ((iter body fu x).bind K) := by
  have key : ∀ (n fu : Nat) (y : A), n ≤ k → J (k - n) y → n < fu → ∃ z, iter body fu y = some (e, z) ∧ Q z := by
    intro n
    induction n with
    | zero =>
      intro fu y _ hy hfu
      obtain ⟨z, h1, h2⟩ := he y hy
      obtain ⟨m, rfl⟩ : ∃ m, fu = m + 1 := ⟨fu - 1, by omega⟩
      exact ⟨z, by simp [iter, h1], h2⟩
    | succ n ih =>
      intro fu y hn hy hfu
      obtain ⟨y', h1, h2⟩ := h (k - (n + 1)) y (by omega) hy
      rw [show k - (n + 1) + 1 = k - n by omega] at h2
      obtain ⟨m, rfl⟩ : ∃ m, fu = m + 1 := ⟨fu - 1, by omega⟩
      obtain ⟨z, h3, h4⟩ := ih m y' (by omega) h2 (by omega)
      exact ⟨z, by simp [iter, h1, h3], h4⟩
  obtain ⟨z, h1, h2⟩ := key k fu x (Nat.le_refl _) (by rw [Nat.sub_self]; exact hx) hf
  rw [h1]
  exact hK z h2
def rdc (x : Int × Int) : List C := [.v (.int .i64 x.1), .v (.int .i64 x.2)]
theorem rdc_length (x : Int × Int) : (rdc x).length = 2 := rfl
def okRd (x : Int × Int) : Prop := (1 ≤ x.1 ∧ x.1 ≤ 11) ∧ (rng x.1).1 ≤ x.2 ∧ x.2 ≤ (rng x.1).2
def okRs (l : List (Int × Int)) : Prop := l.length ≤ 11 ∧ (∀ x ∈ l, okRd x) ∧ l.Pairwise fun a b => a.1 < b.1
def fd : List (Int × Int) → Option Int
  | [] => none
  | x :: l => if x.1 = 1 then some x.2 else fd l
section
variable (fu d : Nat)
theorem sp_eDescribe (c : Int) (hc : 1 ≤ c ∧ c ≤ 11) : ∃ s g, cl fu (d + 1) fn_element_Describe [I c] [] = some ⟨V.tup [V.agg [C.v (.string s), C.v (.int .i64 (rng c).1), C.v (.int .i64 (rng c).2), C.v (.int .i64 g)], I 0], [], none⟩ := by
  refine cases11 (p := fun c => ∃ s g, cl fu (d + 1) fn_element_Describe [I c] [] = some ⟨V.tup [V.agg [C.v (.string s), C.v (.int .i64 (rng c).1), C.v (.int .i64 (rng c).2), C.v (.int .i64 g)], I 0], [], none⟩) ?_ c hc
  refine ⟨?_, ?_, ?_, ?_, ?_, ?_, ?_, ?_, ?_, ?_, ?_⟩ <;> (rw [eq_element_Describe]; exact ⟨_, _, rfl⟩)
theorem sp_check {x : Int × Int} (h : okRd x) : cl fu (d + 2) fn_element_check [V.agg (rdc x)] [] = OK (I 0) := by
  obtain ⟨s, g, hd⟩ := sp_eDescribe fu d x.1 h.1
  obtain ⟨_, h1, h2⟩ := h
  unfold rdc
  rw [eq_element_check, hd]
  simp (disch := omega) only [obs, rC_c, rA_agg, rT_tup, rP_ptr, rW_own, rS_sb, rF_sb, uncV_cons, uncO_cons, nilV_nil, rO_ob, rN_ob, unc_cons, asI_int, asB_bool, asS_string, asSl_sl, asSl_nl, asFn_fn, asP_cp, nrm_sl, nrm_nl, need_true, ct, cf, bd_eq, natD_zero, natD_succ, natD_one, noYl_v, noYl_sl, noYl_nl, noYl_cp, noYl_fn, Bool.and_true, Bool.true_and, Bool.and_self, beqN_self, Bool.not_true, Bool.not_false, Bool.and_false, Bool.false_and, Bool.or_false, Bool.false_or, Bool.or_true, Bool.true_or, wrap_in, dlt_t, dlt_f, dle_t, dle_f, dgt_t, dgt_f, dge_t, dge_f, ibeq_t, ibeq_f, ibne_t, ibne_f, inR_int, beqN_eq, bleN_le, List.length_cons, List.length_nil, Nat.zero_add, Nat.reduceAdd]
variable (hf : 18446744073709551616 ≤ fu)
include hf
theorem sp_index_none (k : Nat) (c : C) (l : List (Int × Int)) (hl : l.length ≤ 1000) (hp : ∀ x ∈ l, cl fu d k [V.agg (rdc x), V.c c] [] = OK (B false)) :
    cl fu (d + 1) fn_slices_IndexFunc_sapi_Reading_api_Reading [V.c (.sl l.length (fl rdc l)), V.c (C.fn k [c])] [] = OK (I (-1)) := by
  rw [eq1_slices_IndexFunc_sapi_Reading_api_Reading]
  rw [iter_runx (fun j : Nat => ((0 : Int), ((j : Nat) : Int), ())) 0 ((0 : Int), (l.length : Int), ()) l.length ?_ ?_ ?_ (by omega)]
  · simp only [obs, rC_c, rA_agg, rT_tup, rP_ptr, rW_own, rS_sb, rF_sb, uncV_cons, uncO_cons, nilV_nil, rO_ob, rN_ob, unc_cons, asI_int, asB_bool, asS_string, asSl_sl, asSl_nl, asFn_fn, asP_cp, nrm_sl, nrm_nl, need_true, ct, cf, bd_eq, natD_zero, natD_succ, natD_one, noYl_v, noYl_sl, noYl_nl, noYl_cp, noYl_fn, Bool.and_true, Bool.true_and, Bool.and_self, beqN_self, Bool.not_true, Bool.not_false, Bool.and_false, Bool.false_and, Bool.or_false, Bool.false_or, Bool.or_true, Bool.true_or]
  · rfl
  · intro j hj
    have h := hp _ (List.getElem_mem hj)
    have hat := fl_at rdc_length hj
    unfold rdc at h
    simp (disch := omega) only [obs, rC_c, rA_agg, rT_tup, rP_ptr, rW_own, rS_sb, rF_sb, uncV_cons, uncO_cons, nilV_nil, rO_ob, rN_ob, unc_cons, asI_int, asB_bool, asS_string, asSl_sl, asSl_nl, asFn_fn, asP_cp, nrm_sl, nrm_nl, need_true, ct, cf, bd_eq, natD_zero, natD_succ, natD_one, noYl_v, noYl_sl, noYl_nl, noYl_cp, noYl_fn, Bool.and_true, Bool.true_and, Bool.and_self, beqN_self, Bool.not_true, Bool.not_false, Bool.and_false, Bool.false_and, Bool.or_false, Bool.false_or, Bool.or_true, Bool.true_or, wrap_in, dlt_t, dlt_f, dle_t, dle_f, dgt_t, dgt_f, dge_t, dge_f, ibeq_t, ibeq_f, ibne_t, ibne_f, inR_int, beqN_eq, bleN_le, Int.toNat_natCast, hat, rdc, List.cons_append, List.nil_append, h, Int.natCast_add, Int.natCast_one]
  · simp (disch := omega) only [obs, rC_c, rA_agg, rT_tup, rP_ptr, rW_own, rS_sb, rF_sb, uncV_cons, uncO_cons, nilV_nil, rO_ob, rN_ob, unc_cons, asI_int, asB_bool, asS_string, asSl_sl, asSl_nl, asFn_fn, asP_cp, nrm_sl, nrm_nl, need_true, ct, cf, bd_eq, natD_zero, natD_succ, natD_one, noYl_v, noYl_sl, noYl_nl, noYl_cp, noYl_fn, Bool.and_true, Bool.true_and, Bool.and_self, beqN_self, Bool.not_true, Bool.not_false, Bool.and_false, Bool.false_and, Bool.or_false, Bool.false_or, Bool.or_true, Bool.true_or, wrap_in, dlt_t, dlt_f, dle_t, dle_f, dgt_t, dgt_f, dge_t, dge_f, ibeq_t, ibeq_f, ibne_t, ibne_f, inR_int, beqN_eq, bleN_le]
theorem sp_has (l : List (Int × Int)) (h : okRs l) (c : Int) (hc : c ≠ 0) : cl fu (d + 6) fn_element_Validate_1 [I c, V.c (C.cp [C.sl l.length (fl rdc l)])] [] = OK (B false) := by
  have hix := sp_index_none fu (d + 3) hf fn_element_Validate_1_1 (C.cp [C.v (.int .i64 c)]) l (by have := h.1; omega) (fun x hx => by
    have hk := sp_check fu d (h.2.1 x hx)
    unfold rdc at hk ⊢
    rw [eq_element_Validate_1_1, hk]
    simp (disch := omega) only [obs, rC_c, rA_agg, rT_tup, rP_ptr, rW_own, rS_sb, rF_sb, uncV_cons, uncO_cons, nilV_nil, rO_ob, rN_ob, unc_cons, asI_int, asB_bool, asS_string, asSl_sl, asSl_nl, asFn_fn, asP_cp, nrm_sl, nrm_nl, need_true, ct, cf, bd_eq, natD_zero, natD_succ, natD_one, noYl_v, noYl_sl, noYl_nl, noYl_cp, noYl_fn, Bool.and_true, Bool.true_and, Bool.and_self, beqN_self, Bool.not_true, Bool.not_false, Bool.and_false, Bool.false_and, Bool.or_false, Bool.false_or, Bool.or_true, Bool.true_or, wrap_in, dlt_t, dlt_f, dle_t, dle_f, dgt_t, dgt_f, dge_t, dge_f, ibeq_t, ibeq_f, ibne_t, ibne_f, inR_int, beqN_eq, bleN_le])
  rw [eq_element_Validate_1]
  simp only [obs, rC_c, rA_agg, rT_tup, rP_ptr, rW_own, rS_sb, rF_sb, uncV_cons, uncO_cons, nilV_nil, rO_ob, rN_ob, unc_cons, asI_int, asB_bool, asS_string, asSl_sl, asSl_nl, asFn_fn, asP_cp, nrm_sl, nrm_nl, need_true, ct, cf, bd_eq, natD_zero, natD_succ, natD_one, noYl_v, noYl_sl, noYl_nl, noYl_cp, noYl_fn, Bool.and_true, Bool.true_and, Bool.and_self, beqN_self, Bool.not_true, Bool.not_false, Bool.and_false, Bool.false_and, Bool.or_false, Bool.false_or, Bool.or_true, Bool.true_or]
  rw [eq1_slices_ContainsFunc_sapi_Reading_api_Reading, hix]
  simp (disch := omega) only [obs, rC_c, rA_agg, rT_tup, rP_ptr, rW_own, rS_sb, rF_sb, uncV_cons, uncO_cons, nilV_nil, rO_ob, rN_ob, unc_cons, asI_int, asB_bool, asS_string, asSl_sl, asSl_nl, asFn_fn, asP_cp, nrm_sl, nrm_nl, need_true, ct, cf, bd_eq, natD_zero, natD_succ, natD_one, noYl_v, noYl_sl, noYl_nl, noYl_cp, noYl_fn, Bool.and_true, Bool.true_and, Bool.and_self, beqN_self, Bool.not_true, Bool.not_false, Bool.and_false, Bool.false_and, Bool.or_false, Bool.false_or, Bool.or_true, Bool.true_or, wrap_in, dlt_t, dlt_f, dle_t, dle_f, dgt_t, dgt_f, dge_t, dge_f, ibeq_t, ibeq_f, ibne_t, ibne_f, inR_int, beqN_eq, bleN_le]
theorem sp_eValidate (l : List (Int × Int)) (h : okRs l) : cl fu (d + 7) fn_element_Validate [V.c (C.sl l.length (fl rdc l))] [] = OK (I 0) := by
  have h4 := sp_has fu d hf l h 4 (by omega)
  have h1 := sp_has fu d hf l h 1 (by omega)
  have hle := h.1
  rw [eq_element_Validate, h4]
  simp only [obs, rC_c, rA_agg, rT_tup, rP_ptr, rW_own, rS_sb, rF_sb, uncV_cons, uncO_cons, nilV_nil, rO_ob, rN_ob, unc_cons, asI_int, asB_bool, asS_string, asSl_sl, asSl_nl, asFn_fn, asP_cp, nrm_sl, nrm_nl, need_true, ct, cf, bd_eq, natD_zero, natD_succ, natD_one, noYl_v, noYl_sl, noYl_nl, noYl_cp, noYl_fn, Bool.and_true, Bool.true_and, Bool.and_self, beqN_self, Bool.not_true, Bool.not_false, Bool.and_false, Bool.false_and, Bool.or_false, Bool.false_or, Bool.or_true, Bool.true_or]
  rw [h1]
  simp only [obs, rC_c, rA_agg, rT_tup, rP_ptr, rW_own, rS_sb, rF_sb, uncV_cons, uncO_cons, nilV_nil, rO_ob, rN_ob, unc_cons, asI_int, asB_bool, asS_string, asSl_sl, asSl_nl, asFn_fn, asP_cp, nrm_sl, nrm_nl, need_true, ct, cf, bd_eq, natD_zero, natD_succ, natD_one, noYl_v, noYl_sl, noYl_nl, noYl_cp, noYl_fn, Bool.and_true, Bool.true_and, Bool.and_self, beqN_self, Bool.not_true, Bool.not_false, Bool.and_false, Bool.false_and, Bool.or_false, Bool.false_or, Bool.or_true, Bool.true_or]
  rw [iter_runx (fun j : Nat => ((0 : Int), (((j + 1 : Nat)) : Int), ())) 0 ((0 : Int), ((l.length - 1 + 1 : Nat) : Int), ()) (l.length - 1) ?_ ?_ ?_ (by omega)]
  · simp only [obs, rC_c, rA_agg, rT_tup, rP_ptr, rW_own, rS_sb, rF_sb, uncV_cons, uncO_cons, nilV_nil, rO_ob, rN_ob, unc_cons, asI_int, asB_bool, asS_string, asSl_sl, asSl_nl, asFn_fn, asP_cp, nrm_sl, nrm_nl, need_true, ct, cf, bd_eq, natD_zero, natD_succ, natD_one, noYl_v, noYl_sl, noYl_nl, noYl_cp, noYl_fn, Bool.and_true, Bool.true_and, Bool.and_self, beqN_self, Bool.not_true, Bool.not_false, Bool.and_false, Bool.false_and, Bool.or_false, Bool.false_or, Bool.or_true, Bool.true_or]
  · rfl
  · intro j hj
    have hat := fl_at rdc_length (show j < l.length by omega)
    have hat1 := fl_at rdc_length (show j + 1 < l.length by omega)
    have hlt := List.pairwise_iff_getElem.1 h.2.2 j (j + 1) (by omega) (by omega) (by omega)
    have hs : ((j + 1 : Nat) : Int) - 1 = j := by omega
    simp (disch := omega) only [obs, rC_c, rA_agg, rT_tup, rP_ptr, rW_own, rS_sb, rF_sb, uncV_cons, uncO_cons, nilV_nil, rO_ob, rN_ob, unc_cons, asI_int, asB_bool, asS_string, asSl_sl, asSl_nl, asFn_fn, asP_cp, nrm_sl, nrm_nl, need_true, ct, cf, bd_eq, natD_zero, natD_succ, natD_one, noYl_v, noYl_sl, noYl_nl, noYl_cp, noYl_fn, Bool.and_true, Bool.true_and, Bool.and_self, beqN_self, Bool.not_true, Bool.not_false, Bool.and_false, Bool.false_and, Bool.or_false, Bool.false_or, Bool.or_true, Bool.true_or, wrap_in, dlt_t, dlt_f, dle_t, dle_f, dgt_t, dgt_f, dge_t, dge_f, ibeq_t, ibeq_f, ibne_t, ibne_f, inR_int, beqN_eq, bleN_le, hs, Int.toNat_natCast, hat, hat1, rdc, List.cons_append, List.nil_append]
    rfl
  · simp (disch := omega) only [obs, rC_c, rA_agg, rT_tup, rP_ptr, rW_own, rS_sb, rF_sb, uncV_cons, uncO_cons, nilV_nil, rO_ob, rN_ob, unc_cons, asI_int, asB_bool, asS_string, asSl_sl, asSl_nl, asFn_fn, asP_cp, nrm_sl, nrm_nl, need_true, ct, cf, bd_eq, natD_zero, natD_succ, natD_one, noYl_v, noYl_sl, noYl_nl, noYl_cp, noYl_fn, Bool.and_true, Bool.true_and, Bool.and_self, beqN_self, Bool.not_true, Bool.not_false, Bool.and_false, Bool.false_and, Bool.or_false, Bool.false_or, Bool.or_true, Bool.true_or, wrap_in, dlt_t, dlt_f, dle_t, dle_f, dgt_t, dgt_f, dge_t, dge_f, ibeq_t, ibeq_f, ibne_t, ibne_f, inR_int, beqN_eq, bleN_le]
end
end Go.Proofs.YthblmpoheobcbaaDoor
/- The readings of a name and an element: which changes are slow, which are spikes (chapter 16). -/
namespace Go.Proofs.YthblmpoheobcbaaDoor
open Go Go.PM
attribute [local congr] hd_bind hd_need hd_cond hd_unc hd_uncV hd_uncO hd_unI hd_asI hd_asB hd_asS hd_asSl hd_asFn hd_asP hd_rC hd_rA hd_rT hd_rG hd_rP hd_rO hd_rN hd_rF hd_rS hd_rW hd_nilV hd_natD hd_bd hd_iter hd_over hd_sliceC hd_asMp hd_asYF
structure Pt where
  i : Int
  t : Int
  v : Int
def ptC (x : Pt) : List C := [.v (.int .i64 x.i), .v (.int .i64 x.t), .v (.int .i64 x.v)]
theorem ptC_length (x : Pt) : (ptC x).length = 3 := rfl
def okP (x : Pt) : Prop := (0 ≤ x.t ∧ x.t ≤ 52595999) ∧ -1000 ≤ x.v ∧ x.v ≤ 11000
def szI (a b : Int) : Int := if b - a > a - b then b - a else a - b
def slowB (a b : Pt) (s : Int) : Bool := decide (szI a.v b.v ≤ s * Int.tdiv (b.t - a.t + 60 - 1) 60)
def spikeB (a b c : Pt) (p : Int) : Bool := ((decide (b.v - a.v > p) && decide (b.v - c.v > p)) || (decide (a.v - b.v > p) && decide (c.v - b.v > p))) && decide (szI a.v c.v ≤ p)
def okS (f : Nat → Pt) (n : Nat) (s : Int) (la i : Nat) : Bool := slowB (f la) (f i) s || (decide (i + 1 < n) && slowB (f i) (f (i + 1)) s)
def lastAt (f : Nat → Pt) (n : Nat) (s : Int) : Nat → Nat
  | 0 => 0
  | j + 1 => if okS f n s (lastAt f n s j) (j + 1) then j + 1 else lastAt f n s j
def badS (f : Nat → Pt) (n : Nat) (s : Int) : Nat → Bool
  | 0 => false
  | j + 1 => !okS f n s (lastAt f n s j) (j + 1)
def badP (f : Nat → Pt) (n : Nat) (p : Int) : Nat → Bool
  | 0 => false
  | j + 1 => decide (j + 2 < n) && spikeB (f j) (f (j + 1)) (f (j + 2)) p
def badK (f : Nat → Pt) (n : Nat) (s p : Int) (j : Nat) : Bool := (decide (s > 0) && badS f n s j) || (decide (p > 0) && badP f n p j)
theorem lastAt_le (f : Nat → Pt) (n : Nat) (s : Int) : ∀ j, lastAt f n s j ≤ j
  | 0 => Nat.le_refl _
  | j + 1 => by
    simp only [lastAt]
    split
    · exact Nat.le_refl _
    · have := lastAt_le f n s j; omega
section
variable (fu d : Nat)
theorem sp_size (a b : Pt) (ha : okP a) (hb : okP b) : cl fu (d + 1) fn_timeline_size [V.agg (ptC a), V.agg (ptC b)] [] = OK (I (szI a.v b.v)) := by
  obtain ⟨⟨a1, a2⟩, a3, a4⟩ := ha
  obtain ⟨⟨b1, b2⟩, b3, b4⟩ := hb
  unfold ptC
  rw [eq_timeline_size]
  simp (disch := omega) only [hdt_eq, obs, rC_c, rA_agg, rT_tup, rP_ptr, rW_own, rS_sb, rF_sb, uncV_cons, uncO_cons, nilV_nil, rO_ob, rN_ob, unc_cons, asI_int, asB_bool, asS_string, asSl_sl, asSl_nl, asFn_fn, asP_cp, nrm_sl, nrm_nl, need_true, ct, cf, bd_eq, natD_zero, natD_succ, natD_one, noYl_v, noYl_sl, noYl_nl, noYl_cp, noYl_fn, Bool.and_true, Bool.true_and, Bool.and_self, beqN_self, Bool.not_true, Bool.not_false, Bool.and_false, Bool.false_and, Bool.or_false, Bool.false_or, Bool.or_true, Bool.true_or, wrap_in, dlt_t, dlt_f, dle_t, dle_f, dgt_t, dgt_f, dge_t, dge_f, ibeq_t, ibeq_f, ibne_t, ibne_f, inR_int, beqN_eq, bleN_le]
  rfl
theorem hours_bounds {x : Int} (h : -52595999 ≤ x ∧ x ≤ 52595999) : -1000000 ≤ Int.tdiv (x + 60 - 1) 60 ∧ Int.tdiv (x + 60 - 1) 60 ≤ 1000000 := by
  have h1 := Int.mul_tdiv_add_tmod (x + 60 - 1) 60
  have h2 : -60 < Int.tmod (x + 60 - 1) 60 := Int.lt_tmod_of_pos _ (by omega)
  have h3 : Int.tmod (x + 60 - 1) 60 < 60 := Int.tmod_lt_of_pos _ (by omega)
  omega
theorem mul_bounds {s x : Int} (hs : 0 ≤ s ∧ s ≤ 10000) (hx : -1000000 ≤ x ∧ x ≤ 1000000) : -10000000000 ≤ s * x ∧ s * x ≤ 10000000000 := by
  have h1 : s * x ≤ s * 1000000 := Int.mul_le_mul_of_nonneg_left hx.2 hs.1
  have h2 : s * (-1000000) ≤ s * x := Int.mul_le_mul_of_nonneg_left hx.1 hs.1
  omega
theorem sp_slow (a b : Pt) (s : Int) (ha : okP a) (hb : okP b) (hs : 0 ≤ s ∧ s ≤ 10000) : cl fu (d + 2) fn_timeline_slow [V.agg (ptC a), V.agg (ptC b), I s] [] = OK (B (slowB a b s)) := by
  have h1 := sp_size fu d a b ha hb
  obtain ⟨⟨a1, a2⟩, a3, a4⟩ := ha
  obtain ⟨⟨b1, b2⟩, b3, b4⟩ := hb
  have hh := hours_bounds (x := b.t - a.t) ⟨by omega, by omega⟩
  have hm := mul_bounds hs hh
  unfold ptC at h1 ⊢
  rw [eq_timeline_slow]
  simp (disch := omega) only [hdt_eq, obs, rC_c, rA_agg, rT_tup, rP_ptr, rW_own, rS_sb, rF_sb, uncV_cons, uncO_cons, nilV_nil, rO_ob, rN_ob, unc_cons, asI_int, asB_bool, asS_string, asSl_sl, asSl_nl, asFn_fn, asP_cp, nrm_sl, nrm_nl, need_true, ct, cf, bd_eq, natD_zero, natD_succ, natD_one, noYl_v, noYl_sl, noYl_nl, noYl_cp, noYl_fn, Bool.and_true, Bool.true_and, Bool.and_self, beqN_self, Bool.not_true, Bool.not_false, Bool.and_false, Bool.false_and, Bool.or_false, Bool.false_or, Bool.or_true, Bool.true_or, wrap_in, dlt_t, dlt_f, dle_t, dle_f, dgt_t, dgt_f, dge_t, dge_f, ibeq_t, ibeq_f, ibne_t, ibne_f, inR_int, beqN_eq, bleN_le, h1]
  rfl
theorem sp_spike (a b c : Pt) (p : Int) (ha : okP a) (hb : okP b) (hc : okP c) : cl fu (d + 2) fn_timeline_spike [V.agg (ptC a), V.agg (ptC b), V.agg (ptC c), I p] [] = OK (B (spikeB a b c p)) := by
  have h1 := sp_size fu d a c ha hc
  obtain ⟨⟨a1, a2⟩, a3, a4⟩ := ha
  obtain ⟨⟨b1, b2⟩, b3, b4⟩ := hb
  obtain ⟨⟨c1, c2⟩, c3, c4⟩ := hc
  unfold ptC at h1 ⊢
  rw [eq_timeline_spike]
  unfold spikeB
  by_cases e1 : p < b.v - a.v <;> by_cases e2 : p < b.v - c.v <;> by_cases e3 : p < a.v - b.v <;> by_cases e4 : p < c.v - b.v <;>
    (simp (disch := omega) only [hdt_eq, obs, rC_c, rA_agg, rT_tup, rP_ptr, rW_own, rS_sb, rF_sb, uncV_cons, uncO_cons, nilV_nil, rO_ob, rN_ob, unc_cons, asI_int, asB_bool, asS_string, asSl_sl, asSl_nl, asFn_fn, asP_cp, nrm_sl, nrm_nl, need_true, ct, cf, bd_eq, natD_zero, natD_succ, natD_one, noYl_v, noYl_sl, noYl_nl, noYl_cp, noYl_fn, Bool.and_true, Bool.true_and, Bool.and_self, beqN_self, Bool.not_true, Bool.not_false, Bool.and_false, Bool.false_and, Bool.or_false, Bool.false_or, Bool.or_true, Bool.true_or, wrap_in, dgt_t, dgt_f, h1]; try rfl)
end
end Go.Proofs.YthblmpoheobcbaaDoor
/- The steps of a line (chapter 16). -/
namespace Go.Proofs.YthblmpoheobcbaaDoor
open Go Go.PM
attribute [local congr] hd_bind hd_need hd_cond hd_unc hd_uncV hd_uncO hd_unI hd_asI hd_asB hd_asS hd_asSl hd_asFn hd_asP hd_rC hd_rA hd_rT hd_rG hd_rP hd_rO hd_rN hd_rF hd_rS hd_rW hd_nilV hd_natD hd_bd hd_iter hd_over hd_sliceC hd_asMp hd_asYF
def blC (l : List Bool) : List C := l.map fun b => .v (.bool b)
theorem blC_length (l : List Bool) : (blC l).length = l.length := by simp [blC]
theorem blC_at {l : List Bool} {k : Nat} (h : k < l.length) : List.drop k (blC l) = C.v (.bool l[k]) :: blC (l.drop (k + 1)) := by
  unfold blC
  rw [← List.map_drop, List.drop_eq_getElem_cons h, List.map_cons]
theorem blC_put {l : List Bool} {k : Nat} (h : k < l.length) (b : Bool) : putAt (blC l) k [C.v (.bool b)] = blC (l.set k b) := by
  unfold putAt blC
  rw [List.set_eq_take_append_cons_drop, if_pos h]
  simp [List.map_take, List.map_drop]
theorem reps_blC (n : Nat) : reps n [C.v (.bool false)] = blC (List.replicate n false) := by
  unfold reps blC
  simp
def fOf (l : List Pt) (i : Nat) : Pt := l.getD i ⟨0, 0, 0⟩
theorem fOf_at {l : List Pt} {i : Nat} (h : i < l.length) : l[i] = fOf l i := by
  unfold fOf; rw [List.getD_eq_getElem?_getD, List.getElem?_eq_getElem h]; rfl
theorem fOf_ok {l : List Pt} (h : ∀ x ∈ l, okP x) {i : Nat} (hi : i < l.length) : okP (fOf l i) := by
  rw [← fOf_at hi]; exact h _ (List.getElem_mem hi)
theorem pt_at {l : List Pt} {i : Nat} (h : i < l.length) : List.drop (i * 3) (fl ptC l) = ptC (fOf l i) ++ fl ptC (l.drop (i + 1)) := by
  rw [fl_at ptC_length h, fOf_at h]
def marks (l : List Pt) (s : Int) (j : Nat) : List Bool := (List.range l.length).map fun k => decide (k < j + 1) && badS (fOf l) l.length s k
theorem marks_length (l : List Pt) (s : Int) (j : Nat) : (marks l s j).length = l.length := by simp [marks]
theorem marks_zero (l : List Pt) (s : Int) : marks l s 0 = List.replicate l.length false := by
  unfold marks
  apply List.ext_getElem?
  intro i
  rw [List.getElem?_map, List.getElem?_replicate]
  by_cases h : i < l.length
  · rw [List.getElem?_range h, if_pos h]
    cases i with
    | zero => rfl
    | succ i => simp
  · rw [if_neg h, List.getElem?_eq_none_iff.2 (by simpa using h)]; rfl
theorem marks_succ {l : List Pt} {s : Int} {j : Nat} (hj : j + 1 < l.length) (b : Bool) (hb : badS (fOf l) l.length s (j + 1) = b) : marks l s (j + 1) = if b then (marks l s j).set (j + 1) true else marks l s j := by
  subst hb
  apply List.ext_getElem?
  intro i
  by_cases h : i < l.length
  · have e1 : (marks l s (j + 1))[i]? = some (decide (i < j + 2) && badS (fOf l) l.length s i) := by simp [marks, List.getElem?_range h]
    have e2 : (marks l s j)[i]? = some (decide (i < j + 1) && badS (fOf l) l.length s i) := by simp [marks, List.getElem?_range h]
    rw [e1]
    by_cases hi : i = j + 1
    · subst hi
      split
      · rename_i hb
        rw [List.getElem?_set_self (by rw [marks_length]; exact h), hb]; simp
      · rename_i hb
        rw [e2]
        simp at hb
        simp [hb]
    · have e3 : decide (i < j + 2) = decide (i < j + 1) := by
        rw [decide_eq_decide]; omega
      rw [e3, ← e2]
      split
      · rw [List.getElem?_set_ne (Ne.symm hi)]
      · rfl
  · rw [List.getElem?_eq_none_iff.2 (by rw [marks_length]; omega)]
    split
    · rw [List.getElem?_eq_none_iff.2 (by rw [List.length_set, marks_length]; omega)]
    · rw [List.getElem?_eq_none_iff.2 (by rw [marks_length]; omega)]
section
variable (fu d : Nat) (hf : 18446744073709551616 ≤ fu)
include hf
set_option maxHeartbeats 1000000 in
theorem sp_steps (l : List Pt) (hl : 1 ≤ l.length ∧ l.length ≤ 1000) (h : ∀ x ∈ l, okP x) (s : Int) (hs : 0 ≤ s ∧ s ≤ 10000) :
    cl fu (d + 3) fn_timeline_steps [V.c (C.sl l.length (fl ptC l)), I s] [] = OK (V.c (C.sl l.length (blC ((List.range l.length).map (badS (fOf l) l.length s))))) := by
  rw [eq_timeline_steps]
  simp (disch := omega) only [hdt_eq, obs, rC_c, rA_agg, rT_tup, rP_ptr, rW_own, rS_sb, rF_sb, uncV_cons, uncO_cons, nilV_nil, rO_ob, rN_ob, unc_cons, asI_int, asB_bool, asS_string, asSl_sl, asSl_nl, asFn_fn, asP_cp, nrm_sl, nrm_nl, need_true, ct, cf, bd_eq, natD_zero, natD_succ, natD_one, noYl_v, noYl_sl, noYl_nl, noYl_cp, noYl_fn, Bool.and_true, Bool.true_and, Bool.and_self, beqN_self, Bool.not_true, Bool.not_false, Bool.and_false, Bool.false_and, Bool.or_false, Bool.false_or, Bool.or_true, Bool.true_or, wrap_in, dlt_t, dlt_f, dle_t, dle_f, dgt_t, dgt_f, dge_t, dge_f, ibeq_t, ibeq_f, ibne_t, ibne_f, inR_int, beqN_eq, bleN_le, Int.toNat_natCast, reps_blC, blC_length, List.length_replicate, Nat.mul_one]
  rw [iter_runx (fun j : Nat => (blC (marks l s j), ((lastAt (fOf l) l.length s j : Nat) : Int), ((j + 1 : Nat) : Int), ())) 0 (blC (marks l s (l.length - 1)), ((lastAt (fOf l) l.length s (l.length - 1) : Nat) : Int), ((l.length - 1 + 1 : Nat) : Int), ()) (l.length - 1) ?_ ?_ ?_ (by omega)]
  · have e1 : marks l s (l.length - 1) = (List.range l.length).map (badS (fOf l) l.length s) := by
      unfold marks
      apply List.map_congr_left
      intro k hk
      rw [List.mem_range] at hk
      rw [decide_eq_true (show k < l.length - 1 + 1 by omega), Bool.true_and]
    rw [e1]
    have e2 : (blC ((List.range l.length).map (badS (fOf l) l.length s))).length = l.length := by rw [blC_length]; simp
    have e3 : List.take l.length (blC ((List.range l.length).map (badS (fOf l) l.length s))) = blC ((List.range l.length).map (badS (fOf l) l.length s)) := List.take_of_length_le (by omega)
    simp (disch := omega) only [hdt_eq, obs, rC_c, rA_agg, rT_tup, rP_ptr, rW_own, rS_sb, rF_sb, uncV_cons, uncO_cons, nilV_nil, rO_ob, rN_ob, unc_cons, asI_int, asB_bool, asS_string, asSl_sl, asSl_nl, asFn_fn, asP_cp, nrm_sl, nrm_nl, need_true, ct, cf, bd_eq, natD_zero, natD_succ, natD_one, noYl_v, noYl_sl, noYl_nl, noYl_cp, noYl_fn, Bool.and_true, Bool.true_and, Bool.and_self, beqN_self, Bool.not_true, Bool.not_false, Bool.and_false, Bool.false_and, Bool.or_false, Bool.false_or, Bool.or_true, Bool.true_or, wrap_in, dlt_t, dlt_f, dle_t, dle_f, dgt_t, dgt_f, dge_t, dge_f, ibeq_t, ibeq_f, ibne_t, ibne_f, inR_int, beqN_eq, bleN_le, e2, Nat.div_one, Nat.mul_one, Nat.zero_add, e3]
  · rw [marks_zero]; rfl
  · intro j hj
    have hla := lastAt_le (fOf l) l.length s j
    have hml := marks_length l s j
    have a1 := pt_at (l := l) (show lastAt (fOf l) l.length s j < l.length by omega)
    have a2 := pt_at (l := l) (show j + 1 < l.length by omega)
    have c1 := sp_slow fu d _ _ s (fOf_ok h (show lastAt (fOf l) l.length s j < l.length by omega)) (fOf_ok h (show j + 1 < l.length by omega)) hs
    unfold ptC at c1
    have hm := marks_succ (l := l) (s := s) (show j + 1 < l.length by omega) _ rfl
    rw [hm]
    have hput := blC_put (l := marks l s j) (show j + 1 < (marks l s j).length by omega) true
    have hbs : badS (fOf l) l.length s (j + 1) = !okS (fOf l) l.length s (lastAt (fOf l) l.length s j) (j + 1) := rfl
    have hls : lastAt (fOf l) l.length s (j + 1) = if okS (fOf l) l.length s (lastAt (fOf l) l.length s j) (j + 1) then j + 1 else lastAt (fOf l) l.length s j := rfl
    have hn : ((j + 1 : Nat) : Int) + 1 = ((j + 2 : Nat) : Int) := rfl
    rw [hbs, hls]
    unfold okS
    cases e1 : slowB (fOf l (lastAt (fOf l) l.length s j)) (fOf l (j + 1)) s with
    | true =>
      simp (disch := omega) only [hdt_eq, obs, rC_c, rA_agg, rT_tup, rP_ptr, rW_own, rS_sb, rF_sb, uncV_cons, uncO_cons, nilV_nil, rO_ob, rN_ob, unc_cons, asI_int, asB_bool, asS_string, asSl_sl, asSl_nl, asFn_fn, asP_cp, nrm_sl, nrm_nl, need_true, ct, cf, bd_eq, natD_zero, natD_succ, natD_one, noYl_v, noYl_sl, noYl_nl, noYl_cp, noYl_fn, Bool.and_true, Bool.true_and, Bool.and_self, beqN_self, Bool.not_true, Bool.not_false, Bool.and_false, Bool.false_and, Bool.or_false, Bool.false_or, Bool.or_true, Bool.true_or, wrap_in, dlt_t, dlt_f, dle_t, dle_f, dgt_t, dgt_f, dge_t, dge_f, ibeq_t, ibeq_f, ibne_t, ibne_f, inR_int, beqN_eq, bleN_le, Int.toNat_natCast, a1, a2, ptC, List.cons_append, List.nil_append, c1, e1, blC_length, hml, Nat.div_one, Nat.mul_one, hn]
      rfl
    | false =>
      by_cases h2 : j + 2 < l.length
      · have a3 := pt_at (l := l) h2
        have c2 := sp_slow fu d _ _ s (fOf_ok h (show j + 1 < l.length by omega)) (fOf_ok h h2) hs
        unfold ptC at c2
        cases e2 : slowB (fOf l (j + 1)) (fOf l (j + 2)) s with
        | true =>
          simp (disch := omega) only [hdt_eq, obs, rC_c, rA_agg, rT_tup, rP_ptr, rW_own, rS_sb, rF_sb, uncV_cons, uncO_cons, nilV_nil, rO_ob, rN_ob, unc_cons, asI_int, asB_bool, asS_string, asSl_sl, asSl_nl, asFn_fn, asP_cp, nrm_sl, nrm_nl, need_true, ct, cf, bd_eq, natD_zero, natD_succ, natD_one, noYl_v, noYl_sl, noYl_nl, noYl_cp, noYl_fn, Bool.and_true, Bool.true_and, Bool.and_self, beqN_self, Bool.not_true, Bool.not_false, Bool.and_false, Bool.false_and, Bool.or_false, Bool.false_or, Bool.or_true, Bool.true_or, wrap_in, dlt_t, dlt_f, dle_t, dle_f, dgt_t, dgt_f, dge_t, dge_f, ibeq_t, ibeq_f, ibne_t, ibne_f, inR_int, beqN_eq, bleN_le, Int.toNat_natCast, a1, a2, a3, ptC, List.cons_append, List.nil_append, c1, c2, e1, e2, blC_length, hml, Nat.div_one, Nat.mul_one, hn, decide_true]
          rw [decide_eq_true h2]
          rfl
        | false =>
          simp (disch := omega) only [hdt_eq, obs, rC_c, rA_agg, rT_tup, rP_ptr, rW_own, rS_sb, rF_sb, uncV_cons, uncO_cons, nilV_nil, rO_ob, rN_ob, unc_cons, asI_int, asB_bool, asS_string, asSl_sl, asSl_nl, asFn_fn, asP_cp, nrm_sl, nrm_nl, need_true, ct, cf, bd_eq, natD_zero, natD_succ, natD_one, noYl_v, noYl_sl, noYl_nl, noYl_cp, noYl_fn, Bool.and_true, Bool.true_and, Bool.and_self, beqN_self, Bool.not_true, Bool.not_false, Bool.and_false, Bool.false_and, Bool.or_false, Bool.false_or, Bool.or_true, Bool.true_or, wrap_in, dlt_t, dlt_f, dle_t, dle_f, dgt_t, dgt_f, dge_t, dge_f, ibeq_t, ibeq_f, ibne_t, ibne_f, inR_int, beqN_eq, bleN_le, Int.toNat_natCast, a1, a2, a3, ptC, List.cons_append, List.nil_append, c1, c2, e1, e2, blC_length, hml, Nat.div_one, Nat.mul_one, hn, Nat.zero_add, hput, List.length_set]
          rfl
      · simp (disch := omega) only [hdt_eq, obs, rC_c, rA_agg, rT_tup, rP_ptr, rW_own, rS_sb, rF_sb, uncV_cons, uncO_cons, nilV_nil, rO_ob, rN_ob, unc_cons, asI_int, asB_bool, asS_string, asSl_sl, asSl_nl, asFn_fn, asP_cp, nrm_sl, nrm_nl, need_true, ct, cf, bd_eq, natD_zero, natD_succ, natD_one, noYl_v, noYl_sl, noYl_nl, noYl_cp, noYl_fn, Bool.and_true, Bool.true_and, Bool.and_self, beqN_self, Bool.not_true, Bool.not_false, Bool.and_false, Bool.false_and, Bool.or_false, Bool.false_or, Bool.or_true, Bool.true_or, wrap_in, dlt_t, dlt_f, dle_t, dle_f, dgt_t, dgt_f, dge_t, dge_f, ibeq_t, ibeq_f, ibne_t, ibne_f, inR_int, beqN_eq, bleN_le, Int.toNat_natCast, a1, a2, ptC, List.cons_append, List.nil_append, c1, e1, blC_length, hml, Nat.div_one, Nat.mul_one, hn, Nat.zero_add, hput, List.length_set]
        rw [decide_eq_false h2]
        rfl
  · have hml := marks_length l s (l.length - 1)
    simp (disch := omega) only [hdt_eq, obs, rC_c, rA_agg, rT_tup, rP_ptr, rW_own, rS_sb, rF_sb, uncV_cons, uncO_cons, nilV_nil, rO_ob, rN_ob, unc_cons, asI_int, asB_bool, asS_string, asSl_sl, asSl_nl, asFn_fn, asP_cp, nrm_sl, nrm_nl, need_true, ct, cf, bd_eq, natD_zero, natD_succ, natD_one, noYl_v, noYl_sl, noYl_nl, noYl_cp, noYl_fn, Bool.and_true, Bool.true_and, Bool.and_self, beqN_self, Bool.not_true, Bool.not_false, Bool.and_false, Bool.false_and, Bool.or_false, Bool.false_or, Bool.or_true, Bool.true_or, wrap_in, dlt_t, dlt_f, dle_t, dle_f, dgt_t, dgt_f, dge_t, dge_f, ibeq_t, ibeq_f, ibne_t, ibne_f, inR_int, beqN_eq, bleN_le, blC_length, hml, Nat.div_one, Nat.mul_one]
end
end Go.Proofs.YthblmpoheobcbaaDoor
/- Maps whose values are lists that are appended to: plain laws. -/
namespace Go.PM
open Go
section
variable {K W : Type} [DecidableEq K]
def glook : List (K × List W) → K → Nat → Option (Nat × List W)
  | [], _, _ => none
  | e :: r, k, i => if e.1 = k then some (i, e.2) else glook r k (i + 1)
def gval (M : List (K × List W)) (k : K) : List W := match glook M k 0 with | some p => p.2 | none => []
def gadd (M : List (K × List W)) (k : K) (w : W) : List (K × List W) := match glook M k 0 with | some p => M.set p.1 (k, p.2 ++ [w]) | none => M ++ [(k, [w])]
def gent (kC : K → List C) (vC : W → List C) (e : K × List W) : List C × List C := (kC e.1, fl vC e.2)
theorem glook_spec (k : K) : ∀ (M : List (K × List W)) (i : Nat), (glook M k i = none ∧ k ∉ M.map (·.1)) ∨ ∃ j ws, glook M k i = some (i + j, ws) ∧ M[j]? = some (k, ws)
  | [], i => .inl ⟨rfl, by simp⟩
  | e :: M, i => by
    by_cases h : e.1 = k
    · exact .inr ⟨0, e.2, by simp [glook, h], by simp [← h]⟩
    · rcases glook_spec k M (i + 1) with ⟨h1, h2⟩ | ⟨j, ws, h1, h2⟩
      · exact .inl ⟨by simp [glook, h, h1], by simp only [List.map_cons, List.mem_cons, not_or]; exact ⟨fun e => h e.symm, h2⟩⟩
      · exact .inr ⟨j + 1, ws, by simp [glook, h, h1]; omega, by simpa using h2⟩
section
variable {P : Program} {kt : TypeId} {kC : K → List C} {vC : W → List C}
theorem mfind_gent (heq : ∀ a b, eqT P 20 kt (kC a) (kC b) = some (decide (a = b))) (hce : ∀ a, ceqs (kC a) (kC a) = true) (k : K) : ∀ (M : List (K × List W)) (i : Nat),
    mfind P kt (kC k) (M.map (gent kC vC)) i = some ((glook M k i).map fun q => (q.1, fl vC q.2))
  | [], i => rfl
  | e :: M, i => by
    simp only [List.map_cons, mfind, gent, heq]
    by_cases h : k = e.1
    · rw [decide_eq_true h]
      subst h
      simp [glook, hce, need]
    · rw [decide_eq_false h]
      simp only [cond_false, glook, if_neg (show ¬ e.1 = k from fun e' => h e'.symm)]
      exact mfind_gent heq hce k M (i + 1)
theorem orZ_gent (M : List (K × List W)) (k : K) : orZ ((glook M k 0).map fun q => (q.1, fl vC q.2)) [] = fl vC (gval M k) := by
  unfold gval
  cases glook M k 0 <;> rfl
theorem mput_gent (M : List (K × List W)) (k : K) (w : W) : mput (M.map (gent kC vC)) ((glook M k 0).map fun q => (q.1, fl vC q.2)) (kC k) (fl vC (gval M k) ++ vC w) = (gadd M k w).map (gent kC vC) := by
  unfold gadd gval
  cases glook M k 0 with
  | none => simp [mput, gent, fl]
  | some p => simp [mput, gent, List.map_set, fl_append, fl]
end
theorem mem_gadd {M : List (K × List W)} (hn : (M.map (·.1)).Nodup) (k : K) (w : W) (e : K × List W) : e ∈ gadd M k w ↔ (e.1 ≠ k ∧ e ∈ M) ∨ e = (k, gval M k ++ [w]) := by
  unfold gadd gval
  rcases glook_spec k M 0 with ⟨h1, h2⟩ | ⟨j, ws, h1, h2⟩
  · rw [h1]
    simp only [List.mem_append, List.mem_singleton, List.nil_append]
    constructor
    · rintro (h | h)
      · exact .inl ⟨fun e' => h2 (e' ▸ List.mem_map.2 ⟨e, h, rfl⟩), h⟩
      · exact .inr h
    · rintro (⟨_, h⟩ | h)
      · exact .inl h
      · exact .inr h
  · rw [h1, Nat.zero_add]
    obtain ⟨hj, hje⟩ := List.getElem?_eq_some_iff.1 h2
    simp only
    rw [List.mem_iff_getElem?]
    constructor
    · rintro ⟨i, hi⟩
      rw [List.getElem?_set] at hi
      by_cases e' : j = i
      · rw [if_pos e', if_pos hj] at hi
        exact .inr (Option.some.inj hi).symm
      · rw [if_neg e'] at hi
        refine .inl ⟨fun ek => e' ?_, List.mem_of_getElem? hi⟩
        have h3 : (M.map (·.1))[i]? = some k := by rw [List.getElem?_map, hi]; exact congrArg some ek
        have h4 : (M.map (·.1))[j]? = some k := by rw [List.getElem?_map, h2]; rfl
        exact (List.getElem?_inj (by simpa using hj) hn).1 (h4.trans h3.symm)
    · rintro (⟨hk, hm⟩ | rfl)
      · obtain ⟨i, hi⟩ := List.mem_iff_getElem?.1 hm
        refine ⟨i, ?_⟩
        rw [List.getElem?_set, if_neg, hi]
        intro e'
        subst e'
        rw [h2] at hi
        exact hk (congrArg Prod.fst (Option.some.inj hi)).symm
      · exact ⟨j, by rw [List.getElem?_set, if_pos rfl, if_pos hj]⟩
theorem keys_gadd {M : List (K × List W)} (hn : (M.map (·.1)).Nodup) (k : K) (w : W) : ((gadd M k w).map (·.1)).Nodup ∧ (gadd M k w).length ≤ M.length + 1 := by
  unfold gadd
  rcases glook_spec k M 0 with ⟨h1, h2⟩ | ⟨j, ws, h1, h2⟩
  · rw [h1]
    refine ⟨?_, by simp⟩
    simp only [List.map_append, List.map_cons, List.map_nil]
    rw [List.nodup_append]
    exact ⟨hn, by simp, fun a ha b hb => by simp at hb; subst hb; exact fun e => h2 (e ▸ ha)⟩
  · rw [h1, Nat.zero_add]
    refine ⟨?_, by simp⟩
    obtain ⟨hj, hje⟩ := List.getElem?_eq_some_iff.1 h2
    have : (M.set j (k, ws ++ [w])).map (·.1) = M.map (·.1) := by
      rw [List.map_set]
      apply List.ext_getElem?
      intro i
      rw [List.getElem?_set]
      split
      · rename_i e
        subst e
        rw [if_pos (by simpa using hj), List.getElem?_map, h2]; rfl
      · rfl
    simp only [this]
    exact hn
def grp (I : List (K × W)) : List (K × List W) := I.foldl (fun M x => gadd M x.1 x.2) []
theorem grp_snoc (I : List (K × W)) (x : K × W) : grp (I ++ [x]) = gadd (grp I) x.1 x.2 := by simp [grp, List.foldl_append]
def vals (I : List (K × W)) (k : K) : List W := (I.filter fun x => decide (x.1 = k)).map (·.2)
theorem vals_snoc (I : List (K × W)) (x : K × W) (k : K) : vals (I ++ [x]) k = if x.1 = k then vals I k ++ [x.2] else vals I k := by
  unfold vals
  rw [List.filter_append]
  by_cases h : x.1 = k
  · rw [if_pos h]; simp [List.filter_cons, h]
  · rw [if_neg h]; simp [List.filter_cons, h]
theorem mem_vals {I : List (K × W)} {k : K} {w : W} : w ∈ vals I k ↔ (k, w) ∈ I := by
  unfold vals
  simp only [List.mem_map, List.mem_filter, decide_eq_true_eq]
  constructor
  · rintro ⟨x, ⟨h1, h2⟩, rfl⟩; rw [← h2]; exact h1
  · intro h; exact ⟨(k, w), ⟨h, rfl⟩, rfl⟩
theorem rev_ind {α : Type} {p : List α → Prop} (h0 : p []) (hs : ∀ l a, p l → p (l ++ [a])) (l : List α) : p l := by
  rw [← List.reverse_reverse l]
  induction l.reverse with
  | nil => exact h0
  | cons a r ih => rw [List.reverse_cons]; exact hs _ _ ih
theorem grp_spec (I : List (K × W)) : ((grp I).map (·.1)).Nodup ∧ (∀ e, e ∈ grp I ↔ e.2 = vals I e.1 ∧ e.2 ≠ []) ∧ (grp I).length ≤ I.length := by
  refine rev_ind (p := fun I => ((grp I).map (·.1)).Nodup ∧ (∀ e, e ∈ grp I ↔ e.2 = vals I e.1 ∧ e.2 ≠ []) ∧ (grp I).length ≤ I.length) ?_ (fun I x ih => ?_) I
  · refine ⟨by simp [grp], fun e => ?_, by simp [grp]⟩
    simp only [grp, List.foldl_nil, List.not_mem_nil, false_iff, vals, List.filter_nil, List.map_nil]
    exact fun h => h.2 h.1
  · obtain ⟨h1, h2, h3⟩ := ih
    rw [grp_snoc]
    obtain ⟨h4, h5⟩ := keys_gadd h1 x.1 x.2
    refine ⟨h4, fun e => ?_, by simp; omega⟩
    rw [mem_gadd h1]
    have hg : gval (grp I) x.1 = vals I x.1 := by
      unfold gval
      rcases glook_spec x.1 (grp I) 0 with ⟨q1, q2⟩ | ⟨j, ws, q1, q2⟩
      · rw [q1]
        refine Decidable.byContradiction fun hne => q2 ?_
        exact List.mem_map.2 ⟨(x.1, vals I x.1), (h2 _).2 ⟨rfl, fun e => hne e.symm⟩, rfl⟩
      · rw [q1]
        exact ((h2 _).1 (List.mem_of_getElem? q2)).1
    rw [hg, vals_snoc]
    constructor
    · rintro (⟨q1, q2⟩ | rfl)
      · rw [if_neg (fun e' => q1 e'.symm)]; exact (h2 e).1 q2
      · simp
    · intro ⟨q1, q2⟩
      by_cases he : x.1 = e.1
      · rw [if_pos he] at q1
        right
        cases e
        simp only at he q1 ⊢
        subst he
        rw [q1]
      · rw [if_neg he] at q1
        exact .inl ⟨fun e' => he e'.symm, (h2 e).2 ⟨q1, q2⟩⟩
end
end Go.PM
/- The lines of a list of reports (chapter 16). -/
namespace Go.Proofs.YthblmpoheobcbaaDoor
open Go Go.PM
attribute [local congr] hd_bind hd_need hd_cond hd_unc hd_uncV hd_uncO hd_unI hd_asI hd_asB hd_asS hd_asSl hd_asFn hd_asP hd_rC hd_rA hd_rT hd_rG hd_rP hd_rO hd_rN hd_rF hd_rS hd_rW hd_nilV hd_natD hd_bd hd_iter hd_over hd_sliceC hd_asMp hd_asYF
theorem loop_eq (bs : ByteArray) : ∀ (n i : Nat) (r : List UInt8), bs.size - i = n → ByteArray.toList.loop bs i r = r.reverse ++ bs.data.toList.drop i
  | 0, i, r, h => by
    unfold ByteArray.toList.loop
    have hs : bs.size = bs.data.toList.length := by rw [Array.length_toList]; rfl
    rw [if_neg (by omega), List.drop_eq_nil_of_le (by omega), List.append_nil]
  | n + 1, i, r, h => by
    unfold ByteArray.toList.loop
    have hs : bs.size = bs.data.toList.length := by rw [Array.length_toList]; rfl
    rw [if_pos (by omega), loop_eq bs n (i + 1) _ (by omega), List.drop_eq_getElem_cons (show i < bs.data.toList.length by omega)]
    have : bs.get! i = bs.data.toList[i]'(by omega) := by
      have hi : i < bs.data.size := by simpa using (show i < bs.data.toList.length by omega)
      simp [ByteArray.get!, getElem!_pos bs.data i hi]
    simp [this]
theorem toList_eq (bs : ByteArray) : bs.toList = bs.data.toList := by
  unfold ByteArray.toList; rw [loop_eq bs _ 0 [] rfl]; simp
theorem toList_inj {a b : ByteArray} (h : a.toList = b.toList) : a = b := by
  rw [toList_eq, toList_eq] at h
  cases a; cases b; simp at h; simp [h]
theorem toList_beq {a b : ByteArray} : (a.toList == b.toList) = decide (a = b) := by
  by_cases h : a = b
  · subst h; simp
  · rw [decide_eq_false h, beq_eq_false_iff_ne]; exact fun e => h (toList_inj e)
structure Rp where
  nm : ByteArray
  tm : Int
  rs : List (Int × Int)
  z : Bool := false
def rdsC (x : Rp) : C := bif x.z && x.rs.isEmpty then C.nl else C.sl x.rs.length (fl rdc x.rs)
theorem rds_cases (x : Rp) : rdsC x = C.sl x.rs.length (fl rdc x.rs) ∨ (rdsC x = C.nl ∧ x.rs = []) := by
  unfold rdsC
  cases x.z with
  | false => exact .inl rfl
  | true =>
    cases h : x.rs with
    | nil => exact .inr ⟨rfl, rfl⟩
    | cons a l => exact .inl rfl
theorem asSl_rds {R : Type} (x : Rp) (k : Nat → List C → Option R) : asSl (rdsC x) k = k x.rs.length (fl rdc x.rs) := by
  rcases rds_cases x with h | ⟨h, e⟩
  · rw [h, asSl_sl]
  · rw [h, asSl_nl, e]; rfl
theorem nrm_rds (x : Rp) : nrm (rdsC x) = C.sl x.rs.length (fl rdc x.rs) := by
  rcases rds_cases x with h | ⟨h, e⟩
  · rw [h, nrm_sl]
  · rw [h, nrm_nl, e]; rfl
def rpC (x : Rp) : List C := [.v (.int .i64 1), .v (.string x.nm), .v (.int .i64 x.tm), .v (.int .i64 0), .v (.int .i64 0), .v (.int .i64 0), .v (.int .i64 0), rdsC x]
theorem rpC_length (x : Rp) : (rpC x).length = 8 := rfl
def okM (m : Int) : Prop := 0 ≤ m ∧ m ≤ 52595999
def okRp (x : Rp) : Prop := okRs x.rs ∧ okM x.tm
abbrev Sub : Type := ByteArray × Int
def keyC (k : Sub) : List C := [.v (.string k.1), .v (.int .i64 k.2)]
abbrev kent : Sub × List Pt → List C × List C := gent keyC ptC
theorem eqT_sub (a b : Sub) : eqT Tryd.prog 20 ty_timeline_subject (keyC a) (keyC b) = some (decide (a = b)) := by
  have : eqT Tryd.prog 20 ty_timeline_subject (keyC a) (keyC b) = some (a.1.toList == b.1.toList && (a.2 == b.2 && true)) := by kernel_rfl
  refine this.trans (congrArg some ?_)
  obtain ⟨a1, a2⟩ := a
  obtain ⟨b1, b2⟩ := b
  rw [toList_beq, Bool.eq_iff_iff]
  simp only [Bool.and_eq_true, beq_iff_eq, decide_eq_true_eq, Prod.mk.injEq, Bool.and_true, and_true]
theorem ceqs_sub (a : Sub) : ceqs (keyC a) (keyC a) = true := by simp [keyC, ceqs, ceq]
theorem mfd_sub (M : List (Sub × List Pt)) (a : ByteArray) (b : Int) : mfd ty_timeline_subject [C.v (.string a), C.v (.int .i64 b)] (M.map kent) = some ((glook M (a, b) 0).map fun q => (q.1, fl ptC q.2)) :=
  mfind_gent (P := Tryd.prog) (kt := ty_timeline_subject) (kC := keyC) (vC := ptC) eqT_sub ceqs_sub (a, b) M 0
theorem mput_sub (M : List (Sub × List Pt)) (a : ByteArray) (b i t v : Int) : mput (M.map kent) ((glook M (a, b) 0).map fun q => (q.1, fl ptC q.2)) [C.v (.string a), C.v (.int .i64 b)] (fl ptC (gval M (a, b)) ++ [C.v (.int .i64 i), C.v (.int .i64 t), C.v (.int .i64 v)]) = (gadd M (a, b) ⟨i, t, v⟩).map kent :=
  mput_gent (kC := keyC) (vC := ptC) M (a, b) ⟨i, t, v⟩
theorem orZ_sub (M : List (Sub × List Pt)) (k : Sub) : orZ ((glook M k 0).map fun q => (q.1, fl ptC q.2)) [] = fl ptC (gval M k) := orZ_gent M k
def itemsR (i : Nat) (x : Rp) : List (Sub × Pt) := x.rs.map fun r => ((x.nm, r.1), ⟨((i : Nat) : Int), x.tm, r.2⟩)
def items (X : List Rp) : List (Sub × Pt) := X.zipIdx.flatMap fun x => itemsR x.2 x.1
theorem items_take {X : List Rp} {j : Nat} (h : j < X.length) : items (X.take (j + 1)) = items (X.take j) ++ itemsR j X[j] := by
  unfold items
  rw [List.take_succ_eq_append_getElem h, List.zipIdx_append, List.flatMap_append]
  simp [Nat.min_eq_left (Nat.le_of_lt h)]
theorem itemsR_take {i : Nat} {x : Rp} {q : Nat} (h : q < x.rs.length) : (itemsR i x).take (q + 1) = (itemsR i x).take q ++ [((x.nm, x.rs[q].1), ⟨((i : Nat) : Int), x.tm, x.rs[q].2⟩)] := by
  unfold itemsR
  rw [List.take_succ_eq_append_getElem (by simpa using h)]; simp
theorem itemsR_length (i : Nat) (x : Rp) : (itemsR i x).length = x.rs.length := by simp [itemsR]
theorem items_length {X : List Rp} (h : ∀ x ∈ X, okRp x) : (items X).length ≤ 11 * X.length := by
  have : ∀ j, j ≤ X.length → (items (X.take j)).length ≤ 11 * j := by
    intro j
    induction j with
    | zero => intro _; simp [items]
    | succ j ih =>
      intro hj
      rw [items_take (by omega), List.length_append, itemsR_length]
      have h1 := ih (by omega)
      have h2 := (h _ (List.getElem_mem (show j < X.length by omega))).1.1
      omega
  have h2 := this X.length (Nat.le_refl _)
  rwa [List.take_length] at h2
theorem mem_items {X : List Rp} {k : Sub} {p : Pt} : (k, p) ∈ items X ↔ ∃ (i : Nat) (h : i < X.length), p.i = i ∧ p.t = X[i].tm ∧ k.1 = X[i].nm ∧ (k.2, p.v) ∈ X[i].rs := by
  unfold items
  rw [List.mem_flatMap]
  constructor
  · rintro ⟨⟨x, i⟩, hx, hm⟩
    obtain ⟨hi, e⟩ := List.mem_zipIdx' hx
    obtain ⟨r, hr, e2⟩ := List.mem_map.1 hm
    cases e2
    have e : x = X[i] := e
    subst e
    exact ⟨i, hi, rfl, rfl, rfl, hr⟩
  · rintro ⟨i, hi, h1, h2, h3, h4⟩
    refine ⟨(X[i], i), List.mem_zipIdx_iff_getElem?.2 (by simp [hi]), List.mem_map.2 ⟨(k.2, p.v), h4, ?_⟩⟩
    obtain ⟨k1, k2⟩ := k
    obtain ⟨a, b, c⟩ := p
    simp only at h1 h2 h3 ⊢
    rw [h1, h2, h3]
theorem items_ok {X : List Rp} (h : ∀ x ∈ X, okRp x) {k : Sub} {p : Pt} (hm : (k, p) ∈ items X) : (1 ≤ k.2 ∧ k.2 ≤ 11) ∧ okP p := by
  obtain ⟨i, hi, h1, h2, h3, h4⟩ := mem_items.1 hm
  obtain ⟨q1, q2⟩ := h _ (List.getElem_mem hi)
  have q3 := q1.2.1 _ h4
  have q4 := rng_bounds k.2 q3.1
  have q5 := q3.2
  unfold okM at q2
  unfold okP
  rw [h2]
  exact ⟨q3.1, q2, by have := q5.1; simp only at this; omega, by have := q5.2; simp only at this; omega⟩
theorem gval_length (I : List (Sub × Pt)) (k : Sub) : (gval (grp I) k).length ≤ I.length := by
  obtain ⟨h1, h2, _⟩ := grp_spec I
  unfold gval
  rcases glook_spec k (grp I) 0 with ⟨q1, _⟩ | ⟨j, ws, q1, q2⟩
  · rw [q1]; simp
  · rw [q1]
    have := (h2 _).1 (List.mem_of_getElem? q2)
    have h3 : ws = vals I k := this.1
    show ws.length ≤ I.length
    rw [h3]
    unfold vals
    rw [List.length_map]
    exact List.length_filter_le _ _
def ptI (x : Pt) : List Int := [x.i, x.t, x.v]
theorem ptI_length (x : Pt) : (ptI x).length = 3 := rfl
theorem pt_ints (l : List Pt) : fl ptC l = ints (l.flatMap ptI) := by
  induction l with
  | nil => rfl
  | cons x l ih => rw [fl_cons, ih, List.flatMap_cons]; rfl
noncomputable def srt (l : List Pt) : List Pt := (sortR_list (g := ptI) ptI_length (lexZ_swo [1]) l).choose
theorem srt_spec (l : List Pt) : (srt l).Perm l ∧ (srt l).Pairwise (fun a b => ¬ lexZ [1] (ptI b) (ptI a) < 0) ∧ flatZ 3 (sortR 3 (lexZ [1]) l.length (l.flatMap ptI)) = (srt l).flatMap ptI := (sortR_list (g := ptI) ptI_length (lexZ_swo [1]) l).choose_spec
theorem srt_length (l : List Pt) : (srt l).length = l.length := (srt_spec l).1.length_eq
theorem rowsM_mapx {A : Type} {f : List C × List C → Option (List C)} {a : A → List C × List C} {g : A → List C} : ∀ {M : List A}, (∀ m ∈ M, f (a m) = some (g m)) → rowsM f (M.map a) = some (M.map fun m => ((a m).1, g m))
  | [], _ => rfl
  | m :: M, h => by
    simp only [hdt_eq, List.map_cons, rowsM, h m (by simp), Option.bind_some, rowsM_mapx (fun m hm => h m (List.mem_cons_of_mem _ hm))]
noncomputable def sent (e : Sub × List Pt) : List C × List C := (keyC e.1, [C.sl (srt e.2).length (fl ptC (srt e.2))])
section
variable (fu d : Nat)
theorem pr_sortP (l : List Pt) (hl : l.length ≤ 1000000) : cl fu (d + 1) fn_slices_SortFunc_stimeline_point_timeline_point [V.own 1000000 0 l.length, V.c (C.fn fn_timeline_lines_1 [])] [.sb ty_timeline_point 0 (fl ptC l)] =
    some ⟨.tup [], [.sb ty_timeline_point 0 (fl ptC (srt l))], none⟩ := by
  have e : cl fu (d + 1) fn_slices_SortFunc_stimeline_point_timeline_point [V.own 1000000 0 l.length, V.c (C.fn fn_timeline_lines_1 [])] [.sb ty_timeline_point 0 (fl ptC l)] = (unInts (fl ptC l)).bind fun zs => need (Nat.beq 1000000 OUT && Nat.beq 0 0 && Nat.beq fn_timeline_lines_1 fn_timeline_lines_1 && Nat.beq ty_timeline_point ty_timeline_point && Nat.beq 0 0 && Nat.beq zs.length (l.length * 3) && Nat.ble l.length 4611686018427387903) (some ⟨.tup [], [.sb ty_timeline_point 0 (ints (flatZ 3 (sortR 3 (lexZ [1]) l.length zs)))], none⟩) := by kernel_rfl
  have hlen : (l.flatMap ptI).length = l.length * 3 := by
    have := fl_length ptC_length l
    rw [pt_ints] at this
    simpa using this
  have e1 : Nat.beq 1000000 OUT = true := rfl
  rw [e, pt_ints, unInts_ints]
  simp (disch := omega) only [hdt_eq, obs, rC_c, rA_agg, rT_tup, rP_ptr, rW_own, rS_sb, rF_sb, uncV_cons, uncO_cons, nilV_nil, rO_ob, rN_ob, unc_cons, asI_int, asB_bool, asS_string, asSl_sl, asSl_nl, asFn_fn, asP_cp, nrm_sl, nrm_nl, need_true, ct, cf, bd_eq, natD_zero, natD_succ, natD_one, noYl_v, noYl_sl, noYl_nl, noYl_cp, noYl_fn, Bool.and_true, Bool.true_and, Bool.and_self, beqN_self, Bool.not_true, Bool.not_false, Bool.and_false, Bool.false_and, Bool.or_false, Bool.false_or, Bool.or_true, Bool.true_or, wrap_in, dlt_t, dlt_f, dle_t, dle_f, dgt_t, dgt_f, dge_t, dge_f, ibeq_t, ibeq_f, ibne_t, ibne_f, inR_int, beqN_eq, bleN_le, hlen, e1]
  rw [(srt_spec l).2.2, pt_ints]
variable (hf : 18446744073709551616 ≤ fu)
include hf
set_option maxHeartbeats 1000000 in
theorem sp_lines (X : List Rp) (hX : X.length ≤ 20) (hok : ∀ x ∈ X, okRp x) : cl fu (d + 2) fn_timeline_lines [V.c (C.sl X.length (fl rpC X))] [] = OK (V.c (C.mp ty_timeline_subject ty_stimeline_point (some 2) none ((grp (items X)).map sent))) := by
  obtain ⟨g1, g2, g3⟩ := grp_spec (items X)
  have hlen := items_length hok
  rw [eq_timeline_lines]
  rw [iter_runx (fun j : Nat => (((j : Nat) : Int), (grp (items (X.take j))).map kent, ())) 0 ((X.length : Int), (grp (items X)).map kent, ()) X.length ?_ ?_ ?_ (by omega)]
  rotate_left
  · rfl
  · intro j hj
    have hx := hok _ (List.getElem_mem hj)
    obtain ⟨hr, hm⟩ := hx
    have hat := fl_at rpC_length hj
    have hrl := hr.1
    have hIl : (items (X.take j)).length ≤ 220 := by
      have := items_length (X := X.take j) fun x hx => hok x (List.mem_of_mem_take hx)
      rw [List.length_take] at this
      omega
    simp (disch := omega) only [hdt_eq, obs, rC_c, rA_agg, rT_tup, rP_ptr, rW_own, rS_sb, rF_sb, uncV_cons, uncO_cons, nilV_nil, rO_ob, rN_ob, unc_cons, asI_int, asB_bool, asS_string, asSl_sl, asSl_nl, asFn_fn, asP_cp, nrm_sl, nrm_nl, need_true, ct, cf, bd_eq, natD_zero, natD_succ, natD_one, noYl_v, noYl_sl, noYl_nl, noYl_cp, noYl_fn, Bool.and_true, Bool.true_and, Bool.and_self, beqN_self, Bool.not_true, Bool.not_false, Bool.and_false, Bool.false_and, Bool.or_false, Bool.false_or, Bool.or_true, Bool.true_or, wrap_in, dlt_t, dlt_f, dle_t, dle_f, dgt_t, dgt_f, dge_t, dge_f, ibeq_t, ibeq_f, ibne_t, ibne_f, inR_int, beqN_eq, bleN_le, Int.toNat_natCast, hat, rpC, List.cons_append, List.nil_append, asSl_rds]
    rw [iter_runx (fun i : Nat => (((i : Nat) : Int), ((1 : Int), X[j].nm, X[j].tm, (0 : Int), (0 : Int), (0 : Int), (0 : Int), rdsC X[j], ()), (grp (items (X.take j) ++ (itemsR j X[j]).take i)).map kent, ())) 0
      ((X[j].rs.length : Int), ((1 : Int), X[j].nm, X[j].tm, (0 : Int), (0 : Int), (0 : Int), (0 : Int), rdsC X[j], ()), (grp (items (X.take (j + 1)))).map kent, ()) X[j].rs.length ?_ ?_ ?_ (by omega)]
    · simp (disch := omega) only [hdt_eq, obs, rC_c, rA_agg, rT_tup, rP_ptr, rW_own, rS_sb, rF_sb, uncV_cons, uncO_cons, nilV_nil, rO_ob, rN_ob, unc_cons, asI_int, asB_bool, asS_string, asSl_sl, asSl_nl, asFn_fn, asP_cp, nrm_sl, nrm_nl, need_true, ct, cf, bd_eq, natD_zero, natD_succ, natD_one, noYl_v, noYl_sl, noYl_nl, noYl_cp, noYl_fn, Bool.and_true, Bool.true_and, Bool.and_self, beqN_self, Bool.not_true, Bool.not_false, Bool.and_false, Bool.false_and, Bool.or_false, Bool.false_or, Bool.or_true, Bool.true_or, wrap_in, dlt_t, dlt_f, dle_t, dle_f, dgt_t, dgt_f, dge_t, dge_f, ibeq_t, ibeq_f, ibne_t, ibne_f, inR_int, beqN_eq, bleN_le, Int.natCast_add, Int.natCast_one]
    · rw [List.take_zero, List.append_nil]; rfl
    · intro i hi
      have hat2 := fl_at rdc_length hi
      have hg := gval_length (items (X.take j) ++ (itemsR j X[j]).take i) (X[j].nm, X[j].rs[i].1)
      rw [List.length_append, List.length_take] at hg
      have hil := itemsR_length j X[j]
      have hs : ((i : Nat) : Int) + 1 = ((i + 1 : Nat) : Int) := rfl
      have hfl := fl_length ptC_length (gval (grp (items (X.take j) ++ (itemsR j X[j]).take i)) (X[j].nm, X[j].rs[i].1))
      have hdv : (gval (grp (items (X.take j) ++ (itemsR j X[j]).take i)) (X[j].nm, X[j].rs[i].1)).length * 3 / 3 = (gval (grp (items (X.take j) ++ (itemsR j X[j]).take i)) (X[j].nm, X[j].rs[i].1)).length := by omega
      simp (disch := omega) only [hdt_eq, obs, rC_c, rA_agg, rT_tup, rP_ptr, rW_own, rS_sb, rF_sb, uncV_cons, uncO_cons, nilV_nil, rO_ob, rN_ob, unc_cons, asI_int, asB_bool, asS_string, asSl_sl, asSl_nl, asFn_fn, asP_cp, nrm_sl, nrm_nl, need_true, ct, cf, bd_eq, natD_zero, natD_succ, natD_one, noYl_v, noYl_sl, noYl_nl, noYl_cp, noYl_fn, Bool.and_true, Bool.true_and, Bool.and_self, beqN_self, Bool.not_true, Bool.not_false, Bool.and_false, Bool.false_and, Bool.or_false, Bool.false_or, Bool.or_true, Bool.true_or, wrap_in, dlt_t, dlt_f, dle_t, dle_f, dgt_t, dgt_f, dge_t, dge_f, ibeq_t, ibeq_f, ibne_t, ibne_f, inR_int, beqN_eq, bleN_le, Int.toNat_natCast, hat2, rdc, asSl_rds, List.cons_append, List.nil_append, mfd_sub, orZ_sub, mput_sub, hfl, hdv, List.length_append, List.length_cons, List.length_nil, Nat.zero_add, decide_true, hs]
      rw [itemsR_take hi, ← List.append_assoc, grp_snoc]
    · rw [items_take hj, show (itemsR j X[j]).take X[j].rs.length = itemsR j X[j] by rw [← itemsR_length j]; exact List.take_length]
      simp (disch := omega) only [hdt_eq, obs, rC_c, rA_agg, rT_tup, rP_ptr, rW_own, rS_sb, rF_sb, uncV_cons, uncO_cons, nilV_nil, rO_ob, rN_ob, unc_cons, asI_int, asB_bool, asS_string, asSl_sl, asSl_nl, asFn_fn, asP_cp, nrm_sl, nrm_nl, need_true, ct, cf, bd_eq, natD_zero, natD_succ, natD_one, noYl_v, noYl_sl, noYl_nl, noYl_cp, noYl_fn, Bool.and_true, Bool.true_and, Bool.and_self, beqN_self, Bool.not_true, Bool.not_false, Bool.and_false, Bool.false_and, Bool.or_false, Bool.false_or, Bool.or_true, Bool.true_or, wrap_in, dlt_t, dlt_f, dle_t, dle_f, dgt_t, dgt_f, dge_t, dge_f, ibeq_t, ibeq_f, ibne_t, ibne_f, inR_int, beqN_eq, bleN_le]
  · rw [List.take_length]
    simp (disch := omega) only [hdt_eq, obs, rC_c, rA_agg, rT_tup, rP_ptr, rW_own, rS_sb, rF_sb, uncV_cons, uncO_cons, nilV_nil, rO_ob, rN_ob, unc_cons, asI_int, asB_bool, asS_string, asSl_sl, asSl_nl, asFn_fn, asP_cp, nrm_sl, nrm_nl, need_true, ct, cf, bd_eq, natD_zero, natD_succ, natD_one, noYl_v, noYl_sl, noYl_nl, noYl_cp, noYl_fn, Bool.and_true, Bool.true_and, Bool.and_self, beqN_self, Bool.not_true, Bool.not_false, Bool.and_false, Bool.false_and, Bool.or_false, Bool.false_or, Bool.or_true, Bool.true_or, wrap_in, dlt_t, dlt_f, dle_t, dle_f, dgt_t, dgt_f, dge_t, dge_f, ibeq_t, ibeq_f, ibne_t, ibne_f, inR_int, beqN_eq, bleN_le]
  simp (disch := omega) only [hdt_eq, obs, rC_c, rA_agg, rT_tup, rP_ptr, rW_own, rS_sb, rF_sb, uncV_cons, uncO_cons, nilV_nil, rO_ob, rN_ob, unc_cons, asI_int, asB_bool, asS_string, asSl_sl, asSl_nl, asFn_fn, asP_cp, nrm_sl, nrm_nl, need_true, ct, cf, bd_eq, natD_zero, natD_succ, natD_one, noYl_v, noYl_sl, noYl_nl, noYl_cp, noYl_fn, Bool.and_true, Bool.true_and, Bool.and_self, beqN_self, Bool.not_true, Bool.not_false, Bool.and_false, Bool.false_and, Bool.or_false, Bool.false_or, Bool.or_true, Bool.true_or, wrap_in, dlt_t, dlt_f, dle_t, dle_f, dgt_t, dgt_f, dge_t, dge_f, ibeq_t, ibeq_f, ibne_t, ibne_f, inR_int, beqN_eq, bleN_le]
  rw [rowsM_mapx (g := fun e => fl ptC (srt e.2)) ?_]
  · simp only [Option.bind_some, List.map_map]
    congr 6
    funext e
    simp only [Function.comp, gent, sent, fl_length ptC_length, Nat.mul_div_cancel _ (show 0 < 3 by omega)]
  · intro e he
    obtain ⟨q1, q2⟩ := (g2 e).1 he
    have q3 : 0 < e.2.length := List.length_pos_iff.2 q2
    have hl : e.2.length ≤ 220 := by
      rw [q1]; unfold vals; rw [List.length_map]
      have := List.length_filter_le (fun x : Sub × Pt => decide (x.1 = e.1)) (items X)
      omega
    have hfl := fl_length ptC_length e.2
    have hfs := fl_length ptC_length (srt e.2)
    rw [srt_length] at hfs
    have hdv : e.2.length * 3 / 3 = e.2.length := by omega
    have hS := pr_sortP fu d e.2 (by omega)
    simp (disch := omega) only [hdt_eq, obs, rC_c, rA_agg, rT_tup, rP_ptr, rW_own, rS_sb, rF_sb, uncV_cons, uncO_cons, nilV_nil, rO_ob, rN_ob, unc_cons, asI_int, asB_bool, asS_string, asSl_sl, asSl_nl, asFn_fn, asP_cp, nrm_sl, nrm_nl, need_true, ct, cf, bd_eq, natD_zero, natD_succ, natD_one, noYl_v, noYl_sl, noYl_nl, noYl_cp, noYl_fn, Bool.and_true, Bool.true_and, Bool.and_self, beqN_self, Bool.not_true, Bool.not_false, Bool.and_false, Bool.false_and, Bool.or_false, Bool.false_or, Bool.or_true, Bool.true_or, wrap_in, dlt_t, dlt_f, dle_t, dle_f, dgt_t, dgt_f, dge_t, dge_f, ibeq_t, ibeq_f, ibne_t, ibne_f, inR_int, beqN_eq, bleN_le, gent, keyC, hfl, hfs, hdv, List.length_cons, List.length_nil, Nat.zero_add, Nat.reduceAdd, hS]
end
end Go.Proofs.YthblmpoheobcbaaDoor
/- What is examined ahead (chapter 16). -/
namespace Go.Proofs.YthblmpoheobcbaaDoor
open Go Go.PM
attribute [local congr] hd_bind hd_need hd_cond hd_unc hd_uncV hd_uncO hd_unI hd_asI hd_asB hd_asS hd_asSl hd_asFn hd_asP hd_rC hd_rA hd_rT hd_rG hd_rP hd_rO hd_rN hd_rF hd_rS hd_rW hd_nilV hd_natD hd_bd hd_iter hd_over hd_sliceC hd_asMp hd_asYF
def okK (K : List Int) : Prop := K.length = 41 ∧ ∀ j, 1 ≤ j → j < 25 → 0 ≤ K.getD j 0 ∧ K.getD j 0 ≤ 10000
def okX (X : List Rp) : Prop := X.length ≤ 20 ∧ (∀ x ∈ X, okRp x) ∧ (X.map fun x => (x.nm, x.tm)).Nodup
abbrev ment : Sub × List Unit → List C × List C := gent keyC fun _ => [C.v (.bool true)]
theorem eqT_mom (a b : Sub) : eqT Tryd.prog 20 ty_timeline_moment (keyC a) (keyC b) = some (decide (a = b)) := by
  have : eqT Tryd.prog 20 ty_timeline_moment (keyC a) (keyC b) = some (a.1.toList == b.1.toList && (a.2 == b.2 && true)) := by kernel_rfl
  refine this.trans (congrArg some ?_)
  obtain ⟨a1, a2⟩ := a
  obtain ⟨b1, b2⟩ := b
  rw [toList_beq, Bool.eq_iff_iff]
  simp only [Bool.and_eq_true, beq_iff_eq, decide_eq_true_eq, Prod.mk.injEq, Bool.and_true, and_true]
theorem mfd_mom (M : List (Sub × List Unit)) (a : ByteArray) (b : Int) (h : (a, b) ∉ M.map (·.1)) : mfd ty_timeline_moment [C.v (.string a), C.v (.int .i64 b)] (M.map ment) = some none := by
  have h1 := mfind_gent (P := Tryd.prog) (kt := ty_timeline_moment) (kC := keyC) (vC := fun _ : Unit => [C.v (.bool true)]) eqT_mom ceqs_sub (a, b) M 0
  rcases glook_spec (a, b) M 0 with ⟨q1, _⟩ | ⟨j, ws, q1, q2⟩
  · rw [q1] at h1; exact h1
  · exact absurd (List.mem_map.2 ⟨_, List.mem_of_getElem? q2, rfl⟩) h
section
variable (fu d : Nat) (hf : 18446744073709551616 ≤ fu)
include hf
theorem sp_index_noneI (k : Nat) (l : List Int) (hl : l.length ≤ 1000) (hp : ∀ x ∈ l, cl fu d k [I x] [] = OK (B false)) :
    cl fu (d + 1) fn_slices_IndexFunc_sint_int [V.c (.sl l.length (ints l)), V.c (C.fn k [])] [] = OK (I (-1)) := by
  rw [eq_slices_IndexFunc_sint_int]
  rw [iter_runx (fun j : Nat => ((0 : Int), ((j : Nat) : Int), ())) 0 ((0 : Int), (l.length : Int), ()) l.length ?_ ?_ ?_ (by omega)]
  · simp only [hdt_eq, obs, rC_c, rA_agg, rT_tup, rP_ptr, rW_own, rS_sb, rF_sb, uncV_cons, uncO_cons, nilV_nil, rO_ob, rN_ob, unc_cons, asI_int, asB_bool, asS_string, asSl_sl, asSl_nl, asFn_fn, asP_cp, nrm_sl, nrm_nl, need_true, ct, cf, bd_eq, natD_zero, natD_succ, natD_one, noYl_v, noYl_sl, noYl_nl, noYl_cp, noYl_fn, Bool.and_true, Bool.true_and, Bool.and_self, beqN_self, Bool.not_true, Bool.not_false, Bool.and_false, Bool.false_and, Bool.or_false, Bool.false_or, Bool.or_true, Bool.true_or]
  · rfl
  · intro j hj
    have h := hp _ (List.getElem_mem hj)
    simp (disch := omega) only [hdt_eq, obs, rC_c, rA_agg, rT_tup, rP_ptr, rW_own, rS_sb, rF_sb, uncV_cons, uncO_cons, nilV_nil, rO_ob, rN_ob, unc_cons, asI_int, asB_bool, asS_string, asSl_sl, asSl_nl, asFn_fn, asP_cp, nrm_sl, nrm_nl, need_true, ct, cf, bd_eq, natD_zero, natD_succ, natD_one, noYl_v, noYl_sl, noYl_nl, noYl_cp, noYl_fn, Bool.and_true, Bool.true_and, Bool.and_self, beqN_self, Bool.not_true, Bool.not_false, Bool.and_false, Bool.false_and, Bool.or_false, Bool.false_or, Bool.or_true, Bool.true_or, wrap_in, dlt_t, dlt_f, dle_t, dle_f, dgt_t, dgt_f, dge_t, dge_f, ibeq_t, ibeq_f, ibne_t, ibne_f, inR_int, beqN_eq, bleN_le, Int.toNat_natCast, Nat.mul_one, unc_ik hj, h, Int.natCast_add, Int.natCast_one]
  · simp (disch := omega) only [hdt_eq, obs, rC_c, rA_agg, rT_tup, rP_ptr, rW_own, rS_sb, rF_sb, uncV_cons, uncO_cons, nilV_nil, rO_ob, rN_ob, unc_cons, asI_int, asB_bool, asS_string, asSl_sl, asSl_nl, asFn_fn, asP_cp, nrm_sl, nrm_nl, need_true, ct, cf, bd_eq, natD_zero, natD_succ, natD_one, noYl_v, noYl_sl, noYl_nl, noYl_cp, noYl_fn, Bool.and_true, Bool.true_and, Bool.and_self, beqN_self, Bool.not_true, Bool.not_false, Bool.and_false, Bool.false_and, Bool.or_false, Bool.false_or, Bool.or_true, Bool.true_or, wrap_in, dlt_t, dlt_f, dle_t, dle_f, dgt_t, dgt_f, dge_t, dge_f, ibeq_t, ibeq_f, ibne_t, ibne_f, inR_int, beqN_eq, bleN_le]
theorem sp_index_noneX (k : Nat) (l : List Rp) (hl : l.length ≤ 1000) (hp : ∀ x ∈ l, cl fu d k [V.agg (rpC x)] [] = OK (B false)) :
    cl fu (d + 1) fn_slices_IndexFunc_sapi_Report_api_Report [V.c (.sl l.length (fl rpC l)), V.c (C.fn k [])] [] = OK (I (-1)) := by
  rw [eq_slices_IndexFunc_sapi_Report_api_Report]
  rw [iter_runx (fun j : Nat => ((0 : Int), ((j : Nat) : Int), ())) 0 ((0 : Int), (l.length : Int), ()) l.length ?_ ?_ ?_ (by omega)]
  · simp only [hdt_eq, obs, rC_c, rA_agg, rT_tup, rP_ptr, rW_own, rS_sb, rF_sb, uncV_cons, uncO_cons, nilV_nil, rO_ob, rN_ob, unc_cons, asI_int, asB_bool, asS_string, asSl_sl, asSl_nl, asFn_fn, asP_cp, nrm_sl, nrm_nl, need_true, ct, cf, bd_eq, natD_zero, natD_succ, natD_one, noYl_v, noYl_sl, noYl_nl, noYl_cp, noYl_fn, Bool.and_true, Bool.true_and, Bool.and_self, beqN_self, Bool.not_true, Bool.not_false, Bool.and_false, Bool.false_and, Bool.or_false, Bool.false_or, Bool.or_true, Bool.true_or]
  · rfl
  · intro j hj
    have h := hp _ (List.getElem_mem hj)
    have hat := fl_at rpC_length hj
    unfold rpC at h
    simp (disch := omega) only [hdt_eq, obs, rC_c, rA_agg, rT_tup, rP_ptr, rW_own, rS_sb, rF_sb, uncV_cons, uncO_cons, nilV_nil, rO_ob, rN_ob, unc_cons, asI_int, asB_bool, asS_string, asSl_sl, asSl_nl, asFn_fn, asP_cp, nrm_sl, nrm_nl, need_true, ct, cf, bd_eq, natD_zero, natD_succ, natD_one, noYl_v, noYl_sl, noYl_nl, noYl_cp, noYl_fn, Bool.and_true, Bool.true_and, Bool.and_self, beqN_self, Bool.not_true, Bool.not_false, Bool.and_false, Bool.false_and, Bool.or_false, Bool.false_or, Bool.or_true, Bool.true_or, wrap_in, dlt_t, dlt_f, dle_t, dle_f, dgt_t, dgt_f, dge_t, dge_f, ibeq_t, ibeq_f, ibne_t, ibne_f, inR_int, beqN_eq, bleN_le, Int.toNat_natCast, hat, rpC, List.cons_append, List.nil_append, h, Int.natCast_add, Int.natCast_one]
  · simp (disch := omega) only [hdt_eq, obs, rC_c, rA_agg, rT_tup, rP_ptr, rW_own, rS_sb, rF_sb, uncV_cons, uncO_cons, nilV_nil, rO_ob, rN_ob, unc_cons, asI_int, asB_bool, asS_string, asSl_sl, asSl_nl, asFn_fn, asP_cp, nrm_sl, nrm_nl, need_true, ct, cf, bd_eq, natD_zero, natD_succ, natD_one, noYl_v, noYl_sl, noYl_nl, noYl_cp, noYl_fn, Bool.and_true, Bool.true_and, Bool.and_self, beqN_self, Bool.not_true, Bool.not_false, Bool.and_false, Bool.false_and, Bool.or_false, Bool.false_or, Bool.or_true, Bool.true_or, wrap_in, dlt_t, dlt_f, dle_t, dle_f, dgt_t, dgt_f, dge_t, dge_f, ibeq_t, ibeq_f, ibne_t, ibne_f, inR_int, beqN_eq, bleN_le]
theorem sp_possible (l : List Int) (hl : l.length = 12) (h : ∀ x ∈ l, 0 ≤ x ∧ x ≤ 10000) : cl fu (d + 4) fn_timeline_possible [V.agg (ints l)] [] = OK (B true) := by
  have hix := sp_index_noneI fu (d + 1) hf fn_timeline_possible_1 l (by omega) fun x hx => by
    obtain ⟨h1, h2⟩ := h x hx
    rw [eq_timeline_possible_1]
    simp (disch := omega) only [hdt_eq, obs, rC_c, rA_agg, rT_tup, rP_ptr, rW_own, rS_sb, rF_sb, uncV_cons, uncO_cons, nilV_nil, rO_ob, rN_ob, unc_cons, asI_int, asB_bool, asS_string, asSl_sl, asSl_nl, asFn_fn, asP_cp, nrm_sl, nrm_nl, need_true, ct, cf, bd_eq, natD_zero, natD_succ, natD_one, noYl_v, noYl_sl, noYl_nl, noYl_cp, noYl_fn, Bool.and_true, Bool.true_and, Bool.and_self, beqN_self, Bool.not_true, Bool.not_false, Bool.and_false, Bool.false_and, Bool.or_false, Bool.false_or, Bool.or_true, Bool.true_or, wrap_in, dlt_t, dlt_f, dle_t, dle_f, dgt_t, dgt_f, dge_t, dge_f, ibeq_t, ibeq_f, ibne_t, ibne_f, inR_int, beqN_eq, bleN_le]
  have hll : (ints l).length = 12 := by rw [ik_length]; exact hl
  rw [hl] at hix
  rw [eq_timeline_possible, eq_slices_ContainsFunc_sint_int, hix]
  simp (disch := omega) only [hdt_eq, obs, rC_c, rA_agg, rT_tup, rP_ptr, rW_own, rS_sb, rF_sb, uncV_cons, uncO_cons, nilV_nil, rO_ob, rN_ob, unc_cons, asI_int, asB_bool, asS_string, asSl_sl, asSl_nl, asFn_fn, asP_cp, nrm_sl, nrm_nl, need_true, ct, cf, bd_eq, natD_zero, natD_succ, natD_one, noYl_v, noYl_sl, noYl_nl, noYl_cp, noYl_fn, Bool.and_true, Bool.true_and, Bool.and_self, beqN_self, Bool.not_true, Bool.not_false, Bool.and_false, Bool.false_and, Bool.or_false, Bool.false_or, Bool.or_true, Bool.true_or, wrap_in, dlt_t, dlt_f, dle_t, dle_f, dgt_t, dgt_f, dge_t, dge_f, ibeq_t, ibeq_f, ibne_t, ibne_f, inR_int, beqN_eq, bleN_le, hll]
set_option maxHeartbeats 1000000 in
theorem sp_examine (X : List Rp) (hX : okX X) (K : List Int) (hK : okK K) : cl fu (d + 9) fn_timeline_examine [V.c (C.sl X.length (fl rpC X)), V.agg (ints K)] [] = OK (I 0) := by
  obtain ⟨hl, hok, hnd⟩ := hX
  obtain ⟨k1, k2⟩ := hK
  have hp1 := sp_possible fu (d + 4) hf ((K.drop 1).take 12) (by simp; omega) fun x hx => by
    obtain ⟨i, hi, rfl⟩ := List.mem_iff_getElem.1 hx
    have hi' : i < 12 := by simp at hi; omega
    have := k2 (i + 1) (by omega) (by omega)
    rw [List.getD_eq_getElem?_getD, List.getElem?_eq_getElem (by omega)] at this
    simpa using this
  have hp2 := sp_possible fu (d + 4) hf ((K.drop 13).take 12) (by simp; omega) fun x hx => by
    obtain ⟨i, hi, rfl⟩ := List.mem_iff_getElem.1 hx
    have hi' : i < 12 := by simp at hi; omega
    have := k2 (13 + i) (by omega) (by omega)
    rw [List.getD_eq_getElem?_getD, List.getElem?_eq_getElem (by omega)] at this
    simpa using this
  have hix := sp_index_noneX fu (d + 6) hf fn_timeline_examine_1 X (by omega) fun x hx => by
    obtain ⟨_, h1, h2⟩ := hok x hx
    unfold rpC
    rw [eq_timeline_examine_1]
    simp (disch := omega) only [hdt_eq, obs, rC_c, rA_agg, rT_tup, rP_ptr, rW_own, rS_sb, rF_sb, uncV_cons, uncO_cons, nilV_nil, rO_ob, rN_ob, unc_cons, asI_int, asB_bool, asS_string, asSl_sl, asSl_nl, asFn_fn, asP_cp, nrm_sl, nrm_nl, need_true, ct, cf, bd_eq, natD_zero, natD_succ, natD_one, noYl_v, noYl_sl, noYl_nl, noYl_cp, noYl_fn, Bool.and_true, Bool.true_and, Bool.and_self, beqN_self, Bool.not_true, Bool.not_false, Bool.and_false, Bool.false_and, Bool.or_false, Bool.false_or, Bool.or_true, Bool.true_or, wrap_in, dlt_t, dlt_f, dle_t, dle_f, dgt_t, dgt_f, dge_t, dge_f, ibeq_t, ibeq_f, ibne_t, ibne_f, inR_int, beqN_eq, bleN_le]
  rw [eq_timeline_examine]
  simp (disch := omega) only [hdt_eq, obs, rC_c, rA_agg, rT_tup, rP_ptr, rW_own, rS_sb, rF_sb, uncV_cons, uncO_cons, nilV_nil, rO_ob, rN_ob, unc_cons, asI_int, asB_bool, asS_string, asSl_sl, asSl_nl, asFn_fn, asP_cp, nrm_sl, nrm_nl, need_true, ct, cf, bd_eq, natD_zero, natD_succ, natD_one, noYl_v, noYl_sl, noYl_nl, noYl_cp, noYl_fn, Bool.and_true, Bool.true_and, Bool.and_self, beqN_self, Bool.not_true, Bool.not_false, Bool.and_false, Bool.false_and, Bool.or_false, Bool.false_or, Bool.or_true, Bool.true_or, wrap_in, dlt_t, dlt_f, dle_t, dle_f, dgt_t, dgt_f, dge_t, dge_f, ibeq_t, ibeq_f, ibne_t, ibne_f, inR_int, beqN_eq, bleN_le, ik_drop, ik_take, ik_length, List.length_drop, k1, hp1, hp2]
  rw [iter_runx (fun j : Nat => ((0 : Int), ((j : Nat) : Int), ())) 0 ((0 : Int), (X.length : Int), ()) X.length ?_ ?_ ?_ (by omega)]
  rotate_left
  · rfl
  · intro j hj
    have hV := sp_eValidate fu (d + 1) hf X[j].rs (hok _ (List.getElem_mem hj)).1
    have hat := fl_at rpC_length hj
    simp (disch := omega) only [hdt_eq, obs, rC_c, rA_agg, rT_tup, rP_ptr, rW_own, rS_sb, rF_sb, uncV_cons, uncO_cons, nilV_nil, rO_ob, rN_ob, unc_cons, asI_int, asB_bool, asS_string, asSl_sl, asSl_nl, asFn_fn, asP_cp, nrm_sl, nrm_nl, need_true, ct, cf, bd_eq, natD_zero, natD_succ, natD_one, noYl_v, noYl_sl, noYl_nl, noYl_cp, noYl_fn, Bool.and_true, Bool.true_and, Bool.and_self, beqN_self, Bool.not_true, Bool.not_false, Bool.and_false, Bool.false_and, Bool.or_false, Bool.false_or, Bool.or_true, Bool.true_or, wrap_in, dlt_t, dlt_f, dle_t, dle_f, dgt_t, dgt_f, dge_t, dge_f, ibeq_t, ibeq_f, ibne_t, ibne_f, inR_int, beqN_eq, bleN_le, Int.toNat_natCast, hat, rpC, List.cons_append, List.nil_append, nrm_rds, hV, bne_self_eq_false, Int.natCast_add, Int.natCast_one]
  · simp (disch := omega) only [hdt_eq, obs, rC_c, rA_agg, rT_tup, rP_ptr, rW_own, rS_sb, rF_sb, uncV_cons, uncO_cons, nilV_nil, rO_ob, rN_ob, unc_cons, asI_int, asB_bool, asS_string, asSl_sl, asSl_nl, asFn_fn, asP_cp, nrm_sl, nrm_nl, need_true, ct, cf, bd_eq, natD_zero, natD_succ, natD_one, noYl_v, noYl_sl, noYl_nl, noYl_cp, noYl_fn, Bool.and_true, Bool.true_and, Bool.and_self, beqN_self, Bool.not_true, Bool.not_false, Bool.and_false, Bool.false_and, Bool.or_false, Bool.false_or, Bool.or_true, Bool.true_or, wrap_in, dlt_t, dlt_f, dle_t, dle_f, dgt_t, dgt_f, dge_t, dge_f, ibeq_t, ibeq_f, ibne_t, ibne_f, inR_int, beqN_eq, bleN_le]
  simp (disch := omega) only [hdt_eq, obs, rC_c, rA_agg, rT_tup, rP_ptr, rW_own, rS_sb, rF_sb, uncV_cons, uncO_cons, nilV_nil, rO_ob, rN_ob, unc_cons, asI_int, asB_bool, asS_string, asSl_sl, asSl_nl, asFn_fn, asP_cp, nrm_sl, nrm_nl, need_true, ct, cf, bd_eq, natD_zero, natD_succ, natD_one, noYl_v, noYl_sl, noYl_nl, noYl_cp, noYl_fn, Bool.and_true, Bool.true_and, Bool.and_self, beqN_self, Bool.not_true, Bool.not_false, Bool.and_false, Bool.false_and, Bool.or_false, Bool.false_or, Bool.or_true, Bool.true_or, wrap_in, dlt_t, dlt_f, dle_t, dle_f, dgt_t, dgt_f, dge_t, dge_f, ibeq_t, ibeq_f, ibne_t, ibne_f, inR_int, beqN_eq, bleN_le]
  rw [eq_slices_ContainsFunc_sapi_Report_api_Report, hix]
  simp (disch := omega) only [hdt_eq, obs, rC_c, rA_agg, rT_tup, rP_ptr, rW_own, rS_sb, rF_sb, uncV_cons, uncO_cons, nilV_nil, rO_ob, rN_ob, unc_cons, asI_int, asB_bool, asS_string, asSl_sl, asSl_nl, asFn_fn, asP_cp, nrm_sl, nrm_nl, need_true, ct, cf, bd_eq, natD_zero, natD_succ, natD_one, noYl_v, noYl_sl, noYl_nl, noYl_cp, noYl_fn, Bool.and_true, Bool.true_and, Bool.and_self, beqN_self, Bool.not_true, Bool.not_false, Bool.and_false, Bool.false_and, Bool.or_false, Bool.false_or, Bool.or_true, Bool.true_or, wrap_in, dlt_t, dlt_f, dle_t, dle_f, dgt_t, dgt_f, dge_t, dge_f, ibeq_t, ibeq_f, ibne_t, ibne_f, inR_int, beqN_eq, bleN_le]
  rw [iter_runx (fun j : Nat => (((j : Nat) : Int), ((X.take j).map fun x => ((x.nm, x.tm), [()])).map ment, ())) 0 ((X.length : Int), (X.map fun x => ((x.nm, x.tm), [()])).map ment, ()) X.length ?_ ?_ ?_ (by omega)]
  rotate_left
  · rfl
  · intro j hj
    have hat := fl_at rpC_length hj
    have hn : (X[j].nm, X[j].tm) ∉ ((X.take j).map fun x => ((x.nm, x.tm), [()])).map (·.1) := by
      rw [List.map_map]
      intro hm
      obtain ⟨x, hx, e⟩ := List.mem_map.1 hm
      obtain ⟨i, hi, rfl⟩ := List.mem_iff_getElem.1 hx
      rw [List.length_take] at hi
      have h1 := (List.getElem_inj (i := i) (j := j) (h₀ := by simp; omega) (h₁ := by simpa using hj) hnd).1 (by simpa using e)
      omega
    have hm := mfd_mom ((X.take j).map fun x => ((x.nm, x.tm), [()])) _ _ hn
    have hput : mput (((X.take j).map fun x => ((x.nm, x.tm), [()])).map ment) none [C.v (.string X[j].nm), C.v (.int .i64 X[j].tm)] [C.v (.bool true)] = ((X.take (j + 1)).map fun x => ((x.nm, x.tm), [()])).map ment := by
      rw [List.take_succ_eq_append_getElem hj, List.map_append, List.map_append]
      rfl
    simp (disch := omega) only [hdt_eq, obs, rC_c, rA_agg, rT_tup, rP_ptr, rW_own, rS_sb, rF_sb, uncV_cons, uncO_cons, nilV_nil, rO_ob, rN_ob, unc_cons, asI_int, asB_bool, asS_string, asSl_sl, asSl_nl, asFn_fn, asP_cp, nrm_sl, nrm_nl, need_true, ct, cf, bd_eq, natD_zero, natD_succ, natD_one, noYl_v, noYl_sl, noYl_nl, noYl_cp, noYl_fn, Bool.and_true, Bool.true_and, Bool.and_self, beqN_self, Bool.not_true, Bool.not_false, Bool.and_false, Bool.false_and, Bool.or_false, Bool.false_or, Bool.or_true, Bool.true_or, wrap_in, dlt_t, dlt_f, dle_t, dle_f, dgt_t, dgt_f, dge_t, dge_f, ibeq_t, ibeq_f, ibne_t, ibne_f, inR_int, beqN_eq, bleN_le, Int.toNat_natCast, hat, rpC, List.cons_append, List.nil_append, hm, hput, Int.natCast_add, Int.natCast_one]
  · rw [List.take_length]
    simp (disch := omega) only [hdt_eq, obs, rC_c, rA_agg, rT_tup, rP_ptr, rW_own, rS_sb, rF_sb, uncV_cons, uncO_cons, nilV_nil, rO_ob, rN_ob, unc_cons, asI_int, asB_bool, asS_string, asSl_sl, asSl_nl, asFn_fn, asP_cp, nrm_sl, nrm_nl, need_true, ct, cf, bd_eq, natD_zero, natD_succ, natD_one, noYl_v, noYl_sl, noYl_nl, noYl_cp, noYl_fn, Bool.and_true, Bool.true_and, Bool.and_self, beqN_self, Bool.not_true, Bool.not_false, Bool.and_false, Bool.false_and, Bool.or_false, Bool.false_or, Bool.or_true, Bool.true_or, wrap_in, dlt_t, dlt_f, dle_t, dle_f, dgt_t, dgt_f, dge_t, dge_f, ibeq_t, ibeq_f, ibne_t, ibne_f, inR_int, beqN_eq, bleN_le]
  simp (disch := omega) only [hdt_eq, obs, rC_c, rA_agg, rT_tup, rP_ptr, rW_own, rS_sb, rF_sb, uncV_cons, uncO_cons, nilV_nil, rO_ob, rN_ob, unc_cons, asI_int, asB_bool, asS_string, asSl_sl, asSl_nl, asFn_fn, asP_cp, nrm_sl, nrm_nl, need_true, ct, cf, bd_eq, natD_zero, natD_succ, natD_one, noYl_v, noYl_sl, noYl_nl, noYl_cp, noYl_fn, Bool.and_true, Bool.true_and, Bool.and_self, beqN_self, Bool.not_true, Bool.not_false, Bool.and_false, Bool.false_and, Bool.or_false, Bool.false_or, Bool.or_true, Bool.true_or, wrap_in, dlt_t, dlt_f, dle_t, dle_f, dgt_t, dgt_f, dge_t, dge_f, ibeq_t, ibeq_f, ibne_t, ibne_f, inR_int, beqN_eq, bleN_le, List.length_map]
end
end Go.Proofs.YthblmpoheobcbaaDoor
/- What is rejected: plain laws (chapter 16). -/
namespace Go.Proofs.YthblmpoheobcbaaDoor
open Go Go.PM
theorem asc_ext' {α : Type} {lt : α → α → Prop} (hi : ∀ a, ¬ lt a a) (ht : ∀ a b c, lt a b → lt b c → lt a c) : ∀ {a b : List α}, a.Pairwise lt → b.Pairwise lt → (∀ x, x ∈ a ↔ x ∈ b) → a = b
  | [], [], _, _, _ => rfl
  | [], y :: b, _, _, h => by have := (h y).2 (by simp); cases this
  | x :: a, [], _, _, h => by have := (h x).1 (by simp); cases this
  | x :: a, y :: b, ha, hb, h => by
    rw [List.pairwise_cons] at ha hb
    have hxy : x = y := by
      rcases List.mem_cons.1 ((h x).1 (by simp)) with h1 | h1
      · exact h1
      · rcases List.mem_cons.1 ((h y).2 (by simp)) with h2 | h2
        · exact h2.symm
        · exact absurd (ht _ _ _ (ha.1 y h2) (hb.1 x h1)) (hi _)
    subst hxy
    congr 1
    refine asc_ext' hi ht ha.2 hb.2 fun z => ?_
    constructor
    · intro hz
      rcases List.mem_cons.1 ((h z).1 (by simp [hz])) with e | e
      · subst e; exact absurd (ha.1 z hz) (hi _)
      · exact e
    · intro hz
      rcases List.mem_cons.1 ((h z).2 (by simp [hz])) with e | e
      · subst e; exact absurd (hb.1 z hz) (hi _)
      · exact e
theorem overK_runx {I' A : Type} {body : I' → A → Option (Nat × A)} {xs : List I'} {x : A} (f : Nat → A) (z : A) (hx : x = f 0) (hz : f xs.length = z) (h : ∀ j (h : j < xs.length), body xs[j] (f j) = some (0, f (j + 1))) : overK body xs x = some (0, z) := by
  rw [hx, ← hz]; exact overK_run xs f h
theorem perms_of {α R : Type} {es : List α} {f : List α → Option R} {r : R} (h : ∀ es', es'.Perm es → f es' = some r) : perms es f = some r := by
  have h0 := h es (.refl _)
  unfold perms
  rw [if_pos fun es' hp => (h es' hp).trans h0.symm]
  exact h0
theorem items_pw {X : List Rp} (h : ∀ x ∈ X, okRp x) : (items X).Pairwise fun x y => x.2.i < y.2.i ∨ x.2.i = y.2.i ∧ x.1.2 < y.1.2 := by
  unfold items
  rw [List.pairwise_flatMap]
  constructor
  · rintro ⟨x, i⟩ hx
    obtain ⟨hi, e⟩ := List.mem_zipIdx' hx
    have e : x = X[i] := e
    have hr := (h x (e ▸ List.getElem_mem hi)).1.2.2
    unfold itemsR
    rw [List.pairwise_map]
    exact hr.imp fun hab => .inr ⟨rfl, hab⟩
  · have hz : X.zipIdx.Pairwise fun a b => a.2 < b.2 := by
      rw [List.pairwise_iff_getElem]
      intro i j hi hj hij
      simpa using hij
    refine hz.imp fun {a b} hab x hx y hy => ?_
    unfold itemsR at hx hy
    obtain ⟨p, _, rfl⟩ := List.mem_map.1 hx
    obtain ⟨q, _, rfl⟩ := List.mem_map.1 hy
    exact .inl (by dsimp only; omega)
theorem vals_pw {X : List Rp} (h : ∀ x ∈ X, okRp x) (k : Sub) : (vals (items X) k).Pairwise fun a b => a.i < b.i := by
  unfold vals
  rw [List.pairwise_map]
  have h1 := (items_pw h).filter fun x => decide (x.1 = k)
  refine h1.imp_of_mem fun {a b} ha hb hab => ?_
  rw [List.mem_filter, decide_eq_true_eq] at ha hb
  rcases hab with hab | ⟨_, hab⟩
  · exact hab
  · rw [ha.2, hb.2] at hab; omega
def IsLine (X : List Rp) (k : Sub) (l : List Pt) : Prop := (l.Pairwise fun a b => a.t < b.t) ∧ ∀ p, p ∈ l ↔ (k, p) ∈ items X
theorem IsLine.unique {X : List Rp} {k : Sub} {l l' : List Pt} (h : IsLine X k l) (h' : IsLine X k l') : l = l' :=
  asc_ext' (lt := fun a b : Pt => a.t < b.t) (fun a => by omega) (fun a b c => by omega) h.1 h'.1 fun p => by rw [h.2, h'.2]
theorem time_ne {X : List Rp} (hX : okX X) {k : Sub} {p q : Pt} (hp : (k, p) ∈ items X) (hq : (k, q) ∈ items X) (h : p.i ≠ q.i) : p.t ≠ q.t := by
  obtain ⟨i, hi, a1, a2, a3, a4⟩ := mem_items.1 hp
  obtain ⟨j, hj, b1, b2, b3, b4⟩ := mem_items.1 hq
  intro e
  have := (List.getElem_inj (i := i) (j := j) (h₀ := by simpa using hi) (h₁ := by simpa using hj) hX.2.2).1 (by
    simp only [List.getElem_map, Prod.mk.injEq]
    exact ⟨a3.symm.trans b3, a2.symm.trans (e.trans b2)⟩)
  subst this
  omega
theorem srt_isLine {X : List Rp} (hX : okX X) (k : Sub) : IsLine X k (srt (vals (items X) k)) := by
  obtain ⟨s1, s2, _⟩ := srt_spec (vals (items X) k)
  refine ⟨?_, fun p => by rw [s1.mem_iff, mem_vals]⟩
  have h1 : (vals (items X) k).Pairwise fun a b => a.t ≠ b.t := (vals_pw hX.2.1 k).imp_of_mem fun {a b} ha hb hab => time_ne hX (mem_vals.1 ha) (mem_vals.1 hb) (by omega)
  have h2 : (srt (vals (items X) k)).Pairwise fun a b => a.t ≠ b.t := (s1.pairwise_iff (fun h e => h e.symm)).2 h1
  refine (s2.and h2).imp fun {a b} hab => ?_
  obtain ⟨q1, q2⟩ := hab
  rw [lexZ_neg] at q1
  simp only [ptI, List.getD_cons_succ, List.getD_cons_zero, not_or] at q1
  omega
def stK (K : List Int) (c : Int) : Int := K.getD (1 + c.toNat) 0
def spK (K : List Int) (c : Int) : Int := K.getD (13 + c.toNat) 0
def flagsTo (K : List Int) (c : Int) (l : List Pt) (n : Nat) : List (Int × Int) := ((List.range n).filter (badK (fOf l) l.length (stK K c) (spK K c))).map fun j => ((fOf l j).i, c)
theorem flagsTo_succ (K : List Int) (c : Int) (l : List Pt) (n : Nat) (b : Bool) (hb : badK (fOf l) l.length (stK K c) (spK K c) n = b) : flagsTo K c l (n + 1) = if b then flagsTo K c l n ++ [((fOf l n).i, c)] else flagsTo K c l n := by
  subst hb
  unfold flagsTo
  rw [List.range_succ, List.filter_append]
  cases e : badK (fOf l) l.length (stK K c) (spK K c) n <;> simp [List.filter_cons, e]
theorem mem_flagsTo {K : List Int} {c : Int} {l : List Pt} {n : Nat} {f : Int × Int} : f ∈ flagsTo K c l n ↔ ∃ j, j < n ∧ badK (fOf l) l.length (stK K c) (spK K c) j = true ∧ f = ((fOf l j).i, c) := by
  unfold flagsTo
  simp only [List.mem_map, List.mem_filter, List.mem_range]
  constructor
  · rintro ⟨j, ⟨h1, h2⟩, rfl⟩; exact ⟨j, h1, h2, rfl⟩
  · rintro ⟨j, h1, h2, rfl⟩; exact ⟨j, ⟨h1, h2⟩, rfl⟩
theorem flagsTo_length (K : List Int) (c : Int) (l : List Pt) (n : Nat) : (flagsTo K c l n).length ≤ n := by
  unfold flagsTo
  rw [List.length_map]
  have := List.length_filter_le (badK (fOf l) l.length (stK K c) (spK K c)) (List.range n)
  simpa using this
def flt (a b : Int × Int) : Prop := a.1 < b.1 ∨ a.1 = b.1 ∧ a.2 < b.2
theorem flt_irrefl (a : Int × Int) : ¬ flt a a := by unfold flt; omega
theorem flt_trans {a b c : Int × Int} (h : flt a b) (h' : flt b c) : flt a c := by unfold flt at *; omega
def Bad (X : List Rp) (K : List Int) (f : Int × Int) : Prop := ∃ (nm : ByteArray) (l : List Pt), IsLine X (nm, f.2) l ∧ ∃ j, j < l.length ∧ badK (fOf l) l.length (stK K f.2) (spK K f.2) j = true ∧ f.1 = (fOf l j).i
def IsF (X : List Rp) (K : List Int) (L : List (Int × Int)) : Prop := L.Pairwise flt ∧ ∀ f, f ∈ L ↔ Bad X K f
theorem IsF.unique {X : List Rp} {K : List Int} {L L' : List (Int × Int)} (h : IsF X K L) (h' : IsF X K L') : L = L' :=
  asc_ext' flt_irrefl (fun a b c => flt_trans) h.1 h'.1 fun p => by rw [h.2, h'.2]
noncomputable def flagsOf (K : List Int) (M : List (Sub × List Pt)) : List (Int × Int) := M.flatMap fun e => flagsTo K e.1.2 (srt e.2) (srt e.2).length
theorem mem_flagsOf {X : List Rp} (hX : okX X) {K : List Int} {M : List (Sub × List Pt)} (hM : M.Perm (grp (items X))) {f : Int × Int} : f ∈ flagsOf K M ↔ Bad X K f := by
  obtain ⟨g1, g2, g3⟩ := grp_spec (items X)
  unfold flagsOf
  rw [List.mem_flatMap]
  constructor
  · rintro ⟨⟨k, ws⟩, he, hf⟩
    have he := (g2 _).1 (hM.mem_iff.1 he)
    have e1 : ws = vals (items X) k := he.1
    subst e1
    obtain ⟨j, h1, h2, rfl⟩ := mem_flagsTo.1 hf
    exact ⟨k.1, _, srt_isLine hX k, j, h1, h2, rfl⟩
  · rintro ⟨nm, l, hl, j, h1, h2, h3⟩
    obtain rfl := hl.unique (srt_isLine hX (nm, f.2))
    refine ⟨((nm, f.2), vals (items X) (nm, f.2)), hM.mem_iff.2 ((g2 _).2 ⟨rfl, fun e => ?_⟩), mem_flagsTo.2 ⟨j, h1, h2, ?_⟩⟩
    · have e : vals (items X) (nm, f.2) = [] := e
      have := srt_length (vals (items X) (nm, f.2))
      rw [e] at this h1
      simp at this
      simp [this] at h1
    · cases f; simp only at h3 ⊢; rw [h3]
theorem fOf_mem {l : List Pt} {j : Nat} (h : j < l.length) : fOf l j ∈ l := by rw [← fOf_at h]; exact List.getElem_mem h
theorem flagsOf_nodup {X : List Rp} (hX : okX X) {K : List Int} {M : List (Sub × List Pt)} (hM : M.Perm (grp (items X))) : (flagsOf K M).Nodup := by
  obtain ⟨g1, g2, g3⟩ := grp_spec (items X)
  unfold flagsOf List.Nodup
  rw [List.pairwise_flatMap]
  have key : ∀ e ∈ M, e.2 = vals (items X) e.1 := fun e he => ((g2 _).1 (hM.mem_iff.1 he)).1
  constructor
  · intro e he
    unfold flagsTo
    rw [List.pairwise_map]
    refine (List.pairwise_lt_range.filter _).imp_of_mem fun {a b} ha hb hab hne => ?_
    rw [List.mem_filter, List.mem_range] at ha hb
    have hl := srt_isLine hX e.1
    rw [← key e he] at hl
    have h1 := (hl.2 _).1 (fOf_mem ha.1)
    have h2 := (hl.2 _).1 (fOf_mem hb.1)
    have h3 := List.pairwise_iff_getElem.1 hl.1 a b ha.1 hb.1 hab
    rw [fOf_at ha.1, fOf_at hb.1] at h3
    obtain ⟨i, hi, a1, a2, a3, a4⟩ := mem_items.1 h1
    obtain ⟨j, hj, b1, b2, b3, b4⟩ := mem_items.1 h2
    have : i = j := by
      have := congrArg Prod.fst hne
      simp only at this
      omega
    subst this
    omega
  · have hn : M.Pairwise fun a b => a.1 ≠ b.1 := by
      have := (hM.map (·.1)).nodup_iff.2 g1
      unfold List.Nodup at this
      rw [List.pairwise_map] at this
      exact this
    refine hn.imp_of_mem fun {a b} ha hb hab x hx y hy hxy => hab ?_
    subst hxy
    obtain ⟨i, h1, _, h2⟩ := mem_flagsTo.1 hx
    obtain ⟨j, h3, _, h4⟩ := mem_flagsTo.1 hy
    have la := srt_isLine hX a.1
    have lb := srt_isLine hX b.1
    rw [← key a ha] at la
    rw [← key b hb] at lb
    have m1 := (la.2 _).1 (fOf_mem h1)
    have m2 := (lb.2 _).1 (fOf_mem h3)
    obtain ⟨i', hi, a1, a2, a3, a4⟩ := mem_items.1 m1
    obtain ⟨j', hj, b1, b2, b3, b4⟩ := mem_items.1 m2
    rw [h2] at h4
    have e1 := congrArg Prod.fst h4
    have e2 := congrArg Prod.snd h4
    simp only at e1 e2
    have : i' = j' := by omega
    subst this
    exact Prod.ext (a3.trans b3.symm) e2
end Go.Proofs.YthblmpoheobcbaaDoor
/- What Check answers to valid reports (chapter 16). -/
namespace Go.Proofs.YthblmpoheobcbaaDoor
open Go Go.PM
attribute [local congr] hd_bind hd_need hd_cond hd_unc hd_uncV hd_uncO hd_unI hd_asI hd_asB hd_asS hd_asSl hd_asFn hd_asP hd_rC hd_rA hd_rT hd_rG hd_rP hd_rO hd_rN hd_rF hd_rS hd_rW hd_nilV hd_natD hd_bd hd_iter hd_over hd_sliceC hd_asMp hd_asYF
def fgC (x : Int × Int) : List C := [.v (.int .i64 x.1), .v (.int .i64 x.2), .v (.int .i64 4)]
def fgI (x : Int × Int) : List Int := [x.1, x.2, 4]
theorem fgC_length (x : Int × Int) : (fgC x).length = 3 := rfl
theorem fgI_length (x : Int × Int) : (fgI x).length = 3 := rfl
theorem fg_ints (l : List (Int × Int)) : fl fgC l = ints (l.flatMap fgI) := by
  induction l with
  | nil => rfl
  | cons x l ih => rw [fl_cons, ih, List.flatMap_cons]; rfl
theorem fg_snoc (l : List (Int × Int)) (a b : Int) : fl fgC l ++ [C.v (.int .i64 a), C.v (.int .i64 b), C.v (.int .i64 4)] = fl fgC (l ++ [(a, b)]) := fl_snoc l (a, b)
theorem fgI_lex (a b : Int × Int) : lexZ [0, 1] (fgI a) (fgI b) < 0 ↔ flt a b := by
  rw [lexZ_neg, lexZ_neg]
  simp only [fgI, flt, lexZ, List.getD_cons_zero, List.getD_cons_succ]
  omega
theorem strictF {N L : List (Int × Int)} (hn : N.Nodup) (hp : L.Perm N) (hs : L.Pairwise fun a b => ¬ lexZ [0, 1] (fgI b) (fgI a) < 0) : L.Pairwise flt := by
  have hn' : L.Nodup := hp.nodup_iff.2 hn
  refine (hs.and hn').imp fun {a b} hab => ?_
  obtain ⟨h1, h2⟩ := hab
  rw [fgI_lex] at h1
  unfold flt at h1 ⊢
  have h3 : ¬ (a.1 = b.1 ∧ a.2 = b.2) := fun e => h2 (Prod.ext e.1 e.2)
  omega
theorem flatMap_le {A B : Type} {g : A → List B} {k : Nat} : ∀ {l : List A}, (∀ x ∈ l, (g x).length ≤ k) → (l.flatMap g).length ≤ l.length * k
  | [], _ => by simp
  | x :: l, h => by
    have h1 := h x (by simp)
    have h2 := flatMap_le (l := l) fun y hy => h y (by simp [hy])
    rw [List.flatMap_cons, List.length_append, List.length_cons, Nat.succ_mul]
    omega
theorem ik_getD {kd : IntKind} {l : List Int} {k : Nat} (h : k < l.length) : List.drop k (ik kd l) = C.v (.int kd (l.getD k 0)) :: ik kd (l.drop (k + 1)) := by
  rw [ik_drop, List.drop_eq_getElem_cons h]
  have : l.getD k 0 = l[k] := by rw [List.getD_eq_getElem?_getD, List.getElem?_eq_getElem h]; rfl
  rw [this]; rfl
def stepsB (K : List Int) (c : Int) (l : List Pt) : List Bool := (List.range l.length).map fun j => decide (stK K c > 0) && badS (fOf l) l.length (stK K c) j
theorem stepsB_length (K : List Int) (c : Int) (l : List Pt) : (stepsB K c l).length = l.length := by simp [stepsB]
theorem stepsB_at {K : List Int} {c : Int} {l : List Pt} {j : Nat} (h : j < (stepsB K c l).length) : (stepsB K c l)[j] = (decide (stK K c > 0) && badS (fOf l) l.length (stK K c) j) := by simp [stepsB]
section
variable (fu d : Nat)
theorem pr_sortF (l : List (Int × Int)) (hl : l.length ≤ 1000000) : cl fu (d + 1) fn_slices_SortFunc_sapi_Flag_api_Flag [V.own 1000000 0 l.length, V.c (C.fn fn_timeline_Check_1 [])] [.sb ty_api_Flag 0 (fl fgC l)] =
    some ⟨.tup [], [.sb ty_api_Flag 0 (ints (flatZ 3 (sortR 3 (lexZ [0, 1]) l.length (l.flatMap fgI))))], none⟩ := by
  have e : cl fu (d + 1) fn_slices_SortFunc_sapi_Flag_api_Flag [V.own 1000000 0 l.length, V.c (C.fn fn_timeline_Check_1 [])] [.sb ty_api_Flag 0 (fl fgC l)] = (unInts (fl fgC l)).bind fun zs => need (Nat.beq 1000000 OUT && Nat.beq 0 0 && Nat.beq fn_timeline_Check_1 fn_timeline_Check_1 && Nat.beq ty_api_Flag ty_api_Flag && Nat.beq 0 0 && Nat.beq zs.length (l.length * 3) && Nat.ble l.length 4611686018427387903) (some ⟨.tup [], [.sb ty_api_Flag 0 (ints (flatZ 3 (sortR 3 (lexZ [0, 1]) l.length zs)))], none⟩) := by kernel_rfl
  have hlen : (l.flatMap fgI).length = l.length * 3 := by
    have := fl_length fgC_length l
    rw [fg_ints] at this
    simpa using this
  have e1 : Nat.beq 1000000 OUT = true := rfl
  rw [e, fg_ints, unInts_ints]
  simp (disch := omega) only [hdt_eq, obs, rC_c, rA_agg, rT_tup, rP_ptr, rW_own, rS_sb, rF_sb, uncV_cons, uncO_cons, nilV_nil, rO_ob, rN_ob, unc_cons, asI_int, asB_bool, asS_string, asSl_sl, asSl_nl, asFn_fn, asP_cp, nrm_sl, nrm_nl, need_true, ct, cf, bd_eq, natD_zero, natD_succ, natD_one, noYl_v, noYl_sl, noYl_nl, noYl_cp, noYl_fn, Bool.and_true, Bool.true_and, Bool.and_self, beqN_self, Bool.not_true, Bool.not_false, Bool.and_false, Bool.false_and, Bool.or_false, Bool.false_or, Bool.or_true, Bool.true_or, wrap_in, dlt_t, dlt_f, dle_t, dle_f, dgt_t, dgt_f, dge_t, dge_f, ibeq_t, ibeq_f, ibne_t, ibne_f, inR_int, beqN_eq, bleN_le, hlen, e1]
variable (hf : 18446744073709551616 ≤ fu)
include hf
set_option maxHeartbeats 4000000 in
theorem sp_Check (X : List Rp) (hX : okX X) (K : List Int) (hK : okK K) : ∃ L, IsF X K L ∧ L.length ≤ 100000 ∧ cl fu (d + 10) fn_timeline_Check [V.c (C.sl X.length (fl rpC X)), V.agg (ints K)] [] = OK (V.tup [V.c (C.sl L.length (fl fgC L)), I 0]) := by
  obtain ⟨g1, g2, g3⟩ := grp_spec (items X)
  have hlen := items_length hX.2.1
  have hXl := hX.1
  have hE := sp_examine fu d hf X hX K hK
  have hLn := sp_lines fu (d + 7) hf X hX.1 hX.2.1
  have hKl := hK.1
  have hsl : ∀ e ∈ grp (items X), e.2 = vals (items X) e.1 ∧ 1 ≤ (srt e.2).length ∧ (srt e.2).length ≤ 220 ∧ (∀ x ∈ srt e.2, okP x) ∧ 1 ≤ e.1.2 ∧ e.1.2 ≤ 11 := fun e he => by
    obtain ⟨q1, q2⟩ := (g2 e).1 he
    have q3 : 0 < e.2.length := List.length_pos_iff.2 q2
    have q4 : e.2.length ≤ (items X).length := by
      rw [q1]; unfold vals; rw [List.length_map]
      exact List.length_filter_le _ _
    obtain ⟨p0, hp0⟩ : ∃ p, p ∈ e.2 := List.exists_mem_of_ne_nil _ q2
    have hk := (items_ok hX.2.1 (mem_vals.1 (q1 ▸ hp0))).1
    refine ⟨q1, by rw [srt_length]; omega, by rw [srt_length]; omega, fun x hx => ?_, hk.1, hk.2⟩
    have := (srt_spec e.2).1.mem_iff.1 hx
    rw [q1] at this
    exact (items_ok hX.2.1 (mem_vals.1 this)).2
  have hFl : ∀ M' : List (Sub × List Pt), (∀ e ∈ M', e ∈ grp (items X)) → M'.length ≤ 220 → (flagsOf K M').length ≤ 48400 := fun M' hM hl => by
    have := flatMap_le (g := fun e : Sub × List Pt => flagsTo K e.1.2 (srt e.2) (srt e.2).length) (k := 220) (l := M') fun e he => by
      have h1 := flagsTo_length K e.1.2 (srt e.2) (srt e.2).length
      have h2 := (hsl e (hM e he)).2.2.1
      omega
    unfold flagsOf
    omega
  obtain ⟨L, l1, l2, l3⟩ := sortR_list (g := fgI) fgI_length (lexZ_swo [0, 1]) (flagsOf K (grp (items X)))
  have hLs := strictF (flagsOf_nodup hX (.refl _)) l1 l2
  have hLF : IsF X K L := ⟨hLs, fun f => by rw [l1.mem_iff]; exact mem_flagsOf hX (.refl _)⟩
  have hLl := l1.length_eq
  have hFl0 := hFl (grp (items X)) (fun e he => he) (by omega)
  refine ⟨L, hLF, by omega, ?_⟩
  have htk : List.take 41 (ints K) = ints K := List.take_of_length_le (by rw [ik_length]; omega)
  rw [eq_timeline_Check]
  simp (disch := omega) only [hdt_eq, obs, rC_c, rA_agg, rT_tup, rP_ptr, rW_own, rS_sb, rF_sb, uncV_cons, uncO_cons, nilV_nil, rO_ob, rN_ob, unc_cons, asI_int, asB_bool, asS_string, asSl_sl, asSl_nl, asFn_fn, asP_cp, nrm_sl, nrm_nl, need_true, ct, cf, bd_eq, natD_zero, natD_succ, natD_one, noYl_v, noYl_sl, noYl_nl, noYl_cp, noYl_fn, Bool.and_true, Bool.true_and, Bool.and_self, beqN_self, Bool.not_true, Bool.not_false, Bool.and_false, Bool.false_and, Bool.or_false, Bool.false_or, Bool.or_true, Bool.true_or, wrap_in, dlt_t, dlt_f, dle_t, dle_f, dgt_t, dgt_f, dge_t, dge_f, ibeq_t, ibeq_f, ibne_t, ibne_f, inR_int, beqN_eq, bleN_le, ik_length, hKl, htk, hE, hLn, bne_self_eq_false]
  rw [show asMp (C.mp ty_timeline_subject ty_stimeline_point (some 2) none ((grp (items X)).map sent)) ty_timeline_subject ty_stimeline_point (some 2) none = fun k => k ((grp (items X)).map sent) from rfl]
  refine perms_of fun es' hp => ?_
  obtain ⟨M', hM', rfl⟩ := perm_map_inv hp _ rfl
  have hMl := hM'.length_eq
  have hin : ∀ e ∈ M', e ∈ grp (items X) := fun e he => hM'.mem_iff.1 he
  rw [overK_runx (x := (([] : List C), ())) (fun j => (fl fgC (flagsOf K (M'.take j)), ())) (fl fgC (flagsOf K M'), ()) rfl (by rw [List.length_map, List.take_length]) ?_]
  · obtain ⟨L', l1', l2', l3'⟩ := sortR_list (g := fgI) fgI_length (lexZ_swo [0, 1]) (flagsOf K M')
    have hLs' := strictF (flagsOf_nodup hX hM') l1' l2'
    have hLL : L' = L := asc_ext' flt_irrefl (fun a b c => flt_trans) hLs' hLs fun n => by
      rw [l1'.mem_iff, l1.mem_iff, mem_flagsOf hX hM', mem_flagsOf hX (.refl _)]
    subst hLL
    have hfl := fl_length fgC_length (flagsOf K M')
    have hfl' := fl_length fgC_length L'
    have hll := l1'.length_eq
    have hFm := hFl M' hin (by omega)
    have hdv : (flagsOf K M').length * 3 / 3 = (flagsOf K M').length := by omega
    have hS := pr_sortF fu (d + 8) (flagsOf K M') (by omega)
    rw [l3', ← fg_ints] at hS
    have htk' : List.take ((flagsOf K M').length * 3) (fl fgC L') = fl fgC L' := List.take_of_length_le (by omega)
    simp (disch := omega) only [hdt_eq, obs, rC_c, rA_agg, rT_tup, rP_ptr, rW_own, rS_sb, rF_sb, uncV_cons, uncO_cons, nilV_nil, rO_ob, rN_ob, unc_cons, asI_int, asB_bool, asS_string, asSl_sl, asSl_nl, asFn_fn, asP_cp, nrm_sl, nrm_nl, need_true, ct, cf, bd_eq, natD_zero, natD_succ, natD_one, noYl_v, noYl_sl, noYl_nl, noYl_cp, noYl_fn, Bool.and_true, Bool.true_and, Bool.and_self, beqN_self, Bool.not_true, Bool.not_false, Bool.and_false, Bool.false_and, Bool.or_false, Bool.false_or, Bool.or_true, Bool.true_or, wrap_in, dlt_t, dlt_f, dle_t, dle_f, dgt_t, dgt_f, dge_t, dge_f, ibeq_t, ibeq_f, ibne_t, ibne_f, inR_int, beqN_eq, bleN_le, hfl, hdv, hS, hfl', htk', Nat.zero_add]
    rw [← hll]
  · intro j hj
    have hj' : j < M'.length := by simpa using hj
    obtain ⟨e0, e1, e2, e3, e4, e5⟩ := hsl _ (hin _ (List.getElem_mem hj'))
    have hts : flagsOf K (M'.take (j + 1)) = flagsOf K (M'.take j) ++ flagsTo K M'[j].1.2 (srt M'[j].2) (srt M'[j].2).length := by
      unfold flagsOf
      rw [List.take_succ_eq_append_getElem hj', List.flatMap_append]; simp
    have hFj := hFl (M'.take j) (fun e he => hin e (List.mem_of_mem_take he)) (by rw [List.length_take]; omega)
    rw [List.getElem_map, hts]
    generalize M'[j] = e at e0 e1 e2 e3 e4 e5
    generalize flagsOf K (M'.take j) = F at hFj
    obtain ⟨⟨nm, c⟩, ws⟩ := e
    unfold sent keyC
    replace e1 : 1 ≤ (srt ws).length := e1
    replace e2 : (srt ws).length ≤ 220 := e2
    replace e3 : ∀ x ∈ srt ws, okP x := e3
    replace e4 : 1 ≤ c := e4
    replace e5 : c ≤ 11 := e5
    show _ = some (0, (fl fgC (F ++ flagsTo K c (srt ws) (srt ws).length), ()))
    generalize srt ws = l at e1 e2 e3
    obtain ⟨cn, rfl⟩ : ∃ cn : Nat, c = cn := ⟨c.toNat, by omega⟩
    have k1 : List.drop cn (List.drop 1 (ints K)) = C.v (.int .i64 (stK K cn)) :: ints (K.drop (1 + cn + 1)) := by
      rw [List.drop_drop, ik_getD (by omega)]; rfl
    have k2 : List.drop cn (List.drop 13 (ints K)) = C.v (.int .i64 (spK K cn)) :: ints (K.drop (13 + cn + 1)) := by
      rw [List.drop_drop, ik_getD (by omega)]; rfl
    have b1 : 0 ≤ stK K cn ∧ stK K cn ≤ 10000 := hK.2 _ (by omega) (by simp; omega)
    have b2 : 0 ≤ spK K cn ∧ spK K cn ≤ 10000 := hK.2 _ (by omega) (by simp; omega)
    have hfF := fl_length fgC_length F
    have hdF : F.length * 3 / 3 = F.length := by omega
    have hst : (bif decide (stK K cn > 0) then
          need (noYl [V.c (nrm (C.sl l.length (fl ptC l)))]) <|
          (cl fu (d + 9) fn_timeline_steps [V.c (nrm (C.sl l.length (fl ptC l))), I (stK K cn)] []).bind fun out2 =>
          rC out2.r fun c6 =>
          need (((Nat.beq (((fl fgC F).length / 3) * 3) (fl fgC F).length) && true) && true) <|
          some ((0 : Nat), (fl fgC F, c6, (nm, (cn : Int), ()), ()))
        else
          need (((Nat.beq (((fl fgC F).length / 3) * 3) (fl fgC F).length) && true) && true) <|
          some ((0 : Nat), (fl fgC F, C.sl (((l.length : Nat) : Int).toNat) (List.take ((((l.length : Nat) : Int).toNat) * 1) (reps (((l.length : Nat) : Int).toNat) ([C.v (.bool false)]))), (nm, (cn : Int), ()), ()))) = some (0, (fl fgC F, C.sl l.length (blC (stepsB K cn l)), (nm, (cn : Int), ()), ())) := by
      by_cases hs : 0 < stK K cn
      · have hS := sp_steps fu (d + 6) hf l ⟨e1, by omega⟩ e3 (stK K cn) b1
        have e : stepsB K cn l = (List.range l.length).map (badS (fOf l) l.length (stK K cn)) := by
          unfold stepsB
          apply List.map_congr_left
          intro k hk
          rw [dgt_t hs, Bool.true_and]
        rw [e]
        simp (disch := omega) only [hdt_eq, obs, rC_c, rA_agg, rT_tup, rP_ptr, rW_own, rS_sb, rF_sb, uncV_cons, uncO_cons, nilV_nil, rO_ob, rN_ob, unc_cons, asI_int, asB_bool, asS_string, asSl_sl, asSl_nl, asFn_fn, asP_cp, nrm_sl, nrm_nl, need_true, ct, cf, bd_eq, natD_zero, natD_succ, natD_one, noYl_v, noYl_sl, noYl_nl, noYl_cp, noYl_fn, Bool.and_true, Bool.true_and, Bool.and_self, beqN_self, Bool.not_true, Bool.not_false, Bool.and_false, Bool.false_and, Bool.or_false, Bool.false_or, Bool.or_true, Bool.true_or, wrap_in, dlt_t, dlt_f, dle_t, dle_f, dgt_t, dgt_f, dge_t, dge_f, ibeq_t, ibeq_f, ibne_t, ibne_f, inR_int, beqN_eq, bleN_le, hS, hfF, hdF]
      · have e : blC (stepsB K cn l) = reps l.length [C.v (.bool false)] := by
          refine Eq.trans (congrArg blC ?_) (reps_blC l.length).symm
          unfold stepsB
          apply List.ext_getElem?
          intro i
          rw [List.getElem?_map, List.getElem?_replicate]
          by_cases h : i < l.length
          · rw [List.getElem?_range h, if_pos h, Option.map_some, decide_eq_false (by omega), Bool.false_and]
          · rw [if_neg h, List.getElem?_eq_none_iff.2 (by simpa using h)]; rfl
        have hrl : (reps l.length [C.v (.bool false)]).length = l.length := by rw [reps_blC l.length, blC_length, List.length_replicate]
        have htr : List.take l.length (reps l.length [C.v (.bool false)]) = reps l.length [C.v (.bool false)] := List.take_of_length_le (by omega)
        rw [e]
        simp (disch := omega) only [hdt_eq, obs, rC_c, rA_agg, rT_tup, rP_ptr, rW_own, rS_sb, rF_sb, uncV_cons, uncO_cons, nilV_nil, rO_ob, rN_ob, unc_cons, asI_int, asB_bool, asS_string, asSl_sl, asSl_nl, asFn_fn, asP_cp, nrm_sl, nrm_nl, need_true, ct, cf, bd_eq, natD_zero, natD_succ, natD_one, noYl_v, noYl_sl, noYl_nl, noYl_cp, noYl_fn, Bool.and_true, Bool.true_and, Bool.and_self, beqN_self, Bool.not_true, Bool.not_false, Bool.and_false, Bool.false_and, Bool.or_false, Bool.false_or, Bool.or_true, Bool.true_or, wrap_in, dlt_t, dlt_f, dle_t, dle_f, dgt_t, dgt_f, dge_t, dge_f, ibeq_t, ibeq_f, ibne_t, ibne_f, inR_int, beqN_eq, bleN_le, hfF, hdF, Int.toNat_natCast, Nat.mul_one, htr]
    have hrl : (reps l.length [C.v (.bool false)]).length = l.length := by rw [reps_blC l.length, blC_length, List.length_replicate]
    simp (disch := omega) only [hdt_eq, obs, rC_c, rA_agg, rT_tup, rP_ptr, rW_own, rS_sb, rF_sb, uncV_cons, uncO_cons, nilV_nil, rO_ob, rN_ob, unc_cons, asI_int, asB_bool, asS_string, asSl_sl, asSl_nl, asFn_fn, asP_cp, nrm_sl, nrm_nl, need_true, ct, cf, bd_eq, natD_zero, natD_succ, natD_one, noYl_v, noYl_sl, noYl_nl, noYl_cp, noYl_fn, Bool.and_true, Bool.true_and, Bool.and_self, beqN_self, Bool.not_true, Bool.not_false, Bool.and_false, Bool.false_and, Bool.or_false, Bool.false_or, Bool.or_true, Bool.true_or, wrap_in, dlt_t, dlt_f, dle_t, dle_f, dgt_t, dgt_f, dge_t, dge_f, ibeq_t, ibeq_f, ibne_t, ibne_f, inR_int, beqN_eq, bleN_le, List.length_cons, List.length_nil, Nat.zero_add, Nat.reduceAdd, Int.toNat_natCast, Nat.mul_one, k1, hrl]
    rw [hst]
    simp (disch := omega) only [hdt_eq, obs, rC_c, rA_agg, rT_tup, rP_ptr, rW_own, rS_sb, rF_sb, uncV_cons, uncO_cons, nilV_nil, rO_ob, rN_ob, unc_cons, asI_int, asB_bool, asS_string, asSl_sl, asSl_nl, asFn_fn, asP_cp, nrm_sl, nrm_nl, need_true, ct, cf, bd_eq, natD_zero, natD_succ, natD_one, noYl_v, noYl_sl, noYl_nl, noYl_cp, noYl_fn, Bool.and_true, Bool.true_and, Bool.and_self, beqN_self, Bool.not_true, Bool.not_false, Bool.and_false, Bool.false_and, Bool.or_false, Bool.false_or, Bool.or_true, Bool.true_or, wrap_in, dlt_t, dlt_f, dle_t, dle_f, dgt_t, dgt_f, dge_t, dge_f, ibeq_t, ibeq_f, ibne_t, ibne_f, inR_int, beqN_eq, bleN_le, List.length_cons, List.length_nil, Nat.zero_add, Nat.reduceAdd, Int.toNat_natCast, Nat.mul_one, k2, hfF, hdF]
    have hbl := stepsB_length K cn l
    have hft : ∀ i, i ≤ l.length → (fl fgC (F ++ flagsTo K cn l i)).length = (F ++ flagsTo K cn l i).length * 3 ∧ (F ++ flagsTo K cn l i).length * 3 / 3 = (F ++ flagsTo K cn l i).length ∧ (F ++ flagsTo K cn l i).length ≤ 100000 := fun i hi => by
      have h1 := flagsTo_length K cn l i
      refine ⟨fl_length fgC_length _, by omega, by rw [List.length_append]; omega⟩
    rw [iter_runx (fun i : Nat => (fl fgC (F ++ flagsTo K cn l i), ((i : Nat) : Int), (nm, (cn : Int), ()), ())) 0 (fl fgC (F ++ flagsTo K cn l l.length), (l.length : Int), (nm, (cn : Int), ()), ()) l.length ?_ ?_ ?_ (by omega)]
    rotate_left
    · show _ = (fl fgC (F ++ []), _, _, _)
      rw [List.append_nil]; rfl
    · intro i hi
      obtain ⟨t1, t2, t3⟩ := hft i (by omega)
      obtain ⟨u1, u2, u3⟩ := hft (i + 1) (by omega)
      have a1 := pt_at (l := l) hi
      have a2 := blC_at (l := stepsB K cn l) (k := i) (by omega)
      rw [stepsB_at] at a2
      have hsu := flagsTo_succ K cn l i _ rfl
      rw [hsu] at u1 u2 u3 ⊢
      unfold badK at u1 u2 u3 ⊢
      have hs1 : ((i : Nat) : Int) + 1 = ((i + 1 : Nat) : Int) := rfl
      cases hb : (decide (stK K cn > 0) && badS (fOf l) l.length (stK K cn) i) with
      | true =>
        rw [hb] at a2 u1 u2 u3
        rw [Bool.true_or, if_pos rfl, ← List.append_assoc] at u1 u2 u3 ⊢
        have hsn := fg_snoc (F ++ flagsTo K cn l i) (fOf l i).i cn
        have hll : (F ++ flagsTo K cn l i ++ [((fOf l i).i, (cn : Int))]).length = (F ++ flagsTo K cn l i).length + 1 := by rw [List.length_append]; rfl
        rw [hll] at u1
        simp (disch := omega) only [hdt_eq, obs, rC_c, rA_agg, rT_tup, rP_ptr, rW_own, rS_sb, rF_sb, uncV_cons, uncO_cons, nilV_nil, rO_ob, rN_ob, unc_cons, asI_int, asB_bool, asS_string, asSl_sl, asSl_nl, asFn_fn, asP_cp, nrm_sl, nrm_nl, need_true, ct, cf, bd_eq, natD_zero, natD_succ, natD_one, noYl_v, noYl_sl, noYl_nl, noYl_cp, noYl_fn, Bool.and_true, Bool.true_and, Bool.and_self, beqN_self, Bool.not_true, Bool.not_false, Bool.and_false, Bool.false_and, Bool.or_false, Bool.false_or, Bool.or_true, Bool.true_or, wrap_in, dlt_t, dlt_f, dle_t, dle_f, dgt_t, dgt_f, dge_t, dge_f, ibeq_t, ibeq_f, ibne_t, ibne_f, inR_int, beqN_eq, bleN_le, Int.toNat_natCast, Nat.mul_one, a1, a2, ptC, List.cons_append, List.nil_append, hbl, t1, t2, hsn, u1, hs1]
      | false =>
        rw [hb] at a2 u1 u2 u3
        rw [Bool.false_or] at u1 u2 u3 ⊢
        by_cases hp0 : 0 < spK K cn
        · rw [decide_eq_true (show spK K cn > 0 from hp0), Bool.true_and] at u1 u2 u3 ⊢
          cases i with
          | zero =>
            simp (disch := omega) only [hdt_eq, obs, rC_c, rA_agg, rT_tup, rP_ptr, rW_own, rS_sb, rF_sb, uncV_cons, uncO_cons, nilV_nil, rO_ob, rN_ob, unc_cons, asI_int, asB_bool, asS_string, asSl_sl, asSl_nl, asFn_fn, asP_cp, nrm_sl, nrm_nl, need_true, ct, cf, bd_eq, natD_zero, natD_succ, natD_one, noYl_v, noYl_sl, noYl_nl, noYl_cp, noYl_fn, Bool.and_true, Bool.true_and, Bool.and_self, beqN_self, Bool.not_true, Bool.not_false, Bool.and_false, Bool.false_and, Bool.or_false, Bool.false_or, Bool.or_true, Bool.true_or, wrap_in, dlt_t, dlt_f, dle_t, dle_f, dgt_t, dgt_f, dge_t, dge_f, ibeq_t, ibeq_f, ibne_t, ibne_f, inR_int, beqN_eq, bleN_le, Int.toNat_natCast, Nat.mul_one, a1, a2, ptC, List.cons_append, List.nil_append, hbl, t1, t2, hs1]
            rfl
          | succ i =>
            have hs0 : ((i + 1 : Nat) : Int) - 1 = ((i : Nat) : Int) := by omega
            by_cases h2 : i + 2 < l.length
            · have a3 := pt_at (l := l) (show i < l.length by omega)
              have a4 := pt_at (l := l) h2
              have hq := sp_spike fu (d + 7) (fOf l i) (fOf l (i + 1)) (fOf l (i + 2)) (spK K cn) (fOf_ok e3 (by omega)) (fOf_ok e3 (by omega)) (fOf_ok e3 (by omega))
              unfold ptC at hq
              have hbP : badP (fOf l) l.length (spK K cn) (i + 1) = spikeB (fOf l i) (fOf l (i + 1)) (fOf l (i + 2)) (spK K cn) := by
                show (decide (i + 2 < l.length) && _) = _
                rw [decide_eq_true h2, Bool.true_and]
              rw [hbP] at u1 u2 u3 ⊢
              cases hsp : spikeB (fOf l i) (fOf l (i + 1)) (fOf l (i + 2)) (spK K cn) with
              | true =>
                rw [hsp] at u1 u2 u3 hq
                rw [if_pos rfl, ← List.append_assoc] at u1 u2 u3 ⊢
                have hsn := fg_snoc (F ++ flagsTo K cn l (i + 1)) (fOf l (i + 1)).i cn
                have hll : (F ++ flagsTo K cn l (i + 1) ++ [((fOf l (i + 1)).i, (cn : Int))]).length = (F ++ flagsTo K cn l (i + 1)).length + 1 := by rw [List.length_append]; rfl
                rw [hll] at u1
                simp (disch := omega) only [hdt_eq, obs, rC_c, rA_agg, rT_tup, rP_ptr, rW_own, rS_sb, rF_sb, uncV_cons, uncO_cons, nilV_nil, rO_ob, rN_ob, unc_cons, asI_int, asB_bool, asS_string, asSl_sl, asSl_nl, asFn_fn, asP_cp, nrm_sl, nrm_nl, need_true, ct, cf, bd_eq, natD_zero, natD_succ, natD_one, noYl_v, noYl_sl, noYl_nl, noYl_cp, noYl_fn, Bool.and_true, Bool.true_and, Bool.and_self, beqN_self, Bool.not_true, Bool.not_false, Bool.and_false, Bool.false_and, Bool.or_false, Bool.false_or, Bool.or_true, Bool.true_or, wrap_in, dlt_t, dlt_f, dle_t, dle_f, dgt_t, dgt_f, dge_t, dge_f, ibeq_t, ibeq_f, ibne_t, ibne_f, inR_int, beqN_eq, bleN_le, Int.toNat_natCast, Nat.mul_one, a1, a2, a3, a4, ptC, List.cons_append, List.nil_append, hbl, t1, t2, hs0, hs1, hq, hsn, u1]
              | false =>
                rw [hsp] at hq
                simp (disch := omega) only [hdt_eq, obs, rC_c, rA_agg, rT_tup, rP_ptr, rW_own, rS_sb, rF_sb, uncV_cons, uncO_cons, nilV_nil, rO_ob, rN_ob, unc_cons, asI_int, asB_bool, asS_string, asSl_sl, asSl_nl, asFn_fn, asP_cp, nrm_sl, nrm_nl, need_true, ct, cf, bd_eq, natD_zero, natD_succ, natD_one, noYl_v, noYl_sl, noYl_nl, noYl_cp, noYl_fn, Bool.and_true, Bool.true_and, Bool.and_self, beqN_self, Bool.not_true, Bool.not_false, Bool.and_false, Bool.false_and, Bool.or_false, Bool.false_or, Bool.or_true, Bool.true_or, wrap_in, dlt_t, dlt_f, dle_t, dle_f, dgt_t, dgt_f, dge_t, dge_f, ibeq_t, ibeq_f, ibne_t, ibne_f, inR_int, beqN_eq, bleN_le, Int.toNat_natCast, Nat.mul_one, a1, a2, a3, a4, ptC, List.cons_append, List.nil_append, hbl, t1, t2, hs0, hs1, hq]
                rfl
            · have hbP : badP (fOf l) l.length (spK K cn) (i + 1) = false := by
                show (decide (i + 2 < l.length) && _) = _
                rw [decide_eq_false h2, Bool.false_and]
              rw [hbP]
              simp (disch := omega) only [hdt_eq, obs, rC_c, rA_agg, rT_tup, rP_ptr, rW_own, rS_sb, rF_sb, uncV_cons, uncO_cons, nilV_nil, rO_ob, rN_ob, unc_cons, asI_int, asB_bool, asS_string, asSl_sl, asSl_nl, asFn_fn, asP_cp, nrm_sl, nrm_nl, need_true, ct, cf, bd_eq, natD_zero, natD_succ, natD_one, noYl_v, noYl_sl, noYl_nl, noYl_cp, noYl_fn, Bool.and_true, Bool.true_and, Bool.and_self, beqN_self, Bool.not_true, Bool.not_false, Bool.and_false, Bool.false_and, Bool.or_false, Bool.false_or, Bool.or_true, Bool.true_or, wrap_in, dlt_t, dlt_f, dle_t, dle_f, dgt_t, dgt_f, dge_t, dge_f, ibeq_t, ibeq_f, ibne_t, ibne_f, inR_int, beqN_eq, bleN_le, Int.toNat_natCast, Nat.mul_one, a1, a2, ptC, List.cons_append, List.nil_append, hbl, t1, t2, hs1]
              rfl
        · rw [decide_eq_false (show ¬ spK K cn > 0 from hp0), Bool.false_and]
          simp (disch := omega) only [hdt_eq, obs, rC_c, rA_agg, rT_tup, rP_ptr, rW_own, rS_sb, rF_sb, uncV_cons, uncO_cons, nilV_nil, rO_ob, rN_ob, unc_cons, asI_int, asB_bool, asS_string, asSl_sl, asSl_nl, asFn_fn, asP_cp, nrm_sl, nrm_nl, need_true, ct, cf, bd_eq, natD_zero, natD_succ, natD_one, noYl_v, noYl_sl, noYl_nl, noYl_cp, noYl_fn, Bool.and_true, Bool.true_and, Bool.and_self, beqN_self, Bool.not_true, Bool.not_false, Bool.and_false, Bool.false_and, Bool.or_false, Bool.false_or, Bool.or_true, Bool.true_or, wrap_in, dlt_t, dlt_f, dle_t, dle_f, dgt_t, dgt_f, dge_t, dge_f, ibeq_t, ibeq_f, ibne_t, ibne_f, inR_int, beqN_eq, bleN_le, Int.toNat_natCast, Nat.mul_one, a1, a2, ptC, List.cons_append, List.nil_append, hbl, t1, t2, hs1]
          rfl
    · obtain ⟨t1, t2, t3⟩ := hft l.length (by omega)
      simp (disch := omega) only [hdt_eq, obs, rC_c, rA_agg, rT_tup, rP_ptr, rW_own, rS_sb, rF_sb, uncV_cons, uncO_cons, nilV_nil, rO_ob, rN_ob, unc_cons, asI_int, asB_bool, asS_string, asSl_sl, asSl_nl, asFn_fn, asP_cp, nrm_sl, nrm_nl, need_true, ct, cf, bd_eq, natD_zero, natD_succ, natD_one, noYl_v, noYl_sl, noYl_nl, noYl_cp, noYl_fn, Bool.and_true, Bool.true_and, Bool.and_self, beqN_self, Bool.not_true, Bool.not_false, Bool.and_false, Bool.false_and, Bool.or_false, Bool.false_or, Bool.or_true, Bool.true_or, wrap_in, dlt_t, dlt_f, dle_t, dle_f, dgt_t, dgt_f, dge_t, dge_f, ibeq_t, ibeq_f, ibne_t, ibne_f, inR_int, beqN_eq, bleN_le, t1, t2]
    obtain ⟨t1, t2, t3⟩ := hft l.length (by omega)
    simp (disch := omega) only [hdt_eq, obs, rC_c, rA_agg, rT_tup, rP_ptr, rW_own, rS_sb, rF_sb, uncV_cons, uncO_cons, nilV_nil, rO_ob, rN_ob, unc_cons, asI_int, asB_bool, asS_string, asSl_sl, asSl_nl, asFn_fn, asP_cp, nrm_sl, nrm_nl, need_true, ct, cf, bd_eq, natD_zero, natD_succ, natD_one, noYl_v, noYl_sl, noYl_nl, noYl_cp, noYl_fn, Bool.and_true, Bool.true_and, Bool.and_self, beqN_self, Bool.not_true, Bool.not_false, Bool.and_false, Bool.false_and, Bool.or_false, Bool.false_or, Bool.or_true, Bool.true_or, wrap_in, dlt_t, dlt_f, dle_t, dle_f, dgt_t, dgt_f, dge_t, dge_f, ibeq_t, ibeq_f, ibne_t, ibne_f, inR_int, beqN_eq, bleN_le, t1, t2]
end
end Go.Proofs.YthblmpoheobcbaaDoor
/- Orders; minutes; parameters; the readings' ranges (chapter 16). -/
namespace Go.Proofs.YthblmpoheobcbaaDoor
open Go Go.PM Go.Grid
attribute [local congr] hd_bind hd_need hd_cond hd_unc hd_uncV hd_uncO hd_unI hd_asI hd_asB hd_asS hd_asSl hd_asFn hd_asP hd_rC hd_rA hd_rT hd_rG hd_rP hd_rO hd_rN hd_rF hd_rS hd_rW hd_nilV hd_natD hd_bd hd_iter hd_over hd_sliceC hd_asMp hd_asYF
section
variable (fu d : Nat) (L : List Int) (hL : L.length ≤ 2000) (hf : 18446744073709551616 ≤ fu)
include hL hf
end
section
variable (fu d : Nat) (hf : 18446744073709551616 ≤ fu)
include hf
end
section
variable (fu d : Nat) (L : List Int) (hL : L.length ≤ 2000)
include hL
theorem sp_Minute (i : Nat) : ∃ (v : Int) (j : Nat), cl fu (d + 4) fn_synopticdata_Minute [V.ptr 1000000 0] [srcO L i] = some ⟨I v, [srcO L j], none⟩ ∧ okM v := by
  obtain ⟨v1, j1, a1, b1, c1⟩ := sp_N fu (d + 1) L i hL 6 (by omega)
  unfold srcO srcC at a1 ⊢
  rw [eq_synopticdata_Minute, a1]
  simp only [hdt_eq, obs, rC_c, rA_agg, rT_tup, rP_ptr, rW_own, rS_sb, rF_sb, uncV_cons, uncO_cons, nilV_nil, rO_ob, rN_ob, unc_cons, asI_int, asB_bool, asS_string, asSl_sl, asSl_nl, asFn_fn, asP_cp, nrm_sl, nrm_nl, need_true, ct, cf, bd_eq, natD_zero, natD_succ, natD_one, noYl_v, noYl_sl, noYl_nl, noYl_cp, noYl_fn, Bool.and_true, Bool.true_and, Bool.and_self, beqN_self, Bool.not_true, Bool.not_false, Bool.and_false, Bool.false_and, Bool.or_false, Bool.false_or, Bool.or_true, Bool.true_or, List.length_cons, List.length_nil, Nat.zero_add, Nat.reduceAdd]
  by_cases h0 : v1 = 0
  · obtain ⟨v2, j2, a2⟩ := sp_Raw fu (d + 2) L j1 hL
    obtain ⟨v3, j3, a3⟩ := sp_Raw fu (d + 2) L j2 hL
    obtain ⟨v4, a4, b4, c4⟩ := sp_Mod fu (d + 2) (IntKind.i64.wrap ((IntKind.i64.wrap (v2 * 7919)) + v3)) 52596000 (by omega)
    unfold srcO srcC at a2 a3
    subst h0
    simp only [hdt_eq, show ((0 : Int) == 0) = true from rfl, ct, a2, a3, a4, obs, rC_c, rA_agg, rT_tup, rP_ptr, rW_own, rS_sb, rF_sb, uncV_cons, uncO_cons, nilV_nil, rO_ob, rN_ob, unc_cons, asI_int, asB_bool, asS_string, asSl_sl, asSl_nl, asFn_fn, asP_cp, nrm_sl, nrm_nl, need_true, ct, cf, bd_eq, natD_zero, natD_succ, natD_one, noYl_v, noYl_sl, noYl_nl, noYl_cp, noYl_fn, Bool.and_true, Bool.true_and, Bool.and_self, beqN_self, Bool.not_true, Bool.not_false, Bool.and_false, Bool.false_and, Bool.or_false, Bool.false_or, Bool.or_true, Bool.true_or, List.length_cons, List.length_nil, Nat.zero_add, Nat.reduceAdd]
    exact ⟨v4, j3, rfl, b4, by omega⟩
  · rw [show (v1 == 0) = false by simpa using h0]
    by_cases h1 : v1 = 1
    · obtain ⟨v2, j2, a2, b2⟩ := sp_Pick fu d L j1 hL [0, 52595999, 20160, 52575839] (by simp)
      have a2 : cl fu (d + 3) fn_synoptickeep_Src_Pick [V.ptr 1000000 0, V.c (C.sl 4 [C.v (.int .i64 0), C.v (.int .i64 52595999), C.v (.int .i64 20160), C.v (.int .i64 52575839)])] [srcO L j1] = _ := a2
      unfold srcO srcC at a2
      subst h1
      simp only [hdt_eq, show ((1 : Int) == 1) = true from rfl, ct, cf, a2, obs, rC_c, rA_agg, rT_tup, rP_ptr, rW_own, rS_sb, rF_sb, uncV_cons, uncO_cons, nilV_nil, rO_ob, rN_ob, unc_cons, asI_int, asB_bool, asS_string, asSl_sl, asSl_nl, asFn_fn, asP_cp, nrm_sl, nrm_nl, need_true, ct, cf, bd_eq, natD_zero, natD_succ, natD_one, noYl_v, noYl_sl, noYl_nl, noYl_cp, noYl_fn, Bool.and_true, Bool.true_and, Bool.and_self, beqN_self, Bool.not_true, Bool.not_false, Bool.and_false, Bool.false_and, Bool.or_false, Bool.false_or, Bool.or_true, Bool.true_or, List.length_cons, List.length_nil, Nat.zero_add, Nat.reduceAdd]
      refine ⟨v2, j2, rfl, ?_⟩
      unfold okM
      simp only [List.mem_cons, List.not_mem_nil, or_false] at b2
      omega
    · obtain ⟨v2, j2, a2, b2, c2⟩ := sp_N fu (d + 1) L j1 hL 2000 (by omega)
      unfold srcO srcC at a2
      rw [show (v1 == 1) = false by simpa using h1]
      simp (disch := omega) only [hdt_eq, cf, a2, obs, rC_c, rA_agg, rT_tup, rP_ptr, rW_own, rS_sb, rF_sb, uncV_cons, uncO_cons, nilV_nil, rO_ob, rN_ob, unc_cons, asI_int, asB_bool, asS_string, asSl_sl, asSl_nl, asFn_fn, asP_cp, nrm_sl, nrm_nl, need_true, ct, cf, bd_eq, natD_zero, natD_succ, natD_one, noYl_v, noYl_sl, noYl_nl, noYl_cp, noYl_fn, Bool.and_true, Bool.true_and, Bool.and_self, beqN_self, Bool.not_true, Bool.not_false, Bool.and_false, Bool.false_and, Bool.or_false, Bool.false_or, Bool.or_true, Bool.true_or, wrap_in, dlt_t, dlt_f, dle_t, dle_f, dgt_t, dgt_f, dge_t, dge_f, ibeq_t, ibeq_f, ibne_t, ibne_f, inR_int, beqN_eq, bleN_le, List.length_cons, List.length_nil, Nat.zero_add, Nat.reduceAdd]
      exact ⟨_, j2, rfl, by unfold okM; omega⟩
variable (hf : 18446744073709551616 ≤ fu)
include hf
omit hL hf in
theorem getD_set_lt {K : List Int} {k j : Nat} {x : Int} (hk : k < K.length) : (K.set k x).getD j 0 = if j = k then x else K.getD j 0 := by
  rw [List.getD_eq_getElem?_getD, List.getD_eq_getElem?_getD]
  by_cases h : j = k
  · subst h; rw [if_pos rfl, List.getElem?_set_self hk]; rfl
  · rw [if_neg h, List.getElem?_set_ne (Ne.symm h)]
end
end Go.Proofs.YthblmpoheobcbaaDoor
/- Reports at regular times (chapter 16). -/
namespace Go.Proofs.YthblmpoheobcbaaDoor
open Go Go.PM
attribute [local congr] hd_bind hd_need hd_cond hd_unc hd_uncV hd_uncO hd_unI hd_asI hd_asB hd_asS hd_asSl hd_asFn hd_asP hd_rC hd_rA hd_rT hd_rG hd_rP hd_rO hd_rN hd_rF hd_rS hd_rW hd_nilV hd_natD hd_bd hd_iter hd_over hd_sliceC hd_asMp hd_asYF
theorem rp_snoc (l : List Rp) (nm : ByteArray) (tm : Int) (rs : List (Int × Int)) :
    fl rpC l ++ [.v (.int .i64 1), .v (.string nm), .v (.int .i64 tm), .v (.int .i64 0), .v (.int .i64 0), .v (.int .i64 0), .v (.int .i64 0), C.sl rs.length (fl rdc rs)] = fl rpC (l ++ [⟨nm, tm, rs, false⟩]) := fl_snoc l ⟨nm, tm, rs, false⟩
section
variable (fu d : Nat) (L : List Int) (hL : L.length ≤ 2000) (hf : 18446744073709551616 ≤ fu)
include hL hf
end
end Go.Proofs.YthblmpoheobcbaaDoor
/- Flags compared, flags looked for, readings looked for; the examples of the chapter (chapter 16). -/
namespace Go.Proofs.YthblmpoheobcbaaDoor
open Go Go.PM
attribute [local congr] hd_bind hd_need hd_cond hd_unc hd_uncV hd_uncO hd_unI hd_asI hd_asB hd_asS hd_asSl hd_asFn hd_asP hd_rC hd_rA hd_rT hd_rG hd_rP hd_rO hd_rN hd_rF hd_rS hd_rW hd_nilV hd_natD hd_bd hd_iter hd_over hd_sliceC hd_asMp hd_asYF
theorem okX_of {X : List Rp} (h1 : X.length ≤ 20) (h2 : ∀ x ∈ X, okRp x) (h3 : X.Pairwise fun a b => a.tm < b.tm) : okX X := by
  refine ⟨h1, h2, ?_⟩
  unfold List.Nodup
  rw [List.pairwise_map]
  exact h3.imp fun {a b} hab e => by
    have := congrArg Prod.snd e
    simp only at this
    omega
section
variable (fu d : Nat) (hf : 18446744073709551616 ≤ fu)
include hf
theorem sp_FlagsEq (l : List (Int × Int)) (hl : l.length ≤ 1000000) : cl fu (d + 1) fn_synopticref16_Flags [V.c (C.sl l.length (fl fgC l)), V.c (C.sl l.length (fl fgC l))] [] = OK (B true) := by
  rw [eq_synopticref16_Flags]
  simp (disch := omega) only [hdt_eq, obs, rC_c, rA_agg, rT_tup, rP_ptr, rW_own, rS_sb, rF_sb, uncV_cons, uncO_cons, nilV_nil, rO_ob, rN_ob, unc_cons, asI_int, asB_bool, asS_string, asSl_sl, asSl_nl, asFn_fn, asP_cp, nrm_sl, nrm_nl, need_true, ct, cf, bd_eq, natD_zero, natD_succ, natD_one, noYl_v, noYl_sl, noYl_nl, noYl_cp, noYl_fn, Bool.and_true, Bool.true_and, Bool.and_self, beqN_self, Bool.not_true, Bool.not_false, Bool.and_false, Bool.false_and, Bool.or_false, Bool.false_or, Bool.or_true, Bool.true_or, wrap_in, dlt_t, dlt_f, dle_t, dle_f, dgt_t, dgt_f, dge_t, dge_f, ibeq_t, ibeq_f, ibne_t, ibne_f, inR_int, beqN_eq, bleN_le, bne_self_eq_false]
  rw [iter_runx (fun j : Nat => (false, ((j : Nat) : Int), ())) 0 (false, (l.length : Int), ()) l.length ?_ ?_ ?_ (by omega)]
  · simp only [hdt_eq, obs, rC_c, rA_agg, rT_tup, rP_ptr, rW_own, rS_sb, rF_sb, uncV_cons, uncO_cons, nilV_nil, rO_ob, rN_ob, unc_cons, asI_int, asB_bool, asS_string, asSl_sl, asSl_nl, asFn_fn, asP_cp, nrm_sl, nrm_nl, need_true, ct, cf, bd_eq, natD_zero, natD_succ, natD_one, noYl_v, noYl_sl, noYl_nl, noYl_cp, noYl_fn, Bool.and_true, Bool.true_and, Bool.and_self, beqN_self, Bool.not_true, Bool.not_false, Bool.and_false, Bool.false_and, Bool.or_false, Bool.false_or, Bool.or_true, Bool.true_or]
  · rfl
  · intro j hj
    have hat := fl_at fgC_length hj
    simp (disch := omega) only [hdt_eq, obs, rC_c, rA_agg, rT_tup, rP_ptr, rW_own, rS_sb, rF_sb, uncV_cons, uncO_cons, nilV_nil, rO_ob, rN_ob, unc_cons, asI_int, asB_bool, asS_string, asSl_sl, asSl_nl, asFn_fn, asP_cp, nrm_sl, nrm_nl, need_true, ct, cf, bd_eq, natD_zero, natD_succ, natD_one, noYl_v, noYl_sl, noYl_nl, noYl_cp, noYl_fn, Bool.and_true, Bool.true_and, Bool.and_self, beqN_self, Bool.not_true, Bool.not_false, Bool.and_false, Bool.false_and, Bool.or_false, Bool.false_or, Bool.or_true, Bool.true_or, wrap_in, dlt_t, dlt_f, dle_t, dle_f, dgt_t, dgt_f, dge_t, dge_f, ibeq_t, ibeq_f, ibne_t, ibne_f, inR_int, beqN_eq, bleN_le, Int.toNat_natCast, hat, fgC, List.cons_append, List.nil_append, beq_self_eq_true, Int.natCast_add, Int.natCast_one]
  · simp (disch := omega) only [hdt_eq, obs, rC_c, rA_agg, rT_tup, rP_ptr, rW_own, rS_sb, rF_sb, uncV_cons, uncO_cons, nilV_nil, rO_ob, rN_ob, unc_cons, asI_int, asB_bool, asS_string, asSl_sl, asSl_nl, asFn_fn, asP_cp, nrm_sl, nrm_nl, need_true, ct, cf, bd_eq, natD_zero, natD_succ, natD_one, noYl_v, noYl_sl, noYl_nl, noYl_cp, noYl_fn, Bool.and_true, Bool.true_and, Bool.and_self, beqN_self, Bool.not_true, Bool.not_false, Bool.and_false, Bool.false_and, Bool.or_false, Bool.false_or, Bool.or_true, Bool.true_or, wrap_in, dlt_t, dlt_f, dle_t, dle_f, dgt_t, dgt_f, dge_t, dge_f, ibeq_t, ibeq_f, ibne_t, ibne_f, inR_int, beqN_eq, bleN_le]
end
theorem bad_one {X : List Rp} {K : List Int} {k0 : Sub} {l0 : List Pt} (hi : ∀ k p, (k, p) ∈ items X → k = k0) (hl : IsLine X k0 l0) {f : Int × Int} : Bad X K f ↔ f.2 = k0.2 ∧ ∃ j, j < l0.length ∧ badK (fOf l0) l0.length (stK K k0.2) (spK K k0.2) j = true ∧ f.1 = (fOf l0 j).i := by
  constructor
  · rintro ⟨nm, l, h1, j, h2, h3, h4⟩
    have hk := hi _ _ ((h1.2 _).1 (fOf_mem h2))
    obtain ⟨n0, c0⟩ := k0
    cases hk
    obtain rfl := h1.unique hl
    exact ⟨rfl, j, h2, h3, h4⟩
  · rintro ⟨h1, j, h2, h3, h4⟩
    obtain ⟨n0, c0⟩ := k0
    simp only at h1
    subst h1
    exact ⟨n0, l0, hl, j, h2, h3, h4⟩
def alpha : ByteArray := ⟨#[65, 76, 80, 72, 65]⟩
def hourly (vs : List Int) : List Rp := vs.zipIdx.map fun x => ⟨alpha, 60 * ((x.2 : Nat) : Int), [(1, x.1)], false⟩
def hline (vs : List Int) : List Pt := vs.zipIdx.map fun x => ⟨((x.2 : Nat) : Int), 60 * ((x.2 : Nat) : Int), x.1⟩
theorem hourly_length (vs : List Int) : (hourly vs).length = vs.length := by simp [hourly]
theorem hline_length (vs : List Int) : (hline vs).length = vs.length := by simp [hline]
theorem hourly_at {vs : List Int} {i : Nat} (h : i < (hourly vs).length) : (hourly vs)[i] = ⟨alpha, 60 * ((i : Nat) : Int), [(1, vs[i]'(by rw [hourly_length] at h; exact h))], false⟩ := by simp [hourly]
theorem hline_at {vs : List Int} {i : Nat} (h : i < (hline vs).length) : (hline vs)[i] = ⟨((i : Nat) : Int), 60 * ((i : Nat) : Int), vs[i]'(by rw [hline_length] at h; exact h)⟩ := by simp [hline]
theorem hourly_items {vs : List Int} {k : Sub} {p : Pt} : (k, p) ∈ items (hourly vs) ↔ k = (alpha, 1) ∧ p ∈ hline vs := by
  rw [mem_items]
  constructor
  · rintro ⟨i, hi, h1, h2, h3, h4⟩
    rw [hourly_at] at h2 h3 h4
    have hi' : i < (hline vs).length := by rw [hline_length]; rw [hourly_length] at hi; exact hi
    simp only [List.mem_cons, List.not_mem_nil, or_false, Prod.mk.injEq] at h4
    obtain ⟨k1, k2⟩ := k
    obtain ⟨p1, p2, p3⟩ := p
    simp only at h1 h2 h3 h4
    refine ⟨by rw [h3, h4.1], ?_⟩
    rw [h1, h2, h4.2, ← hline_at hi']
    exact List.getElem_mem hi'
  · rintro ⟨rfl, hp⟩
    obtain ⟨i, hi, rfl⟩ := List.mem_iff_getElem.1 hp
    have hi' : i < (hourly vs).length := by rw [hourly_length]; rw [hline_length] at hi; exact hi
    refine ⟨i, hi', ?_⟩
    rw [hline_at hi, hourly_at hi']
    exact ⟨rfl, rfl, rfl, by simp⟩
theorem hourly_line (vs : List Int) : IsLine (hourly vs) (alpha, 1) (hline vs) := by
  refine ⟨?_, fun p => by rw [hourly_items]; simp⟩
  rw [List.pairwise_iff_getElem]
  intro i j hi hj hij
  rw [hline_at hi, hline_at hj]
  dsimp only; omega
theorem hourly_ok {vs : List Int} (hl : vs.length ≤ 20) (h : ∀ v ∈ vs, 8000 ≤ v ∧ v ≤ 11000) : okX (hourly vs) := by
  refine okX_of (by rw [hourly_length]; exact hl) (fun x hx => ?_) ?_
  · obtain ⟨i, hi, rfl⟩ := List.mem_iff_getElem.1 hx
    have hi' := hi
    rw [hourly_length] at hi'
    rw [hourly_at hi]
    have := h _ (List.getElem_mem hi')
    refine ⟨⟨by simp, fun x hx => ?_, by simp⟩, by dsimp only; omega, by dsimp only; omega⟩
    simp only [List.mem_cons, List.not_mem_nil, or_false] at hx
    subst hx
    exact ⟨by simp, this⟩
  · rw [List.pairwise_iff_getElem]
    intro i j hi hj hij
    rw [hourly_at hi, hourly_at hj]
    dsimp only; omega
theorem hourly_bad {vs : List Int} {K : List Int} {f : Int × Int} : Bad (hourly vs) K f ↔ f.2 = 1 ∧ ∃ j, j < vs.length ∧ badK (fOf (hline vs)) vs.length (stK K 1) (spK K 1) j = true ∧ f.1 = (j : Nat) := by
  rw [bad_one (k0 := (alpha, 1)) (fun k p h => (hourly_items.1 h).1) (hourly_line vs), hline_length]
  refine and_congr Iff.rfl ⟨?_, ?_⟩
  · rintro ⟨j, h1, h2, h3⟩
    have hj : j < (hline vs).length := by rw [hline_length]; exact h1
    rw [← fOf_at hj, hline_at hj] at h3
    exact ⟨j, h1, h2, h3⟩
  · rintro ⟨j, h1, h2, h3⟩
    have hj : j < (hline vs).length := by rw [hline_length]; exact h1
    exact ⟨j, h1, h2, by rw [← fOf_at hj, hline_at hj]; exact h3⟩
section
variable (fu d : Nat) (hf : 18446744073709551616 ≤ fu)
include hf
omit hf in
theorem rph_snoc (l : List Rp) (i : Nat) (v : Int) :
    fl rpC l ++ [.v (.int .i64 1), .v (.string (⟨#[65, 76, 80, 72, 65]⟩)), .v (.int .i64 (60 * ((i : Nat) : Int))), .v (.int .i64 0), .v (.int .i64 0), .v (.int .i64 0), .v (.int .i64 0), C.sl 1 [.v (.int .i64 1), .v (.int .i64 v)]] = fl rpC (l ++ [⟨alpha, 60 * ((i : Nat) : Int), [(1, v)], false⟩]) := rp_snoc l alpha (60 * ((i : Nat) : Int)) [(1, v)]
omit hf in
theorem hourly_snoc (vs : List Int) (v : Int) : hourly (vs ++ [v]) = hourly vs ++ [⟨alpha, 60 * ((vs.length : Nat) : Int), [(1, v)], false⟩] := by
  unfold hourly
  rw [List.zipIdx_append, List.map_append]
  simp
theorem sp_three (a b c : Int) : cl fu (d + 1) fn_synopticlaw16_three [I a, I b, I c] [] = OK (V.c (C.sl 3 (fl rpC (hourly [a, b, c])))) := by
  rw [eq_synopticlaw16_three]
  rw [iter_runx (fun j : Nat => (fl rpC (hourly ([a, b, c].take j)), ((j : Nat) : Int), ())) 0 (fl rpC (hourly [a, b, c]), (3 : Int), ()) 3 ?_ ?_ ?_ (by omega)]
  · have h1 : (fl rpC (hourly [a, b, c])).length = 24 := by rw [fl_length rpC_length, hourly_length]; rfl
    have h2 : List.take 24 (fl rpC (hourly [a, b, c])) = fl rpC (hourly [a, b, c]) := List.take_of_length_le (by omega)
    simp (disch := omega) only [hdt_eq, obs, rC_c, rA_agg, rT_tup, rP_ptr, rW_own, rS_sb, rF_sb, uncV_cons, uncO_cons, nilV_nil, rO_ob, rN_ob, unc_cons, asI_int, asB_bool, asS_string, asSl_sl, asSl_nl, asFn_fn, asP_cp, nrm_sl, nrm_nl, need_true, ct, cf, bd_eq, natD_zero, natD_succ, natD_one, noYl_v, noYl_sl, noYl_nl, noYl_cp, noYl_fn, Bool.and_true, Bool.true_and, Bool.and_self, beqN_self, Bool.not_true, Bool.not_false, Bool.and_false, Bool.false_and, Bool.or_false, Bool.false_or, Bool.or_true, Bool.true_or, wrap_in, dlt_t, dlt_f, dle_t, dle_f, dgt_t, dgt_f, dge_t, dge_f, ibeq_t, ibeq_f, ibne_t, ibne_f, inR_int, beqN_eq, bleN_le, h1, Nat.reduceDiv, Nat.reduceMul, Nat.zero_add, h2]
  · rfl
  · intro j hj
    have h1 : (fl rpC (hourly ([a, b, c].take j))).length = j * 8 := by
      rw [fl_length rpC_length, hourly_length, List.length_take]
      rw [Nat.min_eq_left (by simp; omega)]
    have hd : j * 8 / 8 = j := by omega
    have hu : [C.v (.int .i64 a), C.v (.int .i64 b), C.v (.int .i64 c)] = ints [a, b, c] := rfl
    have hlt : j < [a, b, c].length := by simp; omega
    have hsn := rph_snoc (hourly ([a, b, c].take j)) j [a, b, c][j]
    have hte : [a, b, c].take (j + 1) = [a, b, c].take j ++ [[a, b, c][j]] := List.take_succ_eq_append_getElem hlt
    have hlt2 : ([a, b, c].take j).length = j := by rw [List.length_take, Nat.min_eq_left (by omega)]
    have hh : hourly ([a, b, c].take j) ++ [⟨alpha, 60 * ((j : Nat) : Int), [(1, [a, b, c][j])], false⟩] = hourly ([a, b, c].take (j + 1)) := by
      rw [hte, hourly_snoc, hlt2]
    rw [hh] at hsn
    have h3 : (fl rpC (hourly ([a, b, c].take (j + 1)))).length = (j + 1) * 8 := by
      rw [fl_length rpC_length, hourly_length, List.length_take]
      rw [Nat.min_eq_left (by simp; omega)]
    have hs : ((j : Nat) : Int) + 1 = ((j + 1 : Nat) : Int) := rfl
    simp (disch := omega) only [hdt_eq, obs, rC_c, rA_agg, rT_tup, rP_ptr, rW_own, rS_sb, rF_sb, uncV_cons, uncO_cons, nilV_nil, rO_ob, rN_ob, unc_cons, asI_int, asB_bool, asS_string, asSl_sl, asSl_nl, asFn_fn, asP_cp, nrm_sl, nrm_nl, need_true, ct, cf, bd_eq, natD_zero, natD_succ, natD_one, noYl_v, noYl_sl, noYl_nl, noYl_cp, noYl_fn, Bool.and_true, Bool.true_and, Bool.and_self, beqN_self, Bool.not_true, Bool.not_false, Bool.and_false, Bool.false_and, Bool.or_false, Bool.false_or, Bool.or_true, Bool.true_or, wrap_in, dlt_t, dlt_f, dle_t, dle_f, dgt_t, dgt_f, dge_t, dge_f, ibeq_t, ibeq_f, ibne_t, ibne_f, inR_int, beqN_eq, bleN_le, hu, Int.toNat_natCast, Nat.mul_one, unc_ik hlt, h1, hd, hsn, h3, hs]
  · have h1 : (fl rpC (hourly ([a, b, c].take 3))).length = 24 := by rw [fl_length rpC_length, hourly_length]; rfl
    simp (disch := omega) only [hdt_eq, obs, rC_c, rA_agg, rT_tup, rP_ptr, rW_own, rS_sb, rF_sb, uncV_cons, uncO_cons, nilV_nil, rO_ob, rN_ob, unc_cons, asI_int, asB_bool, asS_string, asSl_sl, asSl_nl, asFn_fn, asP_cp, nrm_sl, nrm_nl, need_true, ct, cf, bd_eq, natD_zero, natD_succ, natD_one, noYl_v, noYl_sl, noYl_nl, noYl_cp, noYl_fn, Bool.and_true, Bool.true_and, Bool.and_self, beqN_self, Bool.not_true, Bool.not_false, Bool.and_false, Bool.false_and, Bool.or_false, Bool.false_or, Bool.or_true, Bool.true_or, wrap_in, dlt_t, dlt_f, dle_t, dle_f, dgt_t, dgt_f, dge_t, dge_f, ibeq_t, ibeq_f, ibne_t, ibne_f, inR_int, beqN_eq, bleN_le, h1, Nat.reduceDiv, Nat.reduceMul]
    rfl
def K10 : List Int := [0, 0, 10, 0, 0, 0, 0, 0, 0, 0, 0, 0, 0, 0, 0, 0, 0, 0, 0, 0, 0, 0, 0, 0, 0, 0, 0, 0, 0, 0, 0, 0, 0, 0, 0, 0, 0, 0, 0, 0, 0]
omit hf in
theorem K10_ok : okK K10 := by
  refine ⟨rfl, ?_⟩
  have : ∀ j : Fin 25, 1 ≤ j.1 → 0 ≤ K10.getD j.1 0 ∧ K10.getD j.1 0 ≤ 10000 := by decide
  exact fun j h1 h2 => this ⟨j, h2⟩ h1
set_option maxRecDepth 8000 in
theorem sp_awake : cl fu (d + 11) fn_synopticlaw16_awake [] [] = OK (B true) := by
  obtain ⟨L1, a1, b1, c1⟩ := sp_Check fu d hf (hourly [10000, 10100, 10001]) (hourly_ok (by decide) (by decide)) K10 K10_ok
  obtain ⟨L2, a2, b2, c2⟩ := sp_Check fu d hf (hourly [10000, 10100, 10101]) (hourly_ok (by decide) (by decide)) K10 K10_ok
  have e1 : L1 = [(1, 1)] := IsF.unique a1 ⟨by simp, fun f => by
    rw [hourly_bad]
    have : ∀ j : Fin 3, badK (fOf (hline [10000, 10100, 10001])) 3 (stK K10 1) (spK K10 1) j.1 = decide (j.1 = 1) := by decide
    constructor
    · intro h
      simp only [List.mem_cons, List.not_mem_nil, or_false] at h
      subst h
      exact ⟨rfl, 1, by decide, this ⟨1, by omega⟩, rfl⟩
    · rintro ⟨h1, j, h2, h3, h4⟩
      have h5 := this ⟨j, h2⟩
      rw [show ([10000, 10100, 10001] : List Int).length = 3 from rfl] at h3
      rw [h3] at h5
      have h6 : j = 1 := by simpa using h5.symm
      subst h6
      obtain ⟨f1, f2⟩ := f
      simp only at h1 h4
      subst h1 h4
      simp⟩
  have e2 : L2 = [] := IsF.unique a2 ⟨.nil, fun f => by
    rw [hourly_bad]
    have : ∀ j : Fin 3, badK (fOf (hline [10000, 10100, 10101])) 3 (stK K10 1) (spK K10 1) j.1 = false := by decide
    constructor
    · intro h; cases h
    · rintro ⟨h1, j, h2, h3, h4⟩
      have h5 := this ⟨j, h2⟩
      rw [show ([10000, 10100, 10101] : List Int).length = 3 from rfl] at h3
      rw [h3] at h5; cases h5⟩
  subst e1 e2
  have hF := sp_FlagsEq fu (d + 9) hf [(1, 1)] (by decide)
  have t1 := sp_three fu (d + 9) hf 10000 10100 10001
  have t2 := sp_three fu (d + 9) hf 10000 10100 10101
  have c1 : cl fu (d + 10) fn_timeline_Check [V.c (C.sl 3 (fl rpC (hourly [10000, 10100, 10001]))), V.agg [C.v (.int .i64 0), C.v (.int .i64 0), C.v (.int .i64 10), C.v (.int .i64 0), C.v (.int .i64 0), C.v (.int .i64 0), C.v (.int .i64 0), C.v (.int .i64 0), C.v (.int .i64 0), C.v (.int .i64 0), C.v (.int .i64 0), C.v (.int .i64 0), C.v (.int .i64 0), C.v (.int .i64 0), C.v (.int .i64 0), C.v (.int .i64 0), C.v (.int .i64 0), C.v (.int .i64 0), C.v (.int .i64 0), C.v (.int .i64 0), C.v (.int .i64 0), C.v (.int .i64 0), C.v (.int .i64 0), C.v (.int .i64 0), C.v (.int .i64 0), C.v (.int .i64 0), C.v (.int .i64 0), C.v (.int .i64 0), C.v (.int .i64 0), C.v (.int .i64 0), C.v (.int .i64 0), C.v (.int .i64 0), C.v (.int .i64 0), C.v (.int .i64 0), C.v (.int .i64 0), C.v (.int .i64 0), C.v (.int .i64 0), C.v (.int .i64 0), C.v (.int .i64 0), C.v (.int .i64 0), C.v (.int .i64 0)]] [] = _ := c1
  have c2 : cl fu (d + 10) fn_timeline_Check [V.c (C.sl 3 (fl rpC (hourly [10000, 10100, 10101]))), V.agg [C.v (.int .i64 0), C.v (.int .i64 0), C.v (.int .i64 10), C.v (.int .i64 0), C.v (.int .i64 0), C.v (.int .i64 0), C.v (.int .i64 0), C.v (.int .i64 0), C.v (.int .i64 0), C.v (.int .i64 0), C.v (.int .i64 0), C.v (.int .i64 0), C.v (.int .i64 0), C.v (.int .i64 0), C.v (.int .i64 0), C.v (.int .i64 0), C.v (.int .i64 0), C.v (.int .i64 0), C.v (.int .i64 0), C.v (.int .i64 0), C.v (.int .i64 0), C.v (.int .i64 0), C.v (.int .i64 0), C.v (.int .i64 0), C.v (.int .i64 0), C.v (.int .i64 0), C.v (.int .i64 0), C.v (.int .i64 0), C.v (.int .i64 0), C.v (.int .i64 0), C.v (.int .i64 0), C.v (.int .i64 0), C.v (.int .i64 0), C.v (.int .i64 0), C.v (.int .i64 0), C.v (.int .i64 0), C.v (.int .i64 0), C.v (.int .i64 0), C.v (.int .i64 0), C.v (.int .i64 0), C.v (.int .i64 0)]] [] = _ := c2
  have hF : cl fu (d + 10) fn_synopticref16_Flags [V.c (C.sl ([(1, 1)] : List (Int × Int)).length (fl fgC [(1, 1)])), V.c (C.sl 1 [C.v (.int .i64 1), C.v (.int .i64 1), C.v (.int .i64 4)])] [] = _ := hF
  rw [eq_synopticlaw16_awake]
  simp (disch := omega) only [hdt_eq, obs, rC_c, rA_agg, rT_tup, rP_ptr, rW_own, rS_sb, rF_sb, uncV_cons, uncO_cons, nilV_nil, rO_ob, rN_ob, unc_cons, asI_int, asB_bool, asS_string, asSl_sl, asSl_nl, asFn_fn, asP_cp, nrm_sl, nrm_nl, need_true, ct, cf, bd_eq, natD_zero, natD_succ, natD_one, noYl_v, noYl_sl, noYl_nl, noYl_cp, noYl_fn, Bool.and_true, Bool.true_and, Bool.and_self, beqN_self, Bool.not_true, Bool.not_false, Bool.and_false, Bool.false_and, Bool.or_false, Bool.false_or, Bool.or_true, Bool.true_or, wrap_in, dlt_t, dlt_f, dle_t, dle_f, dgt_t, dgt_f, dge_t, dge_f, ibeq_t, ibeq_f, ibne_t, ibne_f, inR_int, beqN_eq, bleN_le, t1, c1, t2, c2, hF]
  rfl
end
end Go.Proofs.YthblmpoheobcbaaDoor
/- One wrong reading (chapter 16). -/
namespace Go.Proofs.YthblmpoheobcbaaDoor
open Go Go.PM
attribute [local congr] hd_bind hd_need hd_cond hd_unc hd_uncV hd_uncO hd_unI hd_asI hd_asB hd_asS hd_asSl hd_asFn hd_asP hd_rC hd_rA hd_rT hd_rG hd_rP hd_rO hd_rN hd_rF hd_rS hd_rW hd_nilV hd_natD hd_bd hd_iter hd_over hd_sliceC hd_asMp hd_asYF
section
variable (fu d : Nat) (hf : 18446744073709551616 ≤ fu)
include hf
end
end Go.Proofs.YthblmpoheobcbaaDoor
/- One element by itself (chapter 16). -/
namespace Go.Proofs.YthblmpoheobcbaaDoor
open Go Go.PM
attribute [local congr] hd_bind hd_need hd_cond hd_unc hd_uncV hd_uncO hd_unI hd_asI hd_asB hd_asS hd_asSl hd_asFn hd_asP hd_rC hd_rA hd_rT hd_rG hd_rP hd_rO hd_rN hd_rF hd_rS hd_rW hd_nilV hd_natD hd_bd hd_iter hd_over hd_sliceC hd_asMp hd_asYF
section
variable (fu d : Nat) (hf : 18446744073709551616 ≤ fu)
include hf
end
end Go.Proofs.YthblmpoheobcbaaDoor
/- Times and values that are shifted (chapter 16). -/
namespace Go.Proofs.YthblmpoheobcbaaDoor
open Go Go.PM
attribute [local congr] hd_bind hd_need hd_cond hd_unc hd_uncV hd_uncO hd_unI hd_asI hd_asB hd_asS hd_asSl hd_asFn hd_asP hd_rC hd_rA hd_rT hd_rG hd_rP hd_rO hd_rN hd_rF hd_rS hd_rW hd_nilV hd_natD hd_bd hd_iter hd_over hd_sliceC hd_asMp hd_asYF
section
variable (fu d : Nat)
variable (hf : 18446744073709551616 ≤ fu)
include hf
end
end Go.Proofs.YthblmpoheobcbaaDoor
/- Times and values that are shifted: the statement (chapter 16). -/
namespace Go.Proofs.YthblmpoheobcbaaDoor
open Go Go.PM
attribute [local congr] hd_bind hd_need hd_cond hd_unc hd_uncV hd_uncO hd_unI hd_asI hd_asB hd_asS hd_asSl hd_asFn hd_asP hd_rC hd_rA hd_rT hd_rG hd_rP hd_rO hd_rN hd_rF hd_rS hd_rW hd_nilV hd_natD hd_bd hd_iter hd_over hd_sliceC hd_asMp hd_asYF
section
variable (fu d : Nat) (hf : 18446744073709551616 ≤ fu)
include hf
open Classical in
end
end Go.Proofs.YthblmpoheobcbaaDoor
/- Some of the reports, in some order: plain laws (chapter 16). -/
namespace Go.Proofs.YthblmpoheobcbaaDoor
open Go Go.PM
def noRp : Rp := ⟨⟨#[]⟩, 0, [], false⟩
def xAt (X : List Rp) (i : Nat) : Rp := X.getD i noRp
structure Sel (X : List Rp) (ps : List Nat) : Prop where
  nd : ps.Nodup
  lt : ∀ i ∈ ps, i < X.length
  cl : ∀ i ∈ ps, ∀ j, j < X.length → (xAt X j).nm = (xAt X i).nm → j ∈ ps
end Go.Proofs.YthblmpoheobcbaaDoor
/- The order of the reports: the statement (chapter 16). -/
namespace Go.Proofs.YthblmpoheobcbaaDoor
open Go Go.PM
attribute [local congr] hd_bind hd_need hd_cond hd_unc hd_uncV hd_uncO hd_unI hd_asI hd_asB hd_asS hd_asSl hd_asFn hd_asP hd_rC hd_rA hd_rT hd_rG hd_rP hd_rO hd_rN hd_rF hd_rS hd_rW hd_nilV hd_natD hd_bd hd_iter hd_over hd_sliceC hd_asMp hd_asYF
section
variable (fu d : Nat) (hf : 18446744073709551616 ≤ fu)
include hf
end
end Go.Proofs.YthblmpoheobcbaaDoor
/- Readings that change slowly: plain laws (chapter 16). -/
namespace Go.Proofs.YthblmpoheobcbaaDoor
open Go Go.PM
def calm (ws : List (Int × Int)) : List Rp := ws.map fun w => ⟨alpha, w.1, [(1, w.2), (2, 2800)], false⟩
def gline (vf : Int × Int → Int) (ws : List (Int × Int)) : List Pt := ws.zipIdx.map fun x => ⟨((x.2 : Nat) : Int), x.1.1, vf x.1⟩
theorem calm_length (ws : List (Int × Int)) : (calm ws).length = ws.length := by simp [calm]
theorem gline_length (vf : Int × Int → Int) (ws : List (Int × Int)) : (gline vf ws).length = ws.length := by simp [gline]
theorem calm_at {ws : List (Int × Int)} {i : Nat} (h : i < (calm ws).length) : (calm ws)[i] = ⟨alpha, (ws[i]'(by rw [calm_length] at h; exact h)).1, [(1, (ws[i]'(by rw [calm_length] at h; exact h)).2), (2, 2800)], false⟩ := by simp [calm]
theorem gline_at {vf : Int × Int → Int} {ws : List (Int × Int)} {i : Nat} (h : i < (gline vf ws).length) : (gline vf ws)[i] = ⟨((i : Nat) : Int), (ws[i]'(by rw [gline_length] at h; exact h)).1, vf (ws[i]'(by rw [gline_length] at h; exact h))⟩ := by simp [gline]
theorem calm_items {ws : List (Int × Int)} {k : Sub} {p : Pt} : (k, p) ∈ items (calm ws) ↔ k.1 = alpha ∧ ((k.2 = 1 ∧ p ∈ gline (·.2) ws) ∨ (k.2 = 2 ∧ p ∈ gline (fun _ => 2800) ws)) := by
  rw [mem_items]
  constructor
  · rintro ⟨i, hi, h1, h2, h3, h4⟩
    have hl : i < ws.length := by rw [calm_length] at hi; exact hi
    rw [calm_at hi] at h2 h3 h4
    simp only [List.mem_cons, List.not_mem_nil, or_false, Prod.mk.injEq] at h4
    obtain ⟨p1, p2, p3⟩ := p
    simp only at h1 h2 h3 h4
    refine ⟨h3, ?_⟩
    rcases h4 with ⟨h4, h5⟩ | ⟨h4, h5⟩
    · have hg : i < (gline (·.2) ws).length := by rw [gline_length]; exact hl
      refine .inl ⟨h4, ?_⟩
      have := List.getElem_mem hg
      rw [gline_at hg] at this
      rw [h1, h2, h5]; exact this
    · have hg : i < (gline (fun _ => 2800) ws).length := by rw [gline_length]; exact hl
      refine .inr ⟨h4, ?_⟩
      have := List.getElem_mem hg
      rw [gline_at hg] at this
      rw [h1, h2, h5]; exact this
  · rintro ⟨h1, ⟨h2, hp⟩ | ⟨h2, hp⟩⟩
    · obtain ⟨i, hi, rfl⟩ := List.mem_iff_getElem.1 hp
      have hl : i < (calm ws).length := by rw [calm_length]; rw [gline_length] at hi; exact hi
      refine ⟨i, hl, ?_⟩
      rw [gline_at hi, calm_at hl]
      exact ⟨rfl, rfl, h1, by rw [h2]; simp⟩
    · obtain ⟨i, hi, rfl⟩ := List.mem_iff_getElem.1 hp
      have hl : i < (calm ws).length := by rw [calm_length]; rw [gline_length] at hi; exact hi
      refine ⟨i, hl, ?_⟩
      rw [gline_at hi, calm_at hl]
      exact ⟨rfl, rfl, h1, by rw [h2]; simp⟩
structure Slow (n : Int) (ws : List (Int × Int)) : Prop where
  pw : ws.Pairwise fun a b => a.1 < b.1
  sl : ∀ j (h : j + 1 < ws.length), szI (ws[j]'(by omega)).2 ws[j + 1].2 ≤ n * Int.tdiv (ws[j + 1].1 - (ws[j]'(by omega)).1 + 60 - 1) 60
  bd : ∀ w ∈ ws, 0 ≤ w.1 ∧ 9000 ≤ w.2 ∧ w.2 ≤ 10900
theorem Slow.init {n : Int} {ws : List (Int × Int)} {w : Int × Int} (h : Slow n (ws ++ [w])) : Slow n ws := by
  refine ⟨(List.pairwise_append.1 h.pw).1, fun j hj => ?_, fun x hx => h.bd x (List.mem_append_left _ hx)⟩
  have := h.sl j (by simp; omega)
  rw [List.getElem_append_left (by omega), List.getElem_append_left hj] at this
  exact this
theorem Slow.push {n : Int} {ws : List (Int × Int)} {w w' : Int × Int} (h : Slow n (ws ++ [w])) (h1 : w.1 < w'.1) (h2 : szI w.2 w'.2 ≤ n * Int.tdiv (w'.1 - w.1 + 60 - 1) 60) (h3 : 9000 ≤ w'.2 ∧ w'.2 ≤ 10900) : Slow n ((ws ++ [w]) ++ [w']) := by
  have hw := h.bd w (by simp)
  refine ⟨List.pairwise_append.2 ⟨h.pw, by simp, fun a ha b hb => ?_⟩, fun j hj => ?_, fun x hx => ?_⟩
  · simp only [List.mem_cons, List.not_mem_nil, or_false] at hb
    subst hb
    rcases List.mem_append.1 ha with ha | ha
    · have := (List.pairwise_append.1 h.pw).2.2 a ha w (by simp)
      omega
    · simp only [List.mem_cons, List.not_mem_nil, or_false] at ha
      subst ha; exact h1
  · by_cases hj2 : j + 1 < (ws ++ [w]).length
    · rw [List.getElem_append_left (by omega), List.getElem_append_left hj2]
      exact h.sl j hj2
    · have hj3 : j = ws.length := by
        simp only [List.length_append, List.length_cons, List.length_nil] at hj hj2
        omega
      subst hj3
      have e1 : ((ws ++ [w]) ++ [w'])[ws.length]'(by simp) = w := by
        rw [List.getElem_append_left (by simp), List.getElem_append_right (Nat.le_refl _)]; simp
      have e2 : ((ws ++ [w]) ++ [w'])[ws.length + 1]'(by simp) = w' := by
        rw [List.getElem_append_right (by simp)]; simp
      rw [e1, e2]; exact h2
  · rcases List.mem_append.1 hx with hx | hx
    · exact h.bd x hx
    · simp only [List.mem_cons, List.not_mem_nil, or_false] at hx
      subst hx
      exact ⟨by omega, h3⟩
theorem gline_line {n : Int} {ws : List (Int × Int)} (h : Slow n ws) (vf : Int × Int → Int) : (gline vf ws).Pairwise fun a b => a.t < b.t := by
  rw [List.pairwise_iff_getElem]
  intro i j hi hj hij
  rw [gline_at hi, gline_at hj]
  rw [gline_length] at hi hj
  exact List.pairwise_iff_getElem.1 h.pw i j hi hj hij
theorem calm_bad {n : Int} {ws : List (Int × Int)} (h : Slow n ws) {K : List Int} {f : Int × Int} (hb : Bad (calm ws) K f) : ∃ j, j < ws.length ∧ ((f.2 = 1 ∧ badK (fOf (gline (·.2) ws)) ws.length (stK K 1) (spK K 1) j = true) ∨ (f.2 = 2 ∧ badK (fOf (gline (fun _ => 2800) ws)) ws.length (stK K 2) (spK K 2) j = true)) := by
  obtain ⟨nm, l, hl, j, h1, h2, h3⟩ := hb
  obtain ⟨q1, q2⟩ := calm_items.1 ((hl.2 _).1 (fOf_mem h1))
  have q1 : nm = alpha := q1
  subst q1
  rcases q2 with ⟨q2, _⟩ | ⟨q2, _⟩
  · have q2 : f.2 = 1 := q2
    have hg : IsLine (calm ws) (alpha, f.2) (gline (·.2) ws) := ⟨gline_line h _, fun p => by
      rw [calm_items, q2]; simp⟩
    obtain rfl := hl.unique hg
    rw [gline_length] at h1 h2
    rw [q2] at h2
    exact ⟨j, h1, .inl ⟨q2, h2⟩⟩
  · have q2 : f.2 = 2 := q2
    have hg : IsLine (calm ws) (alpha, f.2) (gline (fun _ => 2800) ws) := ⟨gline_line h _, fun p => by
      rw [calm_items, q2]; simp⟩
    obtain rfl := hl.unique hg
    rw [gline_length] at h1 h2
    rw [q2] at h2
    exact ⟨j, h1, .inr ⟨q2, h2⟩⟩
theorem badS_slow {f : Nat → Pt} {n : Nat} {s : Int} (h : ∀ j, j + 1 < n → slowB (f j) (f (j + 1)) s = true) : ∀ j, j < n → badS f n s j = false := by
  have hl : ∀ j, j < n → lastAt f n s j = j := by
    intro j
    induction j with
    | zero => intro _; rfl
    | succ j ih =>
      intro hj
      simp only [lastAt, ih (by omega), okS, h j hj, Bool.true_or, if_true]
  intro j hj
  cases j with
  | zero => rfl
  | succ j => simp only [badS, hl j (by omega), okS, h j hj, Bool.true_or, Bool.not_true]
theorem gline_f {vf : Int × Int → Int} {ws : List (Int × Int)} {j : Nat} (h : j < ws.length) : fOf (gline vf ws) j = ⟨((j : Nat) : Int), ws[j].1, vf ws[j]⟩ := by
  have hj : j < (gline vf ws).length := by rw [gline_length]; exact h
  rw [← fOf_at hj, gline_at hj]
theorem slow_1 {n : Int} {ws : List (Int × Int)} (h : Slow n ws) : ∀ j, j < ws.length → badS (fOf (gline (·.2) ws)) ws.length n j = false :=
  badS_slow fun j hj => by
    rw [gline_f (show j < ws.length by omega), gline_f hj]
    exact decide_eq_true (h.sl j hj)
theorem slow_2 {n : Int} (hn : 0 ≤ n) {ws : List (Int × Int)} (h : Slow n ws) : ∀ j, j < ws.length → badS (fOf (gline (fun _ => 2800) ws)) ws.length n j = false :=
  badS_slow fun j hj => by
    rw [gline_f (show j < ws.length by omega), gline_f hj]
    have h1 := List.pairwise_iff_getElem.1 h.pw j (j + 1) (by omega) hj (by omega)
    have h2 : 0 ≤ Int.tdiv (ws[j + 1].1 - ws[j].1 + 60 - 1) 60 := Int.tdiv_nonneg (by omega) (by omega)
    have h3 := Int.mul_nonneg hn h2
    exact decide_eq_true h3
theorem badP_const {ws : List (Int × Int)} {p : Int} (hp : 0 < p) : ∀ j, j < ws.length → badP (fOf (gline (fun _ => 2800) ws)) ws.length p j = false := by
  intro j hj
  cases j with
  | zero => rfl
  | succ j =>
    simp only [badP]
    by_cases h : j + 2 < ws.length
    · rw [gline_f h, gline_f hj, gline_f (show j < ws.length by omega)]
      unfold spikeB
      simp only [Int.sub_self]
      rw [decide_eq_false (show ¬ (0 : Int) > p by omega)]
      simp
    · rw [decide_eq_false h, Bool.false_and]
theorem badK_off {f : Nat → Pt} {n j : Nat} : badK f n 0 0 j = false := rfl
theorem calm_none {n : Int} (hn : 0 < n) {ws : List (Int × Int)} (h : Slow n ws) {K : List Int} (h1 : stK K 1 = n ∧ spK K 1 = 0) (h2 : stK K 2 = n ∧ spK K 2 = 0) {L : List (Int × Int)} (hL : IsF (calm ws) K L) : L = [] := by
  cases L with
  | nil => rfl
  | cons f L =>
    obtain ⟨j, hj, ⟨_, hb⟩ | ⟨_, hb⟩⟩ := calm_bad h ((hL.2 f).1 (by simp))
    · rw [h1.1, h1.2] at hb
      unfold badK at hb
      rw [slow_1 h j hj] at hb
      simp at hb
    · rw [h2.1, h2.2] at hb
      unfold badK at hb
      rw [slow_2 (by omega) h j hj] at hb
      simp at hb
theorem calm_off {n : Int} {ws : List (Int × Int)} (h : Slow n ws) {K : List Int} (h1 : stK K 1 = 0 ∧ spK K 1 = 0) (h2 : stK K 2 = 0 ∧ spK K 2 = 0) {L : List (Int × Int)} (hL : IsF (calm ws) K L) : L = [] := by
  cases L with
  | nil => rfl
  | cons f L =>
    obtain ⟨j, hj, ⟨_, hb⟩ | ⟨_, hb⟩⟩ := calm_bad h ((hL.2 f).1 (by simp))
    · rw [h1.1, h1.2] at hb; exact absurd hb (by rw [badK_off]; decide)
    · rw [h2.1, h2.2] at hb; exact absurd hb (by rw [badK_off]; decide)
theorem calm_one {n : Int} (hn : 0 < n) {ws : List (Int × Int)} (h : Slow n ws) {K : List Int} (h2 : stK K 2 = n ∧ 0 < spK K 2) {L : List (Int × Int)} (hL : IsF (calm ws) K L) {f : Int × Int} (hf : f ∈ L) : f.2 = 1 := by
  obtain ⟨j, hj, ⟨e, _⟩ | ⟨_, hb⟩⟩ := calm_bad h ((hL.2 f).1 hf)
  · exact e
  · unfold badK at hb
    rw [h2.1, slow_2 (by omega) h j hj, badP_const h2.2 j hj] at hb
    simp at hb
theorem calm_ok {n : Int} {ws : List (Int × Int)} (h : Slow n ws) (hl : ws.length ≤ 20) (ht : ∀ w ∈ ws, w.1 ≤ 52595999) : okX (calm ws) := by
  refine okX_of (by rw [calm_length]; exact hl) (fun x hx => ?_) ?_
  · obtain ⟨w, hw, rfl⟩ := List.mem_map.1 hx
    have hb := h.bd w hw
    have h2 := ht w hw
    refine ⟨⟨by simp, fun q hq => ?_, by simp⟩, hb.1, h2⟩
    simp only [List.mem_cons, List.not_mem_nil, or_false] at hq
    rcases hq with rfl | rfl
    · exact ⟨⟨by dsimp only; omega, by dsimp only; omega⟩, by rw [rng1]; dsimp only; omega, by rw [rng1]; dsimp only; omega⟩
    · exact ⟨by decide, by decide, by decide⟩
  · unfold calm
    rw [List.pairwise_map]
    exact h.pw
end Go.Proofs.YthblmpoheobcbaaDoor
/- Readings that change slowly: the statement (chapter 16). -/
namespace Go.Proofs.YthblmpoheobcbaaDoor
open Go Go.PM
attribute [local congr] hd_bind hd_need hd_cond hd_unc hd_uncV hd_uncO hd_unI hd_asI hd_asB hd_asS hd_asSl hd_asFn hd_asP hd_rC hd_rA hd_rT hd_rG hd_rP hd_rO hd_rN hd_rF hd_rS hd_rW hd_nilV hd_natD hd_bd hd_iter hd_over hd_sliceC hd_asMp hd_asYF
theorem rpc_snoc (ws : List (Int × Int)) (m v : Int) :
    fl rpC (calm ws) ++ [.v (.int .i64 1), .v (.string (⟨#[65, 76, 80, 72, 65]⟩)), .v (.int .i64 m), .v (.int .i64 0), .v (.int .i64 0), .v (.int .i64 0), .v (.int .i64 0), C.sl 2 [.v (.int .i64 1), .v (.int .i64 v), .v (.int .i64 2), .v (.int .i64 2800)]] = fl rpC (calm (ws ++ [(m, v)])) := by
  have h := rp_snoc (calm ws) alpha m [(1, v), (2, 2800)]
  have e : calm (ws ++ [(m, v)]) = calm ws ++ [⟨alpha, m, [(1, v), (2, 2800)], false⟩] := by simp [calm]
  rw [e]; exact h
def KZ : List Int := [0, 0, 0, 0, 0, 0, 0, 0, 0, 0, 0, 0, 0, 0, 0, 0, 0, 0, 0, 0, 0, 0, 0, 0, 0, 0, 0, 0, 0, 0, 0, 0, 0, 0, 0, 0, 0, 0, 0, 0, 0]
theorem KZ_ok : okK KZ := by
  refine ⟨rfl, ?_⟩
  have : ∀ j : Fin 25, 1 ≤ j.1 → 0 ≤ KZ.getD j.1 0 ∧ KZ.getD j.1 0 ≤ 10000 := by decide
  exact fun j h1 h2 => this ⟨j, h2⟩ h1
theorem KZ_zero : ∀ j, j < 41 → KZ.getD j 0 = 0 := by
  have : ∀ j : Fin 41, KZ.getD j.1 0 = 0 := by decide
  exact fun j h => this ⟨j, h⟩
section
variable (fu d : Nat) (hf : 18446744073709551616 ≤ fu)
include hf
set_option maxHeartbeats 4000000 in
set_option maxRecDepth 8000 in
theorem sp_TimelineCalm (l : List Int) (a : Int) : cl fu (d + 12) fn_synopticlaw16_TimelineCalm [V.c (C.sl l.length (ints l)), I a] [] = OK (B true) := by
  have hN := sp_New fu (d + 10) l
  have hL : (l.take 2000).length ≤ 2000 := by simp; omega
  generalize l.take 2000 = S at hN hL
  obtain ⟨w, cm, dm, dm'⟩ := sp_Mod fu (d + 10) a 100 (by omega)
  obtain ⟨m, j0, c0, hm⟩ := sp_Minute fu (d + 7) S hL 0
  unfold okM at hm
  obtain ⟨v1, j1, c1, d1, d1'⟩ := sp_Range fu (d + 8) S j0 hL 1 12 (by omega) ⟨by omega, by omega⟩
  obtain ⟨k, rfl⟩ : ∃ k : Nat, v1 = k := ⟨v1.toNat, by omega⟩
  have hA := sp_awake fu d hf
  unfold srcO srcC at hN c0 c1
  obtain ⟨m2, hm2, hm2a, hm2b⟩ : ∃ m2, Int.tdiv m 2 = m2 ∧ 0 ≤ m2 ∧ m2 ≤ 26298000 := by
    have h1 := Int.mul_tdiv_add_tmod m 2
    have h2 := Int.tmod_nonneg 2 hm.1
    have h3 : Int.tmod m 2 < 2 := Int.tmod_lt_of_pos _ (by omega)
    exact ⟨_, rfl, by omega, by omega⟩
  rw [eq_synopticlaw16_TimelineCalm]
  simp (disch := omega) only [hdt_eq, obs, rC_c, rA_agg, rT_tup, rP_ptr, rW_own, rS_sb, rF_sb, uncV_cons, uncO_cons, nilV_nil, rO_ob, rN_ob, unc_cons, asI_int, asB_bool, asS_string, asSl_sl, asSl_nl, asFn_fn, asP_cp, nrm_sl, nrm_nl, need_true, ct, cf, bd_eq, natD_zero, natD_succ, natD_one, noYl_v, noYl_sl, noYl_nl, noYl_cp, noYl_fn, Bool.and_true, Bool.true_and, Bool.and_self, beqN_self, Bool.not_true, Bool.not_false, Bool.and_false, Bool.false_and, Bool.or_false, Bool.false_or, Bool.or_true, Bool.true_or, wrap_in, dlt_t, dlt_f, dle_t, dle_f, dgt_t, dgt_f, dge_t, dge_f, ibeq_t, ibeq_f, ibne_t, ibne_f, inR_int, beqN_eq, bleN_le, out0, hN, cm, List.length_cons, List.length_nil, Nat.zero_add, Nat.reduceAdd]
  refine iter_bind_ex (A := Int × List C × (C × Int × Unit) × Unit) (B := Out) (fu := fu) (fun o => o = OK (B true))
    (fun j y => ∃ K : List Int, (K.length = 41 ∧ ∀ i, 1 ≤ i → i < 25 → K.getD i 0 = if 2 ≤ i ∧ i < 2 + j then 1 + w else 0) ∧ y = (((j + 1 : Nat) : Int), ints K, (C.sl S.length (ints S), ((0 : Nat) : Int), ()), ()))
    (fun z => ∃ K : List Int, (K.length = 41 ∧ ∀ i, 1 ≤ i → i < 25 → K.getD i 0 = if 2 ≤ i ∧ i < 13 then 1 + w else 0) ∧ z = ((12 : Int), ints K, (C.sl S.length (ints S), ((0 : Nat) : Int), ()), ())) 0 11 ?_ ?_ ?_ (by omega) ?_
  · refine ⟨KZ, ⟨rfl, fun i h1 h2 => ?_⟩, rfl⟩
    rw [KZ_zero i (by omega), if_neg (by omega)]
  · rintro j y hj ⟨K, ⟨k1, k2⟩, rfl⟩
    have p1 := ik_put (kd := .i64) (l := K) (k := 1 + (j + 1)) (by omega) (1 + w)
    have hs : ((j + 1 : Nat) : Int) + 1 = ((j + 1 + 1 : Nat) : Int) := rfl
    refine ⟨_, ?_, K.set (1 + (j + 1)) (1 + w), ⟨by rw [List.length_set]; exact k1, fun i h1 h2 => ?_⟩, rfl⟩
    · simp (disch := omega) only [hdt_eq, obs, rC_c, rA_agg, rT_tup, rP_ptr, rW_own, rS_sb, rF_sb, uncV_cons, uncO_cons, nilV_nil, rO_ob, rN_ob, unc_cons, asI_int, asB_bool, asS_string, asSl_sl, asSl_nl, asFn_fn, asP_cp, nrm_sl, nrm_nl, need_true, ct, cf, bd_eq, natD_zero, natD_succ, natD_one, noYl_v, noYl_sl, noYl_nl, noYl_cp, noYl_fn, Bool.and_true, Bool.true_and, Bool.and_self, beqN_self, Bool.not_true, Bool.not_false, Bool.and_false, Bool.false_and, Bool.or_false, Bool.false_or, Bool.or_true, Bool.true_or, wrap_in, dlt_t, dlt_f, dle_t, dle_f, dgt_t, dgt_f, dge_t, dge_f, ibeq_t, ibeq_f, ibne_t, ibne_f, inR_int, beqN_eq, bleN_le, Int.toNat_natCast, Nat.mul_one, ik_length, k1, p1, hs]
    · rw [getD_set_lt (by omega)]
      by_cases e : i = 1 + (j + 1)
      · rw [if_pos e, if_pos (by omega)]
      · rw [if_neg e, k2 i h1 h2]
        by_cases e2 : 2 ≤ i ∧ i < 2 + j
        · rw [if_pos e2, if_pos (by omega)]
        · rw [if_neg e2, if_neg (by omega)]
  · rintro y ⟨K, ⟨k1, k2⟩, rfl⟩
    refine ⟨_, ?_, K, ⟨k1, k2⟩, rfl⟩
    simp (disch := omega) only [hdt_eq, obs, rC_c, rA_agg, rT_tup, rP_ptr, rW_own, rS_sb, rF_sb, uncV_cons, uncO_cons, nilV_nil, rO_ob, rN_ob, unc_cons, asI_int, asB_bool, asS_string, asSl_sl, asSl_nl, asFn_fn, asP_cp, nrm_sl, nrm_nl, need_true, ct, cf, bd_eq, natD_zero, natD_succ, natD_one, noYl_v, noYl_sl, noYl_nl, noYl_cp, noYl_fn, Bool.and_true, Bool.true_and, Bool.and_self, beqN_self, Bool.not_true, Bool.not_false, Bool.and_false, Bool.false_and, Bool.or_false, Bool.false_or, Bool.or_true, Bool.true_or, wrap_in, dlt_t, dlt_f, dle_t, dle_f, dgt_t, dgt_f, dge_t, dge_f, ibeq_t, ibeq_f, ibne_t, ibne_f, inR_int, beqN_eq, bleN_le]
    rfl
  rintro z ⟨K, ⟨k1, k2⟩, rfl⟩
  have hKok : okK K := ⟨k1, fun i h1 h2 => by rw [k2 i h1 h2]; split <;> omega⟩
  have hK1 : stK K 1 = 1 + w ∧ spK K 1 = 0 := by
    refine ⟨?_, ?_⟩
    · show K.getD 2 0 = _; rw [k2 2 (by omega) (by omega)]; rfl
    · show K.getD 14 0 = _; rw [k2 14 (by omega) (by omega)]; rfl
  have hK2 : stK K 2 = 1 + w ∧ spK K 2 = 0 := by
    refine ⟨?_, ?_⟩
    · show K.getD 3 0 = _; rw [k2 3 (by omega) (by omega)]; rfl
    · show K.getD 15 0 = _; rw [k2 15 (by omega) (by omega)]; rfl
  simp (disch := omega) only [hdt_eq, obs, rC_c, rA_agg, rT_tup, rP_ptr, rW_own, rS_sb, rF_sb, uncV_cons, uncO_cons, nilV_nil, rO_ob, rN_ob, unc_cons, asI_int, asB_bool, asS_string, asSl_sl, asSl_nl, asFn_fn, asP_cp, nrm_sl, nrm_nl, need_true, ct, cf, bd_eq, natD_zero, natD_succ, natD_one, noYl_v, noYl_sl, noYl_nl, noYl_cp, noYl_fn, Bool.and_true, Bool.true_and, Bool.and_self, beqN_self, Bool.not_true, Bool.not_false, Bool.and_false, Bool.false_and, Bool.or_false, Bool.false_or, Bool.or_true, Bool.true_or, wrap_in, dlt_t, dlt_f, dle_t, dle_f, dgt_t, dgt_f, dge_t, dge_f, ibeq_t, ibeq_f, ibne_t, ibne_f, inR_int, beqN_eq, bleN_le, c0, c1, hm2, List.length_cons, List.length_nil, Nat.zero_add, Nat.reduceAdd]
  refine iter_bind_ex (A := List C × Int × Int × Int × List C × (C × Int × Unit) × Unit) (B := Out) (fu := fu) (fun o => o = OK (B true))
    (fun r y => ∃ (ws : List (Int × Int)) (t v : Int) (q : Nat), (ws.length = r ∧ Slow (1 + w) (ws ++ [(t, v)]) ∧ t ≤ 26298000 + 200 * r ∧ ∀ x ∈ ws, x.1 ≤ t) ∧ y = (fl rpC (calm ws), v, t, ((k - r : Nat) : Int), ints K, (C.sl S.length (ints S), ((q : Nat) : Int), ()), ()))
    (fun z => ∃ (ws : List (Int × Int)) (t v : Int) (q : Nat), (ws.length = k ∧ Slow (1 + w) ws ∧ ∀ x ∈ ws, x.1 ≤ 52595999) ∧ z = (fl rpC (calm ws), v, t, (0 : Int), ints K, (C.sl S.length (ints S), ((q : Nat) : Int), ()), ())) 0 k ?_ ?_ ?_ (by omega) ?_
  · refine ⟨[], m2, 10000, j1, ⟨rfl, ⟨by simp, fun j h => by simp at h, fun x hx => ?_⟩, by omega, by simp⟩, rfl⟩
    simp only [List.nil_append, List.mem_cons, List.not_mem_nil, or_false] at hx
    subst hx; exact ⟨hm2a, by dsimp only; omega, by dsimp only; omega⟩
  · rintro r y hr ⟨ws, t, v, q, ⟨x1, x2, x3, x4⟩, rfl⟩
    obtain ⟨e1, q1, b1, b1a, b1b⟩ := sp_Range fu (d + 8) S q hL 1 200 (by omega) ⟨by omega, by omega⟩
    obtain ⟨e2, q2, b2, b2a, b2b⟩ := sp_Range fu (d + 8) S q1 hL (0 - (1 + w)) (1 + w) (by omega) ⟨by omega, by omega⟩
    unfold srcO srcC at b1 b2
    have hv := x2.bd (t, v) (by simp)
    have hv0 : 0 ≤ t := hv.1
    have hv1 : 9000 ≤ v := hv.2.1
    have hv2 : v ≤ 10900 := hv.2.2
    have h1 : (fl rpC (calm ws)).length = ws.length * 8 := by rw [fl_length rpC_length, calm_length]
    have hd : ws.length * 8 / 8 = ws.length := by omega
    have hsn := rpc_snoc ws t v
    have h3 : (fl rpC (calm (ws ++ [(t, v)]))).length = (ws.length + 1) * 8 := by rw [fl_length rpC_length, calm_length]; simp
    have hs : ((k - r : Nat) : Int) - 1 = ((k - (r + 1) : Nat) : Int) := by omega
    obtain ⟨hh, hhe, hh1, hh2⟩ : ∃ hh, Int.tdiv (e1 + 59) 60 = hh ∧ 1 ≤ hh ∧ hh ≤ 4 := by
      have q1 := Int.mul_tdiv_add_tmod (e1 + 59) 60
      have q2 := Int.tmod_nonneg 60 (show 0 ≤ e1 + 59 by omega)
      have q3 : Int.tmod (e1 + 59) 60 < 60 := Int.tmod_lt_of_pos _ (by omega)
      exact ⟨_, rfl, by omega, by omega⟩
    have g1 : e2 * hh ≤ (1 + w) * hh := Int.mul_le_mul_of_nonneg_right b2b (by omega)
    have g2 : (0 - (1 + w)) * hh ≤ e2 * hh := Int.mul_le_mul_of_nonneg_right b2a (by omega)
    have g3 : (1 + w) * hh ≤ 100 * hh := Int.mul_le_mul_of_nonneg_right (by omega) (by omega)
    have g4 : (0 - (1 + w)) * hh = -((1 + w) * hh) := by rw [Int.zero_sub, Int.neg_mul]
    rw [g4] at g2
    obtain ⟨z0, hz0⟩ : ∃ z0, e2 * hh = z0 := ⟨_, rfl⟩
    obtain ⟨z1, hz1⟩ : ∃ z1, (1 + w) * hh = z1 := ⟨_, rfl⟩
    rw [hz0, hz1] at g1 g2
    rw [hz1] at g3
    have hp : Slow (1 + w) ((ws ++ [(t, v)]) ++ [(t + e1, if (if v + z0 < 10900 then v + z0 else 10900) > 9000 then (if v + z0 < 10900 then v + z0 else 10900) else 9000)]) := by
      refine x2.push (by dsimp only; omega) ?_ ?_
      · show szI v _ ≤ (1 + w) * Int.tdiv (t + e1 - t + 60 - 1) 60
        rw [show t + e1 - t + 60 - 1 = e1 + 59 by omega, hhe, hz1]
        unfold szI
        split <;> split <;> split <;> omega
      · dsimp only
        split <;> split <;> omega
    refine ⟨_, ?_, ws ++ [(t, v)], t + e1, _, q2, ⟨by simp; omega, hp, by omega, fun x hx => ?_⟩, rfl⟩
    · simp (disch := omega) only [hdt_eq, obs, rC_c, rA_agg, rT_tup, rP_ptr, rW_own, rS_sb, rF_sb, uncV_cons, uncO_cons, nilV_nil, rO_ob, rN_ob, unc_cons, asI_int, asB_bool, asS_string, asSl_sl, asSl_nl, asFn_fn, asP_cp, nrm_sl, nrm_nl, need_true, ct, cf, bd_eq, natD_zero, natD_succ, natD_one, noYl_v, noYl_sl, noYl_nl, noYl_cp, noYl_fn, Bool.and_true, Bool.true_and, Bool.and_self, beqN_self, Bool.not_true, Bool.not_false, Bool.and_false, Bool.false_and, Bool.or_false, Bool.false_or, Bool.or_true, Bool.true_or, wrap_in, dlt_t, dlt_f, dle_t, dle_f, dgt_t, dgt_f, dge_t, dge_f, ibeq_t, ibeq_f, ibne_t, ibne_f, inR_int, beqN_eq, bleN_le, b1, b2, List.length_cons, List.length_nil, Nat.zero_add, Nat.reduceAdd, h1, hd, hsn, h3, hhe, hz0, hs]
    · rcases List.mem_append.1 hx with hx | hx
      · have := x4 x hx; omega
      · simp only [List.mem_cons, List.not_mem_nil, or_false] at hx
        subst hx; dsimp only; omega
  · rintro y ⟨ws, t, v, q, ⟨x1, x2, x3, x4⟩, rfl⟩
    have h1 : (fl rpC (calm ws)).length = ws.length * 8 := by rw [fl_length rpC_length, calm_length]
    have hd : ws.length * 8 / 8 = ws.length := by omega
    refine ⟨_, ?_, ws, t, v, q, ⟨x1, x2.init, fun x hx => by have := x4 x hx; omega⟩, rfl⟩
    rw [Nat.sub_self]
    simp (disch := omega) only [hdt_eq, obs, rC_c, rA_agg, rT_tup, rP_ptr, rW_own, rS_sb, rF_sb, uncV_cons, uncO_cons, nilV_nil, rO_ob, rN_ob, unc_cons, asI_int, asB_bool, asS_string, asSl_sl, asSl_nl, asFn_fn, asP_cp, nrm_sl, nrm_nl, need_true, ct, cf, bd_eq, natD_zero, natD_succ, natD_one, noYl_v, noYl_sl, noYl_nl, noYl_cp, noYl_fn, Bool.and_true, Bool.true_and, Bool.and_self, beqN_self, Bool.not_true, Bool.not_false, Bool.and_false, Bool.false_and, Bool.or_false, Bool.false_or, Bool.or_true, Bool.true_or, wrap_in, dlt_t, dlt_f, dle_t, dle_f, dgt_t, dgt_f, dge_t, dge_f, ibeq_t, ibeq_f, ibne_t, ibne_f, inR_int, beqN_eq, bleN_le, h1, hd]
    rfl
  rintro z ⟨ws, t, v, q, ⟨x1, x2, x3⟩, rfl⟩
  have hX := calm_ok x2 (by omega) x3
  have h1 : (fl rpC (calm ws)).length = ws.length * 8 := by rw [fl_length rpC_length, calm_length]
  have hd : ws.length * 8 / 8 = ws.length := by omega
  have ht1 : List.take (ws.length * 8) (fl rpC (calm ws)) = fl rpC (calm ws) := List.take_of_length_le (by omega)
  have htk : List.take 41 (ints K) = ints K := List.take_of_length_le (by rw [ik_length]; omega)
  obtain ⟨La, f1, f2, f3⟩ := sp_Check fu (d + 1) hf _ hX K hKok
  obtain ⟨Lb, g1, g2, g3⟩ := sp_Check fu (d + 1) hf _ hX KZ KZ_ok
  obtain rfl := calm_none (by omega) x2 hK1 hK2 f1
  obtain rfl := calm_off x2 (show stK KZ 1 = 0 ∧ spK KZ 1 = 0 from ⟨rfl, rfl⟩) (show stK KZ 2 = 0 ∧ spK KZ 2 = 0 from ⟨rfl, rfl⟩) g1
  have f3 : cl fu (d + 11) fn_timeline_Check [V.c (C.sl (calm ws).length (fl rpC (calm ws))), V.agg (ints K)] [] = OK (V.tup [V.c (C.sl 0 []), I 0]) := f3
  have g3 : cl fu (d + 11) fn_timeline_Check [V.c (C.sl (calm ws).length (fl rpC (calm ws))), V.agg [C.v (.int .i64 0), C.v (.int .i64 0), C.v (.int .i64 0), C.v (.int .i64 0), C.v (.int .i64 0), C.v (.int .i64 0), C.v (.int .i64 0), C.v (.int .i64 0), C.v (.int .i64 0), C.v (.int .i64 0), C.v (.int .i64 0), C.v (.int .i64 0), C.v (.int .i64 0), C.v (.int .i64 0), C.v (.int .i64 0), C.v (.int .i64 0), C.v (.int .i64 0), C.v (.int .i64 0), C.v (.int .i64 0), C.v (.int .i64 0), C.v (.int .i64 0), C.v (.int .i64 0), C.v (.int .i64 0), C.v (.int .i64 0), C.v (.int .i64 0), C.v (.int .i64 0), C.v (.int .i64 0), C.v (.int .i64 0), C.v (.int .i64 0), C.v (.int .i64 0), C.v (.int .i64 0), C.v (.int .i64 0), C.v (.int .i64 0), C.v (.int .i64 0), C.v (.int .i64 0), C.v (.int .i64 0), C.v (.int .i64 0), C.v (.int .i64 0), C.v (.int .i64 0), C.v (.int .i64 0), C.v (.int .i64 0)]] [] = OK (V.tup [V.c (C.sl 0 []), I 0]) := g3
  rw [calm_length] at f3 g3
  simp (disch := omega) only [hdt_eq, obs, rC_c, rA_agg, rT_tup, rP_ptr, rW_own, rS_sb, rF_sb, uncV_cons, uncO_cons, nilV_nil, rO_ob, rN_ob, unc_cons, asI_int, asB_bool, asS_string, asSl_sl, asSl_nl, asFn_fn, asP_cp, nrm_sl, nrm_nl, need_true, ct, cf, bd_eq, natD_zero, natD_succ, natD_one, noYl_v, noYl_sl, noYl_nl, noYl_cp, noYl_fn, Bool.and_true, Bool.true_and, Bool.and_self, beqN_self, Bool.not_true, Bool.not_false, Bool.and_false, Bool.false_and, Bool.or_false, Bool.false_or, Bool.or_true, Bool.true_or, wrap_in, dlt_t, dlt_f, dle_t, dle_f, dgt_t, dgt_f, dge_t, dge_f, ibeq_t, ibeq_f, ibne_t, ibne_f, inR_int, beqN_eq, bleN_le, h1, hd, ht1, ik_length, k1, htk, f3, g3, Nat.zero_add, bne_self_eq_false]
  refine iter_bind_ex (A := Int × List C × (C × Int × Unit) × Unit) (B := Out) (fu := fu) (fun o => o = OK (B true))
    (fun j y => ∃ (K' : List Int) (q : Nat), (K'.length = 41 ∧ ∀ i, 1 ≤ i → i < 25 → (i < 14 → K'.getD i 0 = K.getD i 0) ∧ (14 ≤ i → 0 ≤ K'.getD i 0 ∧ K'.getD i 0 ≤ 50 ∧ (i < 14 + j → 1 ≤ K'.getD i 0))) ∧ y = (((j + 1 : Nat) : Int), ints K', (C.sl S.length (ints S), ((q : Nat) : Int), ()), ()))
    (fun z => ∃ (K' : List Int) (q : Nat), (K'.length = 41 ∧ ∀ i, 1 ≤ i → i < 25 → (i < 14 → K'.getD i 0 = K.getD i 0) ∧ (14 ≤ i → 0 ≤ K'.getD i 0 ∧ K'.getD i 0 ≤ 50 ∧ (i < 25 → 1 ≤ K'.getD i 0))) ∧ z = ((12 : Int), ints K', (C.sl S.length (ints S), ((q : Nat) : Int), ()), ())) 0 11 ?_ ?_ ?_ (by omega) ?_
  · refine ⟨K, q, ⟨k1, fun i h1 h2 => ⟨fun _ => rfl, fun h => ?_⟩⟩, rfl⟩
    rw [k2 i h1 h2, if_neg (by omega)]
    exact ⟨by omega, by omega, fun h => by omega⟩
  · rintro j y hj ⟨K', q, ⟨y1, y2⟩, rfl⟩
    obtain ⟨e, q1, b1, b1a, b1b⟩ := sp_Range fu (d + 8) S q hL 1 50 (by omega) ⟨by omega, by omega⟩
    unfold srcO srcC at b1
    have p1 := ik_put (kd := .i64) (l := K') (k := 13 + (j + 1)) (by omega) e
    have hs : ((j + 1 : Nat) : Int) + 1 = ((j + 1 + 1 : Nat) : Int) := rfl
    refine ⟨_, ?_, K'.set (13 + (j + 1)) e, q1, ⟨by rw [List.length_set]; exact y1, fun i h1 h2 => ?_⟩, rfl⟩
    · simp (disch := omega) only [hdt_eq, obs, rC_c, rA_agg, rT_tup, rP_ptr, rW_own, rS_sb, rF_sb, uncV_cons, uncO_cons, nilV_nil, rO_ob, rN_ob, unc_cons, asI_int, asB_bool, asS_string, asSl_sl, asSl_nl, asFn_fn, asP_cp, nrm_sl, nrm_nl, need_true, ct, cf, bd_eq, natD_zero, natD_succ, natD_one, noYl_v, noYl_sl, noYl_nl, noYl_cp, noYl_fn, Bool.and_true, Bool.true_and, Bool.and_self, beqN_self, Bool.not_true, Bool.not_false, Bool.and_false, Bool.false_and, Bool.or_false, Bool.false_or, Bool.or_true, Bool.true_or, wrap_in, dlt_t, dlt_f, dle_t, dle_f, dgt_t, dgt_f, dge_t, dge_f, ibeq_t, ibeq_f, ibne_t, ibne_f, inR_int, beqN_eq, bleN_le, b1, List.length_cons, List.length_nil, Nat.zero_add, Nat.reduceAdd, Int.toNat_natCast, Nat.mul_one, ik_length, y1, p1, hs]
    · rw [getD_set_lt (by omega)]
      obtain ⟨u1, u2⟩ := y2 i h1 h2
      by_cases e1 : i = 13 + (j + 1)
      · rw [if_pos e1]
        exact ⟨fun h => by omega, fun h => ⟨by omega, by omega, fun _ => by omega⟩⟩
      · rw [if_neg e1]
        exact ⟨u1, fun h => ⟨(u2 h).1, (u2 h).2.1, fun h3 => (u2 h).2.2 (by omega)⟩⟩
  · rintro y ⟨K', q, ⟨y1, y2⟩, rfl⟩
    refine ⟨_, ?_, K', q, ⟨y1, y2⟩, rfl⟩
    simp (disch := omega) only [hdt_eq, obs, rC_c, rA_agg, rT_tup, rP_ptr, rW_own, rS_sb, rF_sb, uncV_cons, uncO_cons, nilV_nil, rO_ob, rN_ob, unc_cons, asI_int, asB_bool, asS_string, asSl_sl, asSl_nl, asFn_fn, asP_cp, nrm_sl, nrm_nl, need_true, ct, cf, bd_eq, natD_zero, natD_succ, natD_one, noYl_v, noYl_sl, noYl_nl, noYl_cp, noYl_fn, Bool.and_true, Bool.true_and, Bool.and_self, beqN_self, Bool.not_true, Bool.not_false, Bool.and_false, Bool.false_and, Bool.or_false, Bool.false_or, Bool.or_true, Bool.true_or, wrap_in, dlt_t, dlt_f, dle_t, dle_f, dgt_t, dgt_f, dge_t, dge_f, ibeq_t, ibeq_f, ibne_t, ibne_f, inR_int, beqN_eq, bleN_le]
    rfl
  rintro z ⟨K', q, ⟨y1, y2⟩, rfl⟩
  have hK'ok : okK K' := ⟨y1, fun i h1 h2 => by
    obtain ⟨u1, u2⟩ := y2 i h1 h2
    by_cases h : i < 14
    · rw [u1 h]; exact hKok.2 i h1 h2
    · have := u2 (by omega); omega⟩
  have hK'2 : stK K' 2 = 1 + w ∧ 0 < spK K' 2 := by
    refine ⟨?_, ?_⟩
    · show K'.getD 3 0 = _
      rw [(y2 3 (by omega) (by omega)).1 (by omega)]; exact hK2.1
    · show 0 < K'.getD 15 0
      have := ((y2 15 (by omega) (by omega)).2 (by omega)).2.2 (by omega)
      omega
  obtain ⟨Lc, e1, e2, e3⟩ := sp_Check fu (d + 1) hf _ hX K' hK'ok
  have hLc := fun f hf' => calm_one (by omega) x2 hK'2 e1 (f := f) hf'
  rw [calm_length] at e3
  have htk' : List.take 41 (ints K') = ints K' := List.take_of_length_le (by rw [ik_length]; omega)
  simp (disch := omega) only [hdt_eq, obs, rC_c, rA_agg, rT_tup, rP_ptr, rW_own, rS_sb, rF_sb, uncV_cons, uncO_cons, nilV_nil, rO_ob, rN_ob, unc_cons, asI_int, asB_bool, asS_string, asSl_sl, asSl_nl, asFn_fn, asP_cp, nrm_sl, nrm_nl, need_true, ct, cf, bd_eq, natD_zero, natD_succ, natD_one, noYl_v, noYl_sl, noYl_nl, noYl_cp, noYl_fn, Bool.and_true, Bool.true_and, Bool.and_self, beqN_self, Bool.not_true, Bool.not_false, Bool.and_false, Bool.false_and, Bool.or_false, Bool.false_or, Bool.or_true, Bool.true_or, wrap_in, dlt_t, dlt_f, dle_t, dle_f, dgt_t, dgt_f, dge_t, dge_f, ibeq_t, ibeq_f, ibne_t, ibne_f, inR_int, beqN_eq, bleN_le, h1, hd, ht1, ik_length, y1, htk', e3, Nat.zero_add]
  rw [iter_runx (fun j : Nat => (false, ((j : Nat) : Int), ())) 0 (false, (Lc.length : Int), ()) Lc.length ?_ ?_ ?_ (by omega)]
  rotate_left
  · rfl
  · intro j hj
    have hat := fl_at fgC_length hj
    have h2 := hLc _ (List.getElem_mem hj)
    simp (disch := omega) only [hdt_eq, obs, rC_c, rA_agg, rT_tup, rP_ptr, rW_own, rS_sb, rF_sb, uncV_cons, uncO_cons, nilV_nil, rO_ob, rN_ob, unc_cons, asI_int, asB_bool, asS_string, asSl_sl, asSl_nl, asFn_fn, asP_cp, nrm_sl, nrm_nl, need_true, ct, cf, bd_eq, natD_zero, natD_succ, natD_one, noYl_v, noYl_sl, noYl_nl, noYl_cp, noYl_fn, Bool.and_true, Bool.true_and, Bool.and_self, beqN_self, Bool.not_true, Bool.not_false, Bool.and_false, Bool.false_and, Bool.or_false, Bool.false_or, Bool.or_true, Bool.true_or, wrap_in, dlt_t, dlt_f, dle_t, dle_f, dgt_t, dgt_f, dge_t, dge_f, ibeq_t, ibeq_f, ibne_t, ibne_f, inR_int, beqN_eq, bleN_le, Int.toNat_natCast, hat, fgC, List.cons_append, List.nil_append, h2, bne_self_eq_false, Int.natCast_add, Int.natCast_one]
  · simp (disch := omega) only [hdt_eq, obs, rC_c, rA_agg, rT_tup, rP_ptr, rW_own, rS_sb, rF_sb, uncV_cons, uncO_cons, nilV_nil, rO_ob, rN_ob, unc_cons, asI_int, asB_bool, asS_string, asSl_sl, asSl_nl, asFn_fn, asP_cp, nrm_sl, nrm_nl, need_true, ct, cf, bd_eq, natD_zero, natD_succ, natD_one, noYl_v, noYl_sl, noYl_nl, noYl_cp, noYl_fn, Bool.and_true, Bool.true_and, Bool.and_self, beqN_self, Bool.not_true, Bool.not_false, Bool.and_false, Bool.false_and, Bool.or_false, Bool.false_or, Bool.or_true, Bool.true_or, wrap_in, dlt_t, dlt_f, dle_t, dle_f, dgt_t, dgt_f, dge_t, dge_f, ibeq_t, ibeq_f, ibne_t, ibne_f, inR_int, beqN_eq, bleN_le]
  simp (disch := omega) only [hdt_eq, obs, rC_c, rA_agg, rT_tup, rP_ptr, rW_own, rS_sb, rF_sb, uncV_cons, uncO_cons, nilV_nil, rO_ob, rN_ob, unc_cons, asI_int, asB_bool, asS_string, asSl_sl, asSl_nl, asFn_fn, asP_cp, nrm_sl, nrm_nl, need_true, ct, cf, bd_eq, natD_zero, natD_succ, natD_one, noYl_v, noYl_sl, noYl_nl, noYl_cp, noYl_fn, Bool.and_true, Bool.true_and, Bool.and_self, beqN_self, Bool.not_true, Bool.not_false, Bool.and_false, Bool.false_and, Bool.or_false, Bool.false_or, Bool.or_true, Bool.true_or, wrap_in, dlt_t, dlt_f, dle_t, dle_f, dgt_t, dgt_f, dge_t, dge_f, ibeq_t, ibeq_f, ibne_t, ibne_f, inR_int, beqN_eq, bleN_le, beq_self_eq_true, hA]
end
end Go.Proofs.YthblmpoheobcbaaDoor
